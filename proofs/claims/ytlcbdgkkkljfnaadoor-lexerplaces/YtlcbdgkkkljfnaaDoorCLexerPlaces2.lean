/- LexerPlaces: for every text that is lexed, each token stands where it says, and nothing but what says nothing lies between two. No condition. -/
import Derived.Test.YtlcbdgkkkljfnaaDoorCLexerPlaces0
import Derived.Test.YtlcbdgkkkljfnaaDoorCLexerPlaces1
import Derived.Test.YtlcbdgkkkljfnaaDoorCards
import Derived.Test.YtlcbdgkkkljfnaaDoorTie
import Derived.WalkKit
import Derived.ProofKit
import Derived.OpenShut
import Derived.ShutString
import Derived.ChangeOld
import Derived.Below
import Derived.SizedLaws
section
namespace Go.Proofs.YtlcbdgkkkljfnaaDoor.P
open Go.RowKit Go.Proofs.YtlcbdgkkkljfnaaDoorW.PrintWords Go.Proofs.YtlcbdgkkkljfnaaDoorW.PrintLast Go.Proofs.YtlcbdgkkkljfnaaDoorW.PrintMore
attribute [local go_sem low] cell_set_at
attribute [local go_sem] max2_int min2_int max_two min_two max_three min_three max_four min_four   -- for this text's walks alone
set_option linter.unusedVariables false
set_option linter.unusedSimpArgs false

attribute [local go_sem high] eqA31
/-! ### helmsmanlaw11_LexerReads: function 3 -/
mutual
def helmsmanlaw11_LexerReads.j0 : Nat → List (S32) → List (S31) → Bool → Option (Bool)
  | 0, _, _, _ => none
  | k + 1, x3, x6, x40 => if x40 = true then (some false) else (helmsmanlaw11_LexerReads.l0 k x3 x6 (x3.length : Int) 0)
def helmsmanlaw11_LexerReads.l0 : Nat → List (S32) → List (S31) → Int → Int → Option (Bool)
  | 0, _, _, _, _ => none
  | k + 1, x3, x6, x42, x43 => if x43 < x42 then (if 0 ≤ x43 then (if x43 < (x3.length : Int) then (if x43 < (x6.length : Int) then (if (!(((rd_T32 x3 x43).f0) == ((rd_T31 x6 x43).f0)) || (!((((rd_T32 x3 x43).f1).toList) == (((rd_T31 x6 x43).f1).toList)) || (!(((rd_T32 x3 x43).f2) == ((rd_T31 x6 x43).f2)) || (!(((rd_T32 x3 x43).f3) == ((rd_T31 x6 x43).f3)))))) = true then (some false) else (helmsmanlaw11_LexerReads.l0 k x3 x6 x42 (wrap64 (x43 + 1)))) else (none)) else (none)) else (none)) else ((helmsmanlaw11_alive.f k).bind fun t195 => (some t195))
end
def helmsmanlaw11_LexerReads.f (k : Nat) (a0 : ByteArray) : Option (Bool) := if (a0.size : Int) > 5000 then ((helmsmanlaw11_alive.f k).bind fun t182 => (some t182)) else ((lexer_Lex.f k a0).bind fun bt183 => ((helmsmanref11_Lex.f k a0).bind fun bt188 => (if bt183.2.1 = bt188.2.1 then (if bt183.2.2 = bt188.2.2 then (helmsmanlaw11_LexerReads.j0 k bt183.1 bt188.1 ((bt183.1.length : Int) != (bt188.1.length : Int))) else (helmsmanlaw11_LexerReads.j0 k bt183.1 bt188.1 true)) else (helmsmanlaw11_LexerReads.j0 k bt183.1 bt188.1 true))))
theorem helmsmanlaw11_LexerReads.mono_l : ∀ k, (∀ y0 y1 y2, LeO (helmsmanlaw11_LexerReads.j0 k y0 y1 y2) (helmsmanlaw11_LexerReads.j0 (k + 1) y0 y1 y2)) ∧ (∀ y0 y1 y2 y3, LeO (helmsmanlaw11_LexerReads.l0 k y0 y1 y2 y3) (helmsmanlaw11_LexerReads.l0 (k + 1) y0 y1 y2 y3))
  | 0 => ⟨fun _ _ _ r h => by simp [helmsmanlaw11_LexerReads.j0] at h, fun _ _ _ _ r h => by simp [helmsmanlaw11_LexerReads.l0] at h⟩
  | k + 1 => by
    obtain ⟨ih0, ih1⟩ := helmsmanlaw11_LexerReads.mono_l k
    refine ⟨?_, ?_⟩
    · intro y0 y1 y2
      unfold helmsmanlaw11_LexerReads.j0
      repeat' first
      | (with_reducible exact ih0 _ _ _)
      | (with_reducible exact ih1 _ _ _ _)
      | (with_reducible exact helmsmanlaw11_alive.mono _)
      | (with_reducible exact helmsmanref11_Lex.mono _ _)
      | (with_reducible exact lexer_Lex.mono _ _)
      | (with_reducible exact LeO.refl _)
      | (with_reducible exact LeO.none _)
      | (with_reducible refine LeO.ite ?_ ?_)
      | (with_reducible refine LeO.bind ?_ (fun _ => ?_))
      | exact ih0 _ _ _
      | exact ih1 _ _ _ _
      | exact helmsmanlaw11_alive.mono _
      | exact helmsmanref11_Lex.mono _ _
      | exact lexer_Lex.mono _ _
      | exact LeO.none _
      | refine LeO.ite ?_ ?_
      | refine LeO.bind ?_ (fun _ => ?_)
    · intro y0 y1 y2 y3
      unfold helmsmanlaw11_LexerReads.l0
      repeat' first
      | (with_reducible exact ih0 _ _ _)
      | (with_reducible exact ih1 _ _ _ _)
      | (with_reducible exact helmsmanlaw11_alive.mono _)
      | (with_reducible exact helmsmanref11_Lex.mono _ _)
      | (with_reducible exact lexer_Lex.mono _ _)
      | (with_reducible exact LeO.refl _)
      | (with_reducible exact LeO.none _)
      | (with_reducible refine LeO.ite ?_ ?_)
      | (with_reducible refine LeO.bind ?_ (fun _ => ?_))
      | exact ih0 _ _ _
      | exact ih1 _ _ _ _
      | exact helmsmanlaw11_alive.mono _
      | exact helmsmanref11_Lex.mono _ _
      | exact lexer_Lex.mono _ _
      | exact LeO.none _
      | refine LeO.ite ?_ ?_
      | refine LeO.bind ?_ (fun _ => ?_)
theorem helmsmanlaw11_LexerReads.mono : ∀ a0 k, LeO (helmsmanlaw11_LexerReads.f k a0) (helmsmanlaw11_LexerReads.f (k + 1) a0) := by
  intro a0 k
  obtain ⟨ih0, ih1⟩ := helmsmanlaw11_LexerReads.mono_l k
  unfold helmsmanlaw11_LexerReads.f
  repeat' first
      | (with_reducible exact ih0 _ _ _)
      | (with_reducible exact ih1 _ _ _ _)
      | (with_reducible exact helmsmanlaw11_alive.mono _)
      | (with_reducible exact helmsmanref11_Lex.mono _ _)
      | (with_reducible exact lexer_Lex.mono _ _)
      | (with_reducible exact LeO.refl _)
      | (with_reducible exact LeO.none _)
      | (with_reducible refine LeO.ite ?_ ?_)
      | (with_reducible refine LeO.bind ?_ (fun _ => ?_))
      | exact ih0 _ _ _
      | exact ih1 _ _ _ _
      | exact helmsmanlaw11_alive.mono _
      | exact helmsmanref11_Lex.mono _ _
      | exact lexer_Lex.mono _ _
      | exact LeO.none _
      | refine LeO.ite ?_ ?_
      | refine LeO.bind ?_ (fun _ => ?_)
set_option maxHeartbeats 8000000 in
set_option maxRecDepth 100000 in
theorem helmsmanlaw11_LexerReads.calls (k : Nat) (a0 : ByteArray) (r : Bool) (w : World) (hT : TabT w) (h : helmsmanlaw11_LexerReads.f k a0 = some r) :
    Calls Tryd.prog 3 #[.string a0] w fun e w' => e = .returned (.bool r) ∧ Below w.heap.size w w' := by
  have hu32 := Tryd.underlying32
  have hu31 := Tryd.underlying31
  have HB := Aside0.mk (Below.refl w.heap.size w)
  have H : (if (a0.size : Int) > 5000 then ((helmsmanlaw11_alive.f k).bind fun t182 => (some t182)) else ((lexer_Lex.f k a0).bind fun bt183 => ((helmsmanref11_Lex.f k a0).bind fun bt188 => (if bt183.2.1 = bt188.2.1 then (if bt183.2.2 = bt188.2.2 then (helmsmanlaw11_LexerReads.j0 k bt183.1 bt188.1 ((bt183.1.length : Int) != (bt188.1.length : Int))) else (helmsmanlaw11_LexerReads.j0 k bt183.1 bt188.1 true)) else (helmsmanlaw11_LexerReads.j0 k bt183.1 bt188.1 true))))) = some r := h
  clear h
  by_cases c2 : (a0.size : Int) > 5000
  · rw [if_pos c2] at H
    have c2b0 : decide (5000 < (a0.size : Int)) = true := decide_eq_true c2
    have c2b1 : decide (5000 < a0.size) = true := decide_eq_true (by omega)
    clear c2
    replace H := Option.bind_eq_some_iff.mp H
    obtain ⟨t182, A30, H⟩ := H
    replace H : (some t182) = some r := H
    have A3 := Aside0.mk A30
    clear A30
    obtain rfl := Option.some.inj H
    go_enter Tryd.func3, Tryd.ntmps3
    go_wp2_with (first | (go_at_call 8; (with_reducible refine (helmsmanlaw11_alive.calls k  t182 _ ?side1 A3.out).mono ?_); (case side1 => exact hT.later (by repeat (first | (with_reducible first | exact HB.out | apply below_alloc | apply pw_below_drewN | apply below_drew1) | exact HB.out))); rintro e w4 ⟨rfl, hb⟩; have n0_ := Aside0.mk (below_step (by repeat (first | (with_reducible first | exact HB.out | apply below_alloc | apply pw_below_drewN | apply below_drew1) | exact HB.out)) hb); clear HB; have HB := n0_; clear n0_; (try clear hb); (try clear hb2); (try clear hk); (try clear hi)))
    repeat (go_quiet (first | (go_at_call 8; (with_reducible refine (helmsmanlaw11_alive.calls k  t182 _ ?side1 A3.out).mono ?_); (case side1 => exact hT.later (by repeat (first | (with_reducible first | exact HB.out | apply below_alloc | apply pw_below_drewN | apply below_drew1) | exact HB.out))); rintro e w4 ⟨rfl, hb⟩; have n0_ := Aside0.mk (below_step (by repeat (first | (with_reducible first | exact HB.out | apply below_alloc | apply pw_below_drewN | apply below_drew1) | exact HB.out)) hb); clear HB; have HB := n0_; clear n0_; (try clear hb); (try clear hb2); (try clear hk); (try clear hi))); try go_wp2_with (first | (go_at_call 8; (with_reducible refine (helmsmanlaw11_alive.calls k  t182 _ ?side1 A3.out).mono ?_); (case side1 => exact hT.later (by repeat (first | (with_reducible first | exact HB.out | apply below_alloc | apply pw_below_drewN | apply below_drew1) | exact HB.out))); rintro e w4 ⟨rfl, hb⟩; have n0_ := Aside0.mk (below_step (by repeat (first | (with_reducible first | exact HB.out | apply below_alloc | apply pw_below_drewN | apply below_drew1) | exact HB.out)) hb); clear HB; have HB := n0_; clear n0_; (try clear hb); (try clear hb2); (try clear hk); (try clear hi))))
    go_ret
    exact ⟨by first | rfl | (simp [errW_none, errW_some] <;> rfl) | (simp [*, errW_none, errW_some] <;> rfl), by repeat (first | (with_reducible first | exact HB.out | apply below_alloc | apply pw_below_drewN | apply below_drew1) | exact HB.out)⟩
  · rw [if_neg c2] at H
    have c2b0 : decide (5000 < (a0.size : Int)) = false := decide_eq_false c2
    have c2b1 : decide (5000 < a0.size) = false := decide_eq_false (by omega)
    clear c2
    replace H := Option.bind_eq_some_iff.mp H
    obtain ⟨⟨t183, t184, t185⟩, A50, H⟩ := H
    replace H : ((helmsmanref11_Lex.f k a0).bind fun bt188 => (if t184 = bt188.2.1 then (if t185 = bt188.2.2 then (helmsmanlaw11_LexerReads.j0 k t183 bt188.1 ((t183.length : Int) != (bt188.1.length : Int))) else (helmsmanlaw11_LexerReads.j0 k t183 bt188.1 true)) else (helmsmanlaw11_LexerReads.j0 k t183 bt188.1 true))) = some r := H
    have A5 := Aside0.mk A50
    clear A50
    replace H := Option.bind_eq_some_iff.mp H
    obtain ⟨⟨t188, t189, t190⟩, A60, H⟩ := H
    replace H : (if t184 = t189 then (if t185 = t190 then (helmsmanlaw11_LexerReads.j0 k t183 t188 ((t183.length : Int) != (t188.length : Int))) else (helmsmanlaw11_LexerReads.j0 k t183 t188 true)) else (helmsmanlaw11_LexerReads.j0 k t183 t188 true)) = some r := H
    have A6 := Aside0.mk A60
    clear A60
    have HC7 := Aside0.mk H
    clear H
    go_enter Tryd.func3, Tryd.ntmps3
    go_upto_region 5 with (first | (go_at_call 9; (with_reducible refine (lexer_Lex.calls k a0 t183 t184 t185 _ ?side1 A5.out).mono ?_); (case side1 => exact hT.later (by repeat (first | (with_reducible first | exact HB.out | apply below_alloc | apply pw_below_drewN | apply below_drew1) | exact HB.out))); rintro e w8 ⟨v186, rfl, ho0, hb⟩; have n0_ := Aside0.mk (Kd.R_lower ho0 (below_size (by repeat (first | (with_reducible first | exact HB.out | apply below_alloc | apply pw_below_drewN | apply below_drew1) | exact HB.out)))); have n1_ := Aside0.mk (below_step (by repeat (first | (with_reducible first | exact HB.out | apply below_alloc | apply pw_below_drewN | apply below_drew1) | exact HB.out)) hb); clear HB; have HO187 := n0_; have HB := n1_; clear n0_ n1_; (try clear hb); (try clear hb2); (try clear hk); (try clear hi); (try clear ho0)) | (go_at_call 10; (with_reducible refine (helmsmanref11_Lex.calls k a0 t188 t189 t190 _ A6.out).mono ?_); rintro e w9 ⟨v191, rfl, ho0, hb⟩; have n0_ := Aside0.mk (Kd.R_below (by (with_reducible repeat (first | apply Kd.R_alloc | apply Kd.R_drewN | apply Kd.R_drew)); exact HO187.out) hb); have n1_ := Aside0.mk (Kd.R_lower ho0 (below_size (by repeat (first | (with_reducible first | exact HB.out | apply below_alloc | apply pw_below_drewN | apply below_drew1) | exact HB.out)))); have n2_ := Aside0.mk (below_step (by repeat (first | (with_reducible first | exact HB.out | apply below_alloc | apply pw_below_drewN | apply below_drew1) | exact HB.out)) hb); clear HO187; clear HB; have HO187 := n0_; have HO192 := n1_; have HB := n2_; clear n0_ n1_ n2_; (try clear hb); (try clear hb2); (try clear hk); (try clear hi); (try clear ho0)))
    repeat (go_quiet (first | (go_at_call 9; (with_reducible refine (lexer_Lex.calls k a0 t183 t184 t185 _ ?side1 A5.out).mono ?_); (case side1 => exact hT.later (by repeat (first | (with_reducible first | exact HB.out | apply below_alloc | apply pw_below_drewN | apply below_drew1) | exact HB.out))); rintro e w8 ⟨v186, rfl, ho0, hb⟩; have n0_ := Aside0.mk (Kd.R_lower ho0 (below_size (by repeat (first | (with_reducible first | exact HB.out | apply below_alloc | apply pw_below_drewN | apply below_drew1) | exact HB.out)))); have n1_ := Aside0.mk (below_step (by repeat (first | (with_reducible first | exact HB.out | apply below_alloc | apply pw_below_drewN | apply below_drew1) | exact HB.out)) hb); clear HB; have HO187 := n0_; have HB := n1_; clear n0_ n1_; (try clear hb); (try clear hb2); (try clear hk); (try clear hi); (try clear ho0)) | (go_at_call 10; (with_reducible refine (helmsmanref11_Lex.calls k a0 t188 t189 t190 _ A6.out).mono ?_); rintro e w9 ⟨v191, rfl, ho0, hb⟩; have n0_ := Aside0.mk (Kd.R_below (by (with_reducible repeat (first | apply Kd.R_alloc | apply Kd.R_drewN | apply Kd.R_drew)); exact HO187.out) hb); have n1_ := Aside0.mk (Kd.R_lower ho0 (below_size (by repeat (first | (with_reducible first | exact HB.out | apply below_alloc | apply pw_below_drewN | apply below_drew1) | exact HB.out)))); have n2_ := Aside0.mk (below_step (by repeat (first | (with_reducible first | exact HB.out | apply below_alloc | apply pw_below_drewN | apply below_drew1) | exact HB.out)) hb); clear HO187; clear HB; have HO187 := n0_; have HO192 := n1_; have HB := n2_; clear n0_ n1_ n2_; (try clear hb); (try clear hb2); (try clear hk); (try clear hi); (try clear ho0))); go_upto_region 5 with (first | (go_at_call 9; (with_reducible refine (lexer_Lex.calls k a0 t183 t184 t185 _ ?side1 A5.out).mono ?_); (case side1 => exact hT.later (by repeat (first | (with_reducible first | exact HB.out | apply below_alloc | apply pw_below_drewN | apply below_drew1) | exact HB.out))); rintro e w8 ⟨v186, rfl, ho0, hb⟩; have n0_ := Aside0.mk (Kd.R_lower ho0 (below_size (by repeat (first | (with_reducible first | exact HB.out | apply below_alloc | apply pw_below_drewN | apply below_drew1) | exact HB.out)))); have n1_ := Aside0.mk (below_step (by repeat (first | (with_reducible first | exact HB.out | apply below_alloc | apply pw_below_drewN | apply below_drew1) | exact HB.out)) hb); clear HB; have HO187 := n0_; have HB := n1_; clear n0_ n1_; (try clear hb); (try clear hb2); (try clear hk); (try clear hi); (try clear ho0)) | (go_at_call 10; (with_reducible refine (helmsmanref11_Lex.calls k a0 t188 t189 t190 _ A6.out).mono ?_); rintro e w9 ⟨v191, rfl, ho0, hb⟩; have n0_ := Aside0.mk (Kd.R_below (by (with_reducible repeat (first | apply Kd.R_alloc | apply Kd.R_drewN | apply Kd.R_drew)); exact HO187.out) hb); have n1_ := Aside0.mk (Kd.R_lower ho0 (below_size (by repeat (first | (with_reducible first | exact HB.out | apply below_alloc | apply pw_below_drewN | apply below_drew1) | exact HB.out)))); have n2_ := Aside0.mk (below_step (by repeat (first | (with_reducible first | exact HB.out | apply below_alloc | apply pw_below_drewN | apply below_drew1) | exact HB.out)) hb); clear HO187; clear HB; have HO187 := n0_; have HO192 := n1_; have HB := n2_; clear n0_ n1_ n2_; (try clear hb); (try clear hb2); (try clear hk); (try clear hi); (try clear ho0))))
    (try simp only [Act.put, List.setIfInBounds_toArray, List.set_cons_zero, List.set_cons_succ])
    go_cut [40] (fun v40 wc => ∃ (kq : Nat) (x40_6 : Bool), v40 = .bool x40_6 ∧ Aside0 (helmsmanlaw11_LexerReads.j0 kq t183 t188 x40_6 = some r) ∧ Aside0 (kq ≤ k) ∧ Aside0 (Kd.R k32 32 wc w.heap.size (fun _ => True) v186 t183) ∧ Aside0 (Kd.R k31 31 wc w.heap.size (fun _ => True) v191 t188) ∧ Aside0 (Below w.heap.size w wc))
    case first =>
      have H := HC7.out
      clear HC7
      by_cases c10 : t184 = t189
      · rw [if_pos c10] at H
        have c10b0 : (t184 == t189) = true := beq_iff_eq.mpr c10
        have c10b1 : (t184 != t189) = false := bne_eq_false_iff_eq.mpr c10
        clear c10
        (first | rw [c10b0] | (simp only [i64_w, i32_w]; rw [c10b0]) | skip)
        by_cases c11 : t185 = t190
        · rw [if_pos c11] at H
          have c11b0 : (t185 == t190) = true := beq_iff_eq.mpr c11
          have c11b1 : (t185 != t190) = false := bne_eq_false_iff_eq.mpr c11
          clear c11
          have H' := Aside0.mk H
          clear H
          obtain ⟨Ao12, co12, eo12⟩ := Kd.R_slice HO187.out
          subst eo12
          obtain ⟨Ao13, co13, eo13⟩ := Kd.R_slice HO192.out
          subst eo13
          go_wp2
          repeat (go_quiet (fail); try go_wp2)
          go_meet
          case rel => exact ⟨_, (((t183.length : Int) != (t188.length : Int))), (by first | rfl | (simp; done) | (simp [*]; done)), H', ⟨by first | omega | exact Nat.le_refl _⟩, ⟨by (with_reducible repeat (first | apply Kd.R_alloc | apply Kd.R_drewN | apply Kd.R_drew)); exact HO187.out⟩, ⟨by (with_reducible repeat (first | apply Kd.R_alloc | apply Kd.R_drewN | apply Kd.R_drew)); exact HO192.out⟩, ⟨by repeat (first | (with_reducible first | exact HB.out | apply below_alloc | apply pw_below_drewN | apply below_drew1) | exact HB.out)⟩⟩
        · rw [if_neg c11] at H
          have c11b0 : (t185 == t190) = false := beq_eq_false_iff_ne.mpr c11
          have c11b1 : (t185 != t190) = true := bne_iff_ne.mpr c11
          have H' := Aside0.mk H
          clear H
          go_wp2
          repeat (go_quiet (fail); try go_wp2)
          go_meet
          case rel => exact ⟨_, (true), (by first | rfl | (simp; done) | (simp [*]; done)), H', ⟨by first | omega | exact Nat.le_refl _⟩, ⟨by (with_reducible repeat (first | apply Kd.R_alloc | apply Kd.R_drewN | apply Kd.R_drew)); exact HO187.out⟩, ⟨by (with_reducible repeat (first | apply Kd.R_alloc | apply Kd.R_drewN | apply Kd.R_drew)); exact HO192.out⟩, ⟨by repeat (first | (with_reducible first | exact HB.out | apply below_alloc | apply pw_below_drewN | apply below_drew1) | exact HB.out)⟩⟩
      · rw [if_neg c10] at H
        have c10b0 : (t184 == t189) = false := beq_eq_false_iff_ne.mpr c10
        have c10b1 : (t184 != t189) = true := bne_iff_ne.mpr c10
        (first | rw [c10b0] | (simp only [i64_w, i32_w]; rw [c10b0]) | skip)
        have H' := Aside0.mk H
        clear H
        go_wp2
        repeat (go_quiet (fail); try go_wp2)
        go_meet
        case rel => exact ⟨_, (true), (by first | rfl | (simp; done) | (simp [*]; done)), H', ⟨by first | omega | exact Nat.le_refl _⟩, ⟨by (with_reducible repeat (first | apply Kd.R_alloc | apply Kd.R_drewN | apply Kd.R_drew)); exact HO187.out⟩, ⟨by (with_reducible repeat (first | apply Kd.R_alloc | apply Kd.R_drewN | apply Kd.R_drew)); exact HO192.out⟩, ⟨by repeat (first | (with_reducible first | exact HB.out | apply below_alloc | apply pw_below_drewN | apply below_drew1) | exact HB.out)⟩⟩
    case rest =>
      clear HC7
      try clear c1
      try clear c2
      try clear c2b0
      try clear c2b1
      try clear p2
      try clear c3
      try clear c10
      try clear c10b0
      try clear c10b1
      try clear c11
      try clear c11b0
      try clear c11b1
      obtain ⟨kq, x40_6, rfl, HA, HJ6, HO_3, HO_6, HB⟩ := hcut
      cases kq with
      | zero => exact absurd HA.out (by simp [helmsmanlaw11_LexerReads.j0])
      | succ kj6 =>
        have H := HA.out
        clear HA
        simp only [helmsmanlaw11_LexerReads.j0] at H
        by_cases c14 : x40_6 = true
        · subst c14
          have H1 : (some false) = some r := by rw [if_pos rfl] at H; exact H
          clear H
          have H := H1
          clear H1
          obtain rfl := Option.some.inj H
          go_wp2
          repeat (go_quiet (fail); try go_wp2)
          go_ret
          exact ⟨by first | rfl | (simp [errW_none, errW_some] <;> rfl) | (simp [*, errW_none, errW_some] <;> rfl), by repeat (first | (with_reducible first | exact HB.out | apply below_alloc | apply pw_below_drewN | apply below_drew1) | exact HB.out)⟩
        · replace c14 := Bool.eq_false_iff.mpr c14
          subst c14
          have H1 : (helmsmanlaw11_LexerReads.l0 kj6 t183 t188 (t183.length : Int) 0) = some r := by rw [if_neg (show ¬ (false = true) by decide)] at H; exact H
          clear H
          have H := H1
          clear H1
          have H' := Aside0.mk H
          clear H
          obtain ⟨Ao15, co15, eo15⟩ := Kd.R_slice HO_3.out
          subst eo15
          go_wp2
          repeat (go_quiet (fail); try go_wp2)
          (try simp only [Act.put, List.setIfInBounds_toArray, List.set_cons_succ, List.set_cons_zero])
          go_loopg [43] kj6 (fun kq v43 w' => ∃ (x43_2 : Int), v43 = .int .i64 x43_2 ∧ Aside0 (helmsmanlaw11_LexerReads.l0 kq t183 t188 (t183.length : Int) x43_2 = some r) ∧ Aside0 (kq ≤ kj6) ∧ Aside0 (Kd.R k32 32 w' w.heap.size (fun _ => True) (.slice Ao15 t183.length co15) t183) ∧ Aside0 (Kd.R k31 31 w' w.heap.size (fun _ => True) v191 t188) ∧ Aside0 (Below w.heap.size w w'))
          case atStart => exact ⟨(0), (by first | rfl | (simp; done) | (simp [*]; done)), H', ⟨Nat.le_refl _⟩, ⟨by (with_reducible repeat (first | apply Kd.R_alloc | apply Kd.R_drewN | apply Kd.R_drew)); exact HO_3.out⟩, ⟨by (with_reducible repeat (first | apply Kd.R_alloc | apply Kd.R_drewN | apply Kd.R_drew)); exact HO_6.out⟩, ⟨by repeat (first | (with_reducible first | exact HB.out | apply below_alloc | apply pw_below_drewN | apply below_drew1) | exact HB.out)⟩⟩
          case round =>
            clear H'
            try clear c1
            try clear c2
            try clear c2b0
            try clear c2b1
            try clear p2
            try clear c3
            try clear c10
            try clear c10b0
            try clear c10b1
            try clear c11
            try clear c11b0
            try clear c11b1
            try clear c14
            try clear p2
            obtain ⟨x43_2, rfl, HA, HK2, HO_3, HO_6, HB⟩ := hrel
            cases gk with
            | zero => exact absurd HA.out (by simp [helmsmanlaw11_LexerReads.l0])
            | succ k2 =>
              have H := HA.out
              clear HA
              simp only [helmsmanlaw11_LexerReads.l0] at H
              by_cases c16 : x43_2 < (t183.length : Int)
              · rw [if_pos c16] at H
                have c16b0 : decide (x43_2 < (t183.length : Int)) = true := decide_eq_true c16
                clear c16
                by_cases c17 : 0 ≤ x43_2
                · rw [if_pos c17] at H
                  have c17b0 : decide (0 ≤ x43_2) = true := decide_eq_true c17
                  clear c17
                  by_cases c18 : x43_2 < (t183.length : Int)
                  · rw [if_pos c18] at H
                    have c18b0 : decide (x43_2 < (t183.length : Int)) = true := decide_eq_true c18
                    clear c18
                    by_cases c19 : x43_2 < (t188.length : Int)
                    · rw [if_pos c19] at H
                      have c19b0 : decide (x43_2 < (t188.length : Int)) = true := decide_eq_true c19
                      clear c19
                      by_cases c20 : (!(((rd_T32 t183 x43_2).f0) == ((rd_T31 t188 x43_2).f0)) || (!((((rd_T32 t183 x43_2).f1).toList) == (((rd_T31 t188 x43_2).f1).toList)) || (!(((rd_T32 t183 x43_2).f2) == ((rd_T31 t188 x43_2).f2)) || (!(((rd_T32 t183 x43_2).f3) == ((rd_T31 t188 x43_2).f3)))))) = true
                      · rw [if_pos c20] at H
                        have c20b0 : (!(((rd_T32 t183 x43_2).f0) == ((rd_T31 t188 x43_2).f0)) || (!((((rd_T32 t183 x43_2).f1).toList) == (((rd_T31 t188 x43_2).f1).toList)) || (!(((rd_T32 t183 x43_2).f2) == ((rd_T31 t188 x43_2).f2)) || (!(((rd_T32 t183 x43_2).f3) == ((rd_T31 t188 x43_2).f3)))))) = true := c20
                        clear c20
                        obtain rfl := Option.some.inj H
                        have p193 : 0 ≤ (x43_2 : Int) := of_decide_eq_true (by first | (with_reducible assumption) | assumption)
                        have q193 : x43_2 < (t183.length : Int) := of_decide_eq_true (by first | (with_reducible assumption) | assumption)
                        obtain ⟨ad193, e193, hx193_0, hx193_1, hx193_2, hx193_3⟩ := at_T32 (Kd.R_reads' HO_3.out).2.2 x43_2 p193 q193
                        cases e193
                        replace p193 := eq_true p193
                        replace q193 := eq_true q193
                        obtain ⟨Ao21, co21, eo21⟩ := Kd.R_slice HO_6.out
                        subst eo21
                        have p194 : 0 ≤ (x43_2 : Int) := of_decide_eq_true (by first | (with_reducible assumption) | assumption)
                        have q194 : x43_2 < (t188.length : Int) := of_decide_eq_true (by first | (with_reducible assumption) | assumption)
                        obtain ⟨ad194, e194, hx194_0, hx194_1, hx194_2, hx194_3⟩ := at_T31 (Kd.R_reads' HO_6.out).2.2 x43_2 p194 q194
                        cases e194
                        replace p194 := eq_true p194
                        replace q194 := eq_true q194
                        go_wp2
                        repeat (go_quiet (fail); try go_wp2)
                        go_ret
                        exact ⟨by first | rfl | (simp [errW_none, errW_some] <;> rfl) | (simp [*, errW_none, errW_some] <;> rfl), by repeat (first | (with_reducible first | exact HB.out | apply below_alloc | apply pw_below_drewN | apply below_drew1) | exact HB.out)⟩
                      · rw [if_neg c20] at H
                        have c20b0 : (!(((rd_T32 t183 x43_2).f0) == ((rd_T31 t188 x43_2).f0)) || (!((((rd_T32 t183 x43_2).f1).toList) == (((rd_T31 t188 x43_2).f1).toList)) || (!(((rd_T32 t183 x43_2).f2) == ((rd_T31 t188 x43_2).f2)) || (!(((rd_T32 t183 x43_2).f3) == ((rd_T31 t188 x43_2).f3)))))) = false := by simpa using c20
                        clear c20
                        have H' := Aside0.mk H
                        clear H
                        have p193 : 0 ≤ (x43_2 : Int) := of_decide_eq_true (by first | (with_reducible assumption) | assumption)
                        have q193 : x43_2 < (t183.length : Int) := of_decide_eq_true (by first | (with_reducible assumption) | assumption)
                        obtain ⟨ad193, e193, hx193_0, hx193_1, hx193_2, hx193_3⟩ := at_T32 (Kd.R_reads' HO_3.out).2.2 x43_2 p193 q193
                        cases e193
                        replace p193 := eq_true p193
                        replace q193 := eq_true q193
                        obtain ⟨Ao22, co22, eo22⟩ := Kd.R_slice HO_6.out
                        subst eo22
                        have p194 : 0 ≤ (x43_2 : Int) := of_decide_eq_true (by first | (with_reducible assumption) | assumption)
                        have q194 : x43_2 < (t188.length : Int) := of_decide_eq_true (by first | (with_reducible assumption) | assumption)
                        obtain ⟨ad194, e194, hx194_0, hx194_1, hx194_2, hx194_3⟩ := at_T31 (Kd.R_reads' HO_6.out).2.2 x43_2 p194 q194
                        cases e194
                        replace p194 := eq_true p194
                        replace q194 := eq_true q194
                        go_wp2
                        repeat (go_quiet (fail); try go_wp2)
                        go_roundg k2
                        case measure => have := HJ6.out; have := HK2.out; omega
                        case rel => exact ⟨(wrap64 (x43_2 + 1)), (by first | rfl | (simp; done) | (simp [*]; done)), H', ⟨by have := HJ6.out; have := HK2.out; omega⟩, ⟨by (with_reducible repeat (first | apply Kd.R_alloc | apply Kd.R_drewN | apply Kd.R_drew)); exact HO_3.out⟩, ⟨by (with_reducible repeat (first | apply Kd.R_alloc | apply Kd.R_drewN | apply Kd.R_drew)); exact HO_6.out⟩, ⟨by repeat (first | (with_reducible first | exact HB.out | apply below_alloc | apply pw_below_drewN | apply below_drew1) | exact HB.out)⟩⟩
                    · rw [if_neg c19] at H
                      exact absurd H (by simp)
                  · rw [if_neg c18] at H
                    exact absurd H (by simp)
                · rw [if_neg c17] at H
                  exact absurd H (by simp)
              · rw [if_neg c16] at H
                have c16b0 : decide (x43_2 < (t183.length : Int)) = false := decide_eq_false c16
                clear c16
                replace H := Option.bind_eq_some_iff.mp H
                obtain ⟨t195, A230, H⟩ := H
                replace H : (some t195) = some r := H
                have A23 := Aside0.mk A230
                clear A230
                obtain rfl := Option.some.inj H
                go_wp2_with (first | (go_at_call 8; (with_reducible refine (helmsmanlaw11_alive.calls k2  t195 _ ?side1 A23.out).mono ?_); (case side1 => exact hT.later (by repeat (first | (with_reducible first | exact HB.out | apply below_alloc | apply pw_below_drewN | apply below_drew1) | exact HB.out))); rintro e w24 ⟨rfl, hb⟩; have n0_ := Aside0.mk (Kd.R_below (by (with_reducible repeat (first | apply Kd.R_alloc | apply Kd.R_drewN | apply Kd.R_drew)); exact HO_3.out) hb); have n1_ := Aside0.mk (Kd.R_below (by (with_reducible repeat (first | apply Kd.R_alloc | apply Kd.R_drewN | apply Kd.R_drew)); exact HO_6.out) hb); have n2_ := Aside0.mk (below_step (by repeat (first | (with_reducible first | exact HB.out | apply below_alloc | apply pw_below_drewN | apply below_drew1) | exact HB.out)) hb); clear HO_3; clear HO_6; clear HB; have HO_3 := n0_; have HO_6 := n1_; have HB := n2_; clear n0_ n1_ n2_; (try clear hb); (try clear hb2); (try clear hk); (try clear hi)))
                repeat (go_quiet (first | (go_at_call 8; (with_reducible refine (helmsmanlaw11_alive.calls k2  t195 _ ?side1 A23.out).mono ?_); (case side1 => exact hT.later (by repeat (first | (with_reducible first | exact HB.out | apply below_alloc | apply pw_below_drewN | apply below_drew1) | exact HB.out))); rintro e w24 ⟨rfl, hb⟩; have n0_ := Aside0.mk (Kd.R_below (by (with_reducible repeat (first | apply Kd.R_alloc | apply Kd.R_drewN | apply Kd.R_drew)); exact HO_3.out) hb); have n1_ := Aside0.mk (Kd.R_below (by (with_reducible repeat (first | apply Kd.R_alloc | apply Kd.R_drewN | apply Kd.R_drew)); exact HO_6.out) hb); have n2_ := Aside0.mk (below_step (by repeat (first | (with_reducible first | exact HB.out | apply below_alloc | apply pw_below_drewN | apply below_drew1) | exact HB.out)) hb); clear HO_3; clear HO_6; clear HB; have HO_3 := n0_; have HO_6 := n1_; have HB := n2_; clear n0_ n1_ n2_; (try clear hb); (try clear hb2); (try clear hk); (try clear hi))); try go_wp2_with (first | (go_at_call 8; (with_reducible refine (helmsmanlaw11_alive.calls k2  t195 _ ?side1 A23.out).mono ?_); (case side1 => exact hT.later (by repeat (first | (with_reducible first | exact HB.out | apply below_alloc | apply pw_below_drewN | apply below_drew1) | exact HB.out))); rintro e w24 ⟨rfl, hb⟩; have n0_ := Aside0.mk (Kd.R_below (by (with_reducible repeat (first | apply Kd.R_alloc | apply Kd.R_drewN | apply Kd.R_drew)); exact HO_3.out) hb); have n1_ := Aside0.mk (Kd.R_below (by (with_reducible repeat (first | apply Kd.R_alloc | apply Kd.R_drewN | apply Kd.R_drew)); exact HO_6.out) hb); have n2_ := Aside0.mk (below_step (by repeat (first | (with_reducible first | exact HB.out | apply below_alloc | apply pw_below_drewN | apply below_drew1) | exact HB.out)) hb); clear HO_3; clear HO_6; clear HB; have HO_3 := n0_; have HO_6 := n1_; have HB := n2_; clear n0_ n1_ n2_; (try clear hb); (try clear hb2); (try clear hk); (try clear hi))))
                go_ret
                exact ⟨by first | rfl | (simp [errW_none, errW_some] <;> rfl) | (simp [*, errW_none, errW_some] <;> rfl), by repeat (first | (with_reducible first | exact HB.out | apply below_alloc | apply pw_below_drewN | apply below_drew1) | exact HB.out)⟩

/-- THE ONE PURE STATEMENT of helmsmanlaw11_LexerReads: yours. -/
def helmsmanlaw11_LexerReads.Pure : Prop := ∀ (a0 : ByteArray), a0.size ≤ 140737488351232 → ∃ k, helmsmanlaw11_LexerReads.f k a0 = some true
theorem helmsmanlaw11_LexerReads.walk (P : helmsmanlaw11_LexerReads.Pure) (a0 : ByteArray) (w : World) (hT : TabT w) (w0 : a0.size ≤ 140737488351232) :
    Calls Tryd.prog 3 #[.string a0] w fun e w' => e = .returned (.bool true) ∧ Below w.heap.size w w' := by
  obtain ⟨k, h⟩ := P a0 w0
  refine (helmsmanlaw11_LexerReads.calls k a0 true w hT h).mono ?_
  rintro e w' ⟨rfl, hd⟩
  exact ⟨rfl, hd⟩

end Go.Proofs.YtlcbdgkkkljfnaaDoor.P
end

section
/- Plain facts on a token. -/
namespace Go.Proofs.YtlcbdgkkkljfnaaDoor.Lx
open Go Go.Proofs

theorem tokF_cons {s : ByteArray} (h0 : 0 < s.size) : tokF s.data.toList = 
    if letB s[0].toNat = true then (if 16 < wh (byB innB) s.data.toList then (0, [], 0, 111) else (0, s.data.toList.take (wh (byB innB) s.data.toList), 0, 0))
    else if digB s[0].toNat = true then (1, s.data.toList.take (wh (byB digB) s.data.toList), (numF (s.data.toList.take (wh (byB digB) s.data.toList))).1, (numF (s.data.toList.take (wh (byB digB) s.data.toList))).2)
    else if signF s.data.toList = [] then (0, [], 0, 110) else (2, signF s.data.toList, 0, 0) := by
  have hd : s.data.toList = s[0] :: s.data.toList.drop 1 := by have := drop_cons s 0 h0; simpa using this
  rw [hd]; rfl

theorem wh_le_size (q : UInt8 → Bool) (s : ByteArray) : wh q s.data.toList ≤ s.size := by
  have := wh_le q s.data.toList
  rw [Array.length_toList] at this
  exact this

/-- What the first bytes are, for which q holds. -/
theorem take_wh (q : UInt8 → Bool) : ∀ (l : List UInt8), ∀ b ∈ l.take (wh q l), q b = true
  | [], b, h => by simp at h
  | c :: l, b, h => by
    rw [wh_cons] at h
    split at h
    · rw [Nat.add_comm, List.take_succ_cons] at h
      rcases List.mem_cons.mp h with rfl | h'
      · assumption
      · exact take_wh q l b h'
    · simp at h

end Go.Proofs.YtlcbdgkkkljfnaaDoor.Lx
end

section
/- What Lex comes to, on lists of bytes: of the program's text and of the document's. -/
namespace Go.Proofs.YtlcbdgkkkljfnaaDoor.P
open Go Go.RowKit Go.Proofs Go.Proofs.YtlcbdgkkkljfnaaDoor.Lx
open Go.Proofs.YtlcbdgkkkljfnaaDoorW.PrintWords

theorem Ev.yes {α : Type} {c : Prop} [Decidable c] {f g : Nat → Option α} {r : α} (h : c) (k : Ev f r) : Ev (fun n => if c then f n else g n) r := Ev.congr (fun _ => if_pos h) k
theorem Ev.no {α : Type} {c : Prop} [Decidable c] {f g : Nat → Option α} {r : α} (h : ¬ c) (k : Ev g r) : Ev (fun n => if c then f n else g n) r := Ev.congr (fun _ => if_neg h) k
theorem Ev.then {α β : Type} {a : α} {f : Nat → α → Option β} {r : β} {o : Option α} (h : o = some a) (k : Ev (fun n => f n a) r) : Ev (fun n => o.bind (f n)) r := by
  subst h; exact k

/-- A token: kind, bytes, number, place. -/
abbrev Tk := Int × List UInt8 × Int × Nat
inductive LexR where
  | ok (l : List Tk)
  | no (at' : Nat) (e : Int)
def LexR.cons (t : Tk) : LexR → LexR
  | .ok l => .ok (t :: l)
  | .no a e => .no a e
/-- The tokens of what begins with one, at a place. -/
def lexS : Nat → Nat → List UInt8 → LexR
  | 0, _, _ => .ok []
  | _ + 1, _, [] => .ok []
  | f + 1, a, c :: r =>
    if (tokF (c :: r)).2.2.2 = 0 then
      (lexS f (a + (tokF (c :: r)).2.1.length + skip false ((c :: r).drop (tokF (c :: r)).2.1.length)) (((c :: r).drop (tokF (c :: r)).2.1.length).drop (skip false ((c :: r).drop (tokF (c :: r)).2.1.length)))).cons ((tokF (c :: r)).1, (tokF (c :: r)).2.1, (tokF (c :: r)).2.2.1, a)
    else .no a (tokF (c :: r)).2.2.2
def lexA (l : List UInt8) : LexR := lexS l.length (skip false l) (l.drop (skip false l))
/-- What is handed back. -/
def tok32 (t : Tk) : S32 := ⟨t.1, strOf t.2.1, t.2.2.1, t.2.2.2⟩
def tok31 (t : Tk) : S31 := ⟨t.1, strOf t.2.1, t.2.2.1, t.2.2.2⟩
def out32 (n : Nat) (pre : List S32) : LexR → List S32 × Int × Int
  | .ok l => (pre ++ l.map tok32, n, 0)
  | .no a e => ([], a, e)
def out31 (n : Nat) (pre : List S31) : LexR → List S31 × Int × Int
  | .ok l => (pre ++ l.map tok31, n, 0)
  | .no a e => ([], a, e)

/-! ### Bytes -/
theorem bt_list (s : ByteArray) (i : Nat) (h : i < s.size) : bt s i = ((s[i]'h).toNat : Int) := by
  unfold bt
  simp [h]
theorem strOf_self (s : ByteArray) : strOf s.data.toList = s := by
  cases s; rfl
theorem extract_drop (s : ByteArray) (a : Nat) : s.extract a s.size = strOf (s.data.toList.drop a) := by
  apply ByteArray.ext
  apply Array.toList_inj.mp
  rw [Lib.extract_to_end]
  simp [strOf]
theorem extract_take' (s : ByteArray) (k : Nat) : s.extract 0 k = strOf (s.data.toList.take k) := by
  apply ByteArray.ext
  apply Array.toList_inj.mp
  rw [Lib.extract_data]
  simp [strOf]
theorem toList_data (s : ByteArray) : s.toList = s.data.toList := by
  have := Lib.extract_toList s 0 s.size
  have h2 := Lib.extract_data s 0 s.size
  have e : s.extract 0 s.size = s := by
    apply ByteArray.ext
    apply Array.toList_inj.mp
    rw [h2]
    simp
    exact List.take_of_length_le (by simp)
  rw [e] at this h2
  rw [this]; exact h2.symm
theorem size_list (s : ByteArray) : s.size = s.data.toList.length := (Array.length_toList).symm

theorem wrap32_small {x : Int} (h0 : 0 ≤ x) (h : x ≤ 255) : wrap32 x = x := by unfold wrap32; omega
theorem wrap64_small {x : Int} (h0 : -9223372036854775808 ≤ x) (h : x < 9223372036854775808) : wrap64 x = x := by unfold wrap64; omega

theorem whole_wh (q : UInt8 → Bool) (l : List UInt8) : (l.take (wh q l)).all q = true := List.all_eq_true.mpr (take_wh q l)
/-- The token that begins a text, as the printed function tells it. -/
theorem token_eq (s : ByteArray) (h0 : 0 < s.size) : lexer_token.f s = some ((tokF s.data.toList).1, strOf (tokF s.data.toList).2.1, (tokF s.data.toList).2.2.1, 0, (tokF s.data.toList).2.2.2) := by
  have hb := s[0].toNat_lt
  have hw : wrap32 (bt s 0) = ((s[0].toNat : Nat) : Int) := by
    rw [show (0 : Int) = ((0 : Nat) : Int) from rfl, bt_list s 0 h0]
    exact wrap32_small (by omega) (by omega)
  have hi := wh_le_size (byB innB) s
  have hg := wh_le_size (byB digB) s
  unfold lexer_token.f
  rw [if_pos (by omega), tokF_cons h0, hw]
  unfold lexer_letter.f lexer_digit.f lexer_while_inner.f lexer_while_digit.f lexer_sign.f
  simp only [Int.toNat_natCast, if_pos (Int.natCast_nonneg _), Option.bind_some]
  by_cases h1 : letB s[0].toNat = true
  · simp only [if_pos h1]
    by_cases h2 : 16 < wh (byB innB) s.data.toList
    · rw [if_pos (by omega), if_pos h2]; rfl
    · rw [if_neg (by omega), if_neg h2, if_pos (by omega), extract_take']
  · simp only [if_neg h1]
    by_cases h2 : digB s[0].toNat = true
    · simp only [if_pos h2]
      rw [if_pos (by omega), extract_take']
      unfold lexer_number.f
      rw [strOf_list, if_pos (whole_wh _ _)]
      rfl
    · simp only [if_neg h2]
      rw [toList_data, strOf_list]
      by_cases h3 : signF s.data.toList = []
      · rw [if_pos h3, if_pos h3]; rfl
      · rw [if_neg h3, if_neg h3]

theorem nothing_eq (s : ByteArray) (h : s.size ≤ 5000) : lexer_nothing.f s = some (skip false s.data.toList : Int) := by
  unfold lexer_nothing.f
  rw [if_pos (by omega)]

theorem take_len {q : UInt8 → Bool} {l : List UInt8} : (l.take (wh q l)).length = wh q l := by
  rw [List.length_take]; have := wh_le q l; omega
theorem sign_len (l : List UInt8) : (signF l).length ≤ l.length := by
  have h : ∀ (xs : List (List UInt8)) (b : List UInt8), b.length ≤ l.length → (xs.foldl (better l) b).length ≤ l.length := by
    intro xs
    induction xs with
    | nil => intro b hb; exact hb
    | cons x xs ih =>
      intro b hb
      rw [List.foldl_cons]
      apply ih
      unfold better
      split
      · rename_i h
        exact List.IsPrefix.length_le (List.isPrefixOf_iff_prefix.mp h.1)
      · exact hb
  exact h _ _ (Nat.zero_le _)
/-- A token that may be has bytes of the text. -/
theorem tokF_len : ∀ (l : List UInt8), (tokF l).2.1.length ≤ l.length
  | [] => Nat.le_refl _
  | c :: r => by
    simp only [tokF]
    split
    · split
      · exact Nat.zero_le _
      · exact List.length_take_le' _ _
    · split
      · exact List.length_take_le' _ _
      · split
        · exact Nat.zero_le _
        · exact sign_len _
theorem tokF_pos (c : UInt8) (r : List UInt8) (h : (tokF (c :: r)).2.2.2 = 0) : 1 ≤ (tokF (c :: r)).2.1.length := by
  simp only [tokF] at h ⊢
  split at h
  · rename_i hl
    rw [if_pos hl]
    split at h
    · cases h
    · rename_i h2
      rw [if_neg h2]
      simp only
      rw [take_len, wh_cons, if_pos (by unfold byB at hl ⊢; unfold innB; simp [hl])]
      omega
  · rename_i hl
    rw [if_neg hl]
    split at h
    · rename_i hd
      rw [if_pos hd]
      simp only
      rw [take_len, wh_cons, if_pos hd]
      omega
    · rename_i hd
      rw [if_neg hd]
      split at h
      · cases h
      · rename_i h2
        rw [if_neg h2]
        simp only
        cases hs : signF (c :: r) with
        | nil => exact absurd hs h2
        | cons a b => simp

/-- The program's loop, from a place on. -/
theorem lex_loop (s : ByteArray) (hs : s.size ≤ 4096) : ∀ (f a : Nat) (pre : List S32), a ≤ s.size → s.size ≤ a + f → pre.length ≤ a →
    Ev (fun k => lexer_Lex.l0 k s pre (a : Int)) (out32 s.size pre (lexS f a (s.data.toList.drop a))) := by
  intro f
  induction f with
  | zero =>
    intro a pre ha hf hp
    refine Ev.step (fun k => lexer_Lex.l0.eq_2 _ _ _ k) ?_
    refine Ev.no (by omega) ?_
    simp only [lexS, out32, List.map_nil, List.append_nil]
    exact Ev.now _
  | succ f ih =>
    intro a pre ha hf hp
    refine Ev.step (fun k => lexer_Lex.l0.eq_2 _ _ _ k) ?_
    by_cases hlt : a < s.size
    · have hd := drop_cons s a hlt
      have hsz : (strOf (s.data.toList.drop a)).size = s.size - a := by rw [strOf_size, List.length_drop, ← size_list]
      refine Ev.yes (by omega) (Ev.yes (by omega) (Ev.yes (by omega) ?_))
      rw [Int.toNat_natCast, extract_drop]
      refine Ev.then (token_eq _ (by omega)) ?_
      rw [strOf_list]
      simp only
      have hle := tokF_len (s.data.toList.drop a)
      have hll : (s.data.toList.drop a).length = s.size - a := by rw [List.length_drop, ← size_list]
      have hone : lexS (f + 1) a (s.data.toList.drop a) = if (tokF (s.data.toList.drop a)).2.2.2 = 0 then
          (lexS f (a + (tokF (s.data.toList.drop a)).2.1.length + skip false ((s.data.toList.drop a).drop (tokF (s.data.toList.drop a)).2.1.length)) (((s.data.toList.drop a).drop (tokF (s.data.toList.drop a)).2.1.length).drop (skip false ((s.data.toList.drop a).drop (tokF (s.data.toList.drop a)).2.1.length)))).cons ((tokF (s.data.toList.drop a)).1, (tokF (s.data.toList.drop a)).2.1, (tokF (s.data.toList.drop a)).2.2.1, a)
        else .no a (tokF (s.data.toList.drop a)).2.2.2 := by rw [hd]; rfl
      by_cases he : (tokF (s.data.toList.drop a)).2.2.2 = 0
      · rw [hone, if_pos he]
        have hpos : 1 ≤ (tokF (s.data.toList.drop a)).2.1.length := by rw [hd] at he ⊢; exact tokF_pos _ _ he
        generalize ht : tokF (s.data.toList.drop a) = t at *
        have hw1 : wrap64 ((a : Int) + ((strOf t.2.1).size : Int)) = ((a + t.2.1.length : Nat) : Int) := by rw [strOf_size]; rw [wrap64_small (by omega) (by omega)]; omega
        refine Ev.yes he (Ev.yes (by omega) ?_)
        rw [hw1]
        refine Ev.yes (by omega) (Ev.yes (by omega) ?_)
        rw [Int.toNat_natCast, extract_drop]
        have hsk := skip_le false ((s.data.toList.drop a).drop t.2.1.length)
        rw [List.drop_drop] at hsk ⊢
        refine Ev.then (nothing_eq _ (by rw [strOf_size, List.length_drop, ← size_list]; omega)) ?_
        rw [strOf_list]
        rw [List.length_drop, ← size_list] at hsk
        generalize skip false (s.data.toList.drop (a + t.2.1.length)) = sk at *
        rw [wrap64_small (by omega) (by omega), List.drop_drop]
        have := ih (a + t.2.1.length + sk) (pre ++ [⟨t.1, strOf t.2.1, t.2.2.1, a⟩]) (by omega) (by omega) (by simp; omega)
        rw [show ((a + t.2.1.length + sk : Nat) : Int) = ((a + t.2.1.length : Nat) : Int) + (sk : Int) from by omega] at this
        cases hx : lexS f (a + t.2.1.length + sk) (s.data.toList.drop (a + t.2.1.length + sk)) with
        | ok l =>
          rw [hx] at this
          simp only [out32, LexR.cons, List.map_cons, tok32] at this ⊢
          rw [List.append_assoc] at this
          exact this
        | no b e =>
          rw [hx] at this
          exact this
      · rw [hone, if_neg he]
        refine Ev.no he ?_
        exact Ev.now _
    · refine Ev.no (by omega) ?_
      have : s.data.toList.drop a = [] := List.drop_eq_nil_of_le (by rw [← size_list]; omega)
      rw [this]
      simp only [lexS, out32, List.map_nil, List.append_nil]
      exact Ev.now _

theorem lex_ev (s : ByteArray) (hs : s.size ≤ 4096) : Ev (fun k => lexer_Lex.f k s) (out32 s.size [] (lexA s.data.toList)) := by
  unfold lexer_Lex.f
  refine Ev.no (by omega) (Ev.then (nothing_eq s (by omega)) ?_)
  have h := skip_le false s.data.toList
  rw [← size_list] at h
  have := lex_loop s hs s.data.toList.length (skip false s.data.toList) [] h (by rw [← size_list]; omega) (Nat.zero_le _)
  exact this
theorem lex_long (s : ByteArray) (hs : ¬ s.size ≤ 4096) : Ev (fun k => lexer_Lex.f k s) ([], 0, 111) := by
  unfold lexer_Lex.f
  refine Ev.yes (by omega) (Ev.now _)
end Go.Proofs.YtlcbdgkkkljfnaaDoor.P
end

section
/- The longest sign that begins a text, by its first two bytes. -/
namespace Go.Proofs.YtlcbdgkkkljfnaaDoor.Lx
open Go

def twoB (a b : UInt8) : Bool := (b == 61 && (a == 61 || a == 33 || a == 60 || a == 62)) || (a == 38 && b == 38) || (a == 124 && b == 124)
def ones : List UInt8 := [123, 125, 40, 41, 91, 93, 59, 58, 44, 61, 60, 62, 43, 45, 42, 47, 33]
def oneB (a : UInt8) : Bool := ones.contains a

theorem better_no {l b x : List UInt8} (h : x.isPrefixOf l = false) : better l b x = b := by unfold better; rw [h]; simp
theorem signF_one (a : UInt8) : signF [a] = if oneB a = true then [a] else [] := by
  by_cases h : a ∈ ones
  · have : oneB a = true := by unfold oneB; simpa using h
    rw [if_pos this]
    simp only [ones, List.mem_cons, List.not_mem_nil, or_false] at h
    rcases h with rfl | rfl | rfl | rfl | rfl | rfl | rfl | rfl | rfl | rfl | rfl | rfl | rfl | rfl | rfl | rfl | rfl <;> rfl
  · have : oneB a = false := by unfold oneB; simpa using h
    rw [this]
    simp only [ones, List.mem_cons, List.not_mem_nil, or_false, not_or] at h
    have h' := h
    simp only [@eq_comm UInt8 a] at h'
    simp [signF, signsL, better, List.isPrefixOf, h']
theorem signF_two (a b : UInt8) (r : List UInt8) : signF (a :: b :: r) = if twoB a b = true then [a, b] else if oneB a = true then [a] else [] := by
  by_cases h : a ∈ ones
  · simp only [ones, List.mem_cons, List.not_mem_nil, or_false] at h
    by_cases hb : b = 61
    · subst hb
      rcases h with rfl | rfl | rfl | rfl | rfl | rfl | rfl | rfl | rfl | rfl | rfl | rfl | rfl | rfl | rfl | rfl | rfl <;> rfl
    · have hb' : ((61 : UInt8) == b) = false := by simpa using Ne.symm hb
      have hb2 : (b == (61 : UInt8)) = false := by simpa using hb
      rcases h with rfl | rfl | rfl | rfl | rfl | rfl | rfl | rfl | rfl | rfl | rfl | rfl | rfl | rfl | rfl | rfl | rfl <;> simp [signF, signsL, better, List.isPrefixOf, twoB, oneB, ones, hb, Ne.symm hb]
  · have ho : oneB a = false := by unfold oneB; simpa using h
    rw [ho]
    by_cases h1 : a = 38
    · subst h1
      by_cases hb : b = 38
      · subst hb; rfl
      · simp [signF, signsL, better, List.isPrefixOf, twoB, hb, Ne.symm hb]
    · by_cases h2 : a = 124
      · subst h2
        by_cases hb : b = 124
        · subst hb; rfl
        · simp [signF, signsL, better, List.isPrefixOf, twoB, hb, Ne.symm hb]
      · simp only [ones, List.mem_cons, List.not_mem_nil, or_false, not_or] at h
        have h' := h
        simp only [@eq_comm UInt8 a] at h'
        simp [signF, signsL, better, List.isPrefixOf, twoB, h, h', h1, h2, Ne.symm h1, Ne.symm h2]
end Go.Proofs.YtlcbdgkkkljfnaaDoor.Lx
end

section
/- What the document's Lex comes to: the same. -/
namespace Go.Proofs.YtlcbdgkkkljfnaaDoor.P
open Go Go.RowKit Go.Proofs Go.Proofs.YtlcbdgkkkljfnaaDoor.Lx
open Go.Proofs.YtlcbdgkkkljfnaaDoorW.PrintWords

theorem ref_letter (n : Nat) : helmsmanref11_letter.f (n : Int) = some (letB n) := by
  unfold helmsmanref11_letter.f letB
  have z1 : ((n : Int) ≥ 97) ↔ 97 ≤ n := by omega
  have z2 : ((n : Int) ≤ 122) ↔ n ≤ 122 := by omega
  have z3 : ((n : Int) ≥ 65) ↔ 65 ≤ n := by omega
  have z4 : ((n : Int) ≤ 90) ↔ n ≤ 90 := by omega
  by_cases h1 : 97 ≤ n <;> by_cases h2 : n ≤ 122 <;> by_cases h3 : 65 ≤ n <;> by_cases h4 : n ≤ 90 <;> simp [z1, z2, z3, z4, h1, h2, h3, h4]
theorem ref_digit (n : Nat) : helmsmanref11_digit.f (n : Int) = some (digB n) := by
  unfold helmsmanref11_digit.f digB
  have z1 : ((n : Int) ≥ 48) ↔ 48 ≤ n := by omega
  have z2 : ((n : Int) ≤ 57) ↔ n ≤ 57 := by omega
  by_cases h1 : 48 ≤ n <;> by_cases h2 : n ≤ 57 <;> simp [z1, z2, h1, h2]

def okN : Option Int → Option Int
  | none => none
  | some v => if 1152921504606846976 < v then none else some v
theorem okN_big : ∀ (l : List UInt8) (m : Int), 1152921504606846976 < m → okN (numL m l) = none
  | [], m, h => by simp [numL, okN, h]
  | c :: l, m, h => by
    simp only [numL]
    rw [if_pos (by omega)]; rfl
theorem numF_ok (l : List UInt8) : numF l = match okN (numL 0 l) with | none => (0, 111) | some v => if 40 < l.length then (0, 111) else (v, 0) := by
  unfold numF
  cases h : numL 0 l with
  | none => rfl
  | some n =>
    simp only [okN]
    by_cases h1 : 1152921504606846976 < n
    · rw [if_pos (.inr h1), if_pos h1]
    · rw [if_neg h1]
      by_cases h2 : 40 < l.length
      · rw [if_pos (.inl h2)]; simp only; rw [if_pos h2]
      · rw [if_neg (by omega)]; simp only; rw [if_neg h2]
def numR (n : Nat) : Option Int → Int × Bool
  | none => (0, false)
  | some v => (v, decide ((n : Int) ≤ 40))
theorem number_loop (s : ByteArray) (hs : s.size ≤ 5000) (hdig : ∀ b ∈ s.data.toList, byB digB b = true) : ∀ (d i : Nat) (m : Int), i ≤ s.size → s.size = i + d → 0 ≤ m → m ≤ 1152921504606846976 →
    Ev (fun k => helmsmanref11_Number.l0 k s m (i : Int)) (numR s.size (okN (numL m (s.data.toList.drop i)))) := by
  intro d
  induction d with
  | zero =>
    intro i m h1 h2 h3 h4
    refine Ev.step (fun k => helmsmanref11_Number.l0.eq_2 _ _ _ k) ?_
    refine Ev.no (by omega) ?_
    have : s.data.toList.drop i = [] := List.drop_eq_nil_of_le (by rw [← size_list]; omega)
    rw [this]
    simp only [numL, okN]
    rw [if_neg (by omega)]
    exact Ev.now _
  | succ d ih =>
    intro i m h1 h2 h3 h4
    refine Ev.step (fun k => helmsmanref11_Number.l0.eq_2 _ _ _ k) ?_
    have hlt : i < s.size := by omega
    refine Ev.yes (by omega) ?_
    have hd := drop_cons s i hlt
    have hdg := hdig (s[i]'hlt) (by
      have : s[i]'hlt ∈ s.data.toList.drop i := by rw [hd]; exact List.mem_cons_self
      exact List.mem_of_mem_drop this)
    unfold byB digB at hdg
    simp only [Bool.and_eq_true, decide_eq_true_eq] at hdg
    rw [hd]
    simp only [numL]
    by_cases hb : m > 115292150460684697
    · rw [if_pos hb]
      exact Ev.yes hb (Ev.now _)
    · rw [if_neg hb]
      refine Ev.no hb (Ev.yes (by omega) ?_)
      have hbt := bt_list s i hlt
      have hw : wrap64 (wrap64 (wrap64 (m * 10) - 48) + wrap64 (bt s (i : Int))) = 10 * m + (((s[i]'hlt).toNat : Int) - 48) := by
        rw [hbt]; unfold wrap64; omega
      rw [hw]
      by_cases hc : 10 * m + (((s[i]'hlt).toNat : Int) - 48) > 1152921504606846976
      · rw [okN_big _ _ hc]
        exact Ev.yes hc (Ev.now _)
      · refine Ev.no hc ?_
        rw [wrap64_small (by omega) (by omega)]
        have := ih (i + 1) (10 * m + (((s[i]'hlt).toNat : Int) - 48)) (by omega) (by omega) (by omega) (by omega)
        exact this
theorem number_ev (s : ByteArray) (hs : s.size ≤ 5000) (hdig : ∀ b ∈ s.data.toList, byB digB b = true) :
    Ev (fun k => helmsmanref11_Number.f k s) (numR s.size (okN (numL 0 s.data.toList))) := by
  unfold helmsmanref11_Number.f
  have := number_loop s hs hdig s.size 0 0 (by omega) (by omega) (by omega) (by omega)
  exact this

theorem one_loop (c : Nat) (s : ByteArray) (hs : s.size ≤ 5000) : ∀ (d i : Nat), i ≤ s.size → s.size = i + d →
    Ev (fun k => helmsmanref11_one.l0 k (c : Int) s (i : Int)) ((s.data.toList.drop i).any fun b => b.toNat == c) := by
  intro d
  induction d with
  | zero =>
    intro i h1 h2
    refine Ev.step (fun k => helmsmanref11_one.l0.eq_2 _ _ _ k) ?_
    refine Ev.no (by omega) ?_
    have : s.data.toList.drop i = [] := List.drop_eq_nil_of_le (by rw [← size_list]; omega)
    rw [this]
    exact Ev.now _
  | succ d ih =>
    intro i h1 h2
    refine Ev.step (fun k => helmsmanref11_one.l0.eq_2 _ _ _ k) ?_
    have hlt : i < s.size := by omega
    refine Ev.yes (by omega) (Ev.yes (by omega) ?_)
    rw [drop_cons s i hlt, bt_list s i hlt, List.any_cons]
    by_cases hc : (s[i]'hlt).toNat = c
    · rw [show ((s[i]'hlt).toNat == c) = true by simpa using hc, Bool.true_or]
      exact Ev.yes (by omega) (Ev.now _)
    · rw [show ((s[i]'hlt).toNat == c) = false by simpa using hc, Bool.false_or]
      refine Ev.no (by omega) ?_
      rw [wrap64_small (by omega) (by omega)]
      exact ih (i + 1) (by omega) (by omega)
theorem nat_beq (a c : UInt8) : (a.toNat == c.toNat) = (a == c) := by
  by_cases h : a = c
  · rw [h, beq_self_eq_true, beq_self_eq_true]
  · have h2 : a.toNat ≠ c.toNat := fun e => h (UInt8.toNat_inj.mp e)
    rw [beq_eq_false_iff_ne.mpr h2, beq_eq_false_iff_ne.mpr h]
theorem any_ones (c : UInt8) (l : List UInt8) : (l.any fun b => b.toNat == c.toNat) = l.contains c := by
  induction l with
  | nil => rfl
  | cons a l ih => rw [List.any_cons, List.contains_cons, ih, nat_beq, Bool.beq_comm]
theorem one_ev (c : UInt8) : Ev (fun k => helmsmanref11_one.f k (c.toNat : Int)) (oneB c) := by
  unfold helmsmanref11_one.f
  have := one_loop c.toNat ⟨#[123, 125, 40, 41, 91, 93, 59, 58, 44, 61, 60, 62, 43, 45, 42, 47, 33]⟩ (by decide) 17 0 (by decide) (by decide)
  rw [List.drop_zero, any_ones] at this
  exact this
theorem two_eq (a b : UInt8) : helmsmanref11_two.f (strOf [a, b]) = some (twoB a b) := by
  unfold helmsmanref11_two.f
  rw [toList_data, strOf_list]
  unfold twoB
  by_cases h1 : b = 61
  · subst h1
    by_cases h2 : a = 61
    · subst h2; rfl
    · by_cases h3 : a = 33
      · subst h3; rfl
      · by_cases h4 : a = 60
        · subst h4; rfl
        · by_cases h5 : a = 62
          · subst h5; rfl
          · simp [h2, h3, h4, h5]
  · by_cases h2 : b = 38
    · subst h2
      by_cases h3 : a = 38
      · subst h3; rfl
      · simp [h3]
    · simp [h1, h2]
end Go.Proofs.YtlcbdgkkkljfnaaDoor.P
end

section
/- The document's Lex, place by place. -/
namespace Go.Proofs.YtlcbdgkkkljfnaaDoor.P
open Go Go.RowKit Go.Proofs Go.Proofs.YtlcbdgkkkljfnaaDoor.Lx
open Go.Proofs.YtlcbdgkkkljfnaaDoorW.PrintWords

abbrev Out := List S31 × Int × Int
theorem drop_end (s : ByteArray) (i : Nat) (h : ¬ i < s.size) : s.data.toList.drop i = [] := List.drop_eq_nil_of_le (by rw [← size_list]; omega)

/-- A remark. -/
theorem ref_l1 (s : ByteArray) (hs : s.size ≤ 5000) (pre : List S31) (R : Out) : ∀ (d j : Nat), j ≤ s.size → s.size = j + d →
    Ev (fun k => helmsmanref11_Lex.l0 k s pre ((j + wh (byB noNl) (s.data.toList.drop j) : Nat) : Int)) R → Ev (fun k => helmsmanref11_Lex.l1 k s pre (j : Int)) R := by
  intro d
  induction d with
  | zero =>
    intro j h1 h2 h
    refine Ev.step (fun k => helmsmanref11_Lex.l1.eq_2 _ _ _ k) ?_
    refine Ev.no (by omega) ?_
    rw [drop_end s j (by omega), wh_nil] at h
    exact h
  | succ d ih =>
    intro j h1 h2 h
    have hlt : j < s.size := by omega
    refine Ev.step (fun k => helmsmanref11_Lex.l1.eq_2 _ _ _ k) ?_
    refine Ev.yes (by omega) (Ev.yes (by omega) ?_)
    rw [bt_list s j hlt]
    rw [drop_cons s j hlt, wh_cons] at h
    by_cases h10 : (s[j]'hlt).toNat = 10
    · rw [if_neg (by unfold byB noNl; simp [h10])] at h
      exact Ev.yes (by omega) h
    · rw [if_pos (by unfold byB noNl; simp [h10])] at h
      refine Ev.no (by omega) ?_
      rw [wrap64_small (by omega) (by omega)]
      have := ih (j + 1) (by omega) (by omega) (by rw [show j + 1 + wh (byB noNl) (s.data.toList.drop (j + 1)) = j + (1 + wh (byB noNl) (s.data.toList.drop (j + 1))) by omega]; exact h)
      exact this

def exit2 (k : Nat) (x0 : ByteArray) (x5 : List S31) (x6 x8 : Int) : Option Out :=
  if (wrap64 (x8 - x6)) > 16 then (some (([] : List (S31)), x6, 111)) else (if 0 ≤ x6 then (if x6 ≤ x8 then (if x8 ≤ (x0.size : Int) then (if x5.length < 3518437208883 then (helmsmanref11_Lex.l0 k x0 (x5 ++ [(⟨0, x0.extract (x6 : Int).toNat (x8 : Int).toNat, 0, x6⟩ : S31)]) x8) else (none)) else (none)) else (none)) else (none))
theorem ref_l2 (s : ByteArray) (hs : s.size ≤ 5000) (pre : List S31) (a : Int) (R : Out) : ∀ (d j : Nat), j ≤ s.size → s.size = j + d →
    Ev (fun k => exit2 k s pre a ((j + wh (byB innB) (s.data.toList.drop j) : Nat) : Int)) R → Ev (fun k => helmsmanref11_Lex.l2 k s pre a (j : Int)) R := by
  intro d
  induction d with
  | zero =>
    intro j h1 h2 h
    refine Ev.step (fun k => helmsmanref11_Lex.l2.eq_2 _ _ _ _ k) ?_
    refine Ev.no (by omega) ?_
    rw [drop_end s j (by omega), wh_nil] at h
    exact h
  | succ d ih =>
    intro j h1 h2 h
    have hlt : j < s.size := by omega
    refine Ev.step (fun k => helmsmanref11_Lex.l2.eq_2 _ _ _ _ k) ?_
    refine Ev.yes (by omega) (Ev.yes (by omega) ?_)
    rw [bt_list s j hlt]
    rw [drop_cons s j hlt, wh_cons] at h
    have step : byB innB (s[j]'hlt) = true → Ev (fun k => helmsmanref11_Lex.l2 k s pre a (wrap64 ((j : Int) + 1))) R := fun hi => by
      rw [if_pos hi] at h
      rw [wrap64_small (by omega) (by omega)]
      have := ih (j + 1) (by omega) (by omega) (by rw [show j + 1 + wh (byB innB) (s.data.toList.drop (j + 1)) = j + (1 + wh (byB innB) (s.data.toList.drop (j + 1))) by omega]; exact h)
      exact this
    refine Ev.then (ref_letter _) ?_
    by_cases hl : letB (s[j]'hlt).toNat = true
    · refine Ev.yes hl (step (by unfold byB innB; simp [hl]))
    · refine Ev.no hl (Ev.then (ref_digit _) ?_)
      by_cases hd : digB (s[j]'hlt).toNat = true
      · refine Ev.yes hd (step (by unfold byB innB; simp [hd]))
      · refine Ev.no hd ?_
        by_cases h95 : (s[j]'hlt).toNat = 95
        · exact Ev.yes (by omega) (step (by unfold byB innB; simp [h95]))
        · refine Ev.no (by omega) ?_
          rw [if_neg (by unfold byB innB; simp [hl, hd, h95])] at h
          exact h

def exit3 (k : Nat) (x0 : ByteArray) (x5 : List S31) (x6 x8 : Int) : Option Out :=
  if 0 ≤ x6 then (if x6 ≤ x8 then (if x8 ≤ (x0.size : Int) then ((helmsmanref11_Number.f k (x0.extract (x6 : Int).toNat (x8 : Int).toNat)).bind fun bt133 => (if bt133.2 = true then (if x5.length < 3518437208883 then (helmsmanref11_Lex.l0 k x0 (x5 ++ [(⟨1, x0.extract (x6 : Int).toNat (x8 : Int).toNat, bt133.1, x6⟩ : S31)]) x8) else (none)) else (some (([] : List (S31)), x6, 111)))) else (none)) else (none)) else (none)
theorem ref_l3 (s : ByteArray) (hs : s.size ≤ 5000) (pre : List S31) (a : Int) (R : Out) : ∀ (d j : Nat), j ≤ s.size → s.size = j + d →
    Ev (fun k => exit3 k s pre a ((j + wh (byB digB) (s.data.toList.drop j) : Nat) : Int)) R → Ev (fun k => helmsmanref11_Lex.l3 k s pre a (j : Int)) R := by
  intro d
  induction d with
  | zero =>
    intro j h1 h2 h
    refine Ev.step (fun k => helmsmanref11_Lex.l3.eq_2 _ _ _ _ k) ?_
    refine Ev.no (by omega) ?_
    rw [drop_end s j (by omega), wh_nil] at h
    exact h
  | succ d ih =>
    intro j h1 h2 h
    have hlt : j < s.size := by omega
    refine Ev.step (fun k => helmsmanref11_Lex.l3.eq_2 _ _ _ _ k) ?_
    refine Ev.yes (by omega) (Ev.yes (by omega) ?_)
    rw [bt_list s j hlt]
    rw [drop_cons s j hlt, wh_cons] at h
    refine Ev.then (ref_digit _) ?_
    by_cases hd : digB (s[j]'hlt).toNat = true
    · refine Ev.yes hd ?_
      rw [if_pos (show byB digB (s[j]'hlt) = true from hd)] at h
      rw [wrap64_small (by omega) (by omega)]
      have := ih (j + 1) (by omega) (by omega) (by rw [show j + 1 + wh (byB digB) (s.data.toList.drop (j + 1)) = j + (1 + wh (byB digB) (s.data.toList.drop (j + 1))) by omega]; exact h)
      exact this
    · refine Ev.no hd ?_
      rw [if_neg (show ¬ byB digB (s[j]'hlt) = true from hd)] at h
      exact h
end Go.Proofs.YtlcbdgkkkljfnaaDoor.P
end

section
/- The document's Lex and the program's are the same. -/
namespace Go.Proofs.YtlcbdgkkkljfnaaDoor.P
open Go Go.RowKit Go.Proofs Go.Proofs.YtlcbdgkkkljfnaaDoor.Lx
open Go.Proofs.YtlcbdgkkkljfnaaDoorW.PrintWords

theorem lexS_tok (s : ByteArray) (a f : Nat) (h : a < s.size) {k n e : Int} {x : List UInt8} (ht : tokF (s.data.toList.drop a) = (k, x, n, e)) :
    lexS (f + 1) a (s.data.toList.drop a) = if e = 0 then (lexS f (a + x.length + skip false (s.data.toList.drop (a + x.length))) (s.data.toList.drop (a + x.length + skip false (s.data.toList.drop (a + x.length))))).cons (k, x, n, a) else .no a e := by
  have hd := drop_cons s a h
  have h1 : lexS (f + 1) a (s.data.toList.drop a) = if (tokF (s.data.toList.drop a)).2.2.2 = 0 then
          (lexS f (a + (tokF (s.data.toList.drop a)).2.1.length + skip false ((s.data.toList.drop a).drop (tokF (s.data.toList.drop a)).2.1.length)) (((s.data.toList.drop a).drop (tokF (s.data.toList.drop a)).2.1.length).drop (skip false ((s.data.toList.drop a).drop (tokF (s.data.toList.drop a)).2.1.length)))).cons ((tokF (s.data.toList.drop a)).1, (tokF (s.data.toList.drop a)).2.1, (tokF (s.data.toList.drop a)).2.2.1, a)
        else .no a (tokF (s.data.toList.drop a)).2.2.2 := by rw [hd]; rfl
  rw [h1, ht]
  simp only [List.drop_drop]
theorem out31_cons (n : Nat) (pre : List S31) (t : Tk) (r : LexR) : out31 n pre (r.cons t) = out31 n (pre ++ [tok31 t]) r := by
  cases r with
  | ok l => simp [out31, LexR.cons]
  | no b e => rfl
theorem extract_mid (s : ByteArray) (a w : Nat) : s.extract a (a + w) = strOf ((s.data.toList.drop a).take w) := by
  apply ByteArray.ext
  apply Array.toList_inj.mp
  rw [Lib.extract_data]
  simp [strOf]

/-- What the document's loop comes to at a place. -/
def At (s : ByteArray) (f a : Nat) (pre : List S31) : Out := out31 s.size pre (lexS f (a + skip false (s.data.toList.drop a)) (s.data.toList.drop (a + skip false (s.data.toList.drop a))))

theorem at_blank (s : ByteArray) (f a : Nat) (pre : List S31) (h : a < s.size) (hb : s[a].toNat = 32 ∨ s[a].toNat = 9 ∨ s[a].toNat = 10) : At s f a pre = At s f (a + 1) pre := by
  unfold At
  have : skip false (s.data.toList.drop a) = 1 + skip false (s.data.toList.drop (a + 1)) := by rw [drop_cons s a h]; simp only [skip]; rw [if_pos hb]
  rw [this, show a + (1 + skip false (s.data.toList.drop (a + 1))) = a + 1 + skip false (s.data.toList.drop (a + 1)) by omega]
theorem at_remark (s : ByteArray) (f a : Nat) (pre : List S31) (h : a < s.size) (hb : s[a].toNat = 35) : At s f a pre = At s f (a + wh (byB noNl) (s.data.toList.drop a)) pre := by
  have h1 : skip false (s.data.toList.drop a) = skip true (s.data.toList.drop a) := by
    rw [drop_cons s a h]; simp [skip, hb]
  have h2 := skip_true (s.data.toList.drop a)
  rw [List.drop_drop] at h2
  unfold At
  rw [h1, h2]
  simp only [Nat.add_assoc]
theorem at_tok (s : ByteArray) (f a : Nat) (pre : List S31) (h : a < s.size) (hb : ¬ (s[a].toNat = 32 ∨ s[a].toNat = 9 ∨ s[a].toNat = 10)) (h35 : s[a].toNat ≠ 35) {k n e : Int} {x : List UInt8} (ht : tokF (s.data.toList.drop a) = (k, x, n, e)) :
    At s (f + 1) a pre = if e = 0 then At s f (a + x.length) (pre ++ [⟨k, strOf x, n, a⟩]) else ([], a, e) := by
  have h1 : skip false (s.data.toList.drop a) = 0 := by rw [drop_cons s a h]; simp only [skip]; rw [if_neg hb, if_neg h35]
  unfold At
  rw [h1]
  simp only [Nat.add_zero]
  rw [lexS_tok s a f h ht]
  split
  · rw [out31_cons]; rfl
  · rfl
theorem at_end (s : ByteArray) (f a : Nat) (pre : List S31) (h : ¬ a < s.size) : At s f a pre = (pre, (s.size : Int), 0) := by
  unfold At
  rw [drop_end s a h, drop_end s _ (by omega)]
  cases f <;> simp [lexS, out31]

set_option maxHeartbeats 1000000 in
theorem ref_loop (s : ByteArray) (hs : s.size ≤ 4096) : ∀ (d a f : Nat) (pre : List S31), a ≤ s.size → s.size = a + d → s.size ≤ a + f → pre.length ≤ a →
    Ev (fun k => helmsmanref11_Lex.l0 k s pre (a : Int)) (At s f a pre) := by
  intro d
  induction d using Nat.strongRecOn with
  | _ d ih =>
  intro a f pre ha hd hf hp
  by_cases hlt : a < s.size
  · have IH : ∀ (a' f' : Nat) (pre' : List S31), a < a' → a' ≤ s.size → s.size ≤ a' + f' → pre'.length ≤ a' → Ev (fun k => helmsmanref11_Lex.l0 k s pre' (a' : Int)) (At s f' a' pre') :=
      fun a' f' pre' h1 h2 h3 h4 => ih (s.size - a') (by omega) a' f' pre' h2 (by omega) h3 h4
    refine Ev.step (fun k => helmsmanref11_Lex.l0.eq_2 _ _ _ k) ?_
    refine Ev.yes (by omega) (Ev.yes (by omega) ?_)
    rw [bt_list s a hlt, wrap64_small (show -9223372036854775808 ≤ (a : Int) + 1 by omega) (by omega)]
    have blank : ∀ b : Bool, b = true → (s[a].toNat = 32 ∨ s[a].toNat = 9 ∨ s[a].toNat = 10) → Ev (fun k => helmsmanref11_Lex.j1 k s pre (a : Int) (s[a].toNat : Int) ((a : Int) + 1) b) (At s f a pre) := by
      intro b hbt hbl
      refine Ev.step (fun k => helmsmanref11_Lex.j1.eq_2 _ _ _ _ _ _ k) ?_
      refine Ev.yes hbt ?_
      rw [at_blank s f a pre hlt hbl]
      exact IH (a + 1) f pre (by omega) (by omega) (by omega) (by omega)
    by_cases h32 : s[a].toNat = 32
    · exact Ev.yes (by omega) (blank true rfl (.inl h32))
    refine Ev.no (by omega) ?_
    by_cases h9 : s[a].toNat = 9
    · exact Ev.yes (by omega) (blank true rfl (.inr (.inl h9)))
    refine Ev.no (by omega) ?_
    by_cases h10 : s[a].toNat = 10
    · exact blank _ (by rw [h10]; rfl) (.inr (.inr h10))
    have hnb : ¬ (s[a].toNat = 32 ∨ s[a].toNat = 9 ∨ s[a].toNat = 10) := by omega
    refine Ev.step (fun k => helmsmanref11_Lex.j1.eq_2 _ _ _ _ _ _ k) ?_
    refine Ev.no (by simp; omega) ?_
    by_cases h35 : s[a].toNat = 35
    · refine Ev.yes (by omega) ?_
      refine ref_l1 s (by omega) pre _ (s.size - a) a ha (by omega) ?_
      have hpos : 1 ≤ wh (byB noNl) (s.data.toList.drop a) := by rw [drop_cons s a hlt, wh_cons, if_pos (by unfold byB noNl; simp [h35])]; omega
      have hle := wh_le (byB noNl) (s.data.toList.drop a)
      rw [List.length_drop, ← size_list] at hle
      rw [at_remark s f a pre hlt h35]
      exact IH _ f pre (by omega) (by omega) (by omega) (by omega)
    refine Ev.no (by omega) ?_
    obtain ⟨g, rfl⟩ : ∃ g, f = g + 1 := ⟨f - 1, by omega⟩
    have hdc := drop_cons s a hlt
    have hll : (s.data.toList.drop a).length = s.size - a := by rw [List.length_drop, ← size_list]
    refine Ev.then (ref_letter _) ?_
    have htok : tokF (s.data.toList.drop a) = 
      if letB s[a].toNat = true then (if 16 < wh (byB innB) (s.data.toList.drop a) then (0, [], 0, 111) else (0, (s.data.toList.drop a).take (wh (byB innB) (s.data.toList.drop a)), 0, 0))
      else if digB s[a].toNat = true then (1, (s.data.toList.drop a).take (wh (byB digB) (s.data.toList.drop a)), (numF ((s.data.toList.drop a).take (wh (byB digB) (s.data.toList.drop a)))).1, (numF ((s.data.toList.drop a).take (wh (byB digB) (s.data.toList.drop a)))).2)
      else if signF (s.data.toList.drop a) = [] then (0, [], 0, 110) else (2, signF (s.data.toList.drop a), 0, 0) := by rw [hdc]; rfl
    by_cases hl : letB s[a].toNat = true
    · refine Ev.yes hl ?_
      rw [if_pos hl] at htok
      have hw : wh (byB innB) (s.data.toList.drop a) = 1 + wh (byB innB) (s.data.toList.drop (a + 1)) := by rw [hdc, wh_cons, if_pos (by unfold byB innB; simp [hl])]
      have hle := wh_le (byB innB) (s.data.toList.drop a)
      have key := ref_l2 s (by omega) pre (a : Int) (At s (g + 1) a pre) (s.size - (a + 1)) (a + 1) (by omega) (by omega)
      rw [show a + 1 + wh (byB innB) (s.data.toList.drop (a + 1)) = a + wh (byB innB) (s.data.toList.drop a) by omega] at key
      refine key ?_
      clear key
      generalize hwd : wh (byB innB) (s.data.toList.drop a) = wd at *
      unfold exit2
      rw [wrap64_small (show -9223372036854775808 ≤ ((a + wd : Nat) : Int) - (a : Int) by omega) (by omega)]
      by_cases h16 : 16 < wd
      · rw [if_pos h16] at htok
        rw [at_tok s g a pre hlt hnb h35 htok]
        exact Ev.yes (by omega) (Ev.now _)
      · rw [if_neg h16] at htok
        rw [at_tok s g a pre hlt hnb h35 htok, if_pos rfl]
        refine Ev.no (by omega) (Ev.yes (by omega) (Ev.yes (by omega) (Ev.yes (by omega) (Ev.yes (by omega) ?_))))
        rw [Int.toNat_natCast, Int.toNat_natCast, extract_mid, List.length_take, Nat.min_eq_left (by omega)]
        exact IH (a + wd) g _ (by omega) (by omega) (by omega) (by simp; omega)
    refine Ev.no hl (Ev.then (ref_digit _) ?_)
    rw [if_neg hl] at htok
    by_cases hdg : digB s[a].toNat = true
    · refine Ev.yes hdg ?_
      rw [if_pos hdg] at htok
      have hw : wh (byB digB) (s.data.toList.drop a) = 1 + wh (byB digB) (s.data.toList.drop (a + 1)) := by rw [hdc, wh_cons, if_pos (show byB digB s[a] = true from hdg)]
      have hle := wh_le (byB digB) (s.data.toList.drop a)
      have key := ref_l3 s (by omega) pre (a : Int) (At s (g + 1) a pre) (s.size - (a + 1)) (a + 1) (by omega) (by omega)
      rw [show a + 1 + wh (byB digB) (s.data.toList.drop (a + 1)) = a + wh (byB digB) (s.data.toList.drop a) by omega] at key
      refine key ?_
      clear key
      have hall := take_wh (byB digB) (s.data.toList.drop a)
      have hnf := numF_ok ((s.data.toList.drop a).take (wh (byB digB) (s.data.toList.drop a)))
      generalize hwd : wh (byB digB) (s.data.toList.drop a) = wd at *
      have hlen : ((s.data.toList.drop a).take wd).length = wd := by rw [List.length_take, Nat.min_eq_left (by omega)]
      unfold exit3
      refine Ev.yes (by omega) (Ev.yes (by omega) (Ev.yes (by omega) ?_))
      rw [Int.toNat_natCast, Int.toNat_natCast, extract_mid]
      refine Ev.bind (number_ev _ (by rw [strOf_size]; omega) (by rw [strOf_list]; exact hall)) ?_
      rw [strOf_list, strOf_size, hlen]
      rw [hlen] at hnf
      cases hok : okN (numL 0 ((s.data.toList.drop a).take wd)) with
      | none =>
        rw [hok] at hnf
        simp only at hnf
        rw [hnf] at htok
        rw [at_tok s g a pre hlt hnb h35 htok]
        exact Ev.no (by simp [numR]) (Ev.now _)
      | some v =>
        rw [hok] at hnf
        simp only at hnf
        by_cases h40 : 40 < wd
        · rw [if_pos h40] at hnf
          rw [hnf] at htok
          rw [at_tok s g a pre hlt hnb h35 htok]
          exact Ev.no (by simp [numR]; omega) (Ev.now _)
        · rw [if_neg h40] at hnf
          rw [hnf] at htok
          rw [at_tok s g a pre hlt hnb h35 htok, if_pos rfl, hlen]
          refine Ev.yes (by simp [numR]; omega) (Ev.yes (by omega) ?_)
          exact IH (a + wd) g _ (by omega) (by omega) (by omega) (by simp; omega)
    refine Ev.no hdg ?_
    rw [if_neg hdg] at htok
    have hone : ∀ b : Bool, b = false → (signF (s.data.toList.drop a) = if oneB s[a] = true then [s[a]] else []) → Ev (fun k => helmsmanref11_Lex.j5 k s pre (a : Int) (s[a].toNat : Int) ((a : Int) + 1) b) (At s (g + 1) a pre) := by
      intro b hb hsg
      refine Ev.step (fun k => helmsmanref11_Lex.j5.eq_2 _ _ _ _ _ _ k) ?_
      refine Ev.no (by rw [hb]; simp) (Ev.bind (one_ev _) ?_)
      by_cases h1 : oneB s[a] = true
      · rw [if_pos h1] at hsg
        rw [hsg, if_neg (by simp)] at htok
        rw [at_tok s g a pre hlt hnb h35 htok, if_pos rfl]
        refine Ev.yes h1 (Ev.yes (by omega) (Ev.yes (by omega) (Ev.yes (by omega) (Ev.yes (by omega) ?_))))
        have he : s.extract (a : Int).toNat ((a : Int) + 1).toNat = strOf [s[a]] := by
          rw [show ((a : Int) + 1).toNat = a + 1 by omega, Int.toNat_natCast, extract_mid, hdc]; rfl
        rw [he]
        exact IH (a + 1) g _ (by omega) (by omega) (by omega) (by simp; omega)
      · rw [if_neg h1] at hsg
        rw [hsg, if_pos rfl] at htok
        rw [at_tok s g a pre hlt hnb h35 htok]
        exact Ev.no h1 (Ev.now _)
    have hw2 : wrap64 ((a : Int) + 2) = ((a + 2 : Nat) : Int) := by rw [wrap64_small (by omega) (by omega)]; omega
    rw [hw2]
    by_cases h2 : a + 2 ≤ s.size
    · refine Ev.yes (by omega) (Ev.yes (by omega) (Ev.yes (by omega) ?_))
      have hdc2 := drop_cons s (a + 1) (by omega)
      have he : s.extract a (a + 2) = strOf [s[a], s[a + 1]] := by rw [extract_mid, hdc, hdc2]; rfl
      rw [Int.toNat_natCast, Int.toNat_natCast, he]
      refine Ev.then (two_eq _ _) ?_
      have hsg : signF (s.data.toList.drop a) = if twoB s[a] s[a + 1] = true then [s[a], s[a + 1]] else if oneB s[a] = true then [s[a]] else [] := by rw [hdc, hdc2]; exact signF_two _ _ _
      by_cases ht : twoB s[a] s[a + 1] = true
      · rw [if_pos ht] at hsg
        rw [hsg, if_neg (by simp)] at htok
        rw [at_tok s g a pre hlt hnb h35 htok, if_pos rfl]
        refine Ev.step (fun k => helmsmanref11_Lex.j5.eq_2 _ _ _ _ _ _ k) ?_
        rw [hw2]
        refine Ev.yes ht (Ev.yes (by omega) (Ev.yes (by omega) (Ev.yes (by omega) (Ev.yes (by omega) ?_))))
        rw [Int.toNat_natCast, Int.toNat_natCast, he]
        exact IH (a + 2) g _ (by omega) (by omega) (by omega) (by simp; omega)
      · rw [if_neg ht] at hsg
        exact hone _ (by simpa using ht) hsg
    · refine Ev.no (by omega) (hone false rfl ?_)
      have : s.data.toList.drop (a + 1) = [] := drop_end s (a + 1) (by omega)
      rw [hdc, this]
      exact signF_one _
  · refine Ev.step (fun k => helmsmanref11_Lex.l0.eq_2 _ _ _ k) ?_
    refine Ev.no (by omega) ?_
    rw [at_end s f a pre hlt]
    exact Ev.now _
theorem ref_lex_ev (s : ByteArray) (hs : s.size ≤ 4096) : Ev (fun k => helmsmanref11_Lex.f k s) (out31 s.size [] (lexA s.data.toList)) := by
  unfold helmsmanref11_Lex.f
  refine Ev.no (by omega) ?_
  have := ref_loop s hs s.size 0 s.data.toList.length [] (by omega) (by omega) (by rw [← size_list]; omega) (Nat.zero_le _)
  unfold At at this
  rw [List.drop_zero, Nat.zero_add] at this
  exact this
theorem ref_lex_long (s : ByteArray) (hs : ¬ s.size ≤ 4096) : Ev (fun k => helmsmanref11_Lex.f k s) ([], 0, 111) := by
  unfold helmsmanref11_Lex.f
  refine Ev.yes (by omega) (Ev.now _)
end Go.Proofs.YtlcbdgkkkljfnaaDoor.P
end

section
/- The plain laws of the lexer. -/
namespace Go.Proofs.YtlcbdgkkkljfnaaDoor.P
open Go Go.RowKit Go.Proofs Go.Proofs.YtlcbdgkkkljfnaaDoor.Lx
open Go.Proofs.YtlcbdgkkkljfnaaDoorW.PrintWords

theorem alive_ev : Ev (fun k => helmsmanlaw11_alive.f k) true := Ev.of (fun k => helmsmanlaw11_alive.mono k) (k := 20) (by kernel_rfl)

theorem reads_loop (l : List Tk) (hl : l.length ≤ 5000) : ∀ (d i : Nat), i ≤ l.length → l.length = i + d →
    Ev (fun k => helmsmanlaw11_LexerReads.l0 k (l.map tok32) (l.map tok31) (l.length : Int) (i : Int)) true := by
  intro d
  induction d with
  | zero =>
    intro i h1 h2
    refine Ev.step (fun k => helmsmanlaw11_LexerReads.l0.eq_2 _ _ _ _ k) ?_
    refine Ev.no (by omega) (Ev.bind alive_ev (Ev.now _))
  | succ d ih =>
    intro i h1 h2
    refine Ev.step (fun k => helmsmanlaw11_LexerReads.l0.eq_2 _ _ _ _ k) ?_
    have hlt : i < l.length := by omega
    refine Ev.yes (by omega) (Ev.yes (by omega) (Ev.yes (by rw [List.length_map]; omega) (Ev.yes (by rw [List.length_map]; omega) ?_)))
    have h32 : rd_T32 (l.map tok32) (i : Int) = tok32 (l[i]'hlt) := by
      unfold rd_T32
      rw [Int.toNat_natCast, List.getD_eq_getElem?_getD, List.getElem?_map, List.getElem?_eq_getElem hlt]; rfl
    have h31 : rd_T31 (l.map tok31) (i : Int) = tok31 (l[i]'hlt) := by
      unfold rd_T31
      rw [Int.toNat_natCast, List.getD_eq_getElem?_getD, List.getElem?_map, List.getElem?_eq_getElem hlt]; rfl
    rw [h32, h31]
    refine Ev.no (by simp [tok32, tok31]) ?_
    rw [wrap64_small (by omega) (by omega)]
    exact ih (i + 1) (by omega) (by omega)
theorem lexS_len : ∀ (f a : Nat) (l : List UInt8) (x : List Tk), lexS f a l = .ok x → x.length ≤ f
  | 0, a, l, x, h => by simp [lexS] at h; subst h; simp
  | f + 1, a, [], x, h => by simp [lexS] at h; subst h; simp
  | f + 1, a, c :: r, x, h => by
    rw [lexS] at h
    split at h
    · revert h
      generalize hq : lexS f _ _ = q
      intro h
      cases q with
      | ok y =>
        have := lexS_len f _ _ y hq
        simp only [LexR.cons, LexR.ok.injEq] at h
        subst h
        simp; omega
      | no b e => cases h
    · cases h

theorem LexerReads : helmsmanlaw11_LexerReads.Pure := by
  intro s hs
  apply Ev.rounds
  unfold helmsmanlaw11_LexerReads.f
  by_cases hbig : (s.size : Int) > 5000
  · exact Ev.yes hbig (Ev.bind alive_ev (Ev.now _))
  refine Ev.no hbig ?_
  by_cases h4 : s.size ≤ 4096
  · refine Ev.bind (lex_ev s h4) (Ev.bind (ref_lex_ev s h4) ?_)
    cases hx : lexA s.data.toList with
    | ok l =>
      have hlen := lexS_len _ _ _ _ hx
      rw [← size_list] at hlen
      simp only [out32, out31, List.nil_append]
      refine Ev.yes trivial (Ev.yes trivial ?_)
      refine Ev.step (fun k => helmsmanlaw11_LexerReads.j0.eq_2 _ _ _ k) ?_
      refine Ev.no (by simp) ?_
      have := reads_loop l (by omega) l.length 0 (by omega) (by omega)
      rw [List.length_map]
      exact this
    | no a e =>
      simp only [out32, out31]
      refine Ev.yes trivial (Ev.yes trivial ?_)
      refine Ev.step (fun k => helmsmanlaw11_LexerReads.j0.eq_2 _ _ _ k) ?_
      refine Ev.no (by simp) ?_
      exact reads_loop [] (by simp) 0 0 (by simp) (by simp)
  · refine Ev.bind (lex_long s h4) (Ev.bind (ref_lex_long s h4) ?_)
    refine Ev.yes rfl (Ev.yes rfl ?_)
    refine Ev.step (fun k => helmsmanlaw11_LexerReads.j0.eq_2 _ _ _ k) ?_
    refine Ev.no (by simp) ?_
    exact reads_loop [] (by simp) 0 0 (by simp) (by simp)

end Go.Proofs.YtlcbdgkkkljfnaaDoor.P
end

section
/- The plain law of LexerPlaces. -/
namespace Go.Proofs.YtlcbdgkkkljfnaaDoor.P
open Go Go.RowKit Go.Proofs Go.Proofs.YtlcbdgkkkljfnaaDoor.Lx
open Go.Proofs.YtlcbdgkkkljfnaaDoorW.PrintWords

theorem skip_take : ∀ (b : Bool) (l : List UInt8), skip b (l.take (skip b l)) = skip b l
  | _, [] => by simp [skip]
  | true, c :: r => by
    have h1 := skip_take false r; have h2 := skip_take true r
    simp only [skip]
    split
    · rename_i h; rw [Nat.add_comm 1, List.take_succ_cons]; simp only [skip]; rw [if_pos h, h1]; omega
    · rename_i h; rw [Nat.add_comm 1, List.take_succ_cons]; simp only [skip]; rw [if_neg h, h2]; omega
  | false, c :: r => by
    have h1 := skip_take false r; have h2 := skip_take true r
    simp only [skip]
    split
    · rename_i h; rw [Nat.add_comm 1, List.take_succ_cons]; simp only [skip]; rw [if_pos h, h1]; omega
    · rename_i h
      split
      · rename_i h'; rw [Nat.add_comm 1, List.take_succ_cons]; simp only [skip]; rw [if_neg h, if_pos h', h2]; omega
      · rfl
theorem lexA_skip (l : List UInt8) : lexA (l.take (skip false l)) = .ok [] := by
  unfold lexA
  rw [skip_take]
  have h := skip_le false l
  have : (l.take (skip false l)).drop (skip false l) = [] := List.drop_eq_nil_of_le (by rw [List.length_take]; omega)
  rw [this]
  cases (l.take (skip false l)).length <;> rfl

/-- The bytes of a token begin the text. -/
theorem signF_pre (l : List UInt8) : signF l <+: l := by
  have h : ∀ (xs : List (List UInt8)) (b : List UInt8), b <+: l → xs.foldl (better l) b <+: l := by
    intro xs
    induction xs with
    | nil => intro b hb; exact hb
    | cons x xs ih =>
      intro b hb
      rw [List.foldl_cons]
      apply ih
      unfold better
      split
      · rename_i h; exact List.isPrefixOf_iff_prefix.mp h.1
      · exact hb
  exact h _ _ List.nil_prefix
theorem tokF_pre : ∀ (l : List UInt8), (tokF l).2.1 <+: l
  | [] => List.nil_prefix
  | c :: r => by
    simp only [tokF]
    split
    · split
      · exact List.nil_prefix
      · exact List.take_prefix _ _
    · split
      · exact List.take_prefix _ _
      · split
        · exact List.nil_prefix
        · exact signF_pre _

/-- Tokens that stand where they say, from a place on: what lies between says nothing. -/
inductive Stand (s : List UInt8) : Nat → List Tk → Prop where
  | nil (e : Nat) : Stand s e []
  | cons (e : Nat) (t : Tk) (r : List Tk) (h1 : t.2.2.2 = e + skip false (s.drop e)) (h2 : t.2.1 <+: s.drop t.2.2.2) (h3 : 1 ≤ t.2.1.length) (h4 : t.2.2.2 + t.2.1.length ≤ s.length) (h : Stand s (t.2.2.2 + t.2.1.length) r) : Stand s e (t :: r)
theorem stand_lexS (s : List UInt8) : ∀ (f e : Nat) (x : List Tk), e ≤ s.length → lexS f (e + skip false (s.drop e)) (s.drop (e + skip false (s.drop e))) = .ok x → Stand s e x
  | 0, e, x, _, h => by simp [lexS] at h; subst h; exact .nil e
  | f + 1, e, x, he, h => by
    have hk := skip_le false (s.drop e)
    rw [List.length_drop] at hk
    generalize ha : e + skip false (s.drop e) = a at *
    cases hd : s.drop a with
    | nil => rw [hd] at h; simp [lexS] at h; subst h; exact .nil e
    | cons c r =>
      rw [hd, lexS] at h
      rw [← hd] at h
      split at h
      · rename_i hok
        rw [List.drop_drop] at h
        simp only [List.drop_drop] at h
        revert h
        generalize hq : lexS f _ _ = q
        intro h
        cases q with
        | no b er => cases h
        | ok y =>
          simp only [LexR.cons, LexR.ok.injEq] at h
          subst h
          have hp := tokF_pre (s.drop a)
          have hl := List.IsPrefix.length_le hp
          rw [List.length_drop] at hl
          have h1 : 1 ≤ (tokF (s.drop a)).2.1.length := by rw [hd] at hok ⊢; exact tokF_pos _ _ hok
          refine .cons e _ _ ha.symm hp h1 (by simp only; omega) ?_
          exact stand_lexS s f (a + (tokF (s.drop a)).2.1.length) y (by omega) hq
      · cases h
theorem stand_drop {s : List UInt8} {e : Nat} {t : Tk} {r : List Tk} (h : Stand s e (t :: r)) : t.2.2.2 = e + skip false (s.drop e) ∧ t.2.1 <+: s.drop t.2.2.2 ∧ 1 ≤ t.2.1.length ∧ t.2.2.2 + t.2.1.length ≤ s.length ∧ Stand s (t.2.2.2 + t.2.1.length) r := by
  cases h with
  | cons e t r h1 h2 h3 h4 h => exact ⟨h1, h2, h3, h4, h⟩

theorem tsum {t : Tk} (h : t.2.2.2 + t.2.1.length ≤ 5000) : wrap64 ((t.2.2.2 : Int) + ((strOf t.2.1).size : Int)) = ((t.2.2.2 + t.2.1.length : Nat) : Int) := by
  rw [strOf_size, wrap64_small (by omega) (by omega)]; omega
theorem isum {i : Nat} (h : i ≤ 5000) : wrap64 ((i : Int) + 1) = ((i + 1 : Nat) : Int) := by rw [wrap64_small (by omega) (by omega)]; omega
theorem places_loop (s : ByteArray) (hs : s.size ≤ 4096) (l : List Tk) (hl : l.length ≤ 5000) : ∀ (d i e : Nat), i ≤ l.length → l.length = i + d → e ≤ s.size → Stand s.data.toList e (l.drop i) →
    Ev (fun k => helmsmanlaw11_LexerPlaces.l0 k s (e : Int) (l.map tok32) (l.length : Int) (i : Int)) true := by
  intro d
  induction d with
  | zero =>
    intro i e h1 h2 he hst
    refine Ev.step (fun k => helmsmanlaw11_LexerPlaces.l0.eq_2 _ _ _ _ _ k) ?_
    exact Ev.no (by omega) (Ev.bind alive_ev (Ev.now _))
  | succ d ih =>
    intro i e h1 h2 he hst
    have hlt : i < l.length := by omega
    refine Ev.step (fun k => helmsmanlaw11_LexerPlaces.l0.eq_2 _ _ _ _ _ k) ?_
    refine Ev.yes (by omega) (Ev.yes (by omega) (Ev.yes (by rw [List.length_map]; omega) ?_))
    have h32 : rd_T32 (l.map tok32) (i : Int) = tok32 (l[i]'hlt) := by
      unfold rd_T32
      rw [Int.toNat_natCast, List.getD_eq_getElem?_getD, List.getElem?_map, List.getElem?_eq_getElem hlt]; rfl
    rw [h32]
    rw [List.drop_eq_getElem_cons hlt] at hst
    obtain ⟨g1, g2, g3, g4, g5⟩ := stand_drop hst
    generalize l[i]'hlt = t at *
    rw [← size_list] at g4
    have hsz : ((strOf t.2.1).size : Int) = (t.2.1.length : Int) := by rw [strOf_size]
    have hsk := skip_le false (s.data.toList.drop e)
    rw [List.length_drop, ← size_list] at hsk
    have h5 : t.2.2.2 + t.2.1.length ≤ 5000 := by omega
    simp only [tok32, tsum h5, Int.toNat_natCast, extract_mid, toList_data, strOf_list]
    refine Ev.no (by omega) ?_
    refine Ev.no (by omega) ?_
    refine Ev.yes (by omega) ?_
    refine Ev.yes (by omega) ?_
    refine Ev.yes (by omega) ?_
    refine Ev.yes (List.prefix_iff_eq_take.mp g2).symm ?_
    refine Ev.step (fun k => helmsmanlaw11_LexerPlaces.j2.eq_2 _ _ _ _ _ _ _ _ _ _ k) ?_
    refine Ev.no (by rw [strOf_size]; simp only [beq_iff_eq]; omega) (Ev.yes (by omega) (Ev.yes (by omega) (Ev.yes (by omega) ?_)))
    simp only [Int.toNat_natCast]
    have hex : s.extract e t.2.2.2 = strOf ((s.data.toList.drop e).take (skip false (s.data.toList.drop e))) := by rw [g1, extract_mid]
    rw [hex]
    have href := ref_lex_ev (strOf ((s.data.toList.drop e).take (skip false (s.data.toList.drop e)))) (by rw [strOf_size, List.length_take]; omega)
    rw [strOf_list, lexA_skip] at href
    refine Ev.bind href ?_
    refine Ev.yes rfl (Ev.no (by simp [out31]) ?_)
    simp only [tsum h5, isum (show i ≤ 5000 by omega)]
    have := ih (i + 1) (t.2.2.2 + t.2.1.length) (by omega) (by omega) (by omega) g5
    exact this
theorem LexerPlaces : helmsmanlaw11_LexerPlaces.Pure := by
  intro s hs
  apply Ev.rounds
  unfold helmsmanlaw11_LexerPlaces.f
  have stop : Ev (fun k => helmsmanlaw11_LexerPlaces.j0 k s [] true) true := by
    refine Ev.step (fun k => helmsmanlaw11_LexerPlaces.j0.eq_2 _ _ _ k) ?_
    exact Ev.yes rfl (Ev.bind alive_ev (Ev.now _))
  by_cases h4 : s.size ≤ 4096
  · refine Ev.bind (lex_ev s h4) ?_
    cases hx : lexA s.data.toList with
    | ok l =>
      have hlen := lexS_len _ _ _ _ hx
      rw [← size_list] at hlen
      simp only [out32, List.nil_append]
      refine Ev.yes trivial ?_
      refine Ev.step (fun k => helmsmanlaw11_LexerPlaces.j0.eq_2 _ _ _ k) ?_
      refine Ev.no (by simp; omega) ?_
      have hst : Stand s.data.toList 0 l := stand_lexS s.data.toList _ 0 l (Nat.zero_le _) (by rw [Nat.zero_add, List.drop_zero]; exact hx)
      have := places_loop s h4 l (by omega) l.length 0 0 (by omega) (by omega) (by omega) (by rw [List.drop_zero]; exact hst)
      rw [List.length_map]
      exact this
    | no a e =>
      simp only [out32]
      by_cases he : e = 0
      · refine Ev.yes he ?_
        refine Ev.step (fun k => helmsmanlaw11_LexerPlaces.j0.eq_2 _ _ _ k) ?_
        refine Ev.no (by simp; omega) ?_
        exact places_loop s h4 [] (by simp) 0 0 0 (by simp) (by simp) (by omega) (.nil 0)
      · refine Ev.no he stop
  · refine Ev.bind (lex_long s h4) ?_
    refine Ev.no (by simp) stop
end Go.Proofs.YtlcbdgkkkljfnaaDoor.P
end

section
namespace Go.Proofs.YtlcbdgkkkljfnaaDoor.lexerPlaces
open Go.ChangeShapes Go.WideShapes Go.ChangeAt Go.RowKit
open Go.ChangeMaps (open_string shut_string)
set_option linter.unusedVariables false

theorem reads (os : Os) {H : Type} (enc : TypeId × Value → H) : ∃ places, DataW.whole enc Tryd.prog ((laidWorld os).forCall (fun _ _ => 0) ⟨#[], #[.string ByteArray.empty], []⟩).memory Tryd.f7.params.toList Rows.lexerPlacesSpec.vars false (#[Value.string ByteArray.empty] : Array Value).toList 8 = some ([.lit (.string [])], [], places) :=
  ⟨[], by kernel_rfl⟩

set_option maxRecDepth 100000 in
theorem lifted (os : Os) (started : os.Started) (H : Type) (enc : TypeId × Value → H) (F : Stop.Interp) :
    ReturnsInHanded {} Tryd.checked os 7 .any ((OpenSpec.ofChange Rows.lexerPlacesSpec).preRow enc Tryd.prog Tryd.f7 Rows.lexerPlacesRow.domain false Rows.lexerPlacesRow.laid) (((OpenSpec.ofChange Rows.lexerPlacesSpec).at F).post enc Tryd.prog Tryd.f7 false true false false) := by
  obtain ⟨places, hx⟩ := reads os enc
  refine returnsInHanded_of_row (C := Tryd.checked) (s := OpenSpec.ofChange Rows.lexerPlacesSpec) own started (by kernel_rfl) Tryd.func7
    (witness_row_atRef (enc := enc) (C := Tryd.checked) false (laidWorld os) #[.string ByteArray.empty] rfl (by kernel_rfl) (by kernel_rfl) (by kernel_rfl)
      (OpenSpec.preRow_of_cond 8 hx (by kernel_rfl) (fun k hk => by cases hk) (by kernel_rfl) (laid_met os _))) ?_
  intro W base args ds gs before hval0 hW _ _ hsz0 hL _ _
  have hsz : (DataW.weightsEach Tryd.prog (Tryd.f7.params.toList ++ Rows.lexerPlacesSpec.plain.varTypes Tryd.prog) (ds ++ gs)).all (· ≤ reachBytes) = true := hsz0
  have hval : ∀ (j : Nat) t v, Tryd.f7.params[j]? = some t → args[j]? = some v → Value.okWide Tryd.prog W .any base t v := hval0
  have hW' := hW
  obtain ⟨p, q, hA0, hV, rfl, hfz, hnd⟩ := hW
  have hA : DataW.TrodAll enc Tryd.prog W 0 (fun _ => true) true Tryd.f7.params.toList args.toList ds p := hA0
  rw [Tryd.params7] at hA hval hsz
  obtain ⟨v0, vs0, d0, ds0, p0, q0, hargs, rfl, rfl, h0, r0⟩ := trodAll_cons hA
  obtain ⟨rfl, rfl, rfl⟩ := trodAll_nil r0
  obtain rfl : args = #[v0] := by cases args; simp_all
  obtain ⟨rfl, rfl⟩ := trodVars_none hV
  obtain ⟨a0, rfl, rfl, rfl, y0⟩ := open_string Tryd.underlying9 (hval 0 9 v0 rfl rfl) h0
  have w0 : a0.size ≤ 140737488351232 := by
    have z := sized_string hsz (j := 0) (t := 9) rfl rfl
    rw [Array.length_toList] at z
    exact z
  have hT : P.TabT W := tabs hL
  clear hA0 hval0 hsz0 hsz
  refine (P.helmsmanlaw11_LexerPlaces.walk P.LexerPlaces a0 W hT w0).mono fun e W' ⟨he, bel⟩ => ?_
  subst he
  exact ⟨_, rfl, _, _, _, [], _, [], hW', trodAll_mk1 (shut_bool Tryd.underlying4 _), (trodAll_cons_mk (shut_string Tryd.underlying9 y0) trodAll_mk0), rfl, bel.frame _, fun h => by cases h⟩

theorem said : Rows.LexerPlacesSaid :=
  OpenClaim.holds_of_cond 7 Tryd.f7 rfl rfl rfl rfl rfl rfl rfl ⟨rfl, rfl, rfl, rfl, rfl⟩ rfl rfl rfl rfl rfl (by kernel_rfl) Tryd.func7 (by kernel_rfl)
    (of_decide_eq_true (by kernel_rfl)) (by unfold Func.isWrapper; first | (rw [if_pos (by decide +kernel)]; kernel_rfl) | (rw [if_neg (by decide +kernel)]; exact ⟨rfl, rfl⟩))
    (fun os started H enc _ F => by rw [OpenClaim.pre_eq_preRow]; exact lifted os started H enc F)

theorem plain (f : FuncId) (fn : Func) (hf : Tryd.pinned.checked.prog.funcNamed Rows.lexerPlacesRow.func = some f) (hfn : Tryd.pinned.checked.prog.funcs[f]? = some fn) :
    false = Tryd.pinned.checked.prog.looks [] ∧ ∀ (j : Nat) t, fn.params[j]? = some t → Tryd.pinned.checked.prog.wantsStandIn t = false := by
  obtain rfl : f = 7 := Option.some.inj ((show Tryd.prog.funcNamed Rows.lexerPlacesRow.func = some 7 by kernel_rfl).symm.trans hf) |>.symm
  obtain rfl : fn = Tryd.f7 := (Option.some.inj (Tryd.func7.symm.trans hfn)).symm
  refine ⟨by kernel_rfl, fun j t ht => ?_⟩
  rw [Tryd.params7] at ht
  have ht2 := Array.mem_of_getElem? ht
  have ht3 : t = 9 := by simpa using ht2
  obtain rfl := ht3
  exact (show Tryd.prog.wantsStandIn 9 = false by kernel_rfl)
end Go.Proofs.YtlcbdgkkkljfnaaDoor.lexerPlaces
namespace Go.Proofs.YtlcbdgkkkljfnaaDoor
theorem lexerPlaces_holds : Rows.LexerPlacesCardSaid :=
  Claim7.holds_tied_plain_at .later [] _ _ _ _ lexerPlaces.said (fun _ h => by cases h) (by kernel_rfl) (fun _ h => by cases h) lexerPlaces_row_tie rfl ⟨rfl, rfl⟩ (by kernel_rfl) rfl lexerPlaces.plain (by kernel_rfl)
#print axioms lexerPlaces_holds
end Go.Proofs.YtlcbdgkkkljfnaaDoor
end
