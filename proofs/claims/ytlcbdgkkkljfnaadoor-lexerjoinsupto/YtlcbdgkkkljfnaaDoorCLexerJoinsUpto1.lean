/- Texts of this claim, joined: Pxf8, Pxf4, Pxf17, Pxf18, Pxf19, Pxf20, Pxf21. -/
import Derived.Test.YtlcbdgkkkljfnaaDoorCLexerJoinsUpto0
section
namespace Go.Proofs.YtlcbdgkkkljfnaaDoor.P
open Go.RowKit Go.Proofs.YtlcbdgkkkljfnaaDoorW.PrintWords Go.Proofs.YtlcbdgkkkljfnaaDoorW.PrintLast Go.Proofs.YtlcbdgkkkljfnaaDoorW.PrintMore
attribute [local go_sem low] cell_set_at
attribute [local go_sem] max2_int min2_int max_two min_two max_three min_three max_four min_four   -- for this text's walks alone
set_option linter.unusedVariables false
set_option linter.unusedSimpArgs false

/-! ### helmsmanlaw11_alive: function 8 -/
def helmsmanlaw11_alive.f (k : Nat)  : Option (Bool) := (lexer_Lex.f k (⟨#[120, 60, 61, 49, 50, 59, 32, 35, 32, 121]⟩ : ByteArray)).bind fun bt135 => ((lexer_Lex.f k (⟨#[97, 32, 36]⟩ : ByteArray)).bind fun bt140 => ((lexer_Line.f (⟨#[97, 10, 98, 99]⟩ : ByteArray) 3).bind fun bt145 => (if bt135.2.2 = 0 then (if bt135.2.1 = 10 then (if (bt135.1.length : Int) = 4 then (if 1 < (bt135.1.length : Int) then (if ((rd_T32 bt135.1 1).f1).toList = ([60, 61] : List UInt8) then (if 2 < (bt135.1.length : Int) then (if ((rd_T32 bt135.1 2).f2) = 12 then (if 3 < (bt135.1.length : Int) then (if ((rd_T32 bt135.1 3).f3) = 5 then (if bt140.2.1 = 2 then (if bt140.2.2 = 110 then ((lexer_Join.f k bt135.1).bind fun t150 => (if t150.toList = ([120, 32, 60, 61, 32, 49, 50, 32, 59] : List UInt8) then (if 0 < (bt135.1.length : Int) then ((lexer_Right.f k ((rd_T32 bt135.1 0).f0) ((rd_T32 bt135.1 0).f1) ((rd_T32 bt135.1 0).f2) ((rd_T32 bt135.1 0).f3)).bind fun t152 => (if t152 = true then (if bt145.1 = 2 then (some (bt145.2 == 2)) else (some false)) else (some false))) else (none)) else (some false))) else (some false)) else (some false)) else (some false)) else (none)) else (some false)) else (none)) else (some false)) else (none)) else (some false)) else (some false)) else (some false))))
theorem helmsmanlaw11_alive.mono : ∀ k, LeO (helmsmanlaw11_alive.f k ) (helmsmanlaw11_alive.f (k + 1) ) := by
  intro  k
  unfold helmsmanlaw11_alive.f
  repeat' first
      | (with_reducible exact lexer_Join.mono _ _)
      | (with_reducible exact lexer_Lex.mono _ _)
      | (with_reducible exact lexer_Right.mono _ _ _ _ _)
      | (with_reducible exact LeO.refl _)
      | (with_reducible exact LeO.none _)
      | (with_reducible refine LeO.ite ?_ ?_)
      | (with_reducible refine LeO.bind ?_ (fun _ => ?_))
      | exact lexer_Join.mono _ _
      | exact lexer_Lex.mono _ _
      | exact lexer_Right.mono _ _ _ _ _
      | exact LeO.none _
      | refine LeO.ite ?_ ?_
      | refine LeO.bind ?_ (fun _ => ?_)
set_option maxHeartbeats 8000000 in
set_option maxRecDepth 100000 in
theorem helmsmanlaw11_alive.calls (k : Nat)  (r : Bool) (w : World) (hT : TabT w) (h : helmsmanlaw11_alive.f k  = some r) :
    Calls Tryd.prog 8 #[] w fun e w' => e = .returned (.bool r) ∧ Below w.heap.size w w' := by
  have hu32 := Tryd.underlying32
  have HB := Aside0.mk (Below.refl w.heap.size w)
  have H : ((lexer_Lex.f k (⟨#[120, 60, 61, 49, 50, 59, 32, 35, 32, 121]⟩ : ByteArray)).bind fun bt135 => ((lexer_Lex.f k (⟨#[97, 32, 36]⟩ : ByteArray)).bind fun bt140 => ((lexer_Line.f (⟨#[97, 10, 98, 99]⟩ : ByteArray) 3).bind fun bt145 => (if bt135.2.2 = 0 then (if bt135.2.1 = 10 then (if (bt135.1.length : Int) = 4 then (if 1 < (bt135.1.length : Int) then (if ((rd_T32 bt135.1 1).f1).toList = ([60, 61] : List UInt8) then (if 2 < (bt135.1.length : Int) then (if ((rd_T32 bt135.1 2).f2) = 12 then (if 3 < (bt135.1.length : Int) then (if ((rd_T32 bt135.1 3).f3) = 5 then (if bt140.2.1 = 2 then (if bt140.2.2 = 110 then ((lexer_Join.f k bt135.1).bind fun t150 => (if t150.toList = ([120, 32, 60, 61, 32, 49, 50, 32, 59] : List UInt8) then (if 0 < (bt135.1.length : Int) then ((lexer_Right.f k ((rd_T32 bt135.1 0).f0) ((rd_T32 bt135.1 0).f1) ((rd_T32 bt135.1 0).f2) ((rd_T32 bt135.1 0).f3)).bind fun t152 => (if t152 = true then (if bt145.1 = 2 then (some (bt145.2 == 2)) else (some false)) else (some false))) else (none)) else (some false))) else (some false)) else (some false)) else (some false)) else (none)) else (some false)) else (none)) else (some false)) else (none)) else (some false)) else (some false)) else (some false))))) = some r := h
  clear h
  replace H := Option.bind_eq_some_iff.mp H
  obtain ⟨⟨t135, t136, t137⟩, A10, H⟩ := H
  replace H : ((lexer_Lex.f k (⟨#[97, 32, 36]⟩ : ByteArray)).bind fun bt140 => ((lexer_Line.f (⟨#[97, 10, 98, 99]⟩ : ByteArray) 3).bind fun bt145 => (if t137 = 0 then (if t136 = 10 then (if (t135.length : Int) = 4 then (if 1 < (t135.length : Int) then (if ((rd_T32 t135 1).f1).toList = ([60, 61] : List UInt8) then (if 2 < (t135.length : Int) then (if ((rd_T32 t135 2).f2) = 12 then (if 3 < (t135.length : Int) then (if ((rd_T32 t135 3).f3) = 5 then (if bt140.2.1 = 2 then (if bt140.2.2 = 110 then ((lexer_Join.f k t135).bind fun t150 => (if t150.toList = ([120, 32, 60, 61, 32, 49, 50, 32, 59] : List UInt8) then (if 0 < (t135.length : Int) then ((lexer_Right.f k ((rd_T32 t135 0).f0) ((rd_T32 t135 0).f1) ((rd_T32 t135 0).f2) ((rd_T32 t135 0).f3)).bind fun t152 => (if t152 = true then (if bt145.1 = 2 then (some (bt145.2 == 2)) else (some false)) else (some false))) else (none)) else (some false))) else (some false)) else (some false)) else (some false)) else (none)) else (some false)) else (none)) else (some false)) else (none)) else (some false)) else (some false)) else (some false)))) = some r := H
  have A1 := Aside0.mk A10
  clear A10
  replace H := Option.bind_eq_some_iff.mp H
  obtain ⟨⟨t140, t141, t142⟩, A20, H⟩ := H
  replace H : ((lexer_Line.f (⟨#[97, 10, 98, 99]⟩ : ByteArray) 3).bind fun bt145 => (if t137 = 0 then (if t136 = 10 then (if (t135.length : Int) = 4 then (if 1 < (t135.length : Int) then (if ((rd_T32 t135 1).f1).toList = ([60, 61] : List UInt8) then (if 2 < (t135.length : Int) then (if ((rd_T32 t135 2).f2) = 12 then (if 3 < (t135.length : Int) then (if ((rd_T32 t135 3).f3) = 5 then (if t141 = 2 then (if t142 = 110 then ((lexer_Join.f k t135).bind fun t150 => (if t150.toList = ([120, 32, 60, 61, 32, 49, 50, 32, 59] : List UInt8) then (if 0 < (t135.length : Int) then ((lexer_Right.f k ((rd_T32 t135 0).f0) ((rd_T32 t135 0).f1) ((rd_T32 t135 0).f2) ((rd_T32 t135 0).f3)).bind fun t152 => (if t152 = true then (if bt145.1 = 2 then (some (bt145.2 == 2)) else (some false)) else (some false))) else (none)) else (some false))) else (some false)) else (some false)) else (some false)) else (none)) else (some false)) else (none)) else (some false)) else (none)) else (some false)) else (some false)) else (some false))) = some r := H
  have A2 := Aside0.mk A20
  clear A20
  replace H := Option.bind_eq_some_iff.mp H
  obtain ⟨⟨t145, t146⟩, A30, H⟩ := H
  replace H : (if t137 = 0 then (if t136 = 10 then (if (t135.length : Int) = 4 then (if 1 < (t135.length : Int) then (if ((rd_T32 t135 1).f1).toList = ([60, 61] : List UInt8) then (if 2 < (t135.length : Int) then (if ((rd_T32 t135 2).f2) = 12 then (if 3 < (t135.length : Int) then (if ((rd_T32 t135 3).f3) = 5 then (if t141 = 2 then (if t142 = 110 then ((lexer_Join.f k t135).bind fun t150 => (if t150.toList = ([120, 32, 60, 61, 32, 49, 50, 32, 59] : List UInt8) then (if 0 < (t135.length : Int) then ((lexer_Right.f k ((rd_T32 t135 0).f0) ((rd_T32 t135 0).f1) ((rd_T32 t135 0).f2) ((rd_T32 t135 0).f3)).bind fun t152 => (if t152 = true then (if t145 = 2 then (some (t146 == 2)) else (some false)) else (some false))) else (none)) else (some false))) else (some false)) else (some false)) else (some false)) else (none)) else (some false)) else (none)) else (some false)) else (none)) else (some false)) else (some false)) else (some false)) = some r := H
  have A3 := Aside0.mk A30
  clear A30
  by_cases c4 : t137 = 0
  · rw [if_pos c4] at H
    have c4b0 : (t137 == 0) = true := beq_iff_eq.mpr c4
    have c4b1 : (t137 != 0) = false := bne_eq_false_iff_eq.mpr c4
    clear c4
    by_cases c5 : t136 = 10
    · rw [if_pos c5] at H
      have c5b0 : (t136 == 10) = true := beq_iff_eq.mpr c5
      have c5b1 : (t136 != 10) = false := bne_eq_false_iff_eq.mpr c5
      clear c5
      by_cases c6 : (t135.length : Int) = 4
      · rw [if_pos c6] at H
        have c6b0 : ((t135.length : Int) == 4) = true := beq_iff_eq.mpr c6
        have c6b1 : ((t135.length : Int) != 4) = false := bne_eq_false_iff_eq.mpr c6
        clear c6
        by_cases c7 : 1 < (t135.length : Int)
        · rw [if_pos c7] at H
          have c7b0 : decide (1 < (t135.length : Int)) = true := decide_eq_true c7
          have c7b1 : decide (1 < t135.length) = true := decide_eq_true (by omega)
          clear c7
          by_cases c8 : ((rd_T32 t135 1).f1).toList = ([60, 61] : List UInt8)
          · rw [if_pos c8] at H
            have c8b0 : (((rd_T32 t135 1).f1).toList == ([60, 61] : List UInt8)) = true := beq_iff_eq.mpr c8
            have c8b1 : (((rd_T32 t135 1).f1).toList != ([60, 61] : List UInt8)) = false := bne_eq_false_iff_eq.mpr c8
            clear c8
            by_cases c9 : 2 < (t135.length : Int)
            · rw [if_pos c9] at H
              have c9b0 : decide (2 < (t135.length : Int)) = true := decide_eq_true c9
              have c9b1 : decide (2 < t135.length) = true := decide_eq_true (by omega)
              clear c9
              by_cases c10 : ((rd_T32 t135 2).f2) = 12
              · rw [if_pos c10] at H
                have c10b0 : (((rd_T32 t135 2).f2) == 12) = true := beq_iff_eq.mpr c10
                have c10b1 : (((rd_T32 t135 2).f2) != 12) = false := bne_eq_false_iff_eq.mpr c10
                clear c10
                by_cases c11 : 3 < (t135.length : Int)
                · rw [if_pos c11] at H
                  have c11b0 : decide (3 < (t135.length : Int)) = true := decide_eq_true c11
                  have c11b1 : decide (3 < t135.length) = true := decide_eq_true (by omega)
                  clear c11
                  by_cases c12 : ((rd_T32 t135 3).f3) = 5
                  · rw [if_pos c12] at H
                    have c12b0 : (((rd_T32 t135 3).f3) == 5) = true := beq_iff_eq.mpr c12
                    have c12b1 : (((rd_T32 t135 3).f3) != 5) = false := bne_eq_false_iff_eq.mpr c12
                    clear c12
                    by_cases c13 : t141 = 2
                    · rw [if_pos c13] at H
                      have c13b0 : (t141 == 2) = true := beq_iff_eq.mpr c13
                      have c13b1 : (t141 != 2) = false := bne_eq_false_iff_eq.mpr c13
                      clear c13
                      by_cases c14 : t142 = 110
                      · rw [if_pos c14] at H
                        have c14b0 : (t142 == 110) = true := beq_iff_eq.mpr c14
                        have c14b1 : (t142 != 110) = false := bne_eq_false_iff_eq.mpr c14
                        clear c14
                        replace H := Option.bind_eq_some_iff.mp H
                        obtain ⟨t150, A150, H⟩ := H
                        replace H : (if t150.toList = ([120, 32, 60, 61, 32, 49, 50, 32, 59] : List UInt8) then (if 0 < (t135.length : Int) then ((lexer_Right.f k ((rd_T32 t135 0).f0) ((rd_T32 t135 0).f1) ((rd_T32 t135 0).f2) ((rd_T32 t135 0).f3)).bind fun t152 => (if t152 = true then (if t145 = 2 then (some (t146 == 2)) else (some false)) else (some false))) else (none)) else (some false)) = some r := H
                        have A15 := Aside0.mk A150
                        clear A150
                        by_cases c16 : t150.toList = ([120, 32, 60, 61, 32, 49, 50, 32, 59] : List UInt8)
                        · rw [if_pos c16] at H
                          have c16b0 : (t150.toList == ([120, 32, 60, 61, 32, 49, 50, 32, 59] : List UInt8)) = true := beq_iff_eq.mpr c16
                          have c16b1 : (t150.toList != ([120, 32, 60, 61, 32, 49, 50, 32, 59] : List UInt8)) = false := bne_eq_false_iff_eq.mpr c16
                          clear c16
                          by_cases c17 : 0 < (t135.length : Int)
                          · rw [if_pos c17] at H
                            have c17b0 : decide (0 < (t135.length : Int)) = true := decide_eq_true c17
                            have c17b1 : decide (0 < t135.length) = true := decide_eq_true (by omega)
                            clear c17
                            replace H := Option.bind_eq_some_iff.mp H
                            obtain ⟨t152, A180, H⟩ := H
                            replace H : (if t152 = true then (if t145 = 2 then (some (t146 == 2)) else (some false)) else (some false)) = some r := H
                            have A18 := Aside0.mk A180
                            clear A180
                            by_cases c19 : t152 = true
                            · subst c19
                              have H1 : (if t145 = 2 then (some (t146 == 2)) else (some false)) = some r := by rw [if_pos rfl] at H; exact H
                              clear H
                              have H := H1
                              clear H1
                              by_cases c20 : t145 = 2
                              · rw [if_pos c20] at H
                                have c20b0 : (t145 == 2) = true := beq_iff_eq.mpr c20
                                have c20b1 : (t145 != 2) = false := bne_eq_false_iff_eq.mpr c20
                                clear c20
                                obtain rfl := Option.some.inj H
                                go_enter Tryd.func8, Tryd.ntmps8
                                go_wp2_with (first | ((with_reducible refine gate_callee (f := 9) rfl ?_); refine goesL_ (some 10) rfl rfl Tryd.func9 (by kernel_rfl) rfl #[.string (⟨#[120, 60, 61, 49, 50, 59, 32, 35, 32, 121]⟩ : ByteArray)] rfl (by (try simp only [List.map_toArray, List.map_cons, List.map_nil]); first | done | rfl | (simp only [List.length_drop, List.length_take]; rfl)) ?_; (with_reducible refine (lexer_Lex.calls k (⟨#[120, 60, 61, 49, 50, 59, 32, 35, 32, 121]⟩ : ByteArray) t135 t136 t137 _ ?side1 A1.out).mono ?_); (case side1 => exact hT.later (by repeat (first | (with_reducible first | exact HB.out | apply below_alloc | apply pw_below_drewN | apply below_drew1) | exact HB.out))); rintro e w21 ⟨v138, rfl, ho0, hb⟩; refine ⟨_, rfl, ?_⟩; have n0_ := Aside0.mk (Kd.R_lower ho0 (below_size (by repeat (first | (with_reducible first | exact HB.out | apply below_alloc | apply pw_below_drewN | apply below_drew1) | exact HB.out)))); have n1_ := Aside0.mk (below_step (by repeat (first | (with_reducible first | exact HB.out | apply below_alloc | apply pw_below_drewN | apply below_drew1) | exact HB.out)) hb); clear HB; have HO139 := n0_; have HB := n1_; clear n0_ n1_; (try clear hb); (try clear hb2); (try clear hk); (try clear hi); (try clear ho0)) | ((with_reducible refine gate_callee (f := 9) rfl ?_); refine goesL_ (some 15) rfl rfl Tryd.func9 (by kernel_rfl) rfl #[.string (⟨#[97, 32, 36]⟩ : ByteArray)] rfl (by (try simp only [List.map_toArray, List.map_cons, List.map_nil]); first | done | rfl | (simp only [List.length_drop, List.length_take]; rfl)) ?_; (with_reducible refine (lexer_Lex.calls k (⟨#[97, 32, 36]⟩ : ByteArray) t140 t141 t142 _ ?side1 A2.out).mono ?_); (case side1 => exact hT.later (by repeat (first | (with_reducible first | exact HB.out | apply below_alloc | apply pw_below_drewN | apply below_drew1) | exact HB.out))); rintro e w22 ⟨v143, rfl, ho0, hb⟩; refine ⟨_, rfl, ?_⟩; have n0_ := Aside0.mk (Kd.R_elder' (by (with_reducible repeat (first | apply Kd.R_alloc | apply Kd.R_drewN | apply Kd.R_drew)); exact HO139.out) (Kd.R_base ho0) hb); have n1_ := Aside0.mk (Kd.R_lower (Kd.R_new' ho0 (Kd.R_lt (by (with_reducible repeat (first | apply Kd.R_alloc | apply Kd.R_drewN | apply Kd.R_drew)); exact HO139.out))) (below_size (by repeat (first | (with_reducible first | exact HB.out | apply below_alloc | apply pw_below_drewN | apply below_drew1) | exact HB.out)))); have n2_ := Aside0.mk (below_step (by repeat (first | (with_reducible first | exact HB.out | apply below_alloc | apply pw_below_drewN | apply below_drew1) | exact HB.out)) hb); clear HO139; clear HB; have HO139 := n0_; have HO144 := n1_; have HB := n2_; clear n0_ n1_ n2_; (try clear hb); (try clear hb2); (try clear hk); (try clear hi); (try clear ho0)) | ((with_reducible refine gate_callee (f := 13) rfl ?_); refine goesL_ (some 20) rfl rfl Tryd.func13 (by kernel_rfl) rfl #[.string (⟨#[97, 10, 98, 99]⟩ : ByteArray), .int .i64 3] rfl (by (try simp only [List.map_toArray, List.map_cons, List.map_nil]); first | done | rfl | (simp only [List.length_drop, List.length_take]; rfl)) ?_; (with_reducible refine (lexer_Line.calls (⟨#[97, 10, 98, 99]⟩ : ByteArray) 3 t145 t146 _ A3.out).mono ?_); rintro e w23 ⟨rfl, hb⟩; refine ⟨_, rfl, ?_⟩; have n0_ := Aside0.mk (Kd.R_below (by (with_reducible repeat (first | apply Kd.R_alloc | apply Kd.R_drewN | apply Kd.R_drew)); exact HO139.out) hb); have n1_ := Aside0.mk (Kd.R_below (by (with_reducible repeat (first | apply Kd.R_alloc | apply Kd.R_drewN | apply Kd.R_drew)); exact HO144.out) hb); have n2_ := Aside0.mk (below_step (by repeat (first | (with_reducible first | exact HB.out | apply below_alloc | apply pw_below_drewN | apply below_drew1) | exact HB.out)) hb); clear HO139; clear HO144; clear HB; have HO139 := n0_; have HO144 := n1_; have HB := n2_; clear n0_ n1_ n2_; (try clear hb); (try clear hb2); (try clear hk); (try clear hi); obtain ⟨Ao24, co24, eo24⟩ := Kd.R_slice HO139.out; subst eo24; have p147 : 0 ≤ (1 : Int) := (by omega); have q147 : 1 < (t135.length : Int) := of_decide_eq_true (by first | (with_reducible assumption) | assumption); obtain ⟨ad147, e147, hx147_0, hx147_1, hx147_2, hx147_3⟩ := at_T32 (Kd.R_reads' HO139.out).2.2 1 p147 q147; cases e147; (try simp only [show (1 : Int).toNat = 1 from rfl, Nat.reduceMul, Nat.reduceEqDiff, Go.Addr.add, ↓reduceIte] at hx147_0); (try simp only [show (1 : Int).toNat = 1 from rfl, Nat.reduceMul, Nat.reduceEqDiff, Go.Addr.add, ↓reduceIte] at hx147_1); (try simp only [show (1 : Int).toNat = 1 from rfl, Nat.reduceMul, Nat.reduceEqDiff, Go.Addr.add, ↓reduceIte] at hx147_2); (try simp only [show (1 : Int).toNat = 1 from rfl, Nat.reduceMul, Nat.reduceEqDiff, Go.Addr.add, ↓reduceIte] at hx147_3); have qi147 : (1 < t135.length) = True := eq_true (by omega); (try rw [show ((1 : Int)).toNat = 1 from rfl] at hx147_0); (try rw [show 1 * 4 = 4 from rfl] at hx147_0); (try rw [show ((1 : Int)).toNat = 1 from rfl] at hx147_1); (try rw [show 1 * 4 = 4 from rfl] at hx147_1); (try rw [show ((1 : Int)).toNat = 1 from rfl] at hx147_2); (try rw [show 1 * 4 = 4 from rfl] at hx147_2); (try rw [show ((1 : Int)).toNat = 1 from rfl] at hx147_3); (try rw [show 1 * 4 = 4 from rfl] at hx147_3); replace p147 := eq_true p147; replace q147 := eq_true q147; have p148 : 0 ≤ (2 : Int) := (by omega); have q148 : 2 < (t135.length : Int) := of_decide_eq_true (by first | (with_reducible assumption) | assumption); obtain ⟨ad148, e148, hx148_0, hx148_1, hx148_2, hx148_3⟩ := at_T32 (Kd.R_reads' HO139.out).2.2 2 p148 q148; obtain rfl : ad147 = ad148 := (by injection e148); (try simp only [show (2 : Int).toNat = 2 from rfl, Nat.reduceMul, Nat.reduceEqDiff, Go.Addr.add, ↓reduceIte] at hx148_0); (try simp only [show (2 : Int).toNat = 2 from rfl, Nat.reduceMul, Nat.reduceEqDiff, Go.Addr.add, ↓reduceIte] at hx148_1); (try simp only [show (2 : Int).toNat = 2 from rfl, Nat.reduceMul, Nat.reduceEqDiff, Go.Addr.add, ↓reduceIte] at hx148_2); (try simp only [show (2 : Int).toNat = 2 from rfl, Nat.reduceMul, Nat.reduceEqDiff, Go.Addr.add, ↓reduceIte] at hx148_3); have qi148 : (2 < t135.length) = True := eq_true (by omega); (try rw [show ((2 : Int)).toNat = 2 from rfl] at hx148_0); (try rw [show 2 * 4 = 8 from rfl] at hx148_0); (try rw [show ((2 : Int)).toNat = 2 from rfl] at hx148_1); (try rw [show 2 * 4 = 8 from rfl] at hx148_1); (try rw [show ((2 : Int)).toNat = 2 from rfl] at hx148_2); (try rw [show 2 * 4 = 8 from rfl] at hx148_2); (try rw [show ((2 : Int)).toNat = 2 from rfl] at hx148_3); (try rw [show 2 * 4 = 8 from rfl] at hx148_3); replace p148 := eq_true p148; replace q148 := eq_true q148; have p149 : 0 ≤ (3 : Int) := (by omega); have q149 : 3 < (t135.length : Int) := of_decide_eq_true (by first | (with_reducible assumption) | assumption); obtain ⟨ad149, e149, hx149_0, hx149_1, hx149_2, hx149_3⟩ := at_T32 (Kd.R_reads' HO139.out).2.2 3 p149 q149; obtain rfl : ad147 = ad149 := (by injection e149); (try simp only [show (3 : Int).toNat = 3 from rfl, Nat.reduceMul, Nat.reduceEqDiff, Go.Addr.add, ↓reduceIte] at hx149_0); (try simp only [show (3 : Int).toNat = 3 from rfl, Nat.reduceMul, Nat.reduceEqDiff, Go.Addr.add, ↓reduceIte] at hx149_1); (try simp only [show (3 : Int).toNat = 3 from rfl, Nat.reduceMul, Nat.reduceEqDiff, Go.Addr.add, ↓reduceIte] at hx149_2); (try simp only [show (3 : Int).toNat = 3 from rfl, Nat.reduceMul, Nat.reduceEqDiff, Go.Addr.add, ↓reduceIte] at hx149_3); have qi149 : (3 < t135.length) = True := eq_true (by omega); (try rw [show ((3 : Int)).toNat = 3 from rfl] at hx149_0); (try rw [show 3 * 4 = 12 from rfl] at hx149_0); (try rw [show ((3 : Int)).toNat = 3 from rfl] at hx149_1); (try rw [show 3 * 4 = 12 from rfl] at hx149_1); (try rw [show ((3 : Int)).toNat = 3 from rfl] at hx149_2); (try rw [show 3 * 4 = 12 from rfl] at hx149_2); (try rw [show ((3 : Int)).toNat = 3 from rfl] at hx149_3); (try rw [show 3 * 4 = 12 from rfl] at hx149_3); replace p149 := eq_true p149; replace q149 := eq_true q149) | (go_at_call 12; (with_reducible refine (lexer_Join.calls k _ _ t135 t150 _ ?side1 ?side2 A15.out).mono ?_); (case side1 => repeat (first | exact (Kd.R_reads' HO139.out).2.2 | (with_reducible refine Kd.C_alloc ?_ _) | (with_reducible refine Kd.C_drewN ?_ _) | (with_reducible refine Kd.C_drew ?_))); (case side2 => exact (Kd.R_reads' HO139.out).2.1); rintro e w25 ⟨rfl, hb⟩; have n0_ := Aside0.mk (Kd.R_below (by (with_reducible repeat (first | apply Kd.R_alloc | apply Kd.R_drewN | apply Kd.R_drew)); exact HO139.out) hb); have n1_ := Aside0.mk (Kd.R_below (by (with_reducible repeat (first | apply Kd.R_alloc | apply Kd.R_drewN | apply Kd.R_drew)); exact HO144.out) hb); have n2_ := Aside0.mk (below_step (by repeat (first | (with_reducible first | exact HB.out | apply below_alloc | apply pw_below_drewN | apply below_drew1) | exact HB.out)) hb); clear HO139; clear HO144; clear HB; have HO139 := n0_; have HO144 := n1_; have HB := n2_; clear n0_ n1_ n2_; (try clear hb); (try clear hb2); (try clear hk); (try clear hi); have p151 : 0 ≤ (0 : Int) := (by omega); have q151 : 0 < (t135.length : Int) := of_decide_eq_true (by first | (with_reducible assumption) | assumption); obtain ⟨ad151, e151, hx151_0, hx151_1, hx151_2, hx151_3⟩ := at_T32 (Kd.R_reads' HO139.out).2.2 0 p151 q151; obtain rfl : ad147 = ad151 := (by injection e151); have qi151 : (0 < t135.length) = True := eq_true (by omega); (try rw [show ((0 : Int)).toNat = 0 from rfl] at hx151_0); (try rw [show 0 * 4 = 0 from rfl] at hx151_0); (try rw [Addr.add_zero'] at hx151_0); (try rw [show ((0 : Int)).toNat = 0 from rfl] at hx151_1); (try rw [show 0 * 4 = 0 from rfl] at hx151_1); (try rw [Addr.add_zero'] at hx151_1); (try rw [show ((0 : Int)).toNat = 0 from rfl] at hx151_2); (try rw [show 0 * 4 = 0 from rfl] at hx151_2); (try rw [Addr.add_zero'] at hx151_2); (try rw [show ((0 : Int)).toNat = 0 from rfl] at hx151_3); (try rw [show 0 * 4 = 0 from rfl] at hx151_3); (try rw [Addr.add_zero'] at hx151_3); replace p151 := eq_true p151; replace q151 := eq_true q151) | (go_at_call 11; (with_reducible refine (lexer_Right.calls k ((rd_T32 t135 0).f0) ((rd_T32 t135 0).f1) ((rd_T32 t135 0).f2) ((rd_T32 t135 0).f3) true _ ?side1 A18.out).mono ?_); (case side1 => exact hT.later (by repeat (first | (with_reducible first | exact HB.out | apply below_alloc | apply pw_below_drewN | apply below_drew1) | exact HB.out))); rintro e w26 ⟨rfl, hb⟩; have n0_ := Aside0.mk (Kd.R_below (by (with_reducible repeat (first | apply Kd.R_alloc | apply Kd.R_drewN | apply Kd.R_drew)); exact HO139.out) hb); have n1_ := Aside0.mk (Kd.R_below (by (with_reducible repeat (first | apply Kd.R_alloc | apply Kd.R_drewN | apply Kd.R_drew)); exact HO144.out) hb); have n2_ := Aside0.mk (below_step (by repeat (first | (with_reducible first | exact HB.out | apply below_alloc | apply pw_below_drewN | apply below_drew1) | exact HB.out)) hb); clear HO139; clear HO144; clear HB; have HO139 := n0_; have HO144 := n1_; have HB := n2_; clear n0_ n1_ n2_; (try clear hb); (try clear hb2); (try clear hk); (try clear hi)))
                                go_ret
                                exact ⟨by first | rfl | (simp [errW_none, errW_some] <;> rfl) | (simp [*, errW_none, errW_some] <;> rfl), by repeat (first | (with_reducible first | exact HB.out | apply below_alloc | apply pw_below_drewN | apply below_drew1) | exact HB.out)⟩
                              · rw [if_neg c20] at H
                                have c20b0 : (t145 == 2) = false := beq_eq_false_iff_ne.mpr c20
                                have c20b1 : (t145 != 2) = true := bne_iff_ne.mpr c20
                                obtain rfl := Option.some.inj H
                                go_enter Tryd.func8, Tryd.ntmps8
                                go_wp2_with (first | ((with_reducible refine gate_callee (f := 9) rfl ?_); refine goesL_ (some 10) rfl rfl Tryd.func9 (by kernel_rfl) rfl #[.string (⟨#[120, 60, 61, 49, 50, 59, 32, 35, 32, 121]⟩ : ByteArray)] rfl (by (try simp only [List.map_toArray, List.map_cons, List.map_nil]); first | done | rfl | (simp only [List.length_drop, List.length_take]; rfl)) ?_; (with_reducible refine (lexer_Lex.calls k (⟨#[120, 60, 61, 49, 50, 59, 32, 35, 32, 121]⟩ : ByteArray) t135 t136 t137 _ ?side1 A1.out).mono ?_); (case side1 => exact hT.later (by repeat (first | (with_reducible first | exact HB.out | apply below_alloc | apply pw_below_drewN | apply below_drew1) | exact HB.out))); rintro e w27 ⟨v138, rfl, ho0, hb⟩; refine ⟨_, rfl, ?_⟩; have n0_ := Aside0.mk (Kd.R_lower ho0 (below_size (by repeat (first | (with_reducible first | exact HB.out | apply below_alloc | apply pw_below_drewN | apply below_drew1) | exact HB.out)))); have n1_ := Aside0.mk (below_step (by repeat (first | (with_reducible first | exact HB.out | apply below_alloc | apply pw_below_drewN | apply below_drew1) | exact HB.out)) hb); clear HB; have HO139 := n0_; have HB := n1_; clear n0_ n1_; (try clear hb); (try clear hb2); (try clear hk); (try clear hi); (try clear ho0)) | ((with_reducible refine gate_callee (f := 9) rfl ?_); refine goesL_ (some 15) rfl rfl Tryd.func9 (by kernel_rfl) rfl #[.string (⟨#[97, 32, 36]⟩ : ByteArray)] rfl (by (try simp only [List.map_toArray, List.map_cons, List.map_nil]); first | done | rfl | (simp only [List.length_drop, List.length_take]; rfl)) ?_; (with_reducible refine (lexer_Lex.calls k (⟨#[97, 32, 36]⟩ : ByteArray) t140 t141 t142 _ ?side1 A2.out).mono ?_); (case side1 => exact hT.later (by repeat (first | (with_reducible first | exact HB.out | apply below_alloc | apply pw_below_drewN | apply below_drew1) | exact HB.out))); rintro e w28 ⟨v143, rfl, ho0, hb⟩; refine ⟨_, rfl, ?_⟩; have n0_ := Aside0.mk (Kd.R_elder' (by (with_reducible repeat (first | apply Kd.R_alloc | apply Kd.R_drewN | apply Kd.R_drew)); exact HO139.out) (Kd.R_base ho0) hb); have n1_ := Aside0.mk (Kd.R_lower (Kd.R_new' ho0 (Kd.R_lt (by (with_reducible repeat (first | apply Kd.R_alloc | apply Kd.R_drewN | apply Kd.R_drew)); exact HO139.out))) (below_size (by repeat (first | (with_reducible first | exact HB.out | apply below_alloc | apply pw_below_drewN | apply below_drew1) | exact HB.out)))); have n2_ := Aside0.mk (below_step (by repeat (first | (with_reducible first | exact HB.out | apply below_alloc | apply pw_below_drewN | apply below_drew1) | exact HB.out)) hb); clear HO139; clear HB; have HO139 := n0_; have HO144 := n1_; have HB := n2_; clear n0_ n1_ n2_; (try clear hb); (try clear hb2); (try clear hk); (try clear hi); (try clear ho0)) | ((with_reducible refine gate_callee (f := 13) rfl ?_); refine goesL_ (some 20) rfl rfl Tryd.func13 (by kernel_rfl) rfl #[.string (⟨#[97, 10, 98, 99]⟩ : ByteArray), .int .i64 3] rfl (by (try simp only [List.map_toArray, List.map_cons, List.map_nil]); first | done | rfl | (simp only [List.length_drop, List.length_take]; rfl)) ?_; (with_reducible refine (lexer_Line.calls (⟨#[97, 10, 98, 99]⟩ : ByteArray) 3 t145 t146 _ A3.out).mono ?_); rintro e w29 ⟨rfl, hb⟩; refine ⟨_, rfl, ?_⟩; have n0_ := Aside0.mk (Kd.R_below (by (with_reducible repeat (first | apply Kd.R_alloc | apply Kd.R_drewN | apply Kd.R_drew)); exact HO139.out) hb); have n1_ := Aside0.mk (Kd.R_below (by (with_reducible repeat (first | apply Kd.R_alloc | apply Kd.R_drewN | apply Kd.R_drew)); exact HO144.out) hb); have n2_ := Aside0.mk (below_step (by repeat (first | (with_reducible first | exact HB.out | apply below_alloc | apply pw_below_drewN | apply below_drew1) | exact HB.out)) hb); clear HO139; clear HO144; clear HB; have HO139 := n0_; have HO144 := n1_; have HB := n2_; clear n0_ n1_ n2_; (try clear hb); (try clear hb2); (try clear hk); (try clear hi); obtain ⟨Ao30, co30, eo30⟩ := Kd.R_slice HO139.out; subst eo30; have p147 : 0 ≤ (1 : Int) := (by omega); have q147 : 1 < (t135.length : Int) := of_decide_eq_true (by first | (with_reducible assumption) | assumption); obtain ⟨ad147, e147, hx147_0, hx147_1, hx147_2, hx147_3⟩ := at_T32 (Kd.R_reads' HO139.out).2.2 1 p147 q147; cases e147; (try simp only [show (1 : Int).toNat = 1 from rfl, Nat.reduceMul, Nat.reduceEqDiff, Go.Addr.add, ↓reduceIte] at hx147_0); (try simp only [show (1 : Int).toNat = 1 from rfl, Nat.reduceMul, Nat.reduceEqDiff, Go.Addr.add, ↓reduceIte] at hx147_1); (try simp only [show (1 : Int).toNat = 1 from rfl, Nat.reduceMul, Nat.reduceEqDiff, Go.Addr.add, ↓reduceIte] at hx147_2); (try simp only [show (1 : Int).toNat = 1 from rfl, Nat.reduceMul, Nat.reduceEqDiff, Go.Addr.add, ↓reduceIte] at hx147_3); have qi147 : (1 < t135.length) = True := eq_true (by omega); (try rw [show ((1 : Int)).toNat = 1 from rfl] at hx147_0); (try rw [show 1 * 4 = 4 from rfl] at hx147_0); (try rw [show ((1 : Int)).toNat = 1 from rfl] at hx147_1); (try rw [show 1 * 4 = 4 from rfl] at hx147_1); (try rw [show ((1 : Int)).toNat = 1 from rfl] at hx147_2); (try rw [show 1 * 4 = 4 from rfl] at hx147_2); (try rw [show ((1 : Int)).toNat = 1 from rfl] at hx147_3); (try rw [show 1 * 4 = 4 from rfl] at hx147_3); replace p147 := eq_true p147; replace q147 := eq_true q147; have p148 : 0 ≤ (2 : Int) := (by omega); have q148 : 2 < (t135.length : Int) := of_decide_eq_true (by first | (with_reducible assumption) | assumption); obtain ⟨ad148, e148, hx148_0, hx148_1, hx148_2, hx148_3⟩ := at_T32 (Kd.R_reads' HO139.out).2.2 2 p148 q148; obtain rfl : ad147 = ad148 := (by injection e148); (try simp only [show (2 : Int).toNat = 2 from rfl, Nat.reduceMul, Nat.reduceEqDiff, Go.Addr.add, ↓reduceIte] at hx148_0); (try simp only [show (2 : Int).toNat = 2 from rfl, Nat.reduceMul, Nat.reduceEqDiff, Go.Addr.add, ↓reduceIte] at hx148_1); (try simp only [show (2 : Int).toNat = 2 from rfl, Nat.reduceMul, Nat.reduceEqDiff, Go.Addr.add, ↓reduceIte] at hx148_2); (try simp only [show (2 : Int).toNat = 2 from rfl, Nat.reduceMul, Nat.reduceEqDiff, Go.Addr.add, ↓reduceIte] at hx148_3); have qi148 : (2 < t135.length) = True := eq_true (by omega); (try rw [show ((2 : Int)).toNat = 2 from rfl] at hx148_0); (try rw [show 2 * 4 = 8 from rfl] at hx148_0); (try rw [show ((2 : Int)).toNat = 2 from rfl] at hx148_1); (try rw [show 2 * 4 = 8 from rfl] at hx148_1); (try rw [show ((2 : Int)).toNat = 2 from rfl] at hx148_2); (try rw [show 2 * 4 = 8 from rfl] at hx148_2); (try rw [show ((2 : Int)).toNat = 2 from rfl] at hx148_3); (try rw [show 2 * 4 = 8 from rfl] at hx148_3); replace p148 := eq_true p148; replace q148 := eq_true q148; have p149 : 0 ≤ (3 : Int) := (by omega); have q149 : 3 < (t135.length : Int) := of_decide_eq_true (by first | (with_reducible assumption) | assumption); obtain ⟨ad149, e149, hx149_0, hx149_1, hx149_2, hx149_3⟩ := at_T32 (Kd.R_reads' HO139.out).2.2 3 p149 q149; obtain rfl : ad147 = ad149 := (by injection e149); (try simp only [show (3 : Int).toNat = 3 from rfl, Nat.reduceMul, Nat.reduceEqDiff, Go.Addr.add, ↓reduceIte] at hx149_0); (try simp only [show (3 : Int).toNat = 3 from rfl, Nat.reduceMul, Nat.reduceEqDiff, Go.Addr.add, ↓reduceIte] at hx149_1); (try simp only [show (3 : Int).toNat = 3 from rfl, Nat.reduceMul, Nat.reduceEqDiff, Go.Addr.add, ↓reduceIte] at hx149_2); (try simp only [show (3 : Int).toNat = 3 from rfl, Nat.reduceMul, Nat.reduceEqDiff, Go.Addr.add, ↓reduceIte] at hx149_3); have qi149 : (3 < t135.length) = True := eq_true (by omega); (try rw [show ((3 : Int)).toNat = 3 from rfl] at hx149_0); (try rw [show 3 * 4 = 12 from rfl] at hx149_0); (try rw [show ((3 : Int)).toNat = 3 from rfl] at hx149_1); (try rw [show 3 * 4 = 12 from rfl] at hx149_1); (try rw [show ((3 : Int)).toNat = 3 from rfl] at hx149_2); (try rw [show 3 * 4 = 12 from rfl] at hx149_2); (try rw [show ((3 : Int)).toNat = 3 from rfl] at hx149_3); (try rw [show 3 * 4 = 12 from rfl] at hx149_3); replace p149 := eq_true p149; replace q149 := eq_true q149) | (go_at_call 12; (with_reducible refine (lexer_Join.calls k _ _ t135 t150 _ ?side1 ?side2 A15.out).mono ?_); (case side1 => repeat (first | exact (Kd.R_reads' HO139.out).2.2 | (with_reducible refine Kd.C_alloc ?_ _) | (with_reducible refine Kd.C_drewN ?_ _) | (with_reducible refine Kd.C_drew ?_))); (case side2 => exact (Kd.R_reads' HO139.out).2.1); rintro e w31 ⟨rfl, hb⟩; have n0_ := Aside0.mk (Kd.R_below (by (with_reducible repeat (first | apply Kd.R_alloc | apply Kd.R_drewN | apply Kd.R_drew)); exact HO139.out) hb); have n1_ := Aside0.mk (Kd.R_below (by (with_reducible repeat (first | apply Kd.R_alloc | apply Kd.R_drewN | apply Kd.R_drew)); exact HO144.out) hb); have n2_ := Aside0.mk (below_step (by repeat (first | (with_reducible first | exact HB.out | apply below_alloc | apply pw_below_drewN | apply below_drew1) | exact HB.out)) hb); clear HO139; clear HO144; clear HB; have HO139 := n0_; have HO144 := n1_; have HB := n2_; clear n0_ n1_ n2_; (try clear hb); (try clear hb2); (try clear hk); (try clear hi); have p151 : 0 ≤ (0 : Int) := (by omega); have q151 : 0 < (t135.length : Int) := of_decide_eq_true (by first | (with_reducible assumption) | assumption); obtain ⟨ad151, e151, hx151_0, hx151_1, hx151_2, hx151_3⟩ := at_T32 (Kd.R_reads' HO139.out).2.2 0 p151 q151; obtain rfl : ad147 = ad151 := (by injection e151); have qi151 : (0 < t135.length) = True := eq_true (by omega); (try rw [show ((0 : Int)).toNat = 0 from rfl] at hx151_0); (try rw [show 0 * 4 = 0 from rfl] at hx151_0); (try rw [Addr.add_zero'] at hx151_0); (try rw [show ((0 : Int)).toNat = 0 from rfl] at hx151_1); (try rw [show 0 * 4 = 0 from rfl] at hx151_1); (try rw [Addr.add_zero'] at hx151_1); (try rw [show ((0 : Int)).toNat = 0 from rfl] at hx151_2); (try rw [show 0 * 4 = 0 from rfl] at hx151_2); (try rw [Addr.add_zero'] at hx151_2); (try rw [show ((0 : Int)).toNat = 0 from rfl] at hx151_3); (try rw [show 0 * 4 = 0 from rfl] at hx151_3); (try rw [Addr.add_zero'] at hx151_3); replace p151 := eq_true p151; replace q151 := eq_true q151) | (go_at_call 11; (with_reducible refine (lexer_Right.calls k ((rd_T32 t135 0).f0) ((rd_T32 t135 0).f1) ((rd_T32 t135 0).f2) ((rd_T32 t135 0).f3) true _ ?side1 A18.out).mono ?_); (case side1 => exact hT.later (by repeat (first | (with_reducible first | exact HB.out | apply below_alloc | apply pw_below_drewN | apply below_drew1) | exact HB.out))); rintro e w32 ⟨rfl, hb⟩; have n0_ := Aside0.mk (Kd.R_below (by (with_reducible repeat (first | apply Kd.R_alloc | apply Kd.R_drewN | apply Kd.R_drew)); exact HO139.out) hb); have n1_ := Aside0.mk (Kd.R_below (by (with_reducible repeat (first | apply Kd.R_alloc | apply Kd.R_drewN | apply Kd.R_drew)); exact HO144.out) hb); have n2_ := Aside0.mk (below_step (by repeat (first | (with_reducible first | exact HB.out | apply below_alloc | apply pw_below_drewN | apply below_drew1) | exact HB.out)) hb); clear HO139; clear HO144; clear HB; have HO139 := n0_; have HO144 := n1_; have HB := n2_; clear n0_ n1_ n2_; (try clear hb); (try clear hb2); (try clear hk); (try clear hi)))
                                go_ret
                                exact ⟨by first | rfl | (simp [errW_none, errW_some] <;> rfl) | (simp [*, errW_none, errW_some] <;> rfl), by repeat (first | (with_reducible first | exact HB.out | apply below_alloc | apply pw_below_drewN | apply below_drew1) | exact HB.out)⟩
                            · replace c19 := Bool.eq_false_iff.mpr c19
                              subst c19
                              have H1 : (some false) = some r := by rw [if_neg (show ¬ (false = true) by decide)] at H; exact H
                              clear H
                              have H := H1
                              clear H1
                              obtain rfl := Option.some.inj H
                              go_enter Tryd.func8, Tryd.ntmps8
                              go_wp2_with (first | ((with_reducible refine gate_callee (f := 9) rfl ?_); refine goesL_ (some 10) rfl rfl Tryd.func9 (by kernel_rfl) rfl #[.string (⟨#[120, 60, 61, 49, 50, 59, 32, 35, 32, 121]⟩ : ByteArray)] rfl (by (try simp only [List.map_toArray, List.map_cons, List.map_nil]); first | done | rfl | (simp only [List.length_drop, List.length_take]; rfl)) ?_; (with_reducible refine (lexer_Lex.calls k (⟨#[120, 60, 61, 49, 50, 59, 32, 35, 32, 121]⟩ : ByteArray) t135 t136 t137 _ ?side1 A1.out).mono ?_); (case side1 => exact hT.later (by repeat (first | (with_reducible first | exact HB.out | apply below_alloc | apply pw_below_drewN | apply below_drew1) | exact HB.out))); rintro e w33 ⟨v138, rfl, ho0, hb⟩; refine ⟨_, rfl, ?_⟩; have n0_ := Aside0.mk (Kd.R_lower ho0 (below_size (by repeat (first | (with_reducible first | exact HB.out | apply below_alloc | apply pw_below_drewN | apply below_drew1) | exact HB.out)))); have n1_ := Aside0.mk (below_step (by repeat (first | (with_reducible first | exact HB.out | apply below_alloc | apply pw_below_drewN | apply below_drew1) | exact HB.out)) hb); clear HB; have HO139 := n0_; have HB := n1_; clear n0_ n1_; (try clear hb); (try clear hb2); (try clear hk); (try clear hi); (try clear ho0)) | ((with_reducible refine gate_callee (f := 9) rfl ?_); refine goesL_ (some 15) rfl rfl Tryd.func9 (by kernel_rfl) rfl #[.string (⟨#[97, 32, 36]⟩ : ByteArray)] rfl (by (try simp only [List.map_toArray, List.map_cons, List.map_nil]); first | done | rfl | (simp only [List.length_drop, List.length_take]; rfl)) ?_; (with_reducible refine (lexer_Lex.calls k (⟨#[97, 32, 36]⟩ : ByteArray) t140 t141 t142 _ ?side1 A2.out).mono ?_); (case side1 => exact hT.later (by repeat (first | (with_reducible first | exact HB.out | apply below_alloc | apply pw_below_drewN | apply below_drew1) | exact HB.out))); rintro e w34 ⟨v143, rfl, ho0, hb⟩; refine ⟨_, rfl, ?_⟩; have n0_ := Aside0.mk (Kd.R_elder' (by (with_reducible repeat (first | apply Kd.R_alloc | apply Kd.R_drewN | apply Kd.R_drew)); exact HO139.out) (Kd.R_base ho0) hb); have n1_ := Aside0.mk (Kd.R_lower (Kd.R_new' ho0 (Kd.R_lt (by (with_reducible repeat (first | apply Kd.R_alloc | apply Kd.R_drewN | apply Kd.R_drew)); exact HO139.out))) (below_size (by repeat (first | (with_reducible first | exact HB.out | apply below_alloc | apply pw_below_drewN | apply below_drew1) | exact HB.out)))); have n2_ := Aside0.mk (below_step (by repeat (first | (with_reducible first | exact HB.out | apply below_alloc | apply pw_below_drewN | apply below_drew1) | exact HB.out)) hb); clear HO139; clear HB; have HO139 := n0_; have HO144 := n1_; have HB := n2_; clear n0_ n1_ n2_; (try clear hb); (try clear hb2); (try clear hk); (try clear hi); (try clear ho0)) | ((with_reducible refine gate_callee (f := 13) rfl ?_); refine goesL_ (some 20) rfl rfl Tryd.func13 (by kernel_rfl) rfl #[.string (⟨#[97, 10, 98, 99]⟩ : ByteArray), .int .i64 3] rfl (by (try simp only [List.map_toArray, List.map_cons, List.map_nil]); first | done | rfl | (simp only [List.length_drop, List.length_take]; rfl)) ?_; (with_reducible refine (lexer_Line.calls (⟨#[97, 10, 98, 99]⟩ : ByteArray) 3 t145 t146 _ A3.out).mono ?_); rintro e w35 ⟨rfl, hb⟩; refine ⟨_, rfl, ?_⟩; have n0_ := Aside0.mk (Kd.R_below (by (with_reducible repeat (first | apply Kd.R_alloc | apply Kd.R_drewN | apply Kd.R_drew)); exact HO139.out) hb); have n1_ := Aside0.mk (Kd.R_below (by (with_reducible repeat (first | apply Kd.R_alloc | apply Kd.R_drewN | apply Kd.R_drew)); exact HO144.out) hb); have n2_ := Aside0.mk (below_step (by repeat (first | (with_reducible first | exact HB.out | apply below_alloc | apply pw_below_drewN | apply below_drew1) | exact HB.out)) hb); clear HO139; clear HO144; clear HB; have HO139 := n0_; have HO144 := n1_; have HB := n2_; clear n0_ n1_ n2_; (try clear hb); (try clear hb2); (try clear hk); (try clear hi); obtain ⟨Ao36, co36, eo36⟩ := Kd.R_slice HO139.out; subst eo36; have p147 : 0 ≤ (1 : Int) := (by omega); have q147 : 1 < (t135.length : Int) := of_decide_eq_true (by first | (with_reducible assumption) | assumption); obtain ⟨ad147, e147, hx147_0, hx147_1, hx147_2, hx147_3⟩ := at_T32 (Kd.R_reads' HO139.out).2.2 1 p147 q147; cases e147; (try simp only [show (1 : Int).toNat = 1 from rfl, Nat.reduceMul, Nat.reduceEqDiff, Go.Addr.add, ↓reduceIte] at hx147_0); (try simp only [show (1 : Int).toNat = 1 from rfl, Nat.reduceMul, Nat.reduceEqDiff, Go.Addr.add, ↓reduceIte] at hx147_1); (try simp only [show (1 : Int).toNat = 1 from rfl, Nat.reduceMul, Nat.reduceEqDiff, Go.Addr.add, ↓reduceIte] at hx147_2); (try simp only [show (1 : Int).toNat = 1 from rfl, Nat.reduceMul, Nat.reduceEqDiff, Go.Addr.add, ↓reduceIte] at hx147_3); have qi147 : (1 < t135.length) = True := eq_true (by omega); (try rw [show ((1 : Int)).toNat = 1 from rfl] at hx147_0); (try rw [show 1 * 4 = 4 from rfl] at hx147_0); (try rw [show ((1 : Int)).toNat = 1 from rfl] at hx147_1); (try rw [show 1 * 4 = 4 from rfl] at hx147_1); (try rw [show ((1 : Int)).toNat = 1 from rfl] at hx147_2); (try rw [show 1 * 4 = 4 from rfl] at hx147_2); (try rw [show ((1 : Int)).toNat = 1 from rfl] at hx147_3); (try rw [show 1 * 4 = 4 from rfl] at hx147_3); replace p147 := eq_true p147; replace q147 := eq_true q147; have p148 : 0 ≤ (2 : Int) := (by omega); have q148 : 2 < (t135.length : Int) := of_decide_eq_true (by first | (with_reducible assumption) | assumption); obtain ⟨ad148, e148, hx148_0, hx148_1, hx148_2, hx148_3⟩ := at_T32 (Kd.R_reads' HO139.out).2.2 2 p148 q148; obtain rfl : ad147 = ad148 := (by injection e148); (try simp only [show (2 : Int).toNat = 2 from rfl, Nat.reduceMul, Nat.reduceEqDiff, Go.Addr.add, ↓reduceIte] at hx148_0); (try simp only [show (2 : Int).toNat = 2 from rfl, Nat.reduceMul, Nat.reduceEqDiff, Go.Addr.add, ↓reduceIte] at hx148_1); (try simp only [show (2 : Int).toNat = 2 from rfl, Nat.reduceMul, Nat.reduceEqDiff, Go.Addr.add, ↓reduceIte] at hx148_2); (try simp only [show (2 : Int).toNat = 2 from rfl, Nat.reduceMul, Nat.reduceEqDiff, Go.Addr.add, ↓reduceIte] at hx148_3); have qi148 : (2 < t135.length) = True := eq_true (by omega); (try rw [show ((2 : Int)).toNat = 2 from rfl] at hx148_0); (try rw [show 2 * 4 = 8 from rfl] at hx148_0); (try rw [show ((2 : Int)).toNat = 2 from rfl] at hx148_1); (try rw [show 2 * 4 = 8 from rfl] at hx148_1); (try rw [show ((2 : Int)).toNat = 2 from rfl] at hx148_2); (try rw [show 2 * 4 = 8 from rfl] at hx148_2); (try rw [show ((2 : Int)).toNat = 2 from rfl] at hx148_3); (try rw [show 2 * 4 = 8 from rfl] at hx148_3); replace p148 := eq_true p148; replace q148 := eq_true q148; have p149 : 0 ≤ (3 : Int) := (by omega); have q149 : 3 < (t135.length : Int) := of_decide_eq_true (by first | (with_reducible assumption) | assumption); obtain ⟨ad149, e149, hx149_0, hx149_1, hx149_2, hx149_3⟩ := at_T32 (Kd.R_reads' HO139.out).2.2 3 p149 q149; obtain rfl : ad147 = ad149 := (by injection e149); (try simp only [show (3 : Int).toNat = 3 from rfl, Nat.reduceMul, Nat.reduceEqDiff, Go.Addr.add, ↓reduceIte] at hx149_0); (try simp only [show (3 : Int).toNat = 3 from rfl, Nat.reduceMul, Nat.reduceEqDiff, Go.Addr.add, ↓reduceIte] at hx149_1); (try simp only [show (3 : Int).toNat = 3 from rfl, Nat.reduceMul, Nat.reduceEqDiff, Go.Addr.add, ↓reduceIte] at hx149_2); (try simp only [show (3 : Int).toNat = 3 from rfl, Nat.reduceMul, Nat.reduceEqDiff, Go.Addr.add, ↓reduceIte] at hx149_3); have qi149 : (3 < t135.length) = True := eq_true (by omega); (try rw [show ((3 : Int)).toNat = 3 from rfl] at hx149_0); (try rw [show 3 * 4 = 12 from rfl] at hx149_0); (try rw [show ((3 : Int)).toNat = 3 from rfl] at hx149_1); (try rw [show 3 * 4 = 12 from rfl] at hx149_1); (try rw [show ((3 : Int)).toNat = 3 from rfl] at hx149_2); (try rw [show 3 * 4 = 12 from rfl] at hx149_2); (try rw [show ((3 : Int)).toNat = 3 from rfl] at hx149_3); (try rw [show 3 * 4 = 12 from rfl] at hx149_3); replace p149 := eq_true p149; replace q149 := eq_true q149) | (go_at_call 12; (with_reducible refine (lexer_Join.calls k _ _ t135 t150 _ ?side1 ?side2 A15.out).mono ?_); (case side1 => repeat (first | exact (Kd.R_reads' HO139.out).2.2 | (with_reducible refine Kd.C_alloc ?_ _) | (with_reducible refine Kd.C_drewN ?_ _) | (with_reducible refine Kd.C_drew ?_))); (case side2 => exact (Kd.R_reads' HO139.out).2.1); rintro e w37 ⟨rfl, hb⟩; have n0_ := Aside0.mk (Kd.R_below (by (with_reducible repeat (first | apply Kd.R_alloc | apply Kd.R_drewN | apply Kd.R_drew)); exact HO139.out) hb); have n1_ := Aside0.mk (Kd.R_below (by (with_reducible repeat (first | apply Kd.R_alloc | apply Kd.R_drewN | apply Kd.R_drew)); exact HO144.out) hb); have n2_ := Aside0.mk (below_step (by repeat (first | (with_reducible first | exact HB.out | apply below_alloc | apply pw_below_drewN | apply below_drew1) | exact HB.out)) hb); clear HO139; clear HO144; clear HB; have HO139 := n0_; have HO144 := n1_; have HB := n2_; clear n0_ n1_ n2_; (try clear hb); (try clear hb2); (try clear hk); (try clear hi); have p151 : 0 ≤ (0 : Int) := (by omega); have q151 : 0 < (t135.length : Int) := of_decide_eq_true (by first | (with_reducible assumption) | assumption); obtain ⟨ad151, e151, hx151_0, hx151_1, hx151_2, hx151_3⟩ := at_T32 (Kd.R_reads' HO139.out).2.2 0 p151 q151; obtain rfl : ad147 = ad151 := (by injection e151); have qi151 : (0 < t135.length) = True := eq_true (by omega); (try rw [show ((0 : Int)).toNat = 0 from rfl] at hx151_0); (try rw [show 0 * 4 = 0 from rfl] at hx151_0); (try rw [Addr.add_zero'] at hx151_0); (try rw [show ((0 : Int)).toNat = 0 from rfl] at hx151_1); (try rw [show 0 * 4 = 0 from rfl] at hx151_1); (try rw [Addr.add_zero'] at hx151_1); (try rw [show ((0 : Int)).toNat = 0 from rfl] at hx151_2); (try rw [show 0 * 4 = 0 from rfl] at hx151_2); (try rw [Addr.add_zero'] at hx151_2); (try rw [show ((0 : Int)).toNat = 0 from rfl] at hx151_3); (try rw [show 0 * 4 = 0 from rfl] at hx151_3); (try rw [Addr.add_zero'] at hx151_3); replace p151 := eq_true p151; replace q151 := eq_true q151) | (go_at_call 11; (with_reducible refine (lexer_Right.calls k ((rd_T32 t135 0).f0) ((rd_T32 t135 0).f1) ((rd_T32 t135 0).f2) ((rd_T32 t135 0).f3) false _ ?side1 A18.out).mono ?_); (case side1 => exact hT.later (by repeat (first | (with_reducible first | exact HB.out | apply below_alloc | apply pw_below_drewN | apply below_drew1) | exact HB.out))); rintro e w38 ⟨rfl, hb⟩; have n0_ := Aside0.mk (Kd.R_below (by (with_reducible repeat (first | apply Kd.R_alloc | apply Kd.R_drewN | apply Kd.R_drew)); exact HO139.out) hb); have n1_ := Aside0.mk (Kd.R_below (by (with_reducible repeat (first | apply Kd.R_alloc | apply Kd.R_drewN | apply Kd.R_drew)); exact HO144.out) hb); have n2_ := Aside0.mk (below_step (by repeat (first | (with_reducible first | exact HB.out | apply below_alloc | apply pw_below_drewN | apply below_drew1) | exact HB.out)) hb); clear HO139; clear HO144; clear HB; have HO139 := n0_; have HO144 := n1_; have HB := n2_; clear n0_ n1_ n2_; (try clear hb); (try clear hb2); (try clear hk); (try clear hi)))
                              go_ret
                              exact ⟨by first | rfl | (simp [errW_none, errW_some] <;> rfl) | (simp [*, errW_none, errW_some] <;> rfl), by repeat (first | (with_reducible first | exact HB.out | apply below_alloc | apply pw_below_drewN | apply below_drew1) | exact HB.out)⟩
                          · rw [if_neg c17] at H
                            exact absurd H (by simp)
                        · rw [if_neg c16] at H
                          have c16b0 : (t150.toList == ([120, 32, 60, 61, 32, 49, 50, 32, 59] : List UInt8)) = false := beq_eq_false_iff_ne.mpr c16
                          have c16b1 : (t150.toList != ([120, 32, 60, 61, 32, 49, 50, 32, 59] : List UInt8)) = true := bne_iff_ne.mpr c16
                          obtain rfl := Option.some.inj H
                          go_enter Tryd.func8, Tryd.ntmps8
                          go_wp2_with (first | ((with_reducible refine gate_callee (f := 9) rfl ?_); refine goesL_ (some 10) rfl rfl Tryd.func9 (by kernel_rfl) rfl #[.string (⟨#[120, 60, 61, 49, 50, 59, 32, 35, 32, 121]⟩ : ByteArray)] rfl (by (try simp only [List.map_toArray, List.map_cons, List.map_nil]); first | done | rfl | (simp only [List.length_drop, List.length_take]; rfl)) ?_; (with_reducible refine (lexer_Lex.calls k (⟨#[120, 60, 61, 49, 50, 59, 32, 35, 32, 121]⟩ : ByteArray) t135 t136 t137 _ ?side1 A1.out).mono ?_); (case side1 => exact hT.later (by repeat (first | (with_reducible first | exact HB.out | apply below_alloc | apply pw_below_drewN | apply below_drew1) | exact HB.out))); rintro e w39 ⟨v138, rfl, ho0, hb⟩; refine ⟨_, rfl, ?_⟩; have n0_ := Aside0.mk (Kd.R_lower ho0 (below_size (by repeat (first | (with_reducible first | exact HB.out | apply below_alloc | apply pw_below_drewN | apply below_drew1) | exact HB.out)))); have n1_ := Aside0.mk (below_step (by repeat (first | (with_reducible first | exact HB.out | apply below_alloc | apply pw_below_drewN | apply below_drew1) | exact HB.out)) hb); clear HB; have HO139 := n0_; have HB := n1_; clear n0_ n1_; (try clear hb); (try clear hb2); (try clear hk); (try clear hi); (try clear ho0)) | ((with_reducible refine gate_callee (f := 9) rfl ?_); refine goesL_ (some 15) rfl rfl Tryd.func9 (by kernel_rfl) rfl #[.string (⟨#[97, 32, 36]⟩ : ByteArray)] rfl (by (try simp only [List.map_toArray, List.map_cons, List.map_nil]); first | done | rfl | (simp only [List.length_drop, List.length_take]; rfl)) ?_; (with_reducible refine (lexer_Lex.calls k (⟨#[97, 32, 36]⟩ : ByteArray) t140 t141 t142 _ ?side1 A2.out).mono ?_); (case side1 => exact hT.later (by repeat (first | (with_reducible first | exact HB.out | apply below_alloc | apply pw_below_drewN | apply below_drew1) | exact HB.out))); rintro e w40 ⟨v143, rfl, ho0, hb⟩; refine ⟨_, rfl, ?_⟩; have n0_ := Aside0.mk (Kd.R_elder' (by (with_reducible repeat (first | apply Kd.R_alloc | apply Kd.R_drewN | apply Kd.R_drew)); exact HO139.out) (Kd.R_base ho0) hb); have n1_ := Aside0.mk (Kd.R_lower (Kd.R_new' ho0 (Kd.R_lt (by (with_reducible repeat (first | apply Kd.R_alloc | apply Kd.R_drewN | apply Kd.R_drew)); exact HO139.out))) (below_size (by repeat (first | (with_reducible first | exact HB.out | apply below_alloc | apply pw_below_drewN | apply below_drew1) | exact HB.out)))); have n2_ := Aside0.mk (below_step (by repeat (first | (with_reducible first | exact HB.out | apply below_alloc | apply pw_below_drewN | apply below_drew1) | exact HB.out)) hb); clear HO139; clear HB; have HO139 := n0_; have HO144 := n1_; have HB := n2_; clear n0_ n1_ n2_; (try clear hb); (try clear hb2); (try clear hk); (try clear hi); (try clear ho0)) | ((with_reducible refine gate_callee (f := 13) rfl ?_); refine goesL_ (some 20) rfl rfl Tryd.func13 (by kernel_rfl) rfl #[.string (⟨#[97, 10, 98, 99]⟩ : ByteArray), .int .i64 3] rfl (by (try simp only [List.map_toArray, List.map_cons, List.map_nil]); first | done | rfl | (simp only [List.length_drop, List.length_take]; rfl)) ?_; (with_reducible refine (lexer_Line.calls (⟨#[97, 10, 98, 99]⟩ : ByteArray) 3 t145 t146 _ A3.out).mono ?_); rintro e w41 ⟨rfl, hb⟩; refine ⟨_, rfl, ?_⟩; have n0_ := Aside0.mk (Kd.R_below (by (with_reducible repeat (first | apply Kd.R_alloc | apply Kd.R_drewN | apply Kd.R_drew)); exact HO139.out) hb); have n1_ := Aside0.mk (Kd.R_below (by (with_reducible repeat (first | apply Kd.R_alloc | apply Kd.R_drewN | apply Kd.R_drew)); exact HO144.out) hb); have n2_ := Aside0.mk (below_step (by repeat (first | (with_reducible first | exact HB.out | apply below_alloc | apply pw_below_drewN | apply below_drew1) | exact HB.out)) hb); clear HO139; clear HO144; clear HB; have HO139 := n0_; have HO144 := n1_; have HB := n2_; clear n0_ n1_ n2_; (try clear hb); (try clear hb2); (try clear hk); (try clear hi); obtain ⟨Ao42, co42, eo42⟩ := Kd.R_slice HO139.out; subst eo42; have p147 : 0 ≤ (1 : Int) := (by omega); have q147 : 1 < (t135.length : Int) := of_decide_eq_true (by first | (with_reducible assumption) | assumption); obtain ⟨ad147, e147, hx147_0, hx147_1, hx147_2, hx147_3⟩ := at_T32 (Kd.R_reads' HO139.out).2.2 1 p147 q147; cases e147; (try simp only [show (1 : Int).toNat = 1 from rfl, Nat.reduceMul, Nat.reduceEqDiff, Go.Addr.add, ↓reduceIte] at hx147_0); (try simp only [show (1 : Int).toNat = 1 from rfl, Nat.reduceMul, Nat.reduceEqDiff, Go.Addr.add, ↓reduceIte] at hx147_1); (try simp only [show (1 : Int).toNat = 1 from rfl, Nat.reduceMul, Nat.reduceEqDiff, Go.Addr.add, ↓reduceIte] at hx147_2); (try simp only [show (1 : Int).toNat = 1 from rfl, Nat.reduceMul, Nat.reduceEqDiff, Go.Addr.add, ↓reduceIte] at hx147_3); have qi147 : (1 < t135.length) = True := eq_true (by omega); (try rw [show ((1 : Int)).toNat = 1 from rfl] at hx147_0); (try rw [show 1 * 4 = 4 from rfl] at hx147_0); (try rw [show ((1 : Int)).toNat = 1 from rfl] at hx147_1); (try rw [show 1 * 4 = 4 from rfl] at hx147_1); (try rw [show ((1 : Int)).toNat = 1 from rfl] at hx147_2); (try rw [show 1 * 4 = 4 from rfl] at hx147_2); (try rw [show ((1 : Int)).toNat = 1 from rfl] at hx147_3); (try rw [show 1 * 4 = 4 from rfl] at hx147_3); replace p147 := eq_true p147; replace q147 := eq_true q147; have p148 : 0 ≤ (2 : Int) := (by omega); have q148 : 2 < (t135.length : Int) := of_decide_eq_true (by first | (with_reducible assumption) | assumption); obtain ⟨ad148, e148, hx148_0, hx148_1, hx148_2, hx148_3⟩ := at_T32 (Kd.R_reads' HO139.out).2.2 2 p148 q148; obtain rfl : ad147 = ad148 := (by injection e148); (try simp only [show (2 : Int).toNat = 2 from rfl, Nat.reduceMul, Nat.reduceEqDiff, Go.Addr.add, ↓reduceIte] at hx148_0); (try simp only [show (2 : Int).toNat = 2 from rfl, Nat.reduceMul, Nat.reduceEqDiff, Go.Addr.add, ↓reduceIte] at hx148_1); (try simp only [show (2 : Int).toNat = 2 from rfl, Nat.reduceMul, Nat.reduceEqDiff, Go.Addr.add, ↓reduceIte] at hx148_2); (try simp only [show (2 : Int).toNat = 2 from rfl, Nat.reduceMul, Nat.reduceEqDiff, Go.Addr.add, ↓reduceIte] at hx148_3); have qi148 : (2 < t135.length) = True := eq_true (by omega); (try rw [show ((2 : Int)).toNat = 2 from rfl] at hx148_0); (try rw [show 2 * 4 = 8 from rfl] at hx148_0); (try rw [show ((2 : Int)).toNat = 2 from rfl] at hx148_1); (try rw [show 2 * 4 = 8 from rfl] at hx148_1); (try rw [show ((2 : Int)).toNat = 2 from rfl] at hx148_2); (try rw [show 2 * 4 = 8 from rfl] at hx148_2); (try rw [show ((2 : Int)).toNat = 2 from rfl] at hx148_3); (try rw [show 2 * 4 = 8 from rfl] at hx148_3); replace p148 := eq_true p148; replace q148 := eq_true q148; have p149 : 0 ≤ (3 : Int) := (by omega); have q149 : 3 < (t135.length : Int) := of_decide_eq_true (by first | (with_reducible assumption) | assumption); obtain ⟨ad149, e149, hx149_0, hx149_1, hx149_2, hx149_3⟩ := at_T32 (Kd.R_reads' HO139.out).2.2 3 p149 q149; obtain rfl : ad147 = ad149 := (by injection e149); (try simp only [show (3 : Int).toNat = 3 from rfl, Nat.reduceMul, Nat.reduceEqDiff, Go.Addr.add, ↓reduceIte] at hx149_0); (try simp only [show (3 : Int).toNat = 3 from rfl, Nat.reduceMul, Nat.reduceEqDiff, Go.Addr.add, ↓reduceIte] at hx149_1); (try simp only [show (3 : Int).toNat = 3 from rfl, Nat.reduceMul, Nat.reduceEqDiff, Go.Addr.add, ↓reduceIte] at hx149_2); (try simp only [show (3 : Int).toNat = 3 from rfl, Nat.reduceMul, Nat.reduceEqDiff, Go.Addr.add, ↓reduceIte] at hx149_3); have qi149 : (3 < t135.length) = True := eq_true (by omega); (try rw [show ((3 : Int)).toNat = 3 from rfl] at hx149_0); (try rw [show 3 * 4 = 12 from rfl] at hx149_0); (try rw [show ((3 : Int)).toNat = 3 from rfl] at hx149_1); (try rw [show 3 * 4 = 12 from rfl] at hx149_1); (try rw [show ((3 : Int)).toNat = 3 from rfl] at hx149_2); (try rw [show 3 * 4 = 12 from rfl] at hx149_2); (try rw [show ((3 : Int)).toNat = 3 from rfl] at hx149_3); (try rw [show 3 * 4 = 12 from rfl] at hx149_3); replace p149 := eq_true p149; replace q149 := eq_true q149) | (go_at_call 12; (with_reducible refine (lexer_Join.calls k _ _ t135 t150 _ ?side1 ?side2 A15.out).mono ?_); (case side1 => repeat (first | exact (Kd.R_reads' HO139.out).2.2 | (with_reducible refine Kd.C_alloc ?_ _) | (with_reducible refine Kd.C_drewN ?_ _) | (with_reducible refine Kd.C_drew ?_))); (case side2 => exact (Kd.R_reads' HO139.out).2.1); rintro e w43 ⟨rfl, hb⟩; have n0_ := Aside0.mk (Kd.R_below (by (with_reducible repeat (first | apply Kd.R_alloc | apply Kd.R_drewN | apply Kd.R_drew)); exact HO139.out) hb); have n1_ := Aside0.mk (Kd.R_below (by (with_reducible repeat (first | apply Kd.R_alloc | apply Kd.R_drewN | apply Kd.R_drew)); exact HO144.out) hb); have n2_ := Aside0.mk (below_step (by repeat (first | (with_reducible first | exact HB.out | apply below_alloc | apply pw_below_drewN | apply below_drew1) | exact HB.out)) hb); clear HO139; clear HO144; clear HB; have HO139 := n0_; have HO144 := n1_; have HB := n2_; clear n0_ n1_ n2_; (try clear hb); (try clear hb2); (try clear hk); (try clear hi)))
                          go_ret
                          exact ⟨by first | rfl | (simp [errW_none, errW_some] <;> rfl) | (simp [*, errW_none, errW_some] <;> rfl), by repeat (first | (with_reducible first | exact HB.out | apply below_alloc | apply pw_below_drewN | apply below_drew1) | exact HB.out)⟩
                      · rw [if_neg c14] at H
                        have c14b0 : (t142 == 110) = false := beq_eq_false_iff_ne.mpr c14
                        have c14b1 : (t142 != 110) = true := bne_iff_ne.mpr c14
                        obtain rfl := Option.some.inj H
                        go_enter Tryd.func8, Tryd.ntmps8
                        go_wp2_with (first | ((with_reducible refine gate_callee (f := 9) rfl ?_); refine goesL_ (some 10) rfl rfl Tryd.func9 (by kernel_rfl) rfl #[.string (⟨#[120, 60, 61, 49, 50, 59, 32, 35, 32, 121]⟩ : ByteArray)] rfl (by (try simp only [List.map_toArray, List.map_cons, List.map_nil]); first | done | rfl | (simp only [List.length_drop, List.length_take]; rfl)) ?_; (with_reducible refine (lexer_Lex.calls k (⟨#[120, 60, 61, 49, 50, 59, 32, 35, 32, 121]⟩ : ByteArray) t135 t136 t137 _ ?side1 A1.out).mono ?_); (case side1 => exact hT.later (by repeat (first | (with_reducible first | exact HB.out | apply below_alloc | apply pw_below_drewN | apply below_drew1) | exact HB.out))); rintro e w44 ⟨v138, rfl, ho0, hb⟩; refine ⟨_, rfl, ?_⟩; have n0_ := Aside0.mk (Kd.R_lower ho0 (below_size (by repeat (first | (with_reducible first | exact HB.out | apply below_alloc | apply pw_below_drewN | apply below_drew1) | exact HB.out)))); have n1_ := Aside0.mk (below_step (by repeat (first | (with_reducible first | exact HB.out | apply below_alloc | apply pw_below_drewN | apply below_drew1) | exact HB.out)) hb); clear HB; have HO139 := n0_; have HB := n1_; clear n0_ n1_; (try clear hb); (try clear hb2); (try clear hk); (try clear hi); (try clear ho0)) | ((with_reducible refine gate_callee (f := 9) rfl ?_); refine goesL_ (some 15) rfl rfl Tryd.func9 (by kernel_rfl) rfl #[.string (⟨#[97, 32, 36]⟩ : ByteArray)] rfl (by (try simp only [List.map_toArray, List.map_cons, List.map_nil]); first | done | rfl | (simp only [List.length_drop, List.length_take]; rfl)) ?_; (with_reducible refine (lexer_Lex.calls k (⟨#[97, 32, 36]⟩ : ByteArray) t140 t141 t142 _ ?side1 A2.out).mono ?_); (case side1 => exact hT.later (by repeat (first | (with_reducible first | exact HB.out | apply below_alloc | apply pw_below_drewN | apply below_drew1) | exact HB.out))); rintro e w45 ⟨v143, rfl, ho0, hb⟩; refine ⟨_, rfl, ?_⟩; have n0_ := Aside0.mk (Kd.R_elder' (by (with_reducible repeat (first | apply Kd.R_alloc | apply Kd.R_drewN | apply Kd.R_drew)); exact HO139.out) (Kd.R_base ho0) hb); have n1_ := Aside0.mk (Kd.R_lower (Kd.R_new' ho0 (Kd.R_lt (by (with_reducible repeat (first | apply Kd.R_alloc | apply Kd.R_drewN | apply Kd.R_drew)); exact HO139.out))) (below_size (by repeat (first | (with_reducible first | exact HB.out | apply below_alloc | apply pw_below_drewN | apply below_drew1) | exact HB.out)))); have n2_ := Aside0.mk (below_step (by repeat (first | (with_reducible first | exact HB.out | apply below_alloc | apply pw_below_drewN | apply below_drew1) | exact HB.out)) hb); clear HO139; clear HB; have HO139 := n0_; have HO144 := n1_; have HB := n2_; clear n0_ n1_ n2_; (try clear hb); (try clear hb2); (try clear hk); (try clear hi); (try clear ho0)) | ((with_reducible refine gate_callee (f := 13) rfl ?_); refine goesL_ (some 20) rfl rfl Tryd.func13 (by kernel_rfl) rfl #[.string (⟨#[97, 10, 98, 99]⟩ : ByteArray), .int .i64 3] rfl (by (try simp only [List.map_toArray, List.map_cons, List.map_nil]); first | done | rfl | (simp only [List.length_drop, List.length_take]; rfl)) ?_; (with_reducible refine (lexer_Line.calls (⟨#[97, 10, 98, 99]⟩ : ByteArray) 3 t145 t146 _ A3.out).mono ?_); rintro e w46 ⟨rfl, hb⟩; refine ⟨_, rfl, ?_⟩; have n0_ := Aside0.mk (Kd.R_below (by (with_reducible repeat (first | apply Kd.R_alloc | apply Kd.R_drewN | apply Kd.R_drew)); exact HO139.out) hb); have n1_ := Aside0.mk (Kd.R_below (by (with_reducible repeat (first | apply Kd.R_alloc | apply Kd.R_drewN | apply Kd.R_drew)); exact HO144.out) hb); have n2_ := Aside0.mk (below_step (by repeat (first | (with_reducible first | exact HB.out | apply below_alloc | apply pw_below_drewN | apply below_drew1) | exact HB.out)) hb); clear HO139; clear HO144; clear HB; have HO139 := n0_; have HO144 := n1_; have HB := n2_; clear n0_ n1_ n2_; (try clear hb); (try clear hb2); (try clear hk); (try clear hi); obtain ⟨Ao47, co47, eo47⟩ := Kd.R_slice HO139.out; subst eo47; have p147 : 0 ≤ (1 : Int) := (by omega); have q147 : 1 < (t135.length : Int) := of_decide_eq_true (by first | (with_reducible assumption) | assumption); obtain ⟨ad147, e147, hx147_0, hx147_1, hx147_2, hx147_3⟩ := at_T32 (Kd.R_reads' HO139.out).2.2 1 p147 q147; cases e147; (try simp only [show (1 : Int).toNat = 1 from rfl, Nat.reduceMul, Nat.reduceEqDiff, Go.Addr.add, ↓reduceIte] at hx147_0); (try simp only [show (1 : Int).toNat = 1 from rfl, Nat.reduceMul, Nat.reduceEqDiff, Go.Addr.add, ↓reduceIte] at hx147_1); (try simp only [show (1 : Int).toNat = 1 from rfl, Nat.reduceMul, Nat.reduceEqDiff, Go.Addr.add, ↓reduceIte] at hx147_2); (try simp only [show (1 : Int).toNat = 1 from rfl, Nat.reduceMul, Nat.reduceEqDiff, Go.Addr.add, ↓reduceIte] at hx147_3); have qi147 : (1 < t135.length) = True := eq_true (by omega); (try rw [show ((1 : Int)).toNat = 1 from rfl] at hx147_0); (try rw [show 1 * 4 = 4 from rfl] at hx147_0); (try rw [show ((1 : Int)).toNat = 1 from rfl] at hx147_1); (try rw [show 1 * 4 = 4 from rfl] at hx147_1); (try rw [show ((1 : Int)).toNat = 1 from rfl] at hx147_2); (try rw [show 1 * 4 = 4 from rfl] at hx147_2); (try rw [show ((1 : Int)).toNat = 1 from rfl] at hx147_3); (try rw [show 1 * 4 = 4 from rfl] at hx147_3); replace p147 := eq_true p147; replace q147 := eq_true q147; have p148 : 0 ≤ (2 : Int) := (by omega); have q148 : 2 < (t135.length : Int) := of_decide_eq_true (by first | (with_reducible assumption) | assumption); obtain ⟨ad148, e148, hx148_0, hx148_1, hx148_2, hx148_3⟩ := at_T32 (Kd.R_reads' HO139.out).2.2 2 p148 q148; obtain rfl : ad147 = ad148 := (by injection e148); (try simp only [show (2 : Int).toNat = 2 from rfl, Nat.reduceMul, Nat.reduceEqDiff, Go.Addr.add, ↓reduceIte] at hx148_0); (try simp only [show (2 : Int).toNat = 2 from rfl, Nat.reduceMul, Nat.reduceEqDiff, Go.Addr.add, ↓reduceIte] at hx148_1); (try simp only [show (2 : Int).toNat = 2 from rfl, Nat.reduceMul, Nat.reduceEqDiff, Go.Addr.add, ↓reduceIte] at hx148_2); (try simp only [show (2 : Int).toNat = 2 from rfl, Nat.reduceMul, Nat.reduceEqDiff, Go.Addr.add, ↓reduceIte] at hx148_3); have qi148 : (2 < t135.length) = True := eq_true (by omega); (try rw [show ((2 : Int)).toNat = 2 from rfl] at hx148_0); (try rw [show 2 * 4 = 8 from rfl] at hx148_0); (try rw [show ((2 : Int)).toNat = 2 from rfl] at hx148_1); (try rw [show 2 * 4 = 8 from rfl] at hx148_1); (try rw [show ((2 : Int)).toNat = 2 from rfl] at hx148_2); (try rw [show 2 * 4 = 8 from rfl] at hx148_2); (try rw [show ((2 : Int)).toNat = 2 from rfl] at hx148_3); (try rw [show 2 * 4 = 8 from rfl] at hx148_3); replace p148 := eq_true p148; replace q148 := eq_true q148; have p149 : 0 ≤ (3 : Int) := (by omega); have q149 : 3 < (t135.length : Int) := of_decide_eq_true (by first | (with_reducible assumption) | assumption); obtain ⟨ad149, e149, hx149_0, hx149_1, hx149_2, hx149_3⟩ := at_T32 (Kd.R_reads' HO139.out).2.2 3 p149 q149; obtain rfl : ad147 = ad149 := (by injection e149); (try simp only [show (3 : Int).toNat = 3 from rfl, Nat.reduceMul, Nat.reduceEqDiff, Go.Addr.add, ↓reduceIte] at hx149_0); (try simp only [show (3 : Int).toNat = 3 from rfl, Nat.reduceMul, Nat.reduceEqDiff, Go.Addr.add, ↓reduceIte] at hx149_1); (try simp only [show (3 : Int).toNat = 3 from rfl, Nat.reduceMul, Nat.reduceEqDiff, Go.Addr.add, ↓reduceIte] at hx149_2); (try simp only [show (3 : Int).toNat = 3 from rfl, Nat.reduceMul, Nat.reduceEqDiff, Go.Addr.add, ↓reduceIte] at hx149_3); have qi149 : (3 < t135.length) = True := eq_true (by omega); (try rw [show ((3 : Int)).toNat = 3 from rfl] at hx149_0); (try rw [show 3 * 4 = 12 from rfl] at hx149_0); (try rw [show ((3 : Int)).toNat = 3 from rfl] at hx149_1); (try rw [show 3 * 4 = 12 from rfl] at hx149_1); (try rw [show ((3 : Int)).toNat = 3 from rfl] at hx149_2); (try rw [show 3 * 4 = 12 from rfl] at hx149_2); (try rw [show ((3 : Int)).toNat = 3 from rfl] at hx149_3); (try rw [show 3 * 4 = 12 from rfl] at hx149_3); replace p149 := eq_true p149; replace q149 := eq_true q149))
                        go_ret
                        exact ⟨by first | rfl | (simp [errW_none, errW_some] <;> rfl) | (simp [*, errW_none, errW_some] <;> rfl), by repeat (first | (with_reducible first | exact HB.out | apply below_alloc | apply pw_below_drewN | apply below_drew1) | exact HB.out)⟩
                    · rw [if_neg c13] at H
                      have c13b0 : (t141 == 2) = false := beq_eq_false_iff_ne.mpr c13
                      have c13b1 : (t141 != 2) = true := bne_iff_ne.mpr c13
                      obtain rfl := Option.some.inj H
                      go_enter Tryd.func8, Tryd.ntmps8
                      go_wp2_with (first | ((with_reducible refine gate_callee (f := 9) rfl ?_); refine goesL_ (some 10) rfl rfl Tryd.func9 (by kernel_rfl) rfl #[.string (⟨#[120, 60, 61, 49, 50, 59, 32, 35, 32, 121]⟩ : ByteArray)] rfl (by (try simp only [List.map_toArray, List.map_cons, List.map_nil]); first | done | rfl | (simp only [List.length_drop, List.length_take]; rfl)) ?_; (with_reducible refine (lexer_Lex.calls k (⟨#[120, 60, 61, 49, 50, 59, 32, 35, 32, 121]⟩ : ByteArray) t135 t136 t137 _ ?side1 A1.out).mono ?_); (case side1 => exact hT.later (by repeat (first | (with_reducible first | exact HB.out | apply below_alloc | apply pw_below_drewN | apply below_drew1) | exact HB.out))); rintro e w48 ⟨v138, rfl, ho0, hb⟩; refine ⟨_, rfl, ?_⟩; have n0_ := Aside0.mk (Kd.R_lower ho0 (below_size (by repeat (first | (with_reducible first | exact HB.out | apply below_alloc | apply pw_below_drewN | apply below_drew1) | exact HB.out)))); have n1_ := Aside0.mk (below_step (by repeat (first | (with_reducible first | exact HB.out | apply below_alloc | apply pw_below_drewN | apply below_drew1) | exact HB.out)) hb); clear HB; have HO139 := n0_; have HB := n1_; clear n0_ n1_; (try clear hb); (try clear hb2); (try clear hk); (try clear hi); (try clear ho0)) | ((with_reducible refine gate_callee (f := 9) rfl ?_); refine goesL_ (some 15) rfl rfl Tryd.func9 (by kernel_rfl) rfl #[.string (⟨#[97, 32, 36]⟩ : ByteArray)] rfl (by (try simp only [List.map_toArray, List.map_cons, List.map_nil]); first | done | rfl | (simp only [List.length_drop, List.length_take]; rfl)) ?_; (with_reducible refine (lexer_Lex.calls k (⟨#[97, 32, 36]⟩ : ByteArray) t140 t141 t142 _ ?side1 A2.out).mono ?_); (case side1 => exact hT.later (by repeat (first | (with_reducible first | exact HB.out | apply below_alloc | apply pw_below_drewN | apply below_drew1) | exact HB.out))); rintro e w49 ⟨v143, rfl, ho0, hb⟩; refine ⟨_, rfl, ?_⟩; have n0_ := Aside0.mk (Kd.R_elder' (by (with_reducible repeat (first | apply Kd.R_alloc | apply Kd.R_drewN | apply Kd.R_drew)); exact HO139.out) (Kd.R_base ho0) hb); have n1_ := Aside0.mk (Kd.R_lower (Kd.R_new' ho0 (Kd.R_lt (by (with_reducible repeat (first | apply Kd.R_alloc | apply Kd.R_drewN | apply Kd.R_drew)); exact HO139.out))) (below_size (by repeat (first | (with_reducible first | exact HB.out | apply below_alloc | apply pw_below_drewN | apply below_drew1) | exact HB.out)))); have n2_ := Aside0.mk (below_step (by repeat (first | (with_reducible first | exact HB.out | apply below_alloc | apply pw_below_drewN | apply below_drew1) | exact HB.out)) hb); clear HO139; clear HB; have HO139 := n0_; have HO144 := n1_; have HB := n2_; clear n0_ n1_ n2_; (try clear hb); (try clear hb2); (try clear hk); (try clear hi); (try clear ho0)) | ((with_reducible refine gate_callee (f := 13) rfl ?_); refine goesL_ (some 20) rfl rfl Tryd.func13 (by kernel_rfl) rfl #[.string (⟨#[97, 10, 98, 99]⟩ : ByteArray), .int .i64 3] rfl (by (try simp only [List.map_toArray, List.map_cons, List.map_nil]); first | done | rfl | (simp only [List.length_drop, List.length_take]; rfl)) ?_; (with_reducible refine (lexer_Line.calls (⟨#[97, 10, 98, 99]⟩ : ByteArray) 3 t145 t146 _ A3.out).mono ?_); rintro e w50 ⟨rfl, hb⟩; refine ⟨_, rfl, ?_⟩; have n0_ := Aside0.mk (Kd.R_below (by (with_reducible repeat (first | apply Kd.R_alloc | apply Kd.R_drewN | apply Kd.R_drew)); exact HO139.out) hb); have n1_ := Aside0.mk (Kd.R_below (by (with_reducible repeat (first | apply Kd.R_alloc | apply Kd.R_drewN | apply Kd.R_drew)); exact HO144.out) hb); have n2_ := Aside0.mk (below_step (by repeat (first | (with_reducible first | exact HB.out | apply below_alloc | apply pw_below_drewN | apply below_drew1) | exact HB.out)) hb); clear HO139; clear HO144; clear HB; have HO139 := n0_; have HO144 := n1_; have HB := n2_; clear n0_ n1_ n2_; (try clear hb); (try clear hb2); (try clear hk); (try clear hi); obtain ⟨Ao51, co51, eo51⟩ := Kd.R_slice HO139.out; subst eo51; have p147 : 0 ≤ (1 : Int) := (by omega); have q147 : 1 < (t135.length : Int) := of_decide_eq_true (by first | (with_reducible assumption) | assumption); obtain ⟨ad147, e147, hx147_0, hx147_1, hx147_2, hx147_3⟩ := at_T32 (Kd.R_reads' HO139.out).2.2 1 p147 q147; cases e147; (try simp only [show (1 : Int).toNat = 1 from rfl, Nat.reduceMul, Nat.reduceEqDiff, Go.Addr.add, ↓reduceIte] at hx147_0); (try simp only [show (1 : Int).toNat = 1 from rfl, Nat.reduceMul, Nat.reduceEqDiff, Go.Addr.add, ↓reduceIte] at hx147_1); (try simp only [show (1 : Int).toNat = 1 from rfl, Nat.reduceMul, Nat.reduceEqDiff, Go.Addr.add, ↓reduceIte] at hx147_2); (try simp only [show (1 : Int).toNat = 1 from rfl, Nat.reduceMul, Nat.reduceEqDiff, Go.Addr.add, ↓reduceIte] at hx147_3); have qi147 : (1 < t135.length) = True := eq_true (by omega); (try rw [show ((1 : Int)).toNat = 1 from rfl] at hx147_0); (try rw [show 1 * 4 = 4 from rfl] at hx147_0); (try rw [show ((1 : Int)).toNat = 1 from rfl] at hx147_1); (try rw [show 1 * 4 = 4 from rfl] at hx147_1); (try rw [show ((1 : Int)).toNat = 1 from rfl] at hx147_2); (try rw [show 1 * 4 = 4 from rfl] at hx147_2); (try rw [show ((1 : Int)).toNat = 1 from rfl] at hx147_3); (try rw [show 1 * 4 = 4 from rfl] at hx147_3); replace p147 := eq_true p147; replace q147 := eq_true q147; have p148 : 0 ≤ (2 : Int) := (by omega); have q148 : 2 < (t135.length : Int) := of_decide_eq_true (by first | (with_reducible assumption) | assumption); obtain ⟨ad148, e148, hx148_0, hx148_1, hx148_2, hx148_3⟩ := at_T32 (Kd.R_reads' HO139.out).2.2 2 p148 q148; obtain rfl : ad147 = ad148 := (by injection e148); (try simp only [show (2 : Int).toNat = 2 from rfl, Nat.reduceMul, Nat.reduceEqDiff, Go.Addr.add, ↓reduceIte] at hx148_0); (try simp only [show (2 : Int).toNat = 2 from rfl, Nat.reduceMul, Nat.reduceEqDiff, Go.Addr.add, ↓reduceIte] at hx148_1); (try simp only [show (2 : Int).toNat = 2 from rfl, Nat.reduceMul, Nat.reduceEqDiff, Go.Addr.add, ↓reduceIte] at hx148_2); (try simp only [show (2 : Int).toNat = 2 from rfl, Nat.reduceMul, Nat.reduceEqDiff, Go.Addr.add, ↓reduceIte] at hx148_3); have qi148 : (2 < t135.length) = True := eq_true (by omega); (try rw [show ((2 : Int)).toNat = 2 from rfl] at hx148_0); (try rw [show 2 * 4 = 8 from rfl] at hx148_0); (try rw [show ((2 : Int)).toNat = 2 from rfl] at hx148_1); (try rw [show 2 * 4 = 8 from rfl] at hx148_1); (try rw [show ((2 : Int)).toNat = 2 from rfl] at hx148_2); (try rw [show 2 * 4 = 8 from rfl] at hx148_2); (try rw [show ((2 : Int)).toNat = 2 from rfl] at hx148_3); (try rw [show 2 * 4 = 8 from rfl] at hx148_3); replace p148 := eq_true p148; replace q148 := eq_true q148; have p149 : 0 ≤ (3 : Int) := (by omega); have q149 : 3 < (t135.length : Int) := of_decide_eq_true (by first | (with_reducible assumption) | assumption); obtain ⟨ad149, e149, hx149_0, hx149_1, hx149_2, hx149_3⟩ := at_T32 (Kd.R_reads' HO139.out).2.2 3 p149 q149; obtain rfl : ad147 = ad149 := (by injection e149); (try simp only [show (3 : Int).toNat = 3 from rfl, Nat.reduceMul, Nat.reduceEqDiff, Go.Addr.add, ↓reduceIte] at hx149_0); (try simp only [show (3 : Int).toNat = 3 from rfl, Nat.reduceMul, Nat.reduceEqDiff, Go.Addr.add, ↓reduceIte] at hx149_1); (try simp only [show (3 : Int).toNat = 3 from rfl, Nat.reduceMul, Nat.reduceEqDiff, Go.Addr.add, ↓reduceIte] at hx149_2); (try simp only [show (3 : Int).toNat = 3 from rfl, Nat.reduceMul, Nat.reduceEqDiff, Go.Addr.add, ↓reduceIte] at hx149_3); have qi149 : (3 < t135.length) = True := eq_true (by omega); (try rw [show ((3 : Int)).toNat = 3 from rfl] at hx149_0); (try rw [show 3 * 4 = 12 from rfl] at hx149_0); (try rw [show ((3 : Int)).toNat = 3 from rfl] at hx149_1); (try rw [show 3 * 4 = 12 from rfl] at hx149_1); (try rw [show ((3 : Int)).toNat = 3 from rfl] at hx149_2); (try rw [show 3 * 4 = 12 from rfl] at hx149_2); (try rw [show ((3 : Int)).toNat = 3 from rfl] at hx149_3); (try rw [show 3 * 4 = 12 from rfl] at hx149_3); replace p149 := eq_true p149; replace q149 := eq_true q149))
                      go_ret
                      exact ⟨by first | rfl | (simp [errW_none, errW_some] <;> rfl) | (simp [*, errW_none, errW_some] <;> rfl), by repeat (first | (with_reducible first | exact HB.out | apply below_alloc | apply pw_below_drewN | apply below_drew1) | exact HB.out)⟩
                  · rw [if_neg c12] at H
                    have c12b0 : (((rd_T32 t135 3).f3) == 5) = false := beq_eq_false_iff_ne.mpr c12
                    have c12b1 : (((rd_T32 t135 3).f3) != 5) = true := bne_iff_ne.mpr c12
                    obtain rfl := Option.some.inj H
                    go_enter Tryd.func8, Tryd.ntmps8
                    go_wp2_with (first | ((with_reducible refine gate_callee (f := 9) rfl ?_); refine goesL_ (some 10) rfl rfl Tryd.func9 (by kernel_rfl) rfl #[.string (⟨#[120, 60, 61, 49, 50, 59, 32, 35, 32, 121]⟩ : ByteArray)] rfl (by (try simp only [List.map_toArray, List.map_cons, List.map_nil]); first | done | rfl | (simp only [List.length_drop, List.length_take]; rfl)) ?_; (with_reducible refine (lexer_Lex.calls k (⟨#[120, 60, 61, 49, 50, 59, 32, 35, 32, 121]⟩ : ByteArray) t135 t136 t137 _ ?side1 A1.out).mono ?_); (case side1 => exact hT.later (by repeat (first | (with_reducible first | exact HB.out | apply below_alloc | apply pw_below_drewN | apply below_drew1) | exact HB.out))); rintro e w52 ⟨v138, rfl, ho0, hb⟩; refine ⟨_, rfl, ?_⟩; have n0_ := Aside0.mk (Kd.R_lower ho0 (below_size (by repeat (first | (with_reducible first | exact HB.out | apply below_alloc | apply pw_below_drewN | apply below_drew1) | exact HB.out)))); have n1_ := Aside0.mk (below_step (by repeat (first | (with_reducible first | exact HB.out | apply below_alloc | apply pw_below_drewN | apply below_drew1) | exact HB.out)) hb); clear HB; have HO139 := n0_; have HB := n1_; clear n0_ n1_; (try clear hb); (try clear hb2); (try clear hk); (try clear hi); (try clear ho0)) | ((with_reducible refine gate_callee (f := 9) rfl ?_); refine goesL_ (some 15) rfl rfl Tryd.func9 (by kernel_rfl) rfl #[.string (⟨#[97, 32, 36]⟩ : ByteArray)] rfl (by (try simp only [List.map_toArray, List.map_cons, List.map_nil]); first | done | rfl | (simp only [List.length_drop, List.length_take]; rfl)) ?_; (with_reducible refine (lexer_Lex.calls k (⟨#[97, 32, 36]⟩ : ByteArray) t140 t141 t142 _ ?side1 A2.out).mono ?_); (case side1 => exact hT.later (by repeat (first | (with_reducible first | exact HB.out | apply below_alloc | apply pw_below_drewN | apply below_drew1) | exact HB.out))); rintro e w53 ⟨v143, rfl, ho0, hb⟩; refine ⟨_, rfl, ?_⟩; have n0_ := Aside0.mk (Kd.R_elder' (by (with_reducible repeat (first | apply Kd.R_alloc | apply Kd.R_drewN | apply Kd.R_drew)); exact HO139.out) (Kd.R_base ho0) hb); have n1_ := Aside0.mk (Kd.R_lower (Kd.R_new' ho0 (Kd.R_lt (by (with_reducible repeat (first | apply Kd.R_alloc | apply Kd.R_drewN | apply Kd.R_drew)); exact HO139.out))) (below_size (by repeat (first | (with_reducible first | exact HB.out | apply below_alloc | apply pw_below_drewN | apply below_drew1) | exact HB.out)))); have n2_ := Aside0.mk (below_step (by repeat (first | (with_reducible first | exact HB.out | apply below_alloc | apply pw_below_drewN | apply below_drew1) | exact HB.out)) hb); clear HO139; clear HB; have HO139 := n0_; have HO144 := n1_; have HB := n2_; clear n0_ n1_ n2_; (try clear hb); (try clear hb2); (try clear hk); (try clear hi); (try clear ho0)) | ((with_reducible refine gate_callee (f := 13) rfl ?_); refine goesL_ (some 20) rfl rfl Tryd.func13 (by kernel_rfl) rfl #[.string (⟨#[97, 10, 98, 99]⟩ : ByteArray), .int .i64 3] rfl (by (try simp only [List.map_toArray, List.map_cons, List.map_nil]); first | done | rfl | (simp only [List.length_drop, List.length_take]; rfl)) ?_; (with_reducible refine (lexer_Line.calls (⟨#[97, 10, 98, 99]⟩ : ByteArray) 3 t145 t146 _ A3.out).mono ?_); rintro e w54 ⟨rfl, hb⟩; refine ⟨_, rfl, ?_⟩; have n0_ := Aside0.mk (Kd.R_below (by (with_reducible repeat (first | apply Kd.R_alloc | apply Kd.R_drewN | apply Kd.R_drew)); exact HO139.out) hb); have n1_ := Aside0.mk (Kd.R_below (by (with_reducible repeat (first | apply Kd.R_alloc | apply Kd.R_drewN | apply Kd.R_drew)); exact HO144.out) hb); have n2_ := Aside0.mk (below_step (by repeat (first | (with_reducible first | exact HB.out | apply below_alloc | apply pw_below_drewN | apply below_drew1) | exact HB.out)) hb); clear HO139; clear HO144; clear HB; have HO139 := n0_; have HO144 := n1_; have HB := n2_; clear n0_ n1_ n2_; (try clear hb); (try clear hb2); (try clear hk); (try clear hi); obtain ⟨Ao55, co55, eo55⟩ := Kd.R_slice HO139.out; subst eo55; have p147 : 0 ≤ (1 : Int) := (by omega); have q147 : 1 < (t135.length : Int) := of_decide_eq_true (by first | (with_reducible assumption) | assumption); obtain ⟨ad147, e147, hx147_0, hx147_1, hx147_2, hx147_3⟩ := at_T32 (Kd.R_reads' HO139.out).2.2 1 p147 q147; cases e147; (try simp only [show (1 : Int).toNat = 1 from rfl, Nat.reduceMul, Nat.reduceEqDiff, Go.Addr.add, ↓reduceIte] at hx147_0); (try simp only [show (1 : Int).toNat = 1 from rfl, Nat.reduceMul, Nat.reduceEqDiff, Go.Addr.add, ↓reduceIte] at hx147_1); (try simp only [show (1 : Int).toNat = 1 from rfl, Nat.reduceMul, Nat.reduceEqDiff, Go.Addr.add, ↓reduceIte] at hx147_2); (try simp only [show (1 : Int).toNat = 1 from rfl, Nat.reduceMul, Nat.reduceEqDiff, Go.Addr.add, ↓reduceIte] at hx147_3); have qi147 : (1 < t135.length) = True := eq_true (by omega); (try rw [show ((1 : Int)).toNat = 1 from rfl] at hx147_0); (try rw [show 1 * 4 = 4 from rfl] at hx147_0); (try rw [show ((1 : Int)).toNat = 1 from rfl] at hx147_1); (try rw [show 1 * 4 = 4 from rfl] at hx147_1); (try rw [show ((1 : Int)).toNat = 1 from rfl] at hx147_2); (try rw [show 1 * 4 = 4 from rfl] at hx147_2); (try rw [show ((1 : Int)).toNat = 1 from rfl] at hx147_3); (try rw [show 1 * 4 = 4 from rfl] at hx147_3); replace p147 := eq_true p147; replace q147 := eq_true q147; have p148 : 0 ≤ (2 : Int) := (by omega); have q148 : 2 < (t135.length : Int) := of_decide_eq_true (by first | (with_reducible assumption) | assumption); obtain ⟨ad148, e148, hx148_0, hx148_1, hx148_2, hx148_3⟩ := at_T32 (Kd.R_reads' HO139.out).2.2 2 p148 q148; obtain rfl : ad147 = ad148 := (by injection e148); (try simp only [show (2 : Int).toNat = 2 from rfl, Nat.reduceMul, Nat.reduceEqDiff, Go.Addr.add, ↓reduceIte] at hx148_0); (try simp only [show (2 : Int).toNat = 2 from rfl, Nat.reduceMul, Nat.reduceEqDiff, Go.Addr.add, ↓reduceIte] at hx148_1); (try simp only [show (2 : Int).toNat = 2 from rfl, Nat.reduceMul, Nat.reduceEqDiff, Go.Addr.add, ↓reduceIte] at hx148_2); (try simp only [show (2 : Int).toNat = 2 from rfl, Nat.reduceMul, Nat.reduceEqDiff, Go.Addr.add, ↓reduceIte] at hx148_3); have qi148 : (2 < t135.length) = True := eq_true (by omega); (try rw [show ((2 : Int)).toNat = 2 from rfl] at hx148_0); (try rw [show 2 * 4 = 8 from rfl] at hx148_0); (try rw [show ((2 : Int)).toNat = 2 from rfl] at hx148_1); (try rw [show 2 * 4 = 8 from rfl] at hx148_1); (try rw [show ((2 : Int)).toNat = 2 from rfl] at hx148_2); (try rw [show 2 * 4 = 8 from rfl] at hx148_2); (try rw [show ((2 : Int)).toNat = 2 from rfl] at hx148_3); (try rw [show 2 * 4 = 8 from rfl] at hx148_3); replace p148 := eq_true p148; replace q148 := eq_true q148; have p149 : 0 ≤ (3 : Int) := (by omega); have q149 : 3 < (t135.length : Int) := of_decide_eq_true (by first | (with_reducible assumption) | assumption); obtain ⟨ad149, e149, hx149_0, hx149_1, hx149_2, hx149_3⟩ := at_T32 (Kd.R_reads' HO139.out).2.2 3 p149 q149; obtain rfl : ad147 = ad149 := (by injection e149); (try simp only [show (3 : Int).toNat = 3 from rfl, Nat.reduceMul, Nat.reduceEqDiff, Go.Addr.add, ↓reduceIte] at hx149_0); (try simp only [show (3 : Int).toNat = 3 from rfl, Nat.reduceMul, Nat.reduceEqDiff, Go.Addr.add, ↓reduceIte] at hx149_1); (try simp only [show (3 : Int).toNat = 3 from rfl, Nat.reduceMul, Nat.reduceEqDiff, Go.Addr.add, ↓reduceIte] at hx149_2); (try simp only [show (3 : Int).toNat = 3 from rfl, Nat.reduceMul, Nat.reduceEqDiff, Go.Addr.add, ↓reduceIte] at hx149_3); have qi149 : (3 < t135.length) = True := eq_true (by omega); (try rw [show ((3 : Int)).toNat = 3 from rfl] at hx149_0); (try rw [show 3 * 4 = 12 from rfl] at hx149_0); (try rw [show ((3 : Int)).toNat = 3 from rfl] at hx149_1); (try rw [show 3 * 4 = 12 from rfl] at hx149_1); (try rw [show ((3 : Int)).toNat = 3 from rfl] at hx149_2); (try rw [show 3 * 4 = 12 from rfl] at hx149_2); (try rw [show ((3 : Int)).toNat = 3 from rfl] at hx149_3); (try rw [show 3 * 4 = 12 from rfl] at hx149_3); replace p149 := eq_true p149; replace q149 := eq_true q149))
                    go_ret
                    exact ⟨by first | rfl | (simp [errW_none, errW_some] <;> rfl) | (simp [*, errW_none, errW_some] <;> rfl), by repeat (first | (with_reducible first | exact HB.out | apply below_alloc | apply pw_below_drewN | apply below_drew1) | exact HB.out)⟩
                · rw [if_neg c11] at H
                  exact absurd H (by simp)
              · rw [if_neg c10] at H
                have c10b0 : (((rd_T32 t135 2).f2) == 12) = false := beq_eq_false_iff_ne.mpr c10
                have c10b1 : (((rd_T32 t135 2).f2) != 12) = true := bne_iff_ne.mpr c10
                obtain rfl := Option.some.inj H
                go_enter Tryd.func8, Tryd.ntmps8
                go_wp2_with (first | ((with_reducible refine gate_callee (f := 9) rfl ?_); refine goesL_ (some 10) rfl rfl Tryd.func9 (by kernel_rfl) rfl #[.string (⟨#[120, 60, 61, 49, 50, 59, 32, 35, 32, 121]⟩ : ByteArray)] rfl (by (try simp only [List.map_toArray, List.map_cons, List.map_nil]); first | done | rfl | (simp only [List.length_drop, List.length_take]; rfl)) ?_; (with_reducible refine (lexer_Lex.calls k (⟨#[120, 60, 61, 49, 50, 59, 32, 35, 32, 121]⟩ : ByteArray) t135 t136 t137 _ ?side1 A1.out).mono ?_); (case side1 => exact hT.later (by repeat (first | (with_reducible first | exact HB.out | apply below_alloc | apply pw_below_drewN | apply below_drew1) | exact HB.out))); rintro e w56 ⟨v138, rfl, ho0, hb⟩; refine ⟨_, rfl, ?_⟩; have n0_ := Aside0.mk (Kd.R_lower ho0 (below_size (by repeat (first | (with_reducible first | exact HB.out | apply below_alloc | apply pw_below_drewN | apply below_drew1) | exact HB.out)))); have n1_ := Aside0.mk (below_step (by repeat (first | (with_reducible first | exact HB.out | apply below_alloc | apply pw_below_drewN | apply below_drew1) | exact HB.out)) hb); clear HB; have HO139 := n0_; have HB := n1_; clear n0_ n1_; (try clear hb); (try clear hb2); (try clear hk); (try clear hi); (try clear ho0)) | ((with_reducible refine gate_callee (f := 9) rfl ?_); refine goesL_ (some 15) rfl rfl Tryd.func9 (by kernel_rfl) rfl #[.string (⟨#[97, 32, 36]⟩ : ByteArray)] rfl (by (try simp only [List.map_toArray, List.map_cons, List.map_nil]); first | done | rfl | (simp only [List.length_drop, List.length_take]; rfl)) ?_; (with_reducible refine (lexer_Lex.calls k (⟨#[97, 32, 36]⟩ : ByteArray) t140 t141 t142 _ ?side1 A2.out).mono ?_); (case side1 => exact hT.later (by repeat (first | (with_reducible first | exact HB.out | apply below_alloc | apply pw_below_drewN | apply below_drew1) | exact HB.out))); rintro e w57 ⟨v143, rfl, ho0, hb⟩; refine ⟨_, rfl, ?_⟩; have n0_ := Aside0.mk (Kd.R_elder' (by (with_reducible repeat (first | apply Kd.R_alloc | apply Kd.R_drewN | apply Kd.R_drew)); exact HO139.out) (Kd.R_base ho0) hb); have n1_ := Aside0.mk (Kd.R_lower (Kd.R_new' ho0 (Kd.R_lt (by (with_reducible repeat (first | apply Kd.R_alloc | apply Kd.R_drewN | apply Kd.R_drew)); exact HO139.out))) (below_size (by repeat (first | (with_reducible first | exact HB.out | apply below_alloc | apply pw_below_drewN | apply below_drew1) | exact HB.out)))); have n2_ := Aside0.mk (below_step (by repeat (first | (with_reducible first | exact HB.out | apply below_alloc | apply pw_below_drewN | apply below_drew1) | exact HB.out)) hb); clear HO139; clear HB; have HO139 := n0_; have HO144 := n1_; have HB := n2_; clear n0_ n1_ n2_; (try clear hb); (try clear hb2); (try clear hk); (try clear hi); (try clear ho0)) | ((with_reducible refine gate_callee (f := 13) rfl ?_); refine goesL_ (some 20) rfl rfl Tryd.func13 (by kernel_rfl) rfl #[.string (⟨#[97, 10, 98, 99]⟩ : ByteArray), .int .i64 3] rfl (by (try simp only [List.map_toArray, List.map_cons, List.map_nil]); first | done | rfl | (simp only [List.length_drop, List.length_take]; rfl)) ?_; (with_reducible refine (lexer_Line.calls (⟨#[97, 10, 98, 99]⟩ : ByteArray) 3 t145 t146 _ A3.out).mono ?_); rintro e w58 ⟨rfl, hb⟩; refine ⟨_, rfl, ?_⟩; have n0_ := Aside0.mk (Kd.R_below (by (with_reducible repeat (first | apply Kd.R_alloc | apply Kd.R_drewN | apply Kd.R_drew)); exact HO139.out) hb); have n1_ := Aside0.mk (Kd.R_below (by (with_reducible repeat (first | apply Kd.R_alloc | apply Kd.R_drewN | apply Kd.R_drew)); exact HO144.out) hb); have n2_ := Aside0.mk (below_step (by repeat (first | (with_reducible first | exact HB.out | apply below_alloc | apply pw_below_drewN | apply below_drew1) | exact HB.out)) hb); clear HO139; clear HO144; clear HB; have HO139 := n0_; have HO144 := n1_; have HB := n2_; clear n0_ n1_ n2_; (try clear hb); (try clear hb2); (try clear hk); (try clear hi); obtain ⟨Ao59, co59, eo59⟩ := Kd.R_slice HO139.out; subst eo59; have p147 : 0 ≤ (1 : Int) := (by omega); have q147 : 1 < (t135.length : Int) := of_decide_eq_true (by first | (with_reducible assumption) | assumption); obtain ⟨ad147, e147, hx147_0, hx147_1, hx147_2, hx147_3⟩ := at_T32 (Kd.R_reads' HO139.out).2.2 1 p147 q147; cases e147; (try simp only [show (1 : Int).toNat = 1 from rfl, Nat.reduceMul, Nat.reduceEqDiff, Go.Addr.add, ↓reduceIte] at hx147_0); (try simp only [show (1 : Int).toNat = 1 from rfl, Nat.reduceMul, Nat.reduceEqDiff, Go.Addr.add, ↓reduceIte] at hx147_1); (try simp only [show (1 : Int).toNat = 1 from rfl, Nat.reduceMul, Nat.reduceEqDiff, Go.Addr.add, ↓reduceIte] at hx147_2); (try simp only [show (1 : Int).toNat = 1 from rfl, Nat.reduceMul, Nat.reduceEqDiff, Go.Addr.add, ↓reduceIte] at hx147_3); have qi147 : (1 < t135.length) = True := eq_true (by omega); (try rw [show ((1 : Int)).toNat = 1 from rfl] at hx147_0); (try rw [show 1 * 4 = 4 from rfl] at hx147_0); (try rw [show ((1 : Int)).toNat = 1 from rfl] at hx147_1); (try rw [show 1 * 4 = 4 from rfl] at hx147_1); (try rw [show ((1 : Int)).toNat = 1 from rfl] at hx147_2); (try rw [show 1 * 4 = 4 from rfl] at hx147_2); (try rw [show ((1 : Int)).toNat = 1 from rfl] at hx147_3); (try rw [show 1 * 4 = 4 from rfl] at hx147_3); replace p147 := eq_true p147; replace q147 := eq_true q147; have p148 : 0 ≤ (2 : Int) := (by omega); have q148 : 2 < (t135.length : Int) := of_decide_eq_true (by first | (with_reducible assumption) | assumption); obtain ⟨ad148, e148, hx148_0, hx148_1, hx148_2, hx148_3⟩ := at_T32 (Kd.R_reads' HO139.out).2.2 2 p148 q148; obtain rfl : ad147 = ad148 := (by injection e148); (try simp only [show (2 : Int).toNat = 2 from rfl, Nat.reduceMul, Nat.reduceEqDiff, Go.Addr.add, ↓reduceIte] at hx148_0); (try simp only [show (2 : Int).toNat = 2 from rfl, Nat.reduceMul, Nat.reduceEqDiff, Go.Addr.add, ↓reduceIte] at hx148_1); (try simp only [show (2 : Int).toNat = 2 from rfl, Nat.reduceMul, Nat.reduceEqDiff, Go.Addr.add, ↓reduceIte] at hx148_2); (try simp only [show (2 : Int).toNat = 2 from rfl, Nat.reduceMul, Nat.reduceEqDiff, Go.Addr.add, ↓reduceIte] at hx148_3); have qi148 : (2 < t135.length) = True := eq_true (by omega); (try rw [show ((2 : Int)).toNat = 2 from rfl] at hx148_0); (try rw [show 2 * 4 = 8 from rfl] at hx148_0); (try rw [show ((2 : Int)).toNat = 2 from rfl] at hx148_1); (try rw [show 2 * 4 = 8 from rfl] at hx148_1); (try rw [show ((2 : Int)).toNat = 2 from rfl] at hx148_2); (try rw [show 2 * 4 = 8 from rfl] at hx148_2); (try rw [show ((2 : Int)).toNat = 2 from rfl] at hx148_3); (try rw [show 2 * 4 = 8 from rfl] at hx148_3); replace p148 := eq_true p148; replace q148 := eq_true q148))
                go_ret
                exact ⟨by first | rfl | (simp [errW_none, errW_some] <;> rfl) | (simp [*, errW_none, errW_some] <;> rfl), by repeat (first | (with_reducible first | exact HB.out | apply below_alloc | apply pw_below_drewN | apply below_drew1) | exact HB.out)⟩
            · rw [if_neg c9] at H
              exact absurd H (by simp)
          · rw [if_neg c8] at H
            have c8b0 : (((rd_T32 t135 1).f1).toList == ([60, 61] : List UInt8)) = false := beq_eq_false_iff_ne.mpr c8
            have c8b1 : (((rd_T32 t135 1).f1).toList != ([60, 61] : List UInt8)) = true := bne_iff_ne.mpr c8
            obtain rfl := Option.some.inj H
            go_enter Tryd.func8, Tryd.ntmps8
            go_wp2_with (first | ((with_reducible refine gate_callee (f := 9) rfl ?_); refine goesL_ (some 10) rfl rfl Tryd.func9 (by kernel_rfl) rfl #[.string (⟨#[120, 60, 61, 49, 50, 59, 32, 35, 32, 121]⟩ : ByteArray)] rfl (by (try simp only [List.map_toArray, List.map_cons, List.map_nil]); first | done | rfl | (simp only [List.length_drop, List.length_take]; rfl)) ?_; (with_reducible refine (lexer_Lex.calls k (⟨#[120, 60, 61, 49, 50, 59, 32, 35, 32, 121]⟩ : ByteArray) t135 t136 t137 _ ?side1 A1.out).mono ?_); (case side1 => exact hT.later (by repeat (first | (with_reducible first | exact HB.out | apply below_alloc | apply pw_below_drewN | apply below_drew1) | exact HB.out))); rintro e w60 ⟨v138, rfl, ho0, hb⟩; refine ⟨_, rfl, ?_⟩; have n0_ := Aside0.mk (Kd.R_lower ho0 (below_size (by repeat (first | (with_reducible first | exact HB.out | apply below_alloc | apply pw_below_drewN | apply below_drew1) | exact HB.out)))); have n1_ := Aside0.mk (below_step (by repeat (first | (with_reducible first | exact HB.out | apply below_alloc | apply pw_below_drewN | apply below_drew1) | exact HB.out)) hb); clear HB; have HO139 := n0_; have HB := n1_; clear n0_ n1_; (try clear hb); (try clear hb2); (try clear hk); (try clear hi); (try clear ho0)) | ((with_reducible refine gate_callee (f := 9) rfl ?_); refine goesL_ (some 15) rfl rfl Tryd.func9 (by kernel_rfl) rfl #[.string (⟨#[97, 32, 36]⟩ : ByteArray)] rfl (by (try simp only [List.map_toArray, List.map_cons, List.map_nil]); first | done | rfl | (simp only [List.length_drop, List.length_take]; rfl)) ?_; (with_reducible refine (lexer_Lex.calls k (⟨#[97, 32, 36]⟩ : ByteArray) t140 t141 t142 _ ?side1 A2.out).mono ?_); (case side1 => exact hT.later (by repeat (first | (with_reducible first | exact HB.out | apply below_alloc | apply pw_below_drewN | apply below_drew1) | exact HB.out))); rintro e w61 ⟨v143, rfl, ho0, hb⟩; refine ⟨_, rfl, ?_⟩; have n0_ := Aside0.mk (Kd.R_elder' (by (with_reducible repeat (first | apply Kd.R_alloc | apply Kd.R_drewN | apply Kd.R_drew)); exact HO139.out) (Kd.R_base ho0) hb); have n1_ := Aside0.mk (Kd.R_lower (Kd.R_new' ho0 (Kd.R_lt (by (with_reducible repeat (first | apply Kd.R_alloc | apply Kd.R_drewN | apply Kd.R_drew)); exact HO139.out))) (below_size (by repeat (first | (with_reducible first | exact HB.out | apply below_alloc | apply pw_below_drewN | apply below_drew1) | exact HB.out)))); have n2_ := Aside0.mk (below_step (by repeat (first | (with_reducible first | exact HB.out | apply below_alloc | apply pw_below_drewN | apply below_drew1) | exact HB.out)) hb); clear HO139; clear HB; have HO139 := n0_; have HO144 := n1_; have HB := n2_; clear n0_ n1_ n2_; (try clear hb); (try clear hb2); (try clear hk); (try clear hi); (try clear ho0)) | ((with_reducible refine gate_callee (f := 13) rfl ?_); refine goesL_ (some 20) rfl rfl Tryd.func13 (by kernel_rfl) rfl #[.string (⟨#[97, 10, 98, 99]⟩ : ByteArray), .int .i64 3] rfl (by (try simp only [List.map_toArray, List.map_cons, List.map_nil]); first | done | rfl | (simp only [List.length_drop, List.length_take]; rfl)) ?_; (with_reducible refine (lexer_Line.calls (⟨#[97, 10, 98, 99]⟩ : ByteArray) 3 t145 t146 _ A3.out).mono ?_); rintro e w62 ⟨rfl, hb⟩; refine ⟨_, rfl, ?_⟩; have n0_ := Aside0.mk (Kd.R_below (by (with_reducible repeat (first | apply Kd.R_alloc | apply Kd.R_drewN | apply Kd.R_drew)); exact HO139.out) hb); have n1_ := Aside0.mk (Kd.R_below (by (with_reducible repeat (first | apply Kd.R_alloc | apply Kd.R_drewN | apply Kd.R_drew)); exact HO144.out) hb); have n2_ := Aside0.mk (below_step (by repeat (first | (with_reducible first | exact HB.out | apply below_alloc | apply pw_below_drewN | apply below_drew1) | exact HB.out)) hb); clear HO139; clear HO144; clear HB; have HO139 := n0_; have HO144 := n1_; have HB := n2_; clear n0_ n1_ n2_; (try clear hb); (try clear hb2); (try clear hk); (try clear hi); obtain ⟨Ao63, co63, eo63⟩ := Kd.R_slice HO139.out; subst eo63; have p147 : 0 ≤ (1 : Int) := (by omega); have q147 : 1 < (t135.length : Int) := of_decide_eq_true (by first | (with_reducible assumption) | assumption); obtain ⟨ad147, e147, hx147_0, hx147_1, hx147_2, hx147_3⟩ := at_T32 (Kd.R_reads' HO139.out).2.2 1 p147 q147; cases e147; (try simp only [show (1 : Int).toNat = 1 from rfl, Nat.reduceMul, Nat.reduceEqDiff, Go.Addr.add, ↓reduceIte] at hx147_0); (try simp only [show (1 : Int).toNat = 1 from rfl, Nat.reduceMul, Nat.reduceEqDiff, Go.Addr.add, ↓reduceIte] at hx147_1); (try simp only [show (1 : Int).toNat = 1 from rfl, Nat.reduceMul, Nat.reduceEqDiff, Go.Addr.add, ↓reduceIte] at hx147_2); (try simp only [show (1 : Int).toNat = 1 from rfl, Nat.reduceMul, Nat.reduceEqDiff, Go.Addr.add, ↓reduceIte] at hx147_3); have qi147 : (1 < t135.length) = True := eq_true (by omega); (try rw [show ((1 : Int)).toNat = 1 from rfl] at hx147_0); (try rw [show 1 * 4 = 4 from rfl] at hx147_0); (try rw [show ((1 : Int)).toNat = 1 from rfl] at hx147_1); (try rw [show 1 * 4 = 4 from rfl] at hx147_1); (try rw [show ((1 : Int)).toNat = 1 from rfl] at hx147_2); (try rw [show 1 * 4 = 4 from rfl] at hx147_2); (try rw [show ((1 : Int)).toNat = 1 from rfl] at hx147_3); (try rw [show 1 * 4 = 4 from rfl] at hx147_3); replace p147 := eq_true p147; replace q147 := eq_true q147))
            go_ret
            exact ⟨by first | rfl | (simp [errW_none, errW_some] <;> rfl) | (simp [*, errW_none, errW_some] <;> rfl), by repeat (first | (with_reducible first | exact HB.out | apply below_alloc | apply pw_below_drewN | apply below_drew1) | exact HB.out)⟩
        · rw [if_neg c7] at H
          exact absurd H (by simp)
      · rw [if_neg c6] at H
        have c6b0 : ((t135.length : Int) == 4) = false := beq_eq_false_iff_ne.mpr c6
        have c6b1 : ((t135.length : Int) != 4) = true := bne_iff_ne.mpr c6
        obtain rfl := Option.some.inj H
        go_enter Tryd.func8, Tryd.ntmps8
        go_wp2_with (first | ((with_reducible refine gate_callee (f := 9) rfl ?_); refine goesL_ (some 10) rfl rfl Tryd.func9 (by kernel_rfl) rfl #[.string (⟨#[120, 60, 61, 49, 50, 59, 32, 35, 32, 121]⟩ : ByteArray)] rfl (by (try simp only [List.map_toArray, List.map_cons, List.map_nil]); first | done | rfl | (simp only [List.length_drop, List.length_take]; rfl)) ?_; (with_reducible refine (lexer_Lex.calls k (⟨#[120, 60, 61, 49, 50, 59, 32, 35, 32, 121]⟩ : ByteArray) t135 t136 t137 _ ?side1 A1.out).mono ?_); (case side1 => exact hT.later (by repeat (first | (with_reducible first | exact HB.out | apply below_alloc | apply pw_below_drewN | apply below_drew1) | exact HB.out))); rintro e w64 ⟨v138, rfl, ho0, hb⟩; refine ⟨_, rfl, ?_⟩; have n0_ := Aside0.mk (Kd.R_lower ho0 (below_size (by repeat (first | (with_reducible first | exact HB.out | apply below_alloc | apply pw_below_drewN | apply below_drew1) | exact HB.out)))); have n1_ := Aside0.mk (below_step (by repeat (first | (with_reducible first | exact HB.out | apply below_alloc | apply pw_below_drewN | apply below_drew1) | exact HB.out)) hb); clear HB; have HO139 := n0_; have HB := n1_; clear n0_ n1_; (try clear hb); (try clear hb2); (try clear hk); (try clear hi); (try clear ho0)) | ((with_reducible refine gate_callee (f := 9) rfl ?_); refine goesL_ (some 15) rfl rfl Tryd.func9 (by kernel_rfl) rfl #[.string (⟨#[97, 32, 36]⟩ : ByteArray)] rfl (by (try simp only [List.map_toArray, List.map_cons, List.map_nil]); first | done | rfl | (simp only [List.length_drop, List.length_take]; rfl)) ?_; (with_reducible refine (lexer_Lex.calls k (⟨#[97, 32, 36]⟩ : ByteArray) t140 t141 t142 _ ?side1 A2.out).mono ?_); (case side1 => exact hT.later (by repeat (first | (with_reducible first | exact HB.out | apply below_alloc | apply pw_below_drewN | apply below_drew1) | exact HB.out))); rintro e w65 ⟨v143, rfl, ho0, hb⟩; refine ⟨_, rfl, ?_⟩; have n0_ := Aside0.mk (Kd.R_elder' (by (with_reducible repeat (first | apply Kd.R_alloc | apply Kd.R_drewN | apply Kd.R_drew)); exact HO139.out) (Kd.R_base ho0) hb); have n1_ := Aside0.mk (Kd.R_lower (Kd.R_new' ho0 (Kd.R_lt (by (with_reducible repeat (first | apply Kd.R_alloc | apply Kd.R_drewN | apply Kd.R_drew)); exact HO139.out))) (below_size (by repeat (first | (with_reducible first | exact HB.out | apply below_alloc | apply pw_below_drewN | apply below_drew1) | exact HB.out)))); have n2_ := Aside0.mk (below_step (by repeat (first | (with_reducible first | exact HB.out | apply below_alloc | apply pw_below_drewN | apply below_drew1) | exact HB.out)) hb); clear HO139; clear HB; have HO139 := n0_; have HO144 := n1_; have HB := n2_; clear n0_ n1_ n2_; (try clear hb); (try clear hb2); (try clear hk); (try clear hi); (try clear ho0)) | ((with_reducible refine gate_callee (f := 13) rfl ?_); refine goesL_ (some 20) rfl rfl Tryd.func13 (by kernel_rfl) rfl #[.string (⟨#[97, 10, 98, 99]⟩ : ByteArray), .int .i64 3] rfl (by (try simp only [List.map_toArray, List.map_cons, List.map_nil]); first | done | rfl | (simp only [List.length_drop, List.length_take]; rfl)) ?_; (with_reducible refine (lexer_Line.calls (⟨#[97, 10, 98, 99]⟩ : ByteArray) 3 t145 t146 _ A3.out).mono ?_); rintro e w66 ⟨rfl, hb⟩; refine ⟨_, rfl, ?_⟩; have n0_ := Aside0.mk (Kd.R_below (by (with_reducible repeat (first | apply Kd.R_alloc | apply Kd.R_drewN | apply Kd.R_drew)); exact HO139.out) hb); have n1_ := Aside0.mk (Kd.R_below (by (with_reducible repeat (first | apply Kd.R_alloc | apply Kd.R_drewN | apply Kd.R_drew)); exact HO144.out) hb); have n2_ := Aside0.mk (below_step (by repeat (first | (with_reducible first | exact HB.out | apply below_alloc | apply pw_below_drewN | apply below_drew1) | exact HB.out)) hb); clear HO139; clear HO144; clear HB; have HO139 := n0_; have HO144 := n1_; have HB := n2_; clear n0_ n1_ n2_; (try clear hb); (try clear hb2); (try clear hk); (try clear hi); obtain ⟨Ao67, co67, eo67⟩ := Kd.R_slice HO139.out; subst eo67))
        go_ret
        exact ⟨by first | rfl | (simp [errW_none, errW_some] <;> rfl) | (simp [*, errW_none, errW_some] <;> rfl), by repeat (first | (with_reducible first | exact HB.out | apply below_alloc | apply pw_below_drewN | apply below_drew1) | exact HB.out)⟩
    · rw [if_neg c5] at H
      have c5b0 : (t136 == 10) = false := beq_eq_false_iff_ne.mpr c5
      have c5b1 : (t136 != 10) = true := bne_iff_ne.mpr c5
      obtain rfl := Option.some.inj H
      go_enter Tryd.func8, Tryd.ntmps8
      go_wp2_with (first | ((with_reducible refine gate_callee (f := 9) rfl ?_); refine goesL_ (some 10) rfl rfl Tryd.func9 (by kernel_rfl) rfl #[.string (⟨#[120, 60, 61, 49, 50, 59, 32, 35, 32, 121]⟩ : ByteArray)] rfl (by (try simp only [List.map_toArray, List.map_cons, List.map_nil]); first | done | rfl | (simp only [List.length_drop, List.length_take]; rfl)) ?_; (with_reducible refine (lexer_Lex.calls k (⟨#[120, 60, 61, 49, 50, 59, 32, 35, 32, 121]⟩ : ByteArray) t135 t136 t137 _ ?side1 A1.out).mono ?_); (case side1 => exact hT.later (by repeat (first | (with_reducible first | exact HB.out | apply below_alloc | apply pw_below_drewN | apply below_drew1) | exact HB.out))); rintro e w68 ⟨v138, rfl, ho0, hb⟩; refine ⟨_, rfl, ?_⟩; have n0_ := Aside0.mk (Kd.R_lower ho0 (below_size (by repeat (first | (with_reducible first | exact HB.out | apply below_alloc | apply pw_below_drewN | apply below_drew1) | exact HB.out)))); have n1_ := Aside0.mk (below_step (by repeat (first | (with_reducible first | exact HB.out | apply below_alloc | apply pw_below_drewN | apply below_drew1) | exact HB.out)) hb); clear HB; have HO139 := n0_; have HB := n1_; clear n0_ n1_; (try clear hb); (try clear hb2); (try clear hk); (try clear hi); (try clear ho0)) | ((with_reducible refine gate_callee (f := 9) rfl ?_); refine goesL_ (some 15) rfl rfl Tryd.func9 (by kernel_rfl) rfl #[.string (⟨#[97, 32, 36]⟩ : ByteArray)] rfl (by (try simp only [List.map_toArray, List.map_cons, List.map_nil]); first | done | rfl | (simp only [List.length_drop, List.length_take]; rfl)) ?_; (with_reducible refine (lexer_Lex.calls k (⟨#[97, 32, 36]⟩ : ByteArray) t140 t141 t142 _ ?side1 A2.out).mono ?_); (case side1 => exact hT.later (by repeat (first | (with_reducible first | exact HB.out | apply below_alloc | apply pw_below_drewN | apply below_drew1) | exact HB.out))); rintro e w69 ⟨v143, rfl, ho0, hb⟩; refine ⟨_, rfl, ?_⟩; have n0_ := Aside0.mk (Kd.R_elder' (by (with_reducible repeat (first | apply Kd.R_alloc | apply Kd.R_drewN | apply Kd.R_drew)); exact HO139.out) (Kd.R_base ho0) hb); have n1_ := Aside0.mk (Kd.R_lower (Kd.R_new' ho0 (Kd.R_lt (by (with_reducible repeat (first | apply Kd.R_alloc | apply Kd.R_drewN | apply Kd.R_drew)); exact HO139.out))) (below_size (by repeat (first | (with_reducible first | exact HB.out | apply below_alloc | apply pw_below_drewN | apply below_drew1) | exact HB.out)))); have n2_ := Aside0.mk (below_step (by repeat (first | (with_reducible first | exact HB.out | apply below_alloc | apply pw_below_drewN | apply below_drew1) | exact HB.out)) hb); clear HO139; clear HB; have HO139 := n0_; have HO144 := n1_; have HB := n2_; clear n0_ n1_ n2_; (try clear hb); (try clear hb2); (try clear hk); (try clear hi); (try clear ho0)) | ((with_reducible refine gate_callee (f := 13) rfl ?_); refine goesL_ (some 20) rfl rfl Tryd.func13 (by kernel_rfl) rfl #[.string (⟨#[97, 10, 98, 99]⟩ : ByteArray), .int .i64 3] rfl (by (try simp only [List.map_toArray, List.map_cons, List.map_nil]); first | done | rfl | (simp only [List.length_drop, List.length_take]; rfl)) ?_; (with_reducible refine (lexer_Line.calls (⟨#[97, 10, 98, 99]⟩ : ByteArray) 3 t145 t146 _ A3.out).mono ?_); rintro e w70 ⟨rfl, hb⟩; refine ⟨_, rfl, ?_⟩; have n0_ := Aside0.mk (Kd.R_below (by (with_reducible repeat (first | apply Kd.R_alloc | apply Kd.R_drewN | apply Kd.R_drew)); exact HO139.out) hb); have n1_ := Aside0.mk (Kd.R_below (by (with_reducible repeat (first | apply Kd.R_alloc | apply Kd.R_drewN | apply Kd.R_drew)); exact HO144.out) hb); have n2_ := Aside0.mk (below_step (by repeat (first | (with_reducible first | exact HB.out | apply below_alloc | apply pw_below_drewN | apply below_drew1) | exact HB.out)) hb); clear HO139; clear HO144; clear HB; have HO139 := n0_; have HO144 := n1_; have HB := n2_; clear n0_ n1_ n2_; (try clear hb); (try clear hb2); (try clear hk); (try clear hi)))
      go_ret
      exact ⟨by first | rfl | (simp [errW_none, errW_some] <;> rfl) | (simp [*, errW_none, errW_some] <;> rfl), by repeat (first | (with_reducible first | exact HB.out | apply below_alloc | apply pw_below_drewN | apply below_drew1) | exact HB.out)⟩
  · rw [if_neg c4] at H
    have c4b0 : (t137 == 0) = false := beq_eq_false_iff_ne.mpr c4
    have c4b1 : (t137 != 0) = true := bne_iff_ne.mpr c4
    obtain rfl := Option.some.inj H
    go_enter Tryd.func8, Tryd.ntmps8
    go_wp2_with (first | ((with_reducible refine gate_callee (f := 9) rfl ?_); refine goesL_ (some 10) rfl rfl Tryd.func9 (by kernel_rfl) rfl #[.string (⟨#[120, 60, 61, 49, 50, 59, 32, 35, 32, 121]⟩ : ByteArray)] rfl (by (try simp only [List.map_toArray, List.map_cons, List.map_nil]); first | done | rfl | (simp only [List.length_drop, List.length_take]; rfl)) ?_; (with_reducible refine (lexer_Lex.calls k (⟨#[120, 60, 61, 49, 50, 59, 32, 35, 32, 121]⟩ : ByteArray) t135 t136 t137 _ ?side1 A1.out).mono ?_); (case side1 => exact hT.later (by repeat (first | (with_reducible first | exact HB.out | apply below_alloc | apply pw_below_drewN | apply below_drew1) | exact HB.out))); rintro e w71 ⟨v138, rfl, ho0, hb⟩; refine ⟨_, rfl, ?_⟩; have n0_ := Aside0.mk (Kd.R_lower ho0 (below_size (by repeat (first | (with_reducible first | exact HB.out | apply below_alloc | apply pw_below_drewN | apply below_drew1) | exact HB.out)))); have n1_ := Aside0.mk (below_step (by repeat (first | (with_reducible first | exact HB.out | apply below_alloc | apply pw_below_drewN | apply below_drew1) | exact HB.out)) hb); clear HB; have HO139 := n0_; have HB := n1_; clear n0_ n1_; (try clear hb); (try clear hb2); (try clear hk); (try clear hi); (try clear ho0)) | ((with_reducible refine gate_callee (f := 9) rfl ?_); refine goesL_ (some 15) rfl rfl Tryd.func9 (by kernel_rfl) rfl #[.string (⟨#[97, 32, 36]⟩ : ByteArray)] rfl (by (try simp only [List.map_toArray, List.map_cons, List.map_nil]); first | done | rfl | (simp only [List.length_drop, List.length_take]; rfl)) ?_; (with_reducible refine (lexer_Lex.calls k (⟨#[97, 32, 36]⟩ : ByteArray) t140 t141 t142 _ ?side1 A2.out).mono ?_); (case side1 => exact hT.later (by repeat (first | (with_reducible first | exact HB.out | apply below_alloc | apply pw_below_drewN | apply below_drew1) | exact HB.out))); rintro e w72 ⟨v143, rfl, ho0, hb⟩; refine ⟨_, rfl, ?_⟩; have n0_ := Aside0.mk (Kd.R_elder' (by (with_reducible repeat (first | apply Kd.R_alloc | apply Kd.R_drewN | apply Kd.R_drew)); exact HO139.out) (Kd.R_base ho0) hb); have n1_ := Aside0.mk (Kd.R_lower (Kd.R_new' ho0 (Kd.R_lt (by (with_reducible repeat (first | apply Kd.R_alloc | apply Kd.R_drewN | apply Kd.R_drew)); exact HO139.out))) (below_size (by repeat (first | (with_reducible first | exact HB.out | apply below_alloc | apply pw_below_drewN | apply below_drew1) | exact HB.out)))); have n2_ := Aside0.mk (below_step (by repeat (first | (with_reducible first | exact HB.out | apply below_alloc | apply pw_below_drewN | apply below_drew1) | exact HB.out)) hb); clear HO139; clear HB; have HO139 := n0_; have HO144 := n1_; have HB := n2_; clear n0_ n1_ n2_; (try clear hb); (try clear hb2); (try clear hk); (try clear hi); (try clear ho0)) | ((with_reducible refine gate_callee (f := 13) rfl ?_); refine goesL_ (some 20) rfl rfl Tryd.func13 (by kernel_rfl) rfl #[.string (⟨#[97, 10, 98, 99]⟩ : ByteArray), .int .i64 3] rfl (by (try simp only [List.map_toArray, List.map_cons, List.map_nil]); first | done | rfl | (simp only [List.length_drop, List.length_take]; rfl)) ?_; (with_reducible refine (lexer_Line.calls (⟨#[97, 10, 98, 99]⟩ : ByteArray) 3 t145 t146 _ A3.out).mono ?_); rintro e w73 ⟨rfl, hb⟩; refine ⟨_, rfl, ?_⟩; have n0_ := Aside0.mk (Kd.R_below (by (with_reducible repeat (first | apply Kd.R_alloc | apply Kd.R_drewN | apply Kd.R_drew)); exact HO139.out) hb); have n1_ := Aside0.mk (Kd.R_below (by (with_reducible repeat (first | apply Kd.R_alloc | apply Kd.R_drewN | apply Kd.R_drew)); exact HO144.out) hb); have n2_ := Aside0.mk (below_step (by repeat (first | (with_reducible first | exact HB.out | apply below_alloc | apply pw_below_drewN | apply below_drew1) | exact HB.out)) hb); clear HO139; clear HO144; clear HB; have HO139 := n0_; have HO144 := n1_; have HB := n2_; clear n0_ n1_ n2_; (try clear hb); (try clear hb2); (try clear hk); (try clear hi)))
    go_ret
    exact ⟨by first | rfl | (simp [errW_none, errW_some] <;> rfl) | (simp [*, errW_none, errW_some] <;> rfl), by repeat (first | (with_reducible first | exact HB.out | apply below_alloc | apply pw_below_drewN | apply below_drew1) | exact HB.out)⟩

end Go.Proofs.YtlcbdgkkkljfnaaDoor.P
end

section
namespace Go.Proofs.YtlcbdgkkkljfnaaDoor.P
open Go.RowKit Go.Proofs.YtlcbdgkkkljfnaaDoorW.PrintWords Go.Proofs.YtlcbdgkkkljfnaaDoorW.PrintLast Go.Proofs.YtlcbdgkkkljfnaaDoorW.PrintMore
attribute [local go_sem low] cell_set_at
attribute [local go_sem] max2_int min2_int max_two min_two max_three min_three max_four min_four   -- for this text's walks alone
set_option linter.unusedVariables false
set_option linter.unusedSimpArgs false

/-! ### helmsmanlaw11_LexerJoins: function 4 -/
mutual
def helmsmanlaw11_LexerJoins.l0 : Nat → List (S32) → Int → List (S31) → Int → Int → Option (Bool)
  | 0, _, _, _, _, _ => none
  | k + 1, x3, x4, x11, x12, x13 => if x13 < x12 then (if 0 ≤ x13 then (if x13 < (x11.length : Int) then ((lexer_Right.f k ((rd_T31 x11 x13).f0) ((rd_T31 x11 x13).f1) ((rd_T31 x11 x13).f2) ((rd_T31 x11 x13).f3)).bind fun t198 => (if t198 = true then (if x3.length < 3518437208883 then (helmsmanlaw11_LexerJoins.l0 k (x3 ++ [(⟨(rd_T31 x11 x13).f0, (rd_T31 x11 x13).f1, (rd_T31 x11 x13).f2, (rd_T31 x11 x13).f3⟩ : S32)]) (wrap64 (x4 + (wrap64 ((((rd_T31 x11 x13).f1).size : Int) + 1)))) x11 x12 (wrap64 (x13 + 1))) else (none)) else (helmsmanlaw11_LexerJoins.l0 k x3 (wrap64 (x4 + (wrap64 ((((rd_T31 x11 x13).f1).size : Int) + 1)))) x11 x12 (wrap64 (x13 + 1))))) else (none)) else (none)) else (if x4 > 4096 then ((helmsmanlaw11_alive.f k).bind fun t202 => (some t202)) else ((lexer_Join.f k x3).bind fun t203 => ((lexer_Lex.f k t203).bind fun bt204 => (if bt204.2.2 = 0 then (helmsmanlaw11_LexerJoins.j1 k x3 bt204.1 ((bt204.1.length : Int) != (x3.length : Int))) else (helmsmanlaw11_LexerJoins.j1 k x3 bt204.1 true)))))
def helmsmanlaw11_LexerJoins.j1 : Nat → List (S32) → List (S32) → Bool → Option (Bool)
  | 0, _, _, _ => none
  | k + 1, x3, x7, x48 => if x48 = true then (some false) else (helmsmanlaw11_LexerJoins.l1 k x3 x7 (x7.length : Int) 0)
def helmsmanlaw11_LexerJoins.l1 : Nat → List (S32) → List (S32) → Int → Int → Option (Bool)
  | 0, _, _, _, _ => none
  | k + 1, x3, x7, x50, x51 => if x51 < x50 then (if 0 ≤ x51 then (if x51 < (x7.length : Int) then (if x51 < (x3.length : Int) then (if ((rd_T32 x7 x51).f0) = ((rd_T32 x3 x51).f0) then (if ((rd_T32 x7 x51).f1).toList = ((rd_T32 x3 x51).f1).toList then (if ((rd_T32 x7 x51).f2) = ((rd_T32 x3 x51).f2) then (helmsmanlaw11_LexerJoins.l1 k x3 x7 x50 (wrap64 (x51 + 1))) else (some false)) else (some false)) else (some false)) else (none)) else (none)) else (none)) else ((helmsmanlaw11_alive.f k).bind fun t215 => (some t215))
end
def helmsmanlaw11_LexerJoins.f (k : Nat) (l0 : List (S31)) : Option (Bool) := helmsmanlaw11_LexerJoins.l0 k ([] : List (S32)) 0 l0 (l0.length : Int) 0
theorem helmsmanlaw11_LexerJoins.mono_l : ∀ k, (∀ y0 y1 y2 y3 y4, LeO (helmsmanlaw11_LexerJoins.l0 k y0 y1 y2 y3 y4) (helmsmanlaw11_LexerJoins.l0 (k + 1) y0 y1 y2 y3 y4)) ∧ (∀ y0 y1 y2, LeO (helmsmanlaw11_LexerJoins.j1 k y0 y1 y2) (helmsmanlaw11_LexerJoins.j1 (k + 1) y0 y1 y2)) ∧ (∀ y0 y1 y2 y3, LeO (helmsmanlaw11_LexerJoins.l1 k y0 y1 y2 y3) (helmsmanlaw11_LexerJoins.l1 (k + 1) y0 y1 y2 y3))
  | 0 => ⟨fun _ _ _ _ _ r h => by simp [helmsmanlaw11_LexerJoins.l0] at h, fun _ _ _ r h => by simp [helmsmanlaw11_LexerJoins.j1] at h, fun _ _ _ _ r h => by simp [helmsmanlaw11_LexerJoins.l1] at h⟩
  | k + 1 => by
    obtain ⟨ih0, ih1, ih2⟩ := helmsmanlaw11_LexerJoins.mono_l k
    refine ⟨?_, ?_, ?_⟩
    · intro y0 y1 y2 y3 y4
      unfold helmsmanlaw11_LexerJoins.l0
      repeat' first
      | (with_reducible exact ih0 _ _ _ _ _)
      | (with_reducible exact ih1 _ _ _)
      | (with_reducible exact ih2 _ _ _ _)
      | (with_reducible exact helmsmanlaw11_alive.mono _)
      | (with_reducible exact lexer_Join.mono _ _)
      | (with_reducible exact lexer_Lex.mono _ _)
      | (with_reducible exact lexer_Right.mono _ _ _ _ _)
      | (with_reducible exact LeO.refl _)
      | (with_reducible exact LeO.none _)
      | (with_reducible refine LeO.ite ?_ ?_)
      | (with_reducible refine LeO.bind ?_ (fun _ => ?_))
      | exact ih0 _ _ _ _ _
      | exact ih1 _ _ _
      | exact ih2 _ _ _ _
      | exact helmsmanlaw11_alive.mono _
      | exact lexer_Join.mono _ _
      | exact lexer_Lex.mono _ _
      | exact lexer_Right.mono _ _ _ _ _
      | exact LeO.none _
      | refine LeO.ite ?_ ?_
      | refine LeO.bind ?_ (fun _ => ?_)
    · intro y0 y1 y2
      unfold helmsmanlaw11_LexerJoins.j1
      repeat' first
      | (with_reducible exact ih0 _ _ _ _ _)
      | (with_reducible exact ih1 _ _ _)
      | (with_reducible exact ih2 _ _ _ _)
      | (with_reducible exact helmsmanlaw11_alive.mono _)
      | (with_reducible exact lexer_Join.mono _ _)
      | (with_reducible exact lexer_Lex.mono _ _)
      | (with_reducible exact lexer_Right.mono _ _ _ _ _)
      | (with_reducible exact LeO.refl _)
      | (with_reducible exact LeO.none _)
      | (with_reducible refine LeO.ite ?_ ?_)
      | (with_reducible refine LeO.bind ?_ (fun _ => ?_))
      | exact ih0 _ _ _ _ _
      | exact ih1 _ _ _
      | exact ih2 _ _ _ _
      | exact helmsmanlaw11_alive.mono _
      | exact lexer_Join.mono _ _
      | exact lexer_Lex.mono _ _
      | exact lexer_Right.mono _ _ _ _ _
      | exact LeO.none _
      | refine LeO.ite ?_ ?_
      | refine LeO.bind ?_ (fun _ => ?_)
    · intro y0 y1 y2 y3
      unfold helmsmanlaw11_LexerJoins.l1
      repeat' first
      | (with_reducible exact ih0 _ _ _ _ _)
      | (with_reducible exact ih1 _ _ _)
      | (with_reducible exact ih2 _ _ _ _)
      | (with_reducible exact helmsmanlaw11_alive.mono _)
      | (with_reducible exact lexer_Join.mono _ _)
      | (with_reducible exact lexer_Lex.mono _ _)
      | (with_reducible exact lexer_Right.mono _ _ _ _ _)
      | (with_reducible exact LeO.refl _)
      | (with_reducible exact LeO.none _)
      | (with_reducible refine LeO.ite ?_ ?_)
      | (with_reducible refine LeO.bind ?_ (fun _ => ?_))
      | exact ih0 _ _ _ _ _
      | exact ih1 _ _ _
      | exact ih2 _ _ _ _
      | exact helmsmanlaw11_alive.mono _
      | exact lexer_Join.mono _ _
      | exact lexer_Lex.mono _ _
      | exact lexer_Right.mono _ _ _ _ _
      | exact LeO.none _
      | refine LeO.ite ?_ ?_
      | refine LeO.bind ?_ (fun _ => ?_)
theorem helmsmanlaw11_LexerJoins.mono : ∀ a0 k, LeO (helmsmanlaw11_LexerJoins.f k a0) (helmsmanlaw11_LexerJoins.f (k + 1) a0) := by
  intro a0 k
  obtain ⟨ih0, ih1, ih2⟩ := helmsmanlaw11_LexerJoins.mono_l k
  unfold helmsmanlaw11_LexerJoins.f
  repeat' first
      | (with_reducible exact ih0 _ _ _ _ _)
      | (with_reducible exact ih1 _ _ _)
      | (with_reducible exact ih2 _ _ _ _)
      | (with_reducible exact helmsmanlaw11_alive.mono _)
      | (with_reducible exact lexer_Join.mono _ _)
      | (with_reducible exact lexer_Lex.mono _ _)
      | (with_reducible exact lexer_Right.mono _ _ _ _ _)
      | (with_reducible exact LeO.refl _)
      | (with_reducible exact LeO.none _)
      | (with_reducible refine LeO.ite ?_ ?_)
      | (with_reducible refine LeO.bind ?_ (fun _ => ?_))
      | exact ih0 _ _ _ _ _
      | exact ih1 _ _ _
      | exact ih2 _ _ _ _
      | exact helmsmanlaw11_alive.mono _
      | exact lexer_Join.mono _ _
      | exact lexer_Lex.mono _ _
      | exact lexer_Right.mono _ _ _ _ _
      | exact LeO.none _
      | refine LeO.ite ?_ ?_
      | refine LeO.bind ?_ (fun _ => ?_)
set_option maxHeartbeats 8000000 in
set_option maxRecDepth 100000 in
theorem helmsmanlaw11_LexerJoins.calls (k : Nat) (A0 : Option Addr) (c0 : Nat) (l0 : List (S31)) (r : Bool) (w : World) (hT : TabT w) (hr0 : Kd.C k31 w A0 l0.length l0) (hc0 : l0.length ≤ c0) (h : helmsmanlaw11_LexerJoins.f k l0 = some r) :
    Calls Tryd.prog 4 #[.slice A0 l0.length c0] w fun e w' => e = .returned (.bool r) ∧ Below w.heap.size w w' := by
  have hu31 := Tryd.underlying31
  have HR0 := Aside0.mk hr0
  have HC0 := Aside0.mk hc0
  clear hr0 hc0
  have HB := Aside0.mk (Below.refl w.heap.size w)
  have H : (helmsmanlaw11_LexerJoins.l0 k ([] : List (S32)) 0 l0 (l0.length : Int) 0) = some r := h
  clear h
  have H' := Aside0.mk H
  clear H
  go_enter Tryd.func4, Tryd.ntmps4
  go_wp2
  repeat (go_quiet (fail); try go_wp2)
  (try simp only [Act.put, List.setIfInBounds_toArray, List.set_cons_succ, List.set_cons_zero])
  go_loopg [3, 4, 13] k (fun kq v3 v4 v13 w' => ∃ (x3_1 : List (S32)) (x4_1 : Int) (x13_1 : Int), v4 = .int .i64 x4_1 ∧ v13 = .int .i64 x13_1 ∧ Aside0 (helmsmanlaw11_LexerJoins.l0 kq x3_1 x4_1 l0 (l0.length : Int) x13_1 = some r) ∧ Aside0 (kq ≤ k) ∧ Aside0 (Kd.R k32 32 w' w.heap.size (fun _ => True) v3 x3_1) ∧ Aside0 (Below w.heap.size w w'))
  case atStart => exact ⟨(([] : List (S32))), (0), (0), (by first | rfl | (simp; done) | (simp [*]; done)), (by first | rfl | (simp; done) | (simp [*]; done)), H', ⟨Nat.le_refl _⟩, ⟨by first | exact Kd.R_nil _ _ _ _ _ | exact Kd.N_nil _ _ _ _ _ | exact Kd.V_nil _ _ _ _ _ | exact Kd.Q_nil _ _ _ _ _ | exact Kd.S_nil _ _ _ _ _⟩, ⟨by repeat (first | (with_reducible first | exact HB.out | apply below_alloc | apply pw_below_drewN | apply below_drew1) | exact HB.out)⟩⟩
  case round =>
    clear H'
    obtain ⟨x3_1, x4_1, x13_1, rfl, rfl, HA, HK1, HO_3, HB⟩ := hrel
    cases gk with
    | zero => exact absurd HA.out (by simp [helmsmanlaw11_LexerJoins.l0])
    | succ k1 =>
      have H := HA.out
      clear HA
      simp only [helmsmanlaw11_LexerJoins.l0] at H
      by_cases c2 : x13_1 < (l0.length : Int)
      · rw [if_pos c2] at H
        have c2b0 : decide (x13_1 < (l0.length : Int)) = true := decide_eq_true c2
        clear c2
        by_cases c3 : 0 ≤ x13_1
        · rw [if_pos c3] at H
          have c3b0 : decide (0 ≤ x13_1) = true := decide_eq_true c3
          clear c3
          by_cases c4 : x13_1 < (l0.length : Int)
          · rw [if_pos c4] at H
            have c4b0 : decide (x13_1 < (l0.length : Int)) = true := decide_eq_true c4
            clear c4
            replace H := Option.bind_eq_some_iff.mp H
            obtain ⟨t198, A50, H⟩ := H
            replace H : (if t198 = true then (if x3_1.length < 3518437208883 then (helmsmanlaw11_LexerJoins.l0 k1 (x3_1 ++ [(⟨(rd_T31 l0 x13_1).f0, (rd_T31 l0 x13_1).f1, (rd_T31 l0 x13_1).f2, (rd_T31 l0 x13_1).f3⟩ : S32)]) (wrap64 (x4_1 + (wrap64 ((((rd_T31 l0 x13_1).f1).size : Int) + 1)))) l0 (l0.length : Int) (wrap64 (x13_1 + 1))) else (none)) else (helmsmanlaw11_LexerJoins.l0 k1 x3_1 (wrap64 (x4_1 + (wrap64 ((((rd_T31 l0 x13_1).f1).size : Int) + 1)))) l0 (l0.length : Int) (wrap64 (x13_1 + 1)))) = some r := H
            have A5 := Aside0.mk A50
            clear A50
            by_cases c6 : t198 = true
            · subst c6
              have H1 : (if x3_1.length < 3518437208883 then (helmsmanlaw11_LexerJoins.l0 k1 (x3_1 ++ [(⟨(rd_T31 l0 x13_1).f0, (rd_T31 l0 x13_1).f1, (rd_T31 l0 x13_1).f2, (rd_T31 l0 x13_1).f3⟩ : S32)]) (wrap64 (x4_1 + (wrap64 ((((rd_T31 l0 x13_1).f1).size : Int) + 1)))) l0 (l0.length : Int) (wrap64 (x13_1 + 1))) else (none)) = some r := by rw [if_pos rfl] at H; exact H
              clear H
              have H := H1
              clear H1
              by_cases c7 : x3_1.length < 3518437208883
              · rw [if_pos c7] at H
                have LMc7 := Aside0.mk c7
                clear c7
                obtain ⟨y199, hy199⟩ : ∃ y_ : List (S32), y_ = (x3_1 ++ [(⟨(rd_T31 l0 x13_1).f0, (rd_T31 l0 x13_1).f1, (rd_T31 l0 x13_1).f2, (rd_T31 l0 x13_1).f3⟩ : S32)]) := ⟨_, rfl⟩
                replace H : (helmsmanlaw11_LexerJoins.l0 k1 y199 (wrap64 (x4_1 + (wrap64 ((((rd_T31 l0 x13_1).f1).size : Int) + 1)))) l0 (l0.length : Int) (wrap64 (x13_1 + 1))) = some r := by first | (rw [hy199]; with_reducible exact H) | (have H2_ := (Option.bind_some _ _).symm.trans H; rw [hy199]; with_reducible exact H2_) | (have H2_ := (Option.bind_some _ _).symm.trans H; with_reducible exact H2_) | with_reducible exact H | (rw [hy199]; exact H) | exact H
                have Ny199 := Aside0.mk hy199
                clear hy199
                have H' := Aside0.mk H
                clear H
                have p196 : 0 ≤ (x13_1 : Int) := of_decide_eq_true (by first | (with_reducible assumption) | assumption)
                have q196 : x13_1 < (l0.length : Int) := of_decide_eq_true (by first | (with_reducible assumption) | assumption)
                obtain ⟨ad196, e196, hx196_0, hx196_1, hx196_2, hx196_3⟩ := at_T31 HR0.out x13_1 p196 q196
                cases e196
                replace hx196_0 := (HB.out.cell (World.block_lt_of_cell? w _ hx196_0)).trans hx196_0
                replace hx196_1 := (HB.out.cell (World.block_lt_of_cell? w _ hx196_1)).trans hx196_1
                replace hx196_2 := (HB.out.cell (World.block_lt_of_cell? w _ hx196_2)).trans hx196_2
                replace hx196_3 := (HB.out.cell (World.block_lt_of_cell? w _ hx196_3)).trans hx196_3
                replace p196 := eq_true p196
                replace q196 := eq_true q196
                go_wp2_with (first | ((with_reducible refine gate_dst (N := 6) rfl ?_); (try (refine gate_guard (by rfl) ?_; dsimp only)); refine box_event ?hg (N := 6) ?hd (cs := #[.int .i64 0, .string (⟨#[]⟩ : ByteArray), .int .i64 0, .int .i64 0]) (t := 31) ?hr ?_; (case hd => rfl); (case hg => rfl); (case hr => first | (go_simp; done) | (go_simp; rfl)); intro gb197 hg w8 hbox hb; have n0_ := Aside0.mk (Kd.R_below (by (with_reducible repeat (first | apply Kd.R_alloc | apply Kd.R_drewN | apply Kd.R_drew)); exact HO_3.out) hb); have n1_ := Aside0.mk (below_step (by repeat (first | (with_reducible first | exact HB.out | apply below_alloc | apply pw_below_drewN | apply below_drew1) | exact HB.out)) hb); have n2_ := Aside0.mk (hbox); have n3_ := Aside0.mk ((by rw [hg]; exact (below_size (by repeat (first | (with_reducible first | exact HB.out | apply below_alloc | apply pw_below_drewN | apply below_drew1) | exact HB.out))) : w.heap.size ≤ gb197)); have n4_ := Aside0.mk ((by rw [hg]; exact (below_size (by repeat (first | (with_reducible first | exact HB.out | apply below_alloc | apply pw_below_drewN | apply below_drew1) | exact HB.out))) : w.heap.size ≤ gb197)); clear HO_3; clear HB; have HO_3 := n0_; have HB := n1_; have BK197 := n2_; have GW197 := n3_; have GE197 := n4_; clear n0_ n1_ n2_ n3_ n4_; clear hb hbox hg; have hcz9_0 : w8.cell? ⟨gb197, 0, none⟩ = some (.int .i64 0) := (blk_cell BK197.out 0).trans rfl; have hcz9_1 : w8.cell? ⟨gb197, 1, none⟩ = some (.string (⟨#[]⟩ : ByteArray)) := (blk_cell BK197.out 1).trans rfl; have hcz9_2 : w8.cell? ⟨gb197, 2, none⟩ = some (.int .i64 0) := (blk_cell BK197.out 2).trans rfl; have hcz9_3 : w8.cell? ⟨gb197, 3, none⟩ = some (.int .i64 0) := (blk_cell BK197.out 3).trans rfl; have hfz9_0 := blk_frozen BK197.out 0; have hfz9_1 := blk_frozen BK197.out 1; have hfz9_2 := blk_frozen BK197.out 2; have hfz9_3 := blk_frozen BK197.out 3) | (go_at_call 11; (with_reducible refine (lexer_Right.calls k1 ((rd_T31 l0 x13_1).f0) ((rd_T31 l0 x13_1).f1) ((rd_T31 l0 x13_1).f2) ((rd_T31 l0 x13_1).f3) true _ ?side1 A5.out).mono ?_); (case side1 => exact hT.later (by repeat (first | (with_reducible first | exact HB.out | apply below_alloc | apply pw_below_drewN | apply below_drew1 | refine below_set ?_ GE197.out) | exact HB.out))); rintro e w10 ⟨rfl, hb⟩; have n0_ := Aside0.mk (Kd.R_below (by (with_reducible repeat (first | apply Kd.R_alloc | apply Kd.R_drewN | apply Kd.R_drew)); exact (Kd.R_mono (Kd.R_far (p := ⟨gb197, 3, none⟩) (Kd.R_far (p := ⟨gb197, 2, none⟩) (Kd.R_far (p := ⟨gb197, 1, none⟩) (Kd.R_far (p := ⟨gb197, 0, none⟩) (Kd.R_types HO_3.out BK197.out (by decide)) (fun _ hk => hk.2) (.int .i64 ((rd_T31 l0 x13_1).f0))) (fun _ hk => hk.2) (.string ((rd_T31 l0 x13_1).f1))) (fun _ hk => hk.2) (.int .i64 ((rd_T31 l0 x13_1).f2))) (fun _ hk => hk.2) (.int .i64 ((rd_T31 l0 x13_1).f3))) (fun _ h_ => h_.1))) hb); have n1_ := Aside0.mk (blk_below (g := gb197) (o := .cells #[.int .i64 ((rd_T31 l0 x13_1).f0), .string ((rd_T31 l0 x13_1).f1), .int .i64 ((rd_T31 l0 x13_1).f2), .int .i64 ((rd_T31 l0 x13_1).f3)] 31 (0, 0)) (by (with_reducible repeat (first | refine blk_drewN ?_ _ | refine blk_drew ?_ | refine blk_alloc ?_ _)); refine blk_put (cs := #[.int .i64 ((rd_T31 l0 x13_1).f0), .string ((rd_T31 l0 x13_1).f1), .int .i64 ((rd_T31 l0 x13_1).f2), .int .i64 0]) ?_ 3 _ rfl; (with_reducible repeat (first | refine blk_drewN ?_ _ | refine blk_drew ?_ | refine blk_alloc ?_ _)); refine blk_put (cs := #[.int .i64 ((rd_T31 l0 x13_1).f0), .string ((rd_T31 l0 x13_1).f1), .int .i64 0, .int .i64 0]) ?_ 2 _ rfl; (with_reducible repeat (first | refine blk_drewN ?_ _ | refine blk_drew ?_ | refine blk_alloc ?_ _)); refine blk_put (cs := #[.int .i64 ((rd_T31 l0 x13_1).f0), .string (⟨#[]⟩ : ByteArray), .int .i64 0, .int .i64 0]) ?_ 1 _ rfl; (with_reducible repeat (first | refine blk_drewN ?_ _ | refine blk_drew ?_ | refine blk_alloc ?_ _)); refine blk_put (cs := #[.int .i64 0, .string (⟨#[]⟩ : ByteArray), .int .i64 0, .int .i64 0]) ?_ 0 _ rfl; (with_reducible repeat (first | refine blk_drewN ?_ _ | refine blk_drew ?_ | refine blk_alloc ?_ _)); exact BK197.out) hb); have n2_ := Aside0.mk (below_step (by repeat (first | (with_reducible first | exact HB.out | apply below_alloc | apply pw_below_drewN | apply below_drew1 | refine below_set ?_ GE197.out) | exact HB.out)) hb); clear HO_3; clear BK197; clear HB; have HO_3 := n0_; have BK197 := n1_; have HB := n2_; clear n0_ n1_ n2_; (try clear hb); (try clear hb2); (try clear hk); (try clear hi); have hcz11_0 : w10.cell? ⟨gb197, 0, none⟩ = some (.int .i64 ((rd_T31 l0 x13_1).f0)) := (blk_cell BK197.out 0).trans rfl; have hcz11_1 : w10.cell? ⟨gb197, 1, none⟩ = some (.string ((rd_T31 l0 x13_1).f1)) := (blk_cell BK197.out 1).trans rfl; have hcz11_2 : w10.cell? ⟨gb197, 2, none⟩ = some (.int .i64 ((rd_T31 l0 x13_1).f2)) := (blk_cell BK197.out 2).trans rfl; have hcz11_3 : w10.cell? ⟨gb197, 3, none⟩ = some (.int .i64 ((rd_T31 l0 x13_1).f3)) := (blk_cell BK197.out 3).trans rfl; have hfz11_0 := blk_frozen BK197.out 0; have hfz11_1 := blk_frozen BK197.out 1; have hfz11_2 := blk_frozen BK197.out 2; have hfz11_3 := blk_frozen BK197.out 3) | ((with_reducible refine gate_builtin (b := .append) (xs := #[.tmp 25, .tmp 27]) rfl ?_); (try (refine gate_guard (by rfl) ?_; dsimp only)); at_builtin; refine Kd.R_append k32 (w0 := w) w.heap.size rfl (.tmp 25) (.tmp 27) 23 32 (.agg #[(.int .i64 0), (.string ⟨#[]⟩), (.int .i64 0), (.int .i64 0)]) 40 rfl Tryd.underlying23 info32 rfl (by decide) (by omega) u3 x3_1 (⟨(rd_T31 l0 x13_1).f0, (rd_T31 l0 x13_1).f1, (rd_T31 l0 x13_1).f2, (rd_T31 l0 x13_1).f3⟩ : S32) [.int .i64 ((rd_T31 l0 x13_1).f0), .string ((rd_T31 l0 x13_1).f1), .int .i64 ((rd_T31 l0 x13_1).f2), .int .i64 ((rd_T31 l0 x13_1).f3)] (fun _ => True) (fun _ => False) rfl rfl ?aP (fun _ hk => hk.elim) ?aF ?aO ?aB ?aS ?aL ?_; (case aP => exact k32_mkM _ _ _ (⟨(rd_T31 l0 x13_1).f0, (rd_T31 l0 x13_1).f1, (rd_T31 l0 x13_1).f2, (rd_T31 l0 x13_1).f3⟩ : S32)); (case aB => exact (by repeat (first | (with_reducible first | exact HB.out | apply below_alloc | apply pw_below_drewN | apply below_drew1 | refine below_set ?_ GE197.out) | exact HB.out))); (case aF => exact (fun _ _ => trivial)); (case aO => exact (by (with_reducible repeat (first | apply Kd.R_alloc | apply Kd.R_drewN | apply Kd.R_drew)); exact HO_3.out)); (case aS => exact (below_size (by repeat (first | (with_reducible first | exact HB.out | apply below_alloc | apply pw_below_drewN | apply below_drew1 | refine below_set ?_ GE197.out) | exact HB.out)))); (case aL => have := LMc7.out; omega); intro v200 w12 ho hb hg hat; rw [← Ny199.out] at ho; have n0_ := Aside0.mk (blk_grown (g := gb197) (o := .cells #[.int .i64 ((rd_T31 l0 x13_1).f0), .string ((rd_T31 l0 x13_1).f1), .int .i64 ((rd_T31 l0 x13_1).f2), .int .i64 ((rd_T31 l0 x13_1).f3)] 31 (0, 0)) (by (with_reducible repeat (first | refine blk_drewN ?_ _ | refine blk_drew ?_ | refine blk_alloc ?_ _)); exact BK197.out) hg (Kd.R_ne HO_3.out BK197.out (by decide))); have n1_ := Aside0.mk (hb); have n2_ := Aside0.mk (ho); clear BK197; clear HB; clear HO_3; have BK197 := n0_; have HB := n1_; have HO201 := n2_; clear n0_ n1_ n2_; clear ho hb hg hat))
                repeat (go_quiet (first | ((with_reducible refine gate_dst (N := 6) rfl ?_); (try (refine gate_guard (by rfl) ?_; dsimp only)); refine box_event ?hg (N := 6) ?hd (cs := #[.int .i64 0, .string (⟨#[]⟩ : ByteArray), .int .i64 0, .int .i64 0]) (t := 31) ?hr ?_; (case hd => rfl); (case hg => rfl); (case hr => first | (go_simp; done) | (go_simp; rfl)); intro gb197 hg w8 hbox hb; have n0_ := Aside0.mk (Kd.R_below (by (with_reducible repeat (first | apply Kd.R_alloc | apply Kd.R_drewN | apply Kd.R_drew)); exact HO_3.out) hb); have n1_ := Aside0.mk (below_step (by repeat (first | (with_reducible first | exact HB.out | apply below_alloc | apply pw_below_drewN | apply below_drew1) | exact HB.out)) hb); have n2_ := Aside0.mk (hbox); have n3_ := Aside0.mk ((by rw [hg]; exact (below_size (by repeat (first | (with_reducible first | exact HB.out | apply below_alloc | apply pw_below_drewN | apply below_drew1) | exact HB.out))) : w.heap.size ≤ gb197)); have n4_ := Aside0.mk ((by rw [hg]; exact (below_size (by repeat (first | (with_reducible first | exact HB.out | apply below_alloc | apply pw_below_drewN | apply below_drew1) | exact HB.out))) : w.heap.size ≤ gb197)); clear HO_3; clear HB; have HO_3 := n0_; have HB := n1_; have BK197 := n2_; have GW197 := n3_; have GE197 := n4_; clear n0_ n1_ n2_ n3_ n4_; clear hb hbox hg; have hcz9_0 : w8.cell? ⟨gb197, 0, none⟩ = some (.int .i64 0) := (blk_cell BK197.out 0).trans rfl; have hcz9_1 : w8.cell? ⟨gb197, 1, none⟩ = some (.string (⟨#[]⟩ : ByteArray)) := (blk_cell BK197.out 1).trans rfl; have hcz9_2 : w8.cell? ⟨gb197, 2, none⟩ = some (.int .i64 0) := (blk_cell BK197.out 2).trans rfl; have hcz9_3 : w8.cell? ⟨gb197, 3, none⟩ = some (.int .i64 0) := (blk_cell BK197.out 3).trans rfl; have hfz9_0 := blk_frozen BK197.out 0; have hfz9_1 := blk_frozen BK197.out 1; have hfz9_2 := blk_frozen BK197.out 2; have hfz9_3 := blk_frozen BK197.out 3) | (go_at_call 11; (with_reducible refine (lexer_Right.calls k1 ((rd_T31 l0 x13_1).f0) ((rd_T31 l0 x13_1).f1) ((rd_T31 l0 x13_1).f2) ((rd_T31 l0 x13_1).f3) true _ ?side1 A5.out).mono ?_); (case side1 => exact hT.later (by repeat (first | (with_reducible first | exact HB.out | apply below_alloc | apply pw_below_drewN | apply below_drew1 | refine below_set ?_ GE197.out) | exact HB.out))); rintro e w10 ⟨rfl, hb⟩; have n0_ := Aside0.mk (Kd.R_below (by (with_reducible repeat (first | apply Kd.R_alloc | apply Kd.R_drewN | apply Kd.R_drew)); exact (Kd.R_mono (Kd.R_far (p := ⟨gb197, 3, none⟩) (Kd.R_far (p := ⟨gb197, 2, none⟩) (Kd.R_far (p := ⟨gb197, 1, none⟩) (Kd.R_far (p := ⟨gb197, 0, none⟩) (Kd.R_types HO_3.out BK197.out (by decide)) (fun _ hk => hk.2) (.int .i64 ((rd_T31 l0 x13_1).f0))) (fun _ hk => hk.2) (.string ((rd_T31 l0 x13_1).f1))) (fun _ hk => hk.2) (.int .i64 ((rd_T31 l0 x13_1).f2))) (fun _ hk => hk.2) (.int .i64 ((rd_T31 l0 x13_1).f3))) (fun _ h_ => h_.1))) hb); have n1_ := Aside0.mk (blk_below (g := gb197) (o := .cells #[.int .i64 ((rd_T31 l0 x13_1).f0), .string ((rd_T31 l0 x13_1).f1), .int .i64 ((rd_T31 l0 x13_1).f2), .int .i64 ((rd_T31 l0 x13_1).f3)] 31 (0, 0)) (by (with_reducible repeat (first | refine blk_drewN ?_ _ | refine blk_drew ?_ | refine blk_alloc ?_ _)); refine blk_put (cs := #[.int .i64 ((rd_T31 l0 x13_1).f0), .string ((rd_T31 l0 x13_1).f1), .int .i64 ((rd_T31 l0 x13_1).f2), .int .i64 0]) ?_ 3 _ rfl; (with_reducible repeat (first | refine blk_drewN ?_ _ | refine blk_drew ?_ | refine blk_alloc ?_ _)); refine blk_put (cs := #[.int .i64 ((rd_T31 l0 x13_1).f0), .string ((rd_T31 l0 x13_1).f1), .int .i64 0, .int .i64 0]) ?_ 2 _ rfl; (with_reducible repeat (first | refine blk_drewN ?_ _ | refine blk_drew ?_ | refine blk_alloc ?_ _)); refine blk_put (cs := #[.int .i64 ((rd_T31 l0 x13_1).f0), .string (⟨#[]⟩ : ByteArray), .int .i64 0, .int .i64 0]) ?_ 1 _ rfl; (with_reducible repeat (first | refine blk_drewN ?_ _ | refine blk_drew ?_ | refine blk_alloc ?_ _)); refine blk_put (cs := #[.int .i64 0, .string (⟨#[]⟩ : ByteArray), .int .i64 0, .int .i64 0]) ?_ 0 _ rfl; (with_reducible repeat (first | refine blk_drewN ?_ _ | refine blk_drew ?_ | refine blk_alloc ?_ _)); exact BK197.out) hb); have n2_ := Aside0.mk (below_step (by repeat (first | (with_reducible first | exact HB.out | apply below_alloc | apply pw_below_drewN | apply below_drew1 | refine below_set ?_ GE197.out) | exact HB.out)) hb); clear HO_3; clear BK197; clear HB; have HO_3 := n0_; have BK197 := n1_; have HB := n2_; clear n0_ n1_ n2_; (try clear hb); (try clear hb2); (try clear hk); (try clear hi); have hcz11_0 : w10.cell? ⟨gb197, 0, none⟩ = some (.int .i64 ((rd_T31 l0 x13_1).f0)) := (blk_cell BK197.out 0).trans rfl; have hcz11_1 : w10.cell? ⟨gb197, 1, none⟩ = some (.string ((rd_T31 l0 x13_1).f1)) := (blk_cell BK197.out 1).trans rfl; have hcz11_2 : w10.cell? ⟨gb197, 2, none⟩ = some (.int .i64 ((rd_T31 l0 x13_1).f2)) := (blk_cell BK197.out 2).trans rfl; have hcz11_3 : w10.cell? ⟨gb197, 3, none⟩ = some (.int .i64 ((rd_T31 l0 x13_1).f3)) := (blk_cell BK197.out 3).trans rfl; have hfz11_0 := blk_frozen BK197.out 0; have hfz11_1 := blk_frozen BK197.out 1; have hfz11_2 := blk_frozen BK197.out 2; have hfz11_3 := blk_frozen BK197.out 3) | ((with_reducible refine gate_builtin (b := .append) (xs := #[.tmp 25, .tmp 27]) rfl ?_); (try (refine gate_guard (by rfl) ?_; dsimp only)); at_builtin; refine Kd.R_append k32 (w0 := w) w.heap.size rfl (.tmp 25) (.tmp 27) 23 32 (.agg #[(.int .i64 0), (.string ⟨#[]⟩), (.int .i64 0), (.int .i64 0)]) 40 rfl Tryd.underlying23 info32 rfl (by decide) (by omega) u3 x3_1 (⟨(rd_T31 l0 x13_1).f0, (rd_T31 l0 x13_1).f1, (rd_T31 l0 x13_1).f2, (rd_T31 l0 x13_1).f3⟩ : S32) [.int .i64 ((rd_T31 l0 x13_1).f0), .string ((rd_T31 l0 x13_1).f1), .int .i64 ((rd_T31 l0 x13_1).f2), .int .i64 ((rd_T31 l0 x13_1).f3)] (fun _ => True) (fun _ => False) rfl rfl ?aP (fun _ hk => hk.elim) ?aF ?aO ?aB ?aS ?aL ?_; (case aP => exact k32_mkM _ _ _ (⟨(rd_T31 l0 x13_1).f0, (rd_T31 l0 x13_1).f1, (rd_T31 l0 x13_1).f2, (rd_T31 l0 x13_1).f3⟩ : S32)); (case aB => exact (by repeat (first | (with_reducible first | exact HB.out | apply below_alloc | apply pw_below_drewN | apply below_drew1 | refine below_set ?_ GE197.out) | exact HB.out))); (case aF => exact (fun _ _ => trivial)); (case aO => exact (by (with_reducible repeat (first | apply Kd.R_alloc | apply Kd.R_drewN | apply Kd.R_drew)); exact HO_3.out)); (case aS => exact (below_size (by repeat (first | (with_reducible first | exact HB.out | apply below_alloc | apply pw_below_drewN | apply below_drew1 | refine below_set ?_ GE197.out) | exact HB.out)))); (case aL => have := LMc7.out; omega); intro v200 w12 ho hb hg hat; rw [← Ny199.out] at ho; have n0_ := Aside0.mk (blk_grown (g := gb197) (o := .cells #[.int .i64 ((rd_T31 l0 x13_1).f0), .string ((rd_T31 l0 x13_1).f1), .int .i64 ((rd_T31 l0 x13_1).f2), .int .i64 ((rd_T31 l0 x13_1).f3)] 31 (0, 0)) (by (with_reducible repeat (first | refine blk_drewN ?_ _ | refine blk_drew ?_ | refine blk_alloc ?_ _)); exact BK197.out) hg (Kd.R_ne HO_3.out BK197.out (by decide))); have n1_ := Aside0.mk (hb); have n2_ := Aside0.mk (ho); clear BK197; clear HB; clear HO_3; have BK197 := n0_; have HB := n1_; have HO201 := n2_; clear n0_ n1_ n2_; clear ho hb hg hat)); try go_wp2_with (first | ((with_reducible refine gate_dst (N := 6) rfl ?_); (try (refine gate_guard (by rfl) ?_; dsimp only)); refine box_event ?hg (N := 6) ?hd (cs := #[.int .i64 0, .string (⟨#[]⟩ : ByteArray), .int .i64 0, .int .i64 0]) (t := 31) ?hr ?_; (case hd => rfl); (case hg => rfl); (case hr => first | (go_simp; done) | (go_simp; rfl)); intro gb197 hg w8 hbox hb; have n0_ := Aside0.mk (Kd.R_below (by (with_reducible repeat (first | apply Kd.R_alloc | apply Kd.R_drewN | apply Kd.R_drew)); exact HO_3.out) hb); have n1_ := Aside0.mk (below_step (by repeat (first | (with_reducible first | exact HB.out | apply below_alloc | apply pw_below_drewN | apply below_drew1) | exact HB.out)) hb); have n2_ := Aside0.mk (hbox); have n3_ := Aside0.mk ((by rw [hg]; exact (below_size (by repeat (first | (with_reducible first | exact HB.out | apply below_alloc | apply pw_below_drewN | apply below_drew1) | exact HB.out))) : w.heap.size ≤ gb197)); have n4_ := Aside0.mk ((by rw [hg]; exact (below_size (by repeat (first | (with_reducible first | exact HB.out | apply below_alloc | apply pw_below_drewN | apply below_drew1) | exact HB.out))) : w.heap.size ≤ gb197)); clear HO_3; clear HB; have HO_3 := n0_; have HB := n1_; have BK197 := n2_; have GW197 := n3_; have GE197 := n4_; clear n0_ n1_ n2_ n3_ n4_; clear hb hbox hg; have hcz9_0 : w8.cell? ⟨gb197, 0, none⟩ = some (.int .i64 0) := (blk_cell BK197.out 0).trans rfl; have hcz9_1 : w8.cell? ⟨gb197, 1, none⟩ = some (.string (⟨#[]⟩ : ByteArray)) := (blk_cell BK197.out 1).trans rfl; have hcz9_2 : w8.cell? ⟨gb197, 2, none⟩ = some (.int .i64 0) := (blk_cell BK197.out 2).trans rfl; have hcz9_3 : w8.cell? ⟨gb197, 3, none⟩ = some (.int .i64 0) := (blk_cell BK197.out 3).trans rfl; have hfz9_0 := blk_frozen BK197.out 0; have hfz9_1 := blk_frozen BK197.out 1; have hfz9_2 := blk_frozen BK197.out 2; have hfz9_3 := blk_frozen BK197.out 3) | (go_at_call 11; (with_reducible refine (lexer_Right.calls k1 ((rd_T31 l0 x13_1).f0) ((rd_T31 l0 x13_1).f1) ((rd_T31 l0 x13_1).f2) ((rd_T31 l0 x13_1).f3) true _ ?side1 A5.out).mono ?_); (case side1 => exact hT.later (by repeat (first | (with_reducible first | exact HB.out | apply below_alloc | apply pw_below_drewN | apply below_drew1 | refine below_set ?_ GE197.out) | exact HB.out))); rintro e w10 ⟨rfl, hb⟩; have n0_ := Aside0.mk (Kd.R_below (by (with_reducible repeat (first | apply Kd.R_alloc | apply Kd.R_drewN | apply Kd.R_drew)); exact (Kd.R_mono (Kd.R_far (p := ⟨gb197, 3, none⟩) (Kd.R_far (p := ⟨gb197, 2, none⟩) (Kd.R_far (p := ⟨gb197, 1, none⟩) (Kd.R_far (p := ⟨gb197, 0, none⟩) (Kd.R_types HO_3.out BK197.out (by decide)) (fun _ hk => hk.2) (.int .i64 ((rd_T31 l0 x13_1).f0))) (fun _ hk => hk.2) (.string ((rd_T31 l0 x13_1).f1))) (fun _ hk => hk.2) (.int .i64 ((rd_T31 l0 x13_1).f2))) (fun _ hk => hk.2) (.int .i64 ((rd_T31 l0 x13_1).f3))) (fun _ h_ => h_.1))) hb); have n1_ := Aside0.mk (blk_below (g := gb197) (o := .cells #[.int .i64 ((rd_T31 l0 x13_1).f0), .string ((rd_T31 l0 x13_1).f1), .int .i64 ((rd_T31 l0 x13_1).f2), .int .i64 ((rd_T31 l0 x13_1).f3)] 31 (0, 0)) (by (with_reducible repeat (first | refine blk_drewN ?_ _ | refine blk_drew ?_ | refine blk_alloc ?_ _)); refine blk_put (cs := #[.int .i64 ((rd_T31 l0 x13_1).f0), .string ((rd_T31 l0 x13_1).f1), .int .i64 ((rd_T31 l0 x13_1).f2), .int .i64 0]) ?_ 3 _ rfl; (with_reducible repeat (first | refine blk_drewN ?_ _ | refine blk_drew ?_ | refine blk_alloc ?_ _)); refine blk_put (cs := #[.int .i64 ((rd_T31 l0 x13_1).f0), .string ((rd_T31 l0 x13_1).f1), .int .i64 0, .int .i64 0]) ?_ 2 _ rfl; (with_reducible repeat (first | refine blk_drewN ?_ _ | refine blk_drew ?_ | refine blk_alloc ?_ _)); refine blk_put (cs := #[.int .i64 ((rd_T31 l0 x13_1).f0), .string (⟨#[]⟩ : ByteArray), .int .i64 0, .int .i64 0]) ?_ 1 _ rfl; (with_reducible repeat (first | refine blk_drewN ?_ _ | refine blk_drew ?_ | refine blk_alloc ?_ _)); refine blk_put (cs := #[.int .i64 0, .string (⟨#[]⟩ : ByteArray), .int .i64 0, .int .i64 0]) ?_ 0 _ rfl; (with_reducible repeat (first | refine blk_drewN ?_ _ | refine blk_drew ?_ | refine blk_alloc ?_ _)); exact BK197.out) hb); have n2_ := Aside0.mk (below_step (by repeat (first | (with_reducible first | exact HB.out | apply below_alloc | apply pw_below_drewN | apply below_drew1 | refine below_set ?_ GE197.out) | exact HB.out)) hb); clear HO_3; clear BK197; clear HB; have HO_3 := n0_; have BK197 := n1_; have HB := n2_; clear n0_ n1_ n2_; (try clear hb); (try clear hb2); (try clear hk); (try clear hi); have hcz11_0 : w10.cell? ⟨gb197, 0, none⟩ = some (.int .i64 ((rd_T31 l0 x13_1).f0)) := (blk_cell BK197.out 0).trans rfl; have hcz11_1 : w10.cell? ⟨gb197, 1, none⟩ = some (.string ((rd_T31 l0 x13_1).f1)) := (blk_cell BK197.out 1).trans rfl; have hcz11_2 : w10.cell? ⟨gb197, 2, none⟩ = some (.int .i64 ((rd_T31 l0 x13_1).f2)) := (blk_cell BK197.out 2).trans rfl; have hcz11_3 : w10.cell? ⟨gb197, 3, none⟩ = some (.int .i64 ((rd_T31 l0 x13_1).f3)) := (blk_cell BK197.out 3).trans rfl; have hfz11_0 := blk_frozen BK197.out 0; have hfz11_1 := blk_frozen BK197.out 1; have hfz11_2 := blk_frozen BK197.out 2; have hfz11_3 := blk_frozen BK197.out 3) | ((with_reducible refine gate_builtin (b := .append) (xs := #[.tmp 25, .tmp 27]) rfl ?_); (try (refine gate_guard (by rfl) ?_; dsimp only)); at_builtin; refine Kd.R_append k32 (w0 := w) w.heap.size rfl (.tmp 25) (.tmp 27) 23 32 (.agg #[(.int .i64 0), (.string ⟨#[]⟩), (.int .i64 0), (.int .i64 0)]) 40 rfl Tryd.underlying23 info32 rfl (by decide) (by omega) u3 x3_1 (⟨(rd_T31 l0 x13_1).f0, (rd_T31 l0 x13_1).f1, (rd_T31 l0 x13_1).f2, (rd_T31 l0 x13_1).f3⟩ : S32) [.int .i64 ((rd_T31 l0 x13_1).f0), .string ((rd_T31 l0 x13_1).f1), .int .i64 ((rd_T31 l0 x13_1).f2), .int .i64 ((rd_T31 l0 x13_1).f3)] (fun _ => True) (fun _ => False) rfl rfl ?aP (fun _ hk => hk.elim) ?aF ?aO ?aB ?aS ?aL ?_; (case aP => exact k32_mkM _ _ _ (⟨(rd_T31 l0 x13_1).f0, (rd_T31 l0 x13_1).f1, (rd_T31 l0 x13_1).f2, (rd_T31 l0 x13_1).f3⟩ : S32)); (case aB => exact (by repeat (first | (with_reducible first | exact HB.out | apply below_alloc | apply pw_below_drewN | apply below_drew1 | refine below_set ?_ GE197.out) | exact HB.out))); (case aF => exact (fun _ _ => trivial)); (case aO => exact (by (with_reducible repeat (first | apply Kd.R_alloc | apply Kd.R_drewN | apply Kd.R_drew)); exact HO_3.out)); (case aS => exact (below_size (by repeat (first | (with_reducible first | exact HB.out | apply below_alloc | apply pw_below_drewN | apply below_drew1 | refine below_set ?_ GE197.out) | exact HB.out)))); (case aL => have := LMc7.out; omega); intro v200 w12 ho hb hg hat; rw [← Ny199.out] at ho; have n0_ := Aside0.mk (blk_grown (g := gb197) (o := .cells #[.int .i64 ((rd_T31 l0 x13_1).f0), .string ((rd_T31 l0 x13_1).f1), .int .i64 ((rd_T31 l0 x13_1).f2), .int .i64 ((rd_T31 l0 x13_1).f3)] 31 (0, 0)) (by (with_reducible repeat (first | refine blk_drewN ?_ _ | refine blk_drew ?_ | refine blk_alloc ?_ _)); exact BK197.out) hg (Kd.R_ne HO_3.out BK197.out (by decide))); have n1_ := Aside0.mk (hb); have n2_ := Aside0.mk (ho); clear BK197; clear HB; clear HO_3; have BK197 := n0_; have HB := n1_; have HO201 := n2_; clear n0_ n1_ n2_; clear ho hb hg hat)))
                go_roundg k1
                case measure => have := HK1.out; omega
                case rel => exact ⟨(y199), (wrap64 (x4_1 + (wrap64 ((((rd_T31 l0 x13_1).f1).size : Int) + 1)))), (wrap64 (x13_1 + 1)), (by first | rfl | (simp; done) | (simp [*]; done)), (by first | rfl | (simp; done) | (simp [*]; done)), H', ⟨by have := HK1.out; omega⟩, ⟨by (with_reducible repeat (first | apply Kd.R_alloc | apply Kd.R_drewN | apply Kd.R_drew)); exact HO201.out⟩, ⟨by repeat (first | (with_reducible first | exact HB.out | apply below_alloc | apply pw_below_drewN | apply below_drew1 | refine below_set ?_ GE197.out) | exact HB.out)⟩⟩
              · rw [if_neg c7] at H
                exact absurd H (by simp)
            · replace c6 := Bool.eq_false_iff.mpr c6
              subst c6
              have H1 : (helmsmanlaw11_LexerJoins.l0 k1 x3_1 (wrap64 (x4_1 + (wrap64 ((((rd_T31 l0 x13_1).f1).size : Int) + 1)))) l0 (l0.length : Int) (wrap64 (x13_1 + 1))) = some r := by rw [if_neg (show ¬ (false = true) by decide)] at H; exact H
              clear H
              have H := H1
              clear H1
              have H' := Aside0.mk H
              clear H
              have p196 : 0 ≤ (x13_1 : Int) := of_decide_eq_true (by first | (with_reducible assumption) | assumption)
              have q196 : x13_1 < (l0.length : Int) := of_decide_eq_true (by first | (with_reducible assumption) | assumption)
              obtain ⟨ad196, e196, hx196_0, hx196_1, hx196_2, hx196_3⟩ := at_T31 HR0.out x13_1 p196 q196
              cases e196
              replace hx196_0 := (HB.out.cell (World.block_lt_of_cell? w _ hx196_0)).trans hx196_0
              replace hx196_1 := (HB.out.cell (World.block_lt_of_cell? w _ hx196_1)).trans hx196_1
              replace hx196_2 := (HB.out.cell (World.block_lt_of_cell? w _ hx196_2)).trans hx196_2
              replace hx196_3 := (HB.out.cell (World.block_lt_of_cell? w _ hx196_3)).trans hx196_3
              replace p196 := eq_true p196
              replace q196 := eq_true q196
              go_wp2_with (first | ((with_reducible refine gate_dst (N := 6) rfl ?_); (try (refine gate_guard (by rfl) ?_; dsimp only)); refine box_event ?hg (N := 6) ?hd (cs := #[.int .i64 0, .string (⟨#[]⟩ : ByteArray), .int .i64 0, .int .i64 0]) (t := 31) ?hr ?_; (case hd => rfl); (case hg => rfl); (case hr => first | (go_simp; done) | (go_simp; rfl)); intro gb197 hg w13 hbox hb; have n0_ := Aside0.mk (Kd.R_below (by (with_reducible repeat (first | apply Kd.R_alloc | apply Kd.R_drewN | apply Kd.R_drew)); exact HO_3.out) hb); have n1_ := Aside0.mk (below_step (by repeat (first | (with_reducible first | exact HB.out | apply below_alloc | apply pw_below_drewN | apply below_drew1) | exact HB.out)) hb); have n2_ := Aside0.mk (hbox); have n3_ := Aside0.mk ((by rw [hg]; exact (below_size (by repeat (first | (with_reducible first | exact HB.out | apply below_alloc | apply pw_below_drewN | apply below_drew1) | exact HB.out))) : w.heap.size ≤ gb197)); have n4_ := Aside0.mk ((by rw [hg]; exact (below_size (by repeat (first | (with_reducible first | exact HB.out | apply below_alloc | apply pw_below_drewN | apply below_drew1) | exact HB.out))) : w.heap.size ≤ gb197)); clear HO_3; clear HB; have HO_3 := n0_; have HB := n1_; have BK197 := n2_; have GW197 := n3_; have GE197 := n4_; clear n0_ n1_ n2_ n3_ n4_; clear hb hbox hg; have hcz14_0 : w13.cell? ⟨gb197, 0, none⟩ = some (.int .i64 0) := (blk_cell BK197.out 0).trans rfl; have hcz14_1 : w13.cell? ⟨gb197, 1, none⟩ = some (.string (⟨#[]⟩ : ByteArray)) := (blk_cell BK197.out 1).trans rfl; have hcz14_2 : w13.cell? ⟨gb197, 2, none⟩ = some (.int .i64 0) := (blk_cell BK197.out 2).trans rfl; have hcz14_3 : w13.cell? ⟨gb197, 3, none⟩ = some (.int .i64 0) := (blk_cell BK197.out 3).trans rfl; have hfz14_0 := blk_frozen BK197.out 0; have hfz14_1 := blk_frozen BK197.out 1; have hfz14_2 := blk_frozen BK197.out 2; have hfz14_3 := blk_frozen BK197.out 3) | (go_at_call 11; (with_reducible refine (lexer_Right.calls k1 ((rd_T31 l0 x13_1).f0) ((rd_T31 l0 x13_1).f1) ((rd_T31 l0 x13_1).f2) ((rd_T31 l0 x13_1).f3) false _ ?side1 A5.out).mono ?_); (case side1 => exact hT.later (by repeat (first | (with_reducible first | exact HB.out | apply below_alloc | apply pw_below_drewN | apply below_drew1 | refine below_set ?_ GE197.out) | exact HB.out))); rintro e w15 ⟨rfl, hb⟩; have n0_ := Aside0.mk (Kd.R_below (by (with_reducible repeat (first | apply Kd.R_alloc | apply Kd.R_drewN | apply Kd.R_drew)); exact (Kd.R_mono (Kd.R_far (p := ⟨gb197, 3, none⟩) (Kd.R_far (p := ⟨gb197, 2, none⟩) (Kd.R_far (p := ⟨gb197, 1, none⟩) (Kd.R_far (p := ⟨gb197, 0, none⟩) (Kd.R_types HO_3.out BK197.out (by decide)) (fun _ hk => hk.2) (.int .i64 ((rd_T31 l0 x13_1).f0))) (fun _ hk => hk.2) (.string ((rd_T31 l0 x13_1).f1))) (fun _ hk => hk.2) (.int .i64 ((rd_T31 l0 x13_1).f2))) (fun _ hk => hk.2) (.int .i64 ((rd_T31 l0 x13_1).f3))) (fun _ h_ => h_.1))) hb); have n1_ := Aside0.mk (blk_below (g := gb197) (o := .cells #[.int .i64 ((rd_T31 l0 x13_1).f0), .string ((rd_T31 l0 x13_1).f1), .int .i64 ((rd_T31 l0 x13_1).f2), .int .i64 ((rd_T31 l0 x13_1).f3)] 31 (0, 0)) (by (with_reducible repeat (first | refine blk_drewN ?_ _ | refine blk_drew ?_ | refine blk_alloc ?_ _)); refine blk_put (cs := #[.int .i64 ((rd_T31 l0 x13_1).f0), .string ((rd_T31 l0 x13_1).f1), .int .i64 ((rd_T31 l0 x13_1).f2), .int .i64 0]) ?_ 3 _ rfl; (with_reducible repeat (first | refine blk_drewN ?_ _ | refine blk_drew ?_ | refine blk_alloc ?_ _)); refine blk_put (cs := #[.int .i64 ((rd_T31 l0 x13_1).f0), .string ((rd_T31 l0 x13_1).f1), .int .i64 0, .int .i64 0]) ?_ 2 _ rfl; (with_reducible repeat (first | refine blk_drewN ?_ _ | refine blk_drew ?_ | refine blk_alloc ?_ _)); refine blk_put (cs := #[.int .i64 ((rd_T31 l0 x13_1).f0), .string (⟨#[]⟩ : ByteArray), .int .i64 0, .int .i64 0]) ?_ 1 _ rfl; (with_reducible repeat (first | refine blk_drewN ?_ _ | refine blk_drew ?_ | refine blk_alloc ?_ _)); refine blk_put (cs := #[.int .i64 0, .string (⟨#[]⟩ : ByteArray), .int .i64 0, .int .i64 0]) ?_ 0 _ rfl; (with_reducible repeat (first | refine blk_drewN ?_ _ | refine blk_drew ?_ | refine blk_alloc ?_ _)); exact BK197.out) hb); have n2_ := Aside0.mk (below_step (by repeat (first | (with_reducible first | exact HB.out | apply below_alloc | apply pw_below_drewN | apply below_drew1 | refine below_set ?_ GE197.out) | exact HB.out)) hb); clear HO_3; clear BK197; clear HB; have HO_3 := n0_; have BK197 := n1_; have HB := n2_; clear n0_ n1_ n2_; (try clear hb); (try clear hb2); (try clear hk); (try clear hi)))
              repeat (go_quiet (first | ((with_reducible refine gate_dst (N := 6) rfl ?_); (try (refine gate_guard (by rfl) ?_; dsimp only)); refine box_event ?hg (N := 6) ?hd (cs := #[.int .i64 0, .string (⟨#[]⟩ : ByteArray), .int .i64 0, .int .i64 0]) (t := 31) ?hr ?_; (case hd => rfl); (case hg => rfl); (case hr => first | (go_simp; done) | (go_simp; rfl)); intro gb197 hg w13 hbox hb; have n0_ := Aside0.mk (Kd.R_below (by (with_reducible repeat (first | apply Kd.R_alloc | apply Kd.R_drewN | apply Kd.R_drew)); exact HO_3.out) hb); have n1_ := Aside0.mk (below_step (by repeat (first | (with_reducible first | exact HB.out | apply below_alloc | apply pw_below_drewN | apply below_drew1) | exact HB.out)) hb); have n2_ := Aside0.mk (hbox); have n3_ := Aside0.mk ((by rw [hg]; exact (below_size (by repeat (first | (with_reducible first | exact HB.out | apply below_alloc | apply pw_below_drewN | apply below_drew1) | exact HB.out))) : w.heap.size ≤ gb197)); have n4_ := Aside0.mk ((by rw [hg]; exact (below_size (by repeat (first | (with_reducible first | exact HB.out | apply below_alloc | apply pw_below_drewN | apply below_drew1) | exact HB.out))) : w.heap.size ≤ gb197)); clear HO_3; clear HB; have HO_3 := n0_; have HB := n1_; have BK197 := n2_; have GW197 := n3_; have GE197 := n4_; clear n0_ n1_ n2_ n3_ n4_; clear hb hbox hg; have hcz14_0 : w13.cell? ⟨gb197, 0, none⟩ = some (.int .i64 0) := (blk_cell BK197.out 0).trans rfl; have hcz14_1 : w13.cell? ⟨gb197, 1, none⟩ = some (.string (⟨#[]⟩ : ByteArray)) := (blk_cell BK197.out 1).trans rfl; have hcz14_2 : w13.cell? ⟨gb197, 2, none⟩ = some (.int .i64 0) := (blk_cell BK197.out 2).trans rfl; have hcz14_3 : w13.cell? ⟨gb197, 3, none⟩ = some (.int .i64 0) := (blk_cell BK197.out 3).trans rfl; have hfz14_0 := blk_frozen BK197.out 0; have hfz14_1 := blk_frozen BK197.out 1; have hfz14_2 := blk_frozen BK197.out 2; have hfz14_3 := blk_frozen BK197.out 3) | (go_at_call 11; (with_reducible refine (lexer_Right.calls k1 ((rd_T31 l0 x13_1).f0) ((rd_T31 l0 x13_1).f1) ((rd_T31 l0 x13_1).f2) ((rd_T31 l0 x13_1).f3) false _ ?side1 A5.out).mono ?_); (case side1 => exact hT.later (by repeat (first | (with_reducible first | exact HB.out | apply below_alloc | apply pw_below_drewN | apply below_drew1 | refine below_set ?_ GE197.out) | exact HB.out))); rintro e w15 ⟨rfl, hb⟩; have n0_ := Aside0.mk (Kd.R_below (by (with_reducible repeat (first | apply Kd.R_alloc | apply Kd.R_drewN | apply Kd.R_drew)); exact (Kd.R_mono (Kd.R_far (p := ⟨gb197, 3, none⟩) (Kd.R_far (p := ⟨gb197, 2, none⟩) (Kd.R_far (p := ⟨gb197, 1, none⟩) (Kd.R_far (p := ⟨gb197, 0, none⟩) (Kd.R_types HO_3.out BK197.out (by decide)) (fun _ hk => hk.2) (.int .i64 ((rd_T31 l0 x13_1).f0))) (fun _ hk => hk.2) (.string ((rd_T31 l0 x13_1).f1))) (fun _ hk => hk.2) (.int .i64 ((rd_T31 l0 x13_1).f2))) (fun _ hk => hk.2) (.int .i64 ((rd_T31 l0 x13_1).f3))) (fun _ h_ => h_.1))) hb); have n1_ := Aside0.mk (blk_below (g := gb197) (o := .cells #[.int .i64 ((rd_T31 l0 x13_1).f0), .string ((rd_T31 l0 x13_1).f1), .int .i64 ((rd_T31 l0 x13_1).f2), .int .i64 ((rd_T31 l0 x13_1).f3)] 31 (0, 0)) (by (with_reducible repeat (first | refine blk_drewN ?_ _ | refine blk_drew ?_ | refine blk_alloc ?_ _)); refine blk_put (cs := #[.int .i64 ((rd_T31 l0 x13_1).f0), .string ((rd_T31 l0 x13_1).f1), .int .i64 ((rd_T31 l0 x13_1).f2), .int .i64 0]) ?_ 3 _ rfl; (with_reducible repeat (first | refine blk_drewN ?_ _ | refine blk_drew ?_ | refine blk_alloc ?_ _)); refine blk_put (cs := #[.int .i64 ((rd_T31 l0 x13_1).f0), .string ((rd_T31 l0 x13_1).f1), .int .i64 0, .int .i64 0]) ?_ 2 _ rfl; (with_reducible repeat (first | refine blk_drewN ?_ _ | refine blk_drew ?_ | refine blk_alloc ?_ _)); refine blk_put (cs := #[.int .i64 ((rd_T31 l0 x13_1).f0), .string (⟨#[]⟩ : ByteArray), .int .i64 0, .int .i64 0]) ?_ 1 _ rfl; (with_reducible repeat (first | refine blk_drewN ?_ _ | refine blk_drew ?_ | refine blk_alloc ?_ _)); refine blk_put (cs := #[.int .i64 0, .string (⟨#[]⟩ : ByteArray), .int .i64 0, .int .i64 0]) ?_ 0 _ rfl; (with_reducible repeat (first | refine blk_drewN ?_ _ | refine blk_drew ?_ | refine blk_alloc ?_ _)); exact BK197.out) hb); have n2_ := Aside0.mk (below_step (by repeat (first | (with_reducible first | exact HB.out | apply below_alloc | apply pw_below_drewN | apply below_drew1 | refine below_set ?_ GE197.out) | exact HB.out)) hb); clear HO_3; clear BK197; clear HB; have HO_3 := n0_; have BK197 := n1_; have HB := n2_; clear n0_ n1_ n2_; (try clear hb); (try clear hb2); (try clear hk); (try clear hi))); try go_wp2_with (first | ((with_reducible refine gate_dst (N := 6) rfl ?_); (try (refine gate_guard (by rfl) ?_; dsimp only)); refine box_event ?hg (N := 6) ?hd (cs := #[.int .i64 0, .string (⟨#[]⟩ : ByteArray), .int .i64 0, .int .i64 0]) (t := 31) ?hr ?_; (case hd => rfl); (case hg => rfl); (case hr => first | (go_simp; done) | (go_simp; rfl)); intro gb197 hg w13 hbox hb; have n0_ := Aside0.mk (Kd.R_below (by (with_reducible repeat (first | apply Kd.R_alloc | apply Kd.R_drewN | apply Kd.R_drew)); exact HO_3.out) hb); have n1_ := Aside0.mk (below_step (by repeat (first | (with_reducible first | exact HB.out | apply below_alloc | apply pw_below_drewN | apply below_drew1) | exact HB.out)) hb); have n2_ := Aside0.mk (hbox); have n3_ := Aside0.mk ((by rw [hg]; exact (below_size (by repeat (first | (with_reducible first | exact HB.out | apply below_alloc | apply pw_below_drewN | apply below_drew1) | exact HB.out))) : w.heap.size ≤ gb197)); have n4_ := Aside0.mk ((by rw [hg]; exact (below_size (by repeat (first | (with_reducible first | exact HB.out | apply below_alloc | apply pw_below_drewN | apply below_drew1) | exact HB.out))) : w.heap.size ≤ gb197)); clear HO_3; clear HB; have HO_3 := n0_; have HB := n1_; have BK197 := n2_; have GW197 := n3_; have GE197 := n4_; clear n0_ n1_ n2_ n3_ n4_; clear hb hbox hg; have hcz14_0 : w13.cell? ⟨gb197, 0, none⟩ = some (.int .i64 0) := (blk_cell BK197.out 0).trans rfl; have hcz14_1 : w13.cell? ⟨gb197, 1, none⟩ = some (.string (⟨#[]⟩ : ByteArray)) := (blk_cell BK197.out 1).trans rfl; have hcz14_2 : w13.cell? ⟨gb197, 2, none⟩ = some (.int .i64 0) := (blk_cell BK197.out 2).trans rfl; have hcz14_3 : w13.cell? ⟨gb197, 3, none⟩ = some (.int .i64 0) := (blk_cell BK197.out 3).trans rfl; have hfz14_0 := blk_frozen BK197.out 0; have hfz14_1 := blk_frozen BK197.out 1; have hfz14_2 := blk_frozen BK197.out 2; have hfz14_3 := blk_frozen BK197.out 3) | (go_at_call 11; (with_reducible refine (lexer_Right.calls k1 ((rd_T31 l0 x13_1).f0) ((rd_T31 l0 x13_1).f1) ((rd_T31 l0 x13_1).f2) ((rd_T31 l0 x13_1).f3) false _ ?side1 A5.out).mono ?_); (case side1 => exact hT.later (by repeat (first | (with_reducible first | exact HB.out | apply below_alloc | apply pw_below_drewN | apply below_drew1 | refine below_set ?_ GE197.out) | exact HB.out))); rintro e w15 ⟨rfl, hb⟩; have n0_ := Aside0.mk (Kd.R_below (by (with_reducible repeat (first | apply Kd.R_alloc | apply Kd.R_drewN | apply Kd.R_drew)); exact (Kd.R_mono (Kd.R_far (p := ⟨gb197, 3, none⟩) (Kd.R_far (p := ⟨gb197, 2, none⟩) (Kd.R_far (p := ⟨gb197, 1, none⟩) (Kd.R_far (p := ⟨gb197, 0, none⟩) (Kd.R_types HO_3.out BK197.out (by decide)) (fun _ hk => hk.2) (.int .i64 ((rd_T31 l0 x13_1).f0))) (fun _ hk => hk.2) (.string ((rd_T31 l0 x13_1).f1))) (fun _ hk => hk.2) (.int .i64 ((rd_T31 l0 x13_1).f2))) (fun _ hk => hk.2) (.int .i64 ((rd_T31 l0 x13_1).f3))) (fun _ h_ => h_.1))) hb); have n1_ := Aside0.mk (blk_below (g := gb197) (o := .cells #[.int .i64 ((rd_T31 l0 x13_1).f0), .string ((rd_T31 l0 x13_1).f1), .int .i64 ((rd_T31 l0 x13_1).f2), .int .i64 ((rd_T31 l0 x13_1).f3)] 31 (0, 0)) (by (with_reducible repeat (first | refine blk_drewN ?_ _ | refine blk_drew ?_ | refine blk_alloc ?_ _)); refine blk_put (cs := #[.int .i64 ((rd_T31 l0 x13_1).f0), .string ((rd_T31 l0 x13_1).f1), .int .i64 ((rd_T31 l0 x13_1).f2), .int .i64 0]) ?_ 3 _ rfl; (with_reducible repeat (first | refine blk_drewN ?_ _ | refine blk_drew ?_ | refine blk_alloc ?_ _)); refine blk_put (cs := #[.int .i64 ((rd_T31 l0 x13_1).f0), .string ((rd_T31 l0 x13_1).f1), .int .i64 0, .int .i64 0]) ?_ 2 _ rfl; (with_reducible repeat (first | refine blk_drewN ?_ _ | refine blk_drew ?_ | refine blk_alloc ?_ _)); refine blk_put (cs := #[.int .i64 ((rd_T31 l0 x13_1).f0), .string (⟨#[]⟩ : ByteArray), .int .i64 0, .int .i64 0]) ?_ 1 _ rfl; (with_reducible repeat (first | refine blk_drewN ?_ _ | refine blk_drew ?_ | refine blk_alloc ?_ _)); refine blk_put (cs := #[.int .i64 0, .string (⟨#[]⟩ : ByteArray), .int .i64 0, .int .i64 0]) ?_ 0 _ rfl; (with_reducible repeat (first | refine blk_drewN ?_ _ | refine blk_drew ?_ | refine blk_alloc ?_ _)); exact BK197.out) hb); have n2_ := Aside0.mk (below_step (by repeat (first | (with_reducible first | exact HB.out | apply below_alloc | apply pw_below_drewN | apply below_drew1 | refine below_set ?_ GE197.out) | exact HB.out)) hb); clear HO_3; clear BK197; clear HB; have HO_3 := n0_; have BK197 := n1_; have HB := n2_; clear n0_ n1_ n2_; (try clear hb); (try clear hb2); (try clear hk); (try clear hi))))
              go_roundg k1
              case measure => have := HK1.out; omega
              case rel => exact ⟨(x3_1), (wrap64 (x4_1 + (wrap64 ((((rd_T31 l0 x13_1).f1).size : Int) + 1)))), (wrap64 (x13_1 + 1)), (by first | rfl | (simp; done) | (simp [*]; done)), (by first | rfl | (simp; done) | (simp [*]; done)), H', ⟨by have := HK1.out; omega⟩, ⟨by (with_reducible repeat (first | apply Kd.R_alloc | apply Kd.R_drewN | apply Kd.R_drew)); exact HO_3.out⟩, ⟨by repeat (first | (with_reducible first | exact HB.out | apply below_alloc | apply pw_below_drewN | apply below_drew1 | refine below_set ?_ GE197.out) | exact HB.out)⟩⟩
          · rw [if_neg c4] at H
            exact absurd H (by simp)
        · rw [if_neg c3] at H
          exact absurd H (by simp)
      · rw [if_neg c2] at H
        have c2b0 : decide (x13_1 < (l0.length : Int)) = false := decide_eq_false c2
        clear c2
        by_cases c16 : x4_1 > 4096
        · rw [if_pos c16] at H
          have c16b0 : decide (4096 < x4_1) = true := decide_eq_true c16
          clear c16
          replace H := Option.bind_eq_some_iff.mp H
          obtain ⟨t202, A170, H⟩ := H
          replace H : (some t202) = some r := H
          have A17 := Aside0.mk A170
          clear A170
          obtain rfl := Option.some.inj H
          go_wp2_with (first | (go_at_call 8; (with_reducible refine (helmsmanlaw11_alive.calls k1  t202 _ ?side1 A17.out).mono ?_); (case side1 => exact hT.later (by repeat (first | (with_reducible first | exact HB.out | apply below_alloc | apply pw_below_drewN | apply below_drew1) | exact HB.out))); rintro e w18 ⟨rfl, hb⟩; have n0_ := Aside0.mk (Kd.R_below (by (with_reducible repeat (first | apply Kd.R_alloc | apply Kd.R_drewN | apply Kd.R_drew)); exact HO_3.out) hb); have n1_ := Aside0.mk (below_step (by repeat (first | (with_reducible first | exact HB.out | apply below_alloc | apply pw_below_drewN | apply below_drew1) | exact HB.out)) hb); clear HO_3; clear HB; have HO_3 := n0_; have HB := n1_; clear n0_ n1_; (try clear hb); (try clear hb2); (try clear hk); (try clear hi)))
          repeat (go_quiet (first | (go_at_call 8; (with_reducible refine (helmsmanlaw11_alive.calls k1  t202 _ ?side1 A17.out).mono ?_); (case side1 => exact hT.later (by repeat (first | (with_reducible first | exact HB.out | apply below_alloc | apply pw_below_drewN | apply below_drew1) | exact HB.out))); rintro e w18 ⟨rfl, hb⟩; have n0_ := Aside0.mk (Kd.R_below (by (with_reducible repeat (first | apply Kd.R_alloc | apply Kd.R_drewN | apply Kd.R_drew)); exact HO_3.out) hb); have n1_ := Aside0.mk (below_step (by repeat (first | (with_reducible first | exact HB.out | apply below_alloc | apply pw_below_drewN | apply below_drew1) | exact HB.out)) hb); clear HO_3; clear HB; have HO_3 := n0_; have HB := n1_; clear n0_ n1_; (try clear hb); (try clear hb2); (try clear hk); (try clear hi))); try go_wp2_with (first | (go_at_call 8; (with_reducible refine (helmsmanlaw11_alive.calls k1  t202 _ ?side1 A17.out).mono ?_); (case side1 => exact hT.later (by repeat (first | (with_reducible first | exact HB.out | apply below_alloc | apply pw_below_drewN | apply below_drew1) | exact HB.out))); rintro e w18 ⟨rfl, hb⟩; have n0_ := Aside0.mk (Kd.R_below (by (with_reducible repeat (first | apply Kd.R_alloc | apply Kd.R_drewN | apply Kd.R_drew)); exact HO_3.out) hb); have n1_ := Aside0.mk (below_step (by repeat (first | (with_reducible first | exact HB.out | apply below_alloc | apply pw_below_drewN | apply below_drew1) | exact HB.out)) hb); clear HO_3; clear HB; have HO_3 := n0_; have HB := n1_; clear n0_ n1_; (try clear hb); (try clear hb2); (try clear hk); (try clear hi))))
          go_ret
          exact ⟨by first | rfl | (simp [errW_none, errW_some] <;> rfl) | (simp [*, errW_none, errW_some] <;> rfl), by repeat (first | (with_reducible first | exact HB.out | apply below_alloc | apply pw_below_drewN | apply below_drew1) | exact HB.out)⟩
        · rw [if_neg c16] at H
          have c16b0 : decide (4096 < x4_1) = false := decide_eq_false c16
          clear c16
          replace H := Option.bind_eq_some_iff.mp H
          obtain ⟨t203, A190, H⟩ := H
          replace H : ((lexer_Lex.f k1 t203).bind fun bt204 => (if bt204.2.2 = 0 then (helmsmanlaw11_LexerJoins.j1 k1 x3_1 bt204.1 ((bt204.1.length : Int) != (x3_1.length : Int))) else (helmsmanlaw11_LexerJoins.j1 k1 x3_1 bt204.1 true))) = some r := H
          have A19 := Aside0.mk A190
          clear A190
          replace H := Option.bind_eq_some_iff.mp H
          obtain ⟨⟨t204, t205, t206⟩, A200, H⟩ := H
          replace H : (if t206 = 0 then (helmsmanlaw11_LexerJoins.j1 k1 x3_1 t204 ((t204.length : Int) != (x3_1.length : Int))) else (helmsmanlaw11_LexerJoins.j1 k1 x3_1 t204 true)) = some r := H
          have A20 := Aside0.mk A200
          clear A200
          have HC21 := Aside0.mk H
          clear H
          obtain ⟨Ao22, co22, eo22⟩ := Kd.R_slice HO_3.out
          subst eo22
          go_upto_region 13 with (first | (go_at_call 12; (with_reducible refine (lexer_Join.calls k1 _ _ x3_1 t203 _ ?side1 ?side2 A19.out).mono ?_); (case side1 => repeat (first | exact (Kd.R_reads' HO_3.out).2.2 | (with_reducible refine Kd.C_alloc ?_ _) | (with_reducible refine Kd.C_drewN ?_ _) | (with_reducible refine Kd.C_drew ?_))); (case side2 => exact (Kd.R_reads' HO_3.out).2.1); rintro e w23 ⟨rfl, hb⟩; have n0_ := Aside0.mk (Kd.R_below (by (with_reducible repeat (first | apply Kd.R_alloc | apply Kd.R_drewN | apply Kd.R_drew)); exact HO_3.out) hb); have n1_ := Aside0.mk (below_step (by repeat (first | (with_reducible first | exact HB.out | apply below_alloc | apply pw_below_drewN | apply below_drew1) | exact HB.out)) hb); clear HO_3; clear HB; have HO_3 := n0_; have HB := n1_; clear n0_ n1_; (try clear hb); (try clear hb2); (try clear hk); (try clear hi)) | (go_at_call 9; (with_reducible refine (lexer_Lex.calls k1 t203 t204 t205 t206 _ ?side1 A20.out).mono ?_); (case side1 => exact hT.later (by repeat (first | (with_reducible first | exact HB.out | apply below_alloc | apply pw_below_drewN | apply below_drew1) | exact HB.out))); rintro e w24 ⟨v207, rfl, ho0, hb⟩; have n0_ := Aside0.mk (Kd.R_elder' (by (with_reducible repeat (first | apply Kd.R_alloc | apply Kd.R_drewN | apply Kd.R_drew)); exact HO_3.out) (Kd.R_base ho0) hb); have n1_ := Aside0.mk (Kd.R_lower (Kd.R_new' ho0 (Kd.R_lt (by (with_reducible repeat (first | apply Kd.R_alloc | apply Kd.R_drewN | apply Kd.R_drew)); exact HO_3.out))) (below_size (by repeat (first | (with_reducible first | exact HB.out | apply below_alloc | apply pw_below_drewN | apply below_drew1) | exact HB.out)))); have n2_ := Aside0.mk (below_step (by repeat (first | (with_reducible first | exact HB.out | apply below_alloc | apply pw_below_drewN | apply below_drew1) | exact HB.out)) hb); clear HO_3; clear HB; have HO_3 := n0_; have HO208 := n1_; have HB := n2_; clear n0_ n1_ n2_; (try clear hb); (try clear hb2); (try clear hk); (try clear hi); (try clear ho0)))
          repeat (go_quiet (first | (go_at_call 12; (with_reducible refine (lexer_Join.calls k1 _ _ x3_1 t203 _ ?side1 ?side2 A19.out).mono ?_); (case side1 => repeat (first | exact (Kd.R_reads' HO_3.out).2.2 | (with_reducible refine Kd.C_alloc ?_ _) | (with_reducible refine Kd.C_drewN ?_ _) | (with_reducible refine Kd.C_drew ?_))); (case side2 => exact (Kd.R_reads' HO_3.out).2.1); rintro e w23 ⟨rfl, hb⟩; have n0_ := Aside0.mk (Kd.R_below (by (with_reducible repeat (first | apply Kd.R_alloc | apply Kd.R_drewN | apply Kd.R_drew)); exact HO_3.out) hb); have n1_ := Aside0.mk (below_step (by repeat (first | (with_reducible first | exact HB.out | apply below_alloc | apply pw_below_drewN | apply below_drew1) | exact HB.out)) hb); clear HO_3; clear HB; have HO_3 := n0_; have HB := n1_; clear n0_ n1_; (try clear hb); (try clear hb2); (try clear hk); (try clear hi)) | (go_at_call 9; (with_reducible refine (lexer_Lex.calls k1 t203 t204 t205 t206 _ ?side1 A20.out).mono ?_); (case side1 => exact hT.later (by repeat (first | (with_reducible first | exact HB.out | apply below_alloc | apply pw_below_drewN | apply below_drew1) | exact HB.out))); rintro e w24 ⟨v207, rfl, ho0, hb⟩; have n0_ := Aside0.mk (Kd.R_elder' (by (with_reducible repeat (first | apply Kd.R_alloc | apply Kd.R_drewN | apply Kd.R_drew)); exact HO_3.out) (Kd.R_base ho0) hb); have n1_ := Aside0.mk (Kd.R_lower (Kd.R_new' ho0 (Kd.R_lt (by (with_reducible repeat (first | apply Kd.R_alloc | apply Kd.R_drewN | apply Kd.R_drew)); exact HO_3.out))) (below_size (by repeat (first | (with_reducible first | exact HB.out | apply below_alloc | apply pw_below_drewN | apply below_drew1) | exact HB.out)))); have n2_ := Aside0.mk (below_step (by repeat (first | (with_reducible first | exact HB.out | apply below_alloc | apply pw_below_drewN | apply below_drew1) | exact HB.out)) hb); clear HO_3; clear HB; have HO_3 := n0_; have HO208 := n1_; have HB := n2_; clear n0_ n1_ n2_; (try clear hb); (try clear hb2); (try clear hk); (try clear hi); (try clear ho0))); go_upto_region 13 with (first | (go_at_call 12; (with_reducible refine (lexer_Join.calls k1 _ _ x3_1 t203 _ ?side1 ?side2 A19.out).mono ?_); (case side1 => repeat (first | exact (Kd.R_reads' HO_3.out).2.2 | (with_reducible refine Kd.C_alloc ?_ _) | (with_reducible refine Kd.C_drewN ?_ _) | (with_reducible refine Kd.C_drew ?_))); (case side2 => exact (Kd.R_reads' HO_3.out).2.1); rintro e w23 ⟨rfl, hb⟩; have n0_ := Aside0.mk (Kd.R_below (by (with_reducible repeat (first | apply Kd.R_alloc | apply Kd.R_drewN | apply Kd.R_drew)); exact HO_3.out) hb); have n1_ := Aside0.mk (below_step (by repeat (first | (with_reducible first | exact HB.out | apply below_alloc | apply pw_below_drewN | apply below_drew1) | exact HB.out)) hb); clear HO_3; clear HB; have HO_3 := n0_; have HB := n1_; clear n0_ n1_; (try clear hb); (try clear hb2); (try clear hk); (try clear hi)) | (go_at_call 9; (with_reducible refine (lexer_Lex.calls k1 t203 t204 t205 t206 _ ?side1 A20.out).mono ?_); (case side1 => exact hT.later (by repeat (first | (with_reducible first | exact HB.out | apply below_alloc | apply pw_below_drewN | apply below_drew1) | exact HB.out))); rintro e w24 ⟨v207, rfl, ho0, hb⟩; have n0_ := Aside0.mk (Kd.R_elder' (by (with_reducible repeat (first | apply Kd.R_alloc | apply Kd.R_drewN | apply Kd.R_drew)); exact HO_3.out) (Kd.R_base ho0) hb); have n1_ := Aside0.mk (Kd.R_lower (Kd.R_new' ho0 (Kd.R_lt (by (with_reducible repeat (first | apply Kd.R_alloc | apply Kd.R_drewN | apply Kd.R_drew)); exact HO_3.out))) (below_size (by repeat (first | (with_reducible first | exact HB.out | apply below_alloc | apply pw_below_drewN | apply below_drew1) | exact HB.out)))); have n2_ := Aside0.mk (below_step (by repeat (first | (with_reducible first | exact HB.out | apply below_alloc | apply pw_below_drewN | apply below_drew1) | exact HB.out)) hb); clear HO_3; clear HB; have HO_3 := n0_; have HO208 := n1_; have HB := n2_; clear n0_ n1_ n2_; (try clear hb); (try clear hb2); (try clear hk); (try clear hi); (try clear ho0))))
          (try simp only [Act.put, List.setIfInBounds_toArray, List.set_cons_zero, List.set_cons_succ])
          go_cut [48] (fun v48 wc => ∃ (kq : Nat) (x48_20 : Bool), v48 = .bool x48_20 ∧ Aside0 (helmsmanlaw11_LexerJoins.j1 kq x3_1 t204 x48_20 = some r) ∧ Aside0 (kq ≤ k1) ∧ Aside0 (Kd.R k32 32 wc w.heap.size (fun k_ => some k_ ≠ (v207 : Value).ownBlock) (.slice Ao22 x3_1.length co22) x3_1) ∧ Aside0 (Kd.R k32 32 wc w.heap.size (fun k_ => some k_ ≠ ((.slice Ao22 x3_1.length co22) : Value).ownBlock) v207 t204) ∧ Aside0 (Below w.heap.size w wc))
          case first =>
            have H := HC21.out
            clear HC21
            by_cases c25 : t206 = 0
            · rw [if_pos c25] at H
              have c25b0 : (t206 == 0) = true := beq_iff_eq.mpr c25
              have c25b1 : (t206 != 0) = false := bne_eq_false_iff_eq.mpr c25
              clear c25
              (first | rw [c25b0] | (simp only [i64_w, i32_w]; rw [c25b0]) | skip)
              have H' := Aside0.mk H
              clear H
              obtain ⟨Ao26, co26, eo26⟩ := Kd.R_slice HO208.out
              subst eo26
              go_wp2
              repeat (go_quiet (fail); try go_wp2)
              go_meet
              case rel => exact ⟨_, (((t204.length : Int) != (x3_1.length : Int))), (by first | rfl | (simp; done) | (simp [*]; done)), H', ⟨by have := HK1.out; first | omega | exact Nat.le_refl _⟩, ⟨by (with_reducible repeat (first | apply Kd.R_alloc | apply Kd.R_drewN | apply Kd.R_drew)); exact Kd.R_mono HO_3.out (fun _ hk => hk.2)⟩, ⟨by (with_reducible repeat (first | apply Kd.R_alloc | apply Kd.R_drewN | apply Kd.R_drew)); exact Kd.R_mono HO208.out (fun _ hk => hk.2)⟩, ⟨by repeat (first | (with_reducible first | exact HB.out | apply below_alloc | apply pw_below_drewN | apply below_drew1) | exact HB.out)⟩⟩
            · rw [if_neg c25] at H
              have c25b0 : (t206 == 0) = false := beq_eq_false_iff_ne.mpr c25
              have c25b1 : (t206 != 0) = true := bne_iff_ne.mpr c25
              (first | rw [c25b0] | (simp only [i64_w, i32_w]; rw [c25b0]) | skip)
              have H' := Aside0.mk H
              clear H
              go_wp2
              repeat (go_quiet (fail); try go_wp2)
              go_meet
              case rel => exact ⟨_, (true), (by first | rfl | (simp; done) | (simp [*]; done)), H', ⟨by have := HK1.out; first | omega | exact Nat.le_refl _⟩, ⟨by (with_reducible repeat (first | apply Kd.R_alloc | apply Kd.R_drewN | apply Kd.R_drew)); exact Kd.R_mono HO_3.out (fun _ hk => hk.2)⟩, ⟨by (with_reducible repeat (first | apply Kd.R_alloc | apply Kd.R_drewN | apply Kd.R_drew)); exact Kd.R_mono HO208.out (fun _ hk => hk.2)⟩, ⟨by repeat (first | (with_reducible first | exact HB.out | apply below_alloc | apply pw_below_drewN | apply below_drew1) | exact HB.out)⟩⟩
          case rest =>
            clear HC21
            try clear c1
            try clear p1
            try clear q1
            try clear hx1
            try clear c2
            try clear c2b0
            try clear p2
            try clear c3
            try clear c3b0
            try clear c4
            try clear c4b0
            try clear c6
            try clear p6
            try clear c7
            try clear c16
            try clear c16b0
            try clear p19
            try clear q19
            try clear hx19
            try clear c25
            try clear c25b0
            try clear c25b1
            try clear hcz11_0
            try clear hcz11_1
            try clear hcz11_2
            try clear hcz11_3
            try clear hcz14_0
            try clear hcz14_1
            try clear hcz14_2
            try clear hcz14_3
            try clear hcz9_0
            try clear hcz9_1
            try clear hcz9_2
            try clear hcz9_3
            try clear hfz11_0
            try clear hfz11_1
            try clear hfz11_2
            try clear hfz11_3
            try clear hfz14_0
            try clear hfz14_1
            try clear hfz14_2
            try clear hfz14_3
            try clear hfz9_0
            try clear hfz9_1
            try clear hfz9_2
            try clear hfz9_3
            try clear hx196_0
            try clear hx196_1
            try clear hx196_2
            try clear hx196_3
            try clear p196
            try clear q196
            obtain ⟨kq, x48_20, rfl, HA, HJ20, HO_3, HO_7, HB⟩ := hcut
            cases kq with
            | zero => exact absurd HA.out (by simp [helmsmanlaw11_LexerJoins.j1])
            | succ kj20 =>
              have H := HA.out
              clear HA
              simp only [helmsmanlaw11_LexerJoins.j1] at H
              by_cases c27 : x48_20 = true
              · subst c27
                have H1 : (some false) = some r := by rw [if_pos rfl] at H; exact H
                clear H
                have H := H1
                clear H1
                obtain rfl := Option.some.inj H
                go_wp2
                repeat (go_quiet (fail); try go_wp2)
                go_ret
                exact ⟨by first | rfl | (simp [errW_none, errW_some] <;> rfl) | (simp [*, errW_none, errW_some] <;> rfl), by repeat (first | (with_reducible first | exact HB.out | apply below_alloc | apply pw_below_drewN | apply below_drew1) | exact HB.out)⟩
              · replace c27 := Bool.eq_false_iff.mpr c27
                subst c27
                have H1 : (helmsmanlaw11_LexerJoins.l1 kj20 x3_1 t204 (t204.length : Int) 0) = some r := by rw [if_neg (show ¬ (false = true) by decide)] at H; exact H
                clear H
                have H := H1
                clear H1
                have H' := Aside0.mk H
                clear H
                obtain ⟨Ao28, co28, eo28⟩ := Kd.R_slice HO_7.out
                subst eo28
                go_wp2
                repeat (go_quiet (fail); try go_wp2)
                (try simp only [Act.put, List.setIfInBounds_toArray, List.set_cons_succ, List.set_cons_zero])
                go_loopg [51] kj20 (fun kq v51 w' => ∃ (x51_3 : Int), v51 = .int .i64 x51_3 ∧ Aside0 (helmsmanlaw11_LexerJoins.l1 kq x3_1 t204 (t204.length : Int) x51_3 = some r) ∧ Aside0 (kq ≤ kj20) ∧ Aside0 (Kd.R k32 32 w' w.heap.size (fun k_ => some k_ ≠ ((.slice Ao28 t204.length co28) : Value).ownBlock) (.slice Ao22 x3_1.length co22) x3_1) ∧ Aside0 (Kd.R k32 32 w' w.heap.size (fun k_ => some k_ ≠ ((.slice Ao22 x3_1.length co22) : Value).ownBlock) (.slice Ao28 t204.length co28) t204) ∧ Aside0 (Below w.heap.size w w'))
                case atStart => exact ⟨(0), (by first | rfl | (simp; done) | (simp [*]; done)), H', ⟨Nat.le_refl _⟩, ⟨by (with_reducible repeat (first | apply Kd.R_alloc | apply Kd.R_drewN | apply Kd.R_drew)); exact HO_3.out⟩, ⟨by (with_reducible repeat (first | apply Kd.R_alloc | apply Kd.R_drewN | apply Kd.R_drew)); exact HO_7.out⟩, ⟨by repeat (first | (with_reducible first | exact HB.out | apply below_alloc | apply pw_below_drewN | apply below_drew1) | exact HB.out)⟩⟩
                case round =>
                  clear H'
                  try clear c1
                  try clear p1
                  try clear q1
                  try clear hx1
                  try clear c2
                  try clear c2b0
                  try clear p2
                  try clear c3
                  try clear c3b0
                  try clear c4
                  try clear c4b0
                  try clear c6
                  try clear p6
                  try clear c7
                  try clear c16
                  try clear c16b0
                  try clear p19
                  try clear q19
                  try clear hx19
                  try clear c25
                  try clear c25b0
                  try clear c25b1
                  try clear c27
                  try clear hcz11_0
                  try clear hcz11_1
                  try clear hcz11_2
                  try clear hcz11_3
                  try clear hcz14_0
                  try clear hcz14_1
                  try clear hcz14_2
                  try clear hcz14_3
                  try clear hcz9_0
                  try clear hcz9_1
                  try clear hcz9_2
                  try clear hcz9_3
                  try clear hfz11_0
                  try clear hfz11_1
                  try clear hfz11_2
                  try clear hfz11_3
                  try clear hfz14_0
                  try clear hfz14_1
                  try clear hfz14_2
                  try clear hfz14_3
                  try clear hfz9_0
                  try clear hfz9_1
                  try clear hfz9_2
                  try clear hfz9_3
                  try clear hx196_0
                  try clear hx196_1
                  try clear hx196_2
                  try clear hx196_3
                  try clear p1
                  try clear p19
                  try clear p196
                  try clear p2
                  try clear p6
                  try clear q1
                  try clear q19
                  try clear q196
                  obtain ⟨x51_3, rfl, HA, HK3, HO_3, HO_7, HB⟩ := hrel
                  cases gk with
                  | zero => exact absurd HA.out (by simp [helmsmanlaw11_LexerJoins.l1])
                  | succ k3 =>
                    have H := HA.out
                    clear HA
                    simp only [helmsmanlaw11_LexerJoins.l1] at H
                    by_cases c29 : x51_3 < (t204.length : Int)
                    · rw [if_pos c29] at H
                      have c29b0 : decide (x51_3 < (t204.length : Int)) = true := decide_eq_true c29
                      clear c29
                      by_cases c30 : 0 ≤ x51_3
                      · rw [if_pos c30] at H
                        have c30b0 : decide (0 ≤ x51_3) = true := decide_eq_true c30
                        clear c30
                        by_cases c31 : x51_3 < (t204.length : Int)
                        · rw [if_pos c31] at H
                          have c31b0 : decide (x51_3 < (t204.length : Int)) = true := decide_eq_true c31
                          clear c31
                          by_cases c32 : x51_3 < (x3_1.length : Int)
                          · rw [if_pos c32] at H
                            have c32b0 : decide (x51_3 < (x3_1.length : Int)) = true := decide_eq_true c32
                            clear c32
                            by_cases c33 : ((rd_T32 t204 x51_3).f0) = ((rd_T32 x3_1 x51_3).f0)
                            · rw [if_pos c33] at H
                              have c33b0 : (((rd_T32 t204 x51_3).f0) == ((rd_T32 x3_1 x51_3).f0)) = true := beq_iff_eq.mpr c33
                              have c33b1 : (((rd_T32 t204 x51_3).f0) != ((rd_T32 x3_1 x51_3).f0)) = false := bne_eq_false_iff_eq.mpr c33
                              clear c33
                              by_cases c34 : ((rd_T32 t204 x51_3).f1).toList = ((rd_T32 x3_1 x51_3).f1).toList
                              · rw [if_pos c34] at H
                                have c34b0 : (((rd_T32 t204 x51_3).f1).toList == ((rd_T32 x3_1 x51_3).f1).toList) = true := beq_iff_eq.mpr c34
                                have c34b1 : (((rd_T32 t204 x51_3).f1).toList != ((rd_T32 x3_1 x51_3).f1).toList) = false := bne_eq_false_iff_eq.mpr c34
                                clear c34
                                by_cases c35 : ((rd_T32 t204 x51_3).f2) = ((rd_T32 x3_1 x51_3).f2)
                                · rw [if_pos c35] at H
                                  have c35b0 : (((rd_T32 t204 x51_3).f2) == ((rd_T32 x3_1 x51_3).f2)) = true := beq_iff_eq.mpr c35
                                  have c35b1 : (((rd_T32 t204 x51_3).f2) != ((rd_T32 x3_1 x51_3).f2)) = false := bne_eq_false_iff_eq.mpr c35
                                  clear c35
                                  have H' := Aside0.mk H
                                  clear H
                                  have p209 : 0 ≤ (x51_3 : Int) := of_decide_eq_true (by first | (with_reducible assumption) | assumption)
                                  have q209 : x51_3 < (t204.length : Int) := of_decide_eq_true (by first | (with_reducible assumption) | assumption)
                                  obtain ⟨ad209, e209, hx209_0, hx209_1, hx209_2, hx209_3⟩ := at_T32 (Kd.R_reads' HO_7.out).2.2 x51_3 p209 q209
                                  cases e209
                                  replace p209 := eq_true p209
                                  replace q209 := eq_true q209
                                  have p210 : 0 ≤ (x51_3 : Int) := of_decide_eq_true (by first | (with_reducible assumption) | assumption)
                                  have q210 : x51_3 < (x3_1.length : Int) := of_decide_eq_true (by first | (with_reducible assumption) | assumption)
                                  obtain ⟨ad210, e210, hx210_0, hx210_1, hx210_2, hx210_3⟩ := at_T32 (Kd.R_reads' HO_3.out).2.2 x51_3 p210 q210
                                  cases e210
                                  replace p210 := eq_true p210
                                  replace q210 := eq_true q210
                                  have p211 : 0 ≤ (x51_3 : Int) := of_decide_eq_true (by first | (with_reducible assumption) | assumption)
                                  have q211 : x51_3 < (t204.length : Int) := of_decide_eq_true (by first | (with_reducible assumption) | assumption)
                                  obtain ⟨ad211, e211, hx211_0, hx211_1, hx211_2, hx211_3⟩ := at_T32 (Kd.R_reads' HO_7.out).2.2 x51_3 p211 q211
                                  obtain rfl : ad209 = ad211 := (by injection e211)
                                  replace p211 := eq_true p211
                                  replace q211 := eq_true q211
                                  have p212 : 0 ≤ (x51_3 : Int) := of_decide_eq_true (by first | (with_reducible assumption) | assumption)
                                  have q212 : x51_3 < (x3_1.length : Int) := of_decide_eq_true (by first | (with_reducible assumption) | assumption)
                                  obtain ⟨ad212, e212, hx212_0, hx212_1, hx212_2, hx212_3⟩ := at_T32 (Kd.R_reads' HO_3.out).2.2 x51_3 p212 q212
                                  obtain rfl : ad210 = ad212 := (by injection e212)
                                  replace p212 := eq_true p212
                                  replace q212 := eq_true q212
                                  have p213 : 0 ≤ (x51_3 : Int) := of_decide_eq_true (by first | (with_reducible assumption) | assumption)
                                  have q213 : x51_3 < (t204.length : Int) := of_decide_eq_true (by first | (with_reducible assumption) | assumption)
                                  obtain ⟨ad213, e213, hx213_0, hx213_1, hx213_2, hx213_3⟩ := at_T32 (Kd.R_reads' HO_7.out).2.2 x51_3 p213 q213
                                  obtain rfl : ad209 = ad213 := (by injection e213)
                                  replace p213 := eq_true p213
                                  replace q213 := eq_true q213
                                  have p214 : 0 ≤ (x51_3 : Int) := of_decide_eq_true (by first | (with_reducible assumption) | assumption)
                                  have q214 : x51_3 < (x3_1.length : Int) := of_decide_eq_true (by first | (with_reducible assumption) | assumption)
                                  obtain ⟨ad214, e214, hx214_0, hx214_1, hx214_2, hx214_3⟩ := at_T32 (Kd.R_reads' HO_3.out).2.2 x51_3 p214 q214
                                  obtain rfl : ad210 = ad214 := (by injection e214)
                                  replace p214 := eq_true p214
                                  replace q214 := eq_true q214
                                  go_wp2
                                  repeat (go_quiet (fail); try go_wp2)
                                  go_roundg k3
                                  case measure => have := HK1.out; have := HJ20.out; have := HK3.out; omega
                                  case rel => exact ⟨(wrap64 (x51_3 + 1)), (by first | rfl | (simp; done) | (simp [*]; done)), H', ⟨by have := HK1.out; have := HJ20.out; have := HK3.out; omega⟩, ⟨by (with_reducible repeat (first | apply Kd.R_alloc | apply Kd.R_drewN | apply Kd.R_drew)); exact HO_3.out⟩, ⟨by (with_reducible repeat (first | apply Kd.R_alloc | apply Kd.R_drewN | apply Kd.R_drew)); exact HO_7.out⟩, ⟨by repeat (first | (with_reducible first | exact HB.out | apply below_alloc | apply pw_below_drewN | apply below_drew1) | exact HB.out)⟩⟩
                                · rw [if_neg c35] at H
                                  have c35b0 : (((rd_T32 t204 x51_3).f2) == ((rd_T32 x3_1 x51_3).f2)) = false := beq_eq_false_iff_ne.mpr c35
                                  have c35b1 : (((rd_T32 t204 x51_3).f2) != ((rd_T32 x3_1 x51_3).f2)) = true := bne_iff_ne.mpr c35
                                  obtain rfl := Option.some.inj H
                                  have p209 : 0 ≤ (x51_3 : Int) := of_decide_eq_true (by first | (with_reducible assumption) | assumption)
                                  have q209 : x51_3 < (t204.length : Int) := of_decide_eq_true (by first | (with_reducible assumption) | assumption)
                                  obtain ⟨ad209, e209, hx209_0, hx209_1, hx209_2, hx209_3⟩ := at_T32 (Kd.R_reads' HO_7.out).2.2 x51_3 p209 q209
                                  cases e209
                                  replace p209 := eq_true p209
                                  replace q209 := eq_true q209
                                  have p210 : 0 ≤ (x51_3 : Int) := of_decide_eq_true (by first | (with_reducible assumption) | assumption)
                                  have q210 : x51_3 < (x3_1.length : Int) := of_decide_eq_true (by first | (with_reducible assumption) | assumption)
                                  obtain ⟨ad210, e210, hx210_0, hx210_1, hx210_2, hx210_3⟩ := at_T32 (Kd.R_reads' HO_3.out).2.2 x51_3 p210 q210
                                  cases e210
                                  replace p210 := eq_true p210
                                  replace q210 := eq_true q210
                                  have p211 : 0 ≤ (x51_3 : Int) := of_decide_eq_true (by first | (with_reducible assumption) | assumption)
                                  have q211 : x51_3 < (t204.length : Int) := of_decide_eq_true (by first | (with_reducible assumption) | assumption)
                                  obtain ⟨ad211, e211, hx211_0, hx211_1, hx211_2, hx211_3⟩ := at_T32 (Kd.R_reads' HO_7.out).2.2 x51_3 p211 q211
                                  obtain rfl : ad209 = ad211 := (by injection e211)
                                  replace p211 := eq_true p211
                                  replace q211 := eq_true q211
                                  have p212 : 0 ≤ (x51_3 : Int) := of_decide_eq_true (by first | (with_reducible assumption) | assumption)
                                  have q212 : x51_3 < (x3_1.length : Int) := of_decide_eq_true (by first | (with_reducible assumption) | assumption)
                                  obtain ⟨ad212, e212, hx212_0, hx212_1, hx212_2, hx212_3⟩ := at_T32 (Kd.R_reads' HO_3.out).2.2 x51_3 p212 q212
                                  obtain rfl : ad210 = ad212 := (by injection e212)
                                  replace p212 := eq_true p212
                                  replace q212 := eq_true q212
                                  have p213 : 0 ≤ (x51_3 : Int) := of_decide_eq_true (by first | (with_reducible assumption) | assumption)
                                  have q213 : x51_3 < (t204.length : Int) := of_decide_eq_true (by first | (with_reducible assumption) | assumption)
                                  obtain ⟨ad213, e213, hx213_0, hx213_1, hx213_2, hx213_3⟩ := at_T32 (Kd.R_reads' HO_7.out).2.2 x51_3 p213 q213
                                  obtain rfl : ad209 = ad213 := (by injection e213)
                                  replace p213 := eq_true p213
                                  replace q213 := eq_true q213
                                  have p214 : 0 ≤ (x51_3 : Int) := of_decide_eq_true (by first | (with_reducible assumption) | assumption)
                                  have q214 : x51_3 < (x3_1.length : Int) := of_decide_eq_true (by first | (with_reducible assumption) | assumption)
                                  obtain ⟨ad214, e214, hx214_0, hx214_1, hx214_2, hx214_3⟩ := at_T32 (Kd.R_reads' HO_3.out).2.2 x51_3 p214 q214
                                  obtain rfl : ad210 = ad214 := (by injection e214)
                                  replace p214 := eq_true p214
                                  replace q214 := eq_true q214
                                  go_wp2
                                  repeat (go_quiet (fail); try go_wp2)
                                  go_ret
                                  exact ⟨by first | rfl | (simp [errW_none, errW_some] <;> rfl) | (simp [*, errW_none, errW_some] <;> rfl), by repeat (first | (with_reducible first | exact HB.out | apply below_alloc | apply pw_below_drewN | apply below_drew1) | exact HB.out)⟩
                              · rw [if_neg c34] at H
                                have c34b0 : (((rd_T32 t204 x51_3).f1).toList == ((rd_T32 x3_1 x51_3).f1).toList) = false := beq_eq_false_iff_ne.mpr c34
                                have c34b1 : (((rd_T32 t204 x51_3).f1).toList != ((rd_T32 x3_1 x51_3).f1).toList) = true := bne_iff_ne.mpr c34
                                obtain rfl := Option.some.inj H
                                have p209 : 0 ≤ (x51_3 : Int) := of_decide_eq_true (by first | (with_reducible assumption) | assumption)
                                have q209 : x51_3 < (t204.length : Int) := of_decide_eq_true (by first | (with_reducible assumption) | assumption)
                                obtain ⟨ad209, e209, hx209_0, hx209_1, hx209_2, hx209_3⟩ := at_T32 (Kd.R_reads' HO_7.out).2.2 x51_3 p209 q209
                                cases e209
                                replace p209 := eq_true p209
                                replace q209 := eq_true q209
                                have p210 : 0 ≤ (x51_3 : Int) := of_decide_eq_true (by first | (with_reducible assumption) | assumption)
                                have q210 : x51_3 < (x3_1.length : Int) := of_decide_eq_true (by first | (with_reducible assumption) | assumption)
                                obtain ⟨ad210, e210, hx210_0, hx210_1, hx210_2, hx210_3⟩ := at_T32 (Kd.R_reads' HO_3.out).2.2 x51_3 p210 q210
                                cases e210
                                replace p210 := eq_true p210
                                replace q210 := eq_true q210
                                have p211 : 0 ≤ (x51_3 : Int) := of_decide_eq_true (by first | (with_reducible assumption) | assumption)
                                have q211 : x51_3 < (t204.length : Int) := of_decide_eq_true (by first | (with_reducible assumption) | assumption)
                                obtain ⟨ad211, e211, hx211_0, hx211_1, hx211_2, hx211_3⟩ := at_T32 (Kd.R_reads' HO_7.out).2.2 x51_3 p211 q211
                                obtain rfl : ad209 = ad211 := (by injection e211)
                                replace p211 := eq_true p211
                                replace q211 := eq_true q211
                                have p212 : 0 ≤ (x51_3 : Int) := of_decide_eq_true (by first | (with_reducible assumption) | assumption)
                                have q212 : x51_3 < (x3_1.length : Int) := of_decide_eq_true (by first | (with_reducible assumption) | assumption)
                                obtain ⟨ad212, e212, hx212_0, hx212_1, hx212_2, hx212_3⟩ := at_T32 (Kd.R_reads' HO_3.out).2.2 x51_3 p212 q212
                                obtain rfl : ad210 = ad212 := (by injection e212)
                                replace p212 := eq_true p212
                                replace q212 := eq_true q212
                                go_wp2
                                repeat (go_quiet (fail); try go_wp2)
                                go_ret
                                exact ⟨by first | rfl | (simp [errW_none, errW_some] <;> rfl) | (simp [*, errW_none, errW_some] <;> rfl), by repeat (first | (with_reducible first | exact HB.out | apply below_alloc | apply pw_below_drewN | apply below_drew1) | exact HB.out)⟩
                            · rw [if_neg c33] at H
                              have c33b0 : (((rd_T32 t204 x51_3).f0) == ((rd_T32 x3_1 x51_3).f0)) = false := beq_eq_false_iff_ne.mpr c33
                              have c33b1 : (((rd_T32 t204 x51_3).f0) != ((rd_T32 x3_1 x51_3).f0)) = true := bne_iff_ne.mpr c33
                              obtain rfl := Option.some.inj H
                              have p209 : 0 ≤ (x51_3 : Int) := of_decide_eq_true (by first | (with_reducible assumption) | assumption)
                              have q209 : x51_3 < (t204.length : Int) := of_decide_eq_true (by first | (with_reducible assumption) | assumption)
                              obtain ⟨ad209, e209, hx209_0, hx209_1, hx209_2, hx209_3⟩ := at_T32 (Kd.R_reads' HO_7.out).2.2 x51_3 p209 q209
                              cases e209
                              replace p209 := eq_true p209
                              replace q209 := eq_true q209
                              have p210 : 0 ≤ (x51_3 : Int) := of_decide_eq_true (by first | (with_reducible assumption) | assumption)
                              have q210 : x51_3 < (x3_1.length : Int) := of_decide_eq_true (by first | (with_reducible assumption) | assumption)
                              obtain ⟨ad210, e210, hx210_0, hx210_1, hx210_2, hx210_3⟩ := at_T32 (Kd.R_reads' HO_3.out).2.2 x51_3 p210 q210
                              cases e210
                              replace p210 := eq_true p210
                              replace q210 := eq_true q210
                              go_wp2
                              repeat (go_quiet (fail); try go_wp2)
                              go_ret
                              exact ⟨by first | rfl | (simp [errW_none, errW_some] <;> rfl) | (simp [*, errW_none, errW_some] <;> rfl), by repeat (first | (with_reducible first | exact HB.out | apply below_alloc | apply pw_below_drewN | apply below_drew1) | exact HB.out)⟩
                          · rw [if_neg c32] at H
                            exact absurd H (by simp)
                        · rw [if_neg c31] at H
                          exact absurd H (by simp)
                      · rw [if_neg c30] at H
                        exact absurd H (by simp)
                    · rw [if_neg c29] at H
                      have c29b0 : decide (x51_3 < (t204.length : Int)) = false := decide_eq_false c29
                      clear c29
                      replace H := Option.bind_eq_some_iff.mp H
                      obtain ⟨t215, A360, H⟩ := H
                      replace H : (some t215) = some r := H
                      have A36 := Aside0.mk A360
                      clear A360
                      obtain rfl := Option.some.inj H
                      go_wp2_with (first | (go_at_call 8; (with_reducible refine (helmsmanlaw11_alive.calls k3  t215 _ ?side1 A36.out).mono ?_); (case side1 => exact hT.later (by repeat (first | (with_reducible first | exact HB.out | apply below_alloc | apply pw_below_drewN | apply below_drew1) | exact HB.out))); rintro e w37 ⟨rfl, hb⟩; have n0_ := Aside0.mk (Kd.R_below (by (with_reducible repeat (first | apply Kd.R_alloc | apply Kd.R_drewN | apply Kd.R_drew)); exact HO_3.out) hb); have n1_ := Aside0.mk (Kd.R_below (by (with_reducible repeat (first | apply Kd.R_alloc | apply Kd.R_drewN | apply Kd.R_drew)); exact HO_7.out) hb); have n2_ := Aside0.mk (below_step (by repeat (first | (with_reducible first | exact HB.out | apply below_alloc | apply pw_below_drewN | apply below_drew1) | exact HB.out)) hb); clear HO_3; clear HO_7; clear HB; have HO_3 := n0_; have HO_7 := n1_; have HB := n2_; clear n0_ n1_ n2_; (try clear hb); (try clear hb2); (try clear hk); (try clear hi)))
                      repeat (go_quiet (first | (go_at_call 8; (with_reducible refine (helmsmanlaw11_alive.calls k3  t215 _ ?side1 A36.out).mono ?_); (case side1 => exact hT.later (by repeat (first | (with_reducible first | exact HB.out | apply below_alloc | apply pw_below_drewN | apply below_drew1) | exact HB.out))); rintro e w37 ⟨rfl, hb⟩; have n0_ := Aside0.mk (Kd.R_below (by (with_reducible repeat (first | apply Kd.R_alloc | apply Kd.R_drewN | apply Kd.R_drew)); exact HO_3.out) hb); have n1_ := Aside0.mk (Kd.R_below (by (with_reducible repeat (first | apply Kd.R_alloc | apply Kd.R_drewN | apply Kd.R_drew)); exact HO_7.out) hb); have n2_ := Aside0.mk (below_step (by repeat (first | (with_reducible first | exact HB.out | apply below_alloc | apply pw_below_drewN | apply below_drew1) | exact HB.out)) hb); clear HO_3; clear HO_7; clear HB; have HO_3 := n0_; have HO_7 := n1_; have HB := n2_; clear n0_ n1_ n2_; (try clear hb); (try clear hb2); (try clear hk); (try clear hi))); try go_wp2_with (first | (go_at_call 8; (with_reducible refine (helmsmanlaw11_alive.calls k3  t215 _ ?side1 A36.out).mono ?_); (case side1 => exact hT.later (by repeat (first | (with_reducible first | exact HB.out | apply below_alloc | apply pw_below_drewN | apply below_drew1) | exact HB.out))); rintro e w37 ⟨rfl, hb⟩; have n0_ := Aside0.mk (Kd.R_below (by (with_reducible repeat (first | apply Kd.R_alloc | apply Kd.R_drewN | apply Kd.R_drew)); exact HO_3.out) hb); have n1_ := Aside0.mk (Kd.R_below (by (with_reducible repeat (first | apply Kd.R_alloc | apply Kd.R_drewN | apply Kd.R_drew)); exact HO_7.out) hb); have n2_ := Aside0.mk (below_step (by repeat (first | (with_reducible first | exact HB.out | apply below_alloc | apply pw_below_drewN | apply below_drew1) | exact HB.out)) hb); clear HO_3; clear HO_7; clear HB; have HO_3 := n0_; have HO_7 := n1_; have HB := n2_; clear n0_ n1_ n2_; (try clear hb); (try clear hb2); (try clear hk); (try clear hi))))
                      go_ret
                      exact ⟨by first | rfl | (simp [errW_none, errW_some] <;> rfl) | (simp [*, errW_none, errW_some] <;> rfl), by repeat (first | (with_reducible first | exact HB.out | apply below_alloc | apply pw_below_drewN | apply below_drew1) | exact HB.out)⟩

end Go.Proofs.YtlcbdgkkkljfnaaDoor.P
end

section
namespace Go.Proofs.YtlcbdgkkkljfnaaDoor.P
open Go.RowKit Go.Proofs.YtlcbdgkkkljfnaaDoorW.PrintWords Go.Proofs.YtlcbdgkkkljfnaaDoorW.PrintLast Go.Proofs.YtlcbdgkkkljfnaaDoorW.PrintMore
attribute [local go_sem low] cell_set_at
attribute [local go_sem] max2_int min2_int max_two min_two max_three min_three max_four min_four   -- for this text's walks alone
set_option linter.unusedVariables false
set_option linter.unusedSimpArgs false

/-! ### helmsmanref11_letter: function 17 -/
def helmsmanref11_letter.f (a0 : Int) : Option (Bool) := if a0 ≥ 97 then (if a0 ≤ 122 then (some true) else (if a0 ≥ 65 then (some (decide (a0 ≤ 90))) else (some false))) else (if a0 ≥ 65 then (some (decide (a0 ≤ 90))) else (some false))
set_option maxHeartbeats 8000000 in
set_option maxRecDepth 100000 in
theorem helmsmanref11_letter.calls (a0 : Int) (r : Bool) (w : World) (h : helmsmanref11_letter.f a0 = some r) :
    Calls Tryd.prog 17 #[.int .u8 a0] w fun e w' => e = .returned (.bool r) ∧ Drawn0 w w' := by
  have H : (if a0 ≥ 97 then (if a0 ≤ 122 then (some true) else (if a0 ≥ 65 then (some (decide (a0 ≤ 90))) else (some false))) else (if a0 ≥ 65 then (some (decide (a0 ≤ 90))) else (some false))) = some r := h
  clear h
  by_cases c2 : a0 ≥ 97
  · rw [if_pos c2] at H
    have c2b0 : decide (97 ≤ a0) = true := decide_eq_true c2
    clear c2
    by_cases c3 : a0 ≤ 122
    · rw [if_pos c3] at H
      have c3b0 : decide (a0 ≤ 122) = true := decide_eq_true c3
      clear c3
      obtain rfl := Option.some.inj H
      go_enter Tryd.func17, Tryd.ntmps17
      go_wp2
      go_ret
      exact ⟨by first | rfl | (simp; done) | (simp [*]; done), by repeat (first | exact Drawn0.refl _ | apply Drawn0.step)⟩
    · rw [if_neg c3] at H
      have c3b0 : decide (a0 ≤ 122) = false := decide_eq_false c3
      clear c3
      by_cases c4 : a0 ≥ 65
      · rw [if_pos c4] at H
        have c4b0 : decide (65 ≤ a0) = true := decide_eq_true c4
        clear c4
        obtain rfl := Option.some.inj H
        go_enter Tryd.func17, Tryd.ntmps17
        go_wp2
        go_ret
        exact ⟨by first | rfl | (simp; done) | (simp [*]; done), by repeat (first | exact Drawn0.refl _ | apply Drawn0.step)⟩
      · rw [if_neg c4] at H
        have c4b0 : decide (65 ≤ a0) = false := decide_eq_false c4
        clear c4
        obtain rfl := Option.some.inj H
        go_enter Tryd.func17, Tryd.ntmps17
        go_wp2
        go_ret
        exact ⟨by first | rfl | (simp; done) | (simp [*]; done), by repeat (first | exact Drawn0.refl _ | apply Drawn0.step)⟩
  · rw [if_neg c2] at H
    have c2b0 : decide (97 ≤ a0) = false := decide_eq_false c2
    clear c2
    by_cases c5 : a0 ≥ 65
    · rw [if_pos c5] at H
      have c5b0 : decide (65 ≤ a0) = true := decide_eq_true c5
      clear c5
      obtain rfl := Option.some.inj H
      go_enter Tryd.func17, Tryd.ntmps17
      go_wp2
      go_ret
      exact ⟨by first | rfl | (simp; done) | (simp [*]; done), by repeat (first | exact Drawn0.refl _ | apply Drawn0.step)⟩
    · rw [if_neg c5] at H
      have c5b0 : decide (65 ≤ a0) = false := decide_eq_false c5
      clear c5
      obtain rfl := Option.some.inj H
      go_enter Tryd.func17, Tryd.ntmps17
      go_wp2
      go_ret
      exact ⟨by first | rfl | (simp; done) | (simp [*]; done), by repeat (first | exact Drawn0.refl _ | apply Drawn0.step)⟩

end Go.Proofs.YtlcbdgkkkljfnaaDoor.P
end

section
namespace Go.Proofs.YtlcbdgkkkljfnaaDoor.P
open Go.RowKit Go.Proofs.YtlcbdgkkkljfnaaDoorW.PrintWords Go.Proofs.YtlcbdgkkkljfnaaDoorW.PrintLast Go.Proofs.YtlcbdgkkkljfnaaDoorW.PrintMore
attribute [local go_sem low] cell_set_at
attribute [local go_sem] max2_int min2_int max_two min_two max_three min_three max_four min_four   -- for this text's walks alone
set_option linter.unusedVariables false
set_option linter.unusedSimpArgs false

/-! ### helmsmanref11_digit: function 18 -/
def helmsmanref11_digit.f (a0 : Int) : Option (Bool) := if a0 ≥ 48 then (some (decide (a0 ≤ 57))) else (some false)
set_option maxHeartbeats 8000000 in
set_option maxRecDepth 100000 in
theorem helmsmanref11_digit.calls (a0 : Int) (r : Bool) (w : World) (h : helmsmanref11_digit.f a0 = some r) :
    Calls Tryd.prog 18 #[.int .u8 a0] w fun e w' => e = .returned (.bool r) ∧ Drawn0 w w' := by
  have H : (if a0 ≥ 48 then (some (decide (a0 ≤ 57))) else (some false)) = some r := h
  clear h
  by_cases c2 : a0 ≥ 48
  · rw [if_pos c2] at H
    have c2b0 : decide (48 ≤ a0) = true := decide_eq_true c2
    clear c2
    obtain rfl := Option.some.inj H
    go_enter Tryd.func18, Tryd.ntmps18
    go_wp2
    go_ret
    exact ⟨by first | rfl | (simp; done) | (simp [*]; done), by repeat (first | exact Drawn0.refl _ | apply Drawn0.step)⟩
  · rw [if_neg c2] at H
    have c2b0 : decide (48 ≤ a0) = false := decide_eq_false c2
    clear c2
    obtain rfl := Option.some.inj H
    go_enter Tryd.func18, Tryd.ntmps18
    go_wp2
    go_ret
    exact ⟨by first | rfl | (simp; done) | (simp [*]; done), by repeat (first | exact Drawn0.refl _ | apply Drawn0.step)⟩

end Go.Proofs.YtlcbdgkkkljfnaaDoor.P
end

section
namespace Go.Proofs.YtlcbdgkkkljfnaaDoor.P
open Go.RowKit Go.Proofs.YtlcbdgkkkljfnaaDoorW.PrintWords Go.Proofs.YtlcbdgkkkljfnaaDoorW.PrintLast Go.Proofs.YtlcbdgkkkljfnaaDoorW.PrintMore
attribute [local go_sem low] cell_set_at
attribute [local go_sem] max2_int min2_int max_two min_two max_three min_three max_four min_four   -- for this text's walks alone
set_option linter.unusedVariables false
set_option linter.unusedSimpArgs false

/-! ### helmsmanref11_Number: function 19 -/
def helmsmanref11_Number.l0 : Nat → ByteArray → Int → Int → Option (Int × Bool)
  | 0, _, _, _ => none
  | k + 1, x0, x4, x5 => if x5 < (x0.size : Int) then (if x4 > 115292150460684697 then (some (0, false)) else (if 0 ≤ x5 then (if (wrap64 ((wrap64 ((wrap64 (x4 * 10)) - 48)) + (wrap64 (bt x0 x5)))) > 1152921504606846976 then (some (0, false)) else (helmsmanref11_Number.l0 k x0 (wrap64 ((wrap64 ((wrap64 (x4 * 10)) - 48)) + (wrap64 (bt x0 x5)))) (wrap64 (x5 + 1)))) else (none))) else (some (x4, decide ((x0.size : Int) ≤ 40)))
def helmsmanref11_Number.f (k : Nat) (a0 : ByteArray) : Option (Int × Bool) := helmsmanref11_Number.l0 k a0 0 0
theorem helmsmanref11_Number.mono_l : ∀ k, (∀ y0 y1 y2, LeO (helmsmanref11_Number.l0 k y0 y1 y2) (helmsmanref11_Number.l0 (k + 1) y0 y1 y2))
  | 0 => fun _ _ _ r h => by simp [helmsmanref11_Number.l0] at h
  | k + 1 => by
    have ih0 := helmsmanref11_Number.mono_l k
    · intro y0 y1 y2
      unfold helmsmanref11_Number.l0
      repeat' first
      | (with_reducible exact ih0 _ _ _)
      | (with_reducible exact LeO.refl _)
      | (with_reducible exact LeO.none _)
      | (with_reducible refine LeO.ite ?_ ?_)
      | (with_reducible refine LeO.bind ?_ (fun _ => ?_))
      | exact ih0 _ _ _
      | exact LeO.none _
      | refine LeO.ite ?_ ?_
      | refine LeO.bind ?_ (fun _ => ?_)
theorem helmsmanref11_Number.mono : ∀ a0 k, LeO (helmsmanref11_Number.f k a0) (helmsmanref11_Number.f (k + 1) a0) := by
  intro a0 k
  have ih0 := helmsmanref11_Number.mono_l k
  unfold helmsmanref11_Number.f
  repeat' first
      | (with_reducible exact ih0 _ _ _)
      | (with_reducible exact LeO.refl _)
      | (with_reducible exact LeO.none _)
      | (with_reducible refine LeO.ite ?_ ?_)
      | (with_reducible refine LeO.bind ?_ (fun _ => ?_))
      | exact ih0 _ _ _
      | exact LeO.none _
      | refine LeO.ite ?_ ?_
      | refine LeO.bind ?_ (fun _ => ?_)
set_option maxHeartbeats 8000000 in
set_option maxRecDepth 100000 in
theorem helmsmanref11_Number.calls (k : Nat) (a0 : ByteArray) (r1 : Int) (r2 : Bool) (w : World) (h : helmsmanref11_Number.f k a0 = some (r1, r2)) :
    Calls Tryd.prog 19 #[.string a0] w fun e w' => e = .returned (.tuple #[.int .i64 r1, .bool r2]) ∧ Drawn0 w w' := by
  have H : (helmsmanref11_Number.l0 k a0 0 0) = some (r1, r2) := h
  clear h
  have H' := Aside0.mk H
  clear H
  go_enter Tryd.func19, Tryd.ntmps19
  go_wp2
  (try simp only [Act.put, List.setIfInBounds_toArray, List.set_cons_succ, List.set_cons_zero])
  go_loopg [4, 5] k (fun kq v4 v5 w' => ∃ (x4_1 : Int) (x5_1 : Int), v4 = .int .i64 x4_1 ∧ v5 = .int .i64 x5_1 ∧ Aside0 (helmsmanref11_Number.l0 kq a0 x4_1 x5_1 = some (r1, r2)) ∧ Aside0 (kq ≤ k) ∧ Drawn0 w w')
  case atStart => exact ⟨(0), (0), (by first | rfl | (simp; done) | (simp [*]; done)), (by first | rfl | (simp; done) | (simp [*]; done)), H', ⟨Nat.le_refl _⟩, by repeat (first | exact Drawn0.refl _ | apply Drawn0.step)⟩
  case round =>
    clear H'
    try clear c1
    obtain ⟨x4_1, x5_1, rfl, rfl, HA, HK1, ⟨m1, rfl⟩⟩ := hrel
    cases gk with
    | zero => exact absurd HA.out (by simp [helmsmanref11_Number.l0])
    | succ k1 =>
      have H := HA.out
      clear HA
      simp only [helmsmanref11_Number.l0] at H
      by_cases c2 : x5_1 < (a0.size : Int)
      · rw [if_pos c2] at H
        have c2b0 : decide (x5_1 < (a0.size : Int)) = true := decide_eq_true c2
        clear c2
        by_cases c3 : x4_1 > 115292150460684697
        · rw [if_pos c3] at H
          have c3b0 : decide (115292150460684697 < x4_1) = true := decide_eq_true c3
          clear c3
          simp only [Option.some.injEq, Prod.mk.injEq] at H
          obtain ⟨rfl, rfl⟩ := H
          go_wp2
          go_ret2
          exact ⟨by first | rfl | (simp; done) | (simp [*]; done), by repeat (first | exact Drawn0.refl _ | apply Drawn0.step)⟩
        · rw [if_neg c3] at H
          have c3b0 : decide (115292150460684697 < x4_1) = false := decide_eq_false c3
          clear c3
          by_cases c4 : 0 ≤ x5_1
          · rw [if_pos c4] at H
            have c4b0 : decide (0 ≤ x5_1) = true := decide_eq_true c4
            clear c4
            by_cases c6 : (wrap64 ((wrap64 ((wrap64 (x4_1 * 10)) - 48)) + (wrap64 (bt a0 x5_1)))) > 1152921504606846976
            · rw [if_pos c6] at H
              have c6b0 : decide (1152921504606846976 < (wrap64 ((wrap64 ((wrap64 (x4_1 * 10)) - 48)) + (wrap64 (bt a0 x5_1))))) = true := decide_eq_true c6
              clear c6
              simp only [Option.some.injEq, Prod.mk.injEq] at H
              obtain ⟨rfl, rfl⟩ := H
              have p5 : 0 ≤ (x5_1 : Int) := of_decide_eq_true (by first | (with_reducible assumption) | assumption)
              have q5 : x5_1 < (a0.size : Int) := of_decide_eq_true (by first | (with_reducible assumption) | assumption)
              have hx5 := bt_at a0 x5_1
              replace p5 := eq_true p5
              replace q5 := eq_true q5
              go_wp2
              go_ret2
              exact ⟨by first | rfl | (simp; done) | (simp [*]; done), by repeat (first | exact Drawn0.refl _ | apply Drawn0.step)⟩
            · rw [if_neg c6] at H
              have c6b0 : decide (1152921504606846976 < (wrap64 ((wrap64 ((wrap64 (x4_1 * 10)) - 48)) + (wrap64 (bt a0 x5_1))))) = false := decide_eq_false c6
              clear c6
              have H' := Aside0.mk H
              clear H
              have p5 : 0 ≤ (x5_1 : Int) := of_decide_eq_true (by first | (with_reducible assumption) | assumption)
              have q5 : x5_1 < (a0.size : Int) := of_decide_eq_true (by first | (with_reducible assumption) | assumption)
              have hx5 := bt_at a0 x5_1
              replace p5 := eq_true p5
              replace q5 := eq_true q5
              go_wp2
              go_roundg k1
              case measure => have := HK1.out; omega
              case rel => exact ⟨(wrap64 ((wrap64 ((wrap64 (x4_1 * 10)) - 48)) + (wrap64 (bt a0 x5_1)))), (wrap64 (x5_1 + 1)), (by first | rfl | (simp; done) | (simp [*]; done)), (by first | rfl | (simp; done) | (simp [*]; done)), H', ⟨by have := HK1.out; omega⟩, by repeat (first | exact Drawn0.refl _ | apply Drawn0.step)⟩
          · rw [if_neg c4] at H
            exact absurd H (by simp)
      · rw [if_neg c2] at H
        have c2b0 : decide (x5_1 < (a0.size : Int)) = false := decide_eq_false c2
        clear c2
        simp only [Option.some.injEq, Prod.mk.injEq] at H
        obtain ⟨rfl, rfl⟩ := H
        go_wp2
        go_ret2
        exact ⟨by first | rfl | (simp; done) | (simp [*]; done), by repeat (first | exact Drawn0.refl _ | apply Drawn0.step)⟩

end Go.Proofs.YtlcbdgkkkljfnaaDoor.P
end

section
namespace Go.Proofs.YtlcbdgkkkljfnaaDoor.P
open Go.RowKit Go.Proofs.YtlcbdgkkkljfnaaDoorW.PrintWords Go.Proofs.YtlcbdgkkkljfnaaDoorW.PrintLast Go.Proofs.YtlcbdgkkkljfnaaDoorW.PrintMore
attribute [local go_sem low] cell_set_at
attribute [local go_sem] max2_int min2_int max_two min_two max_three min_three max_four min_four   -- for this text's walks alone
set_option linter.unusedVariables false
set_option linter.unusedSimpArgs false

/-! ### helmsmanref11_two: function 20 -/
def helmsmanref11_two.f (a0 : ByteArray) : Option (Bool) := if a0.toList = ([61, 61] : List UInt8) then (some true) else (if a0.toList = ([33, 61] : List UInt8) then (some true) else (if a0.toList = ([60, 61] : List UInt8) then (some true) else (if a0.toList = ([62, 61] : List UInt8) then (some true) else (if a0.toList = ([38, 38] : List UInt8) then (some true) else (some (a0.toList == ([124, 124] : List UInt8)))))))
set_option maxHeartbeats 8000000 in
set_option maxRecDepth 100000 in
theorem helmsmanref11_two.calls (a0 : ByteArray) (r : Bool) (w : World) (h : helmsmanref11_two.f a0 = some r) :
    Calls Tryd.prog 20 #[.string a0] w fun e w' => e = .returned (.bool r) ∧ Drawn0 w w' := by
  have H : (if a0.toList = ([61, 61] : List UInt8) then (some true) else (if a0.toList = ([33, 61] : List UInt8) then (some true) else (if a0.toList = ([60, 61] : List UInt8) then (some true) else (if a0.toList = ([62, 61] : List UInt8) then (some true) else (if a0.toList = ([38, 38] : List UInt8) then (some true) else (some (a0.toList == ([124, 124] : List UInt8)))))))) = some r := h
  clear h
  by_cases c2 : a0.toList = ([61, 61] : List UInt8)
  · rw [if_pos c2] at H
    have c2b0 : (a0.toList == ([61, 61] : List UInt8)) = true := beq_iff_eq.mpr c2
    have c2b1 : (a0.toList != ([61, 61] : List UInt8)) = false := bne_eq_false_iff_eq.mpr c2
    clear c2
    obtain rfl := Option.some.inj H
    go_enter Tryd.func20, Tryd.ntmps20
    go_wp2
    go_ret
    exact ⟨by first | rfl | (simp; done) | (simp [*]; done), by repeat (first | exact Drawn0.refl _ | apply Drawn0.step)⟩
  · rw [if_neg c2] at H
    have c2b0 : (a0.toList == ([61, 61] : List UInt8)) = false := beq_eq_false_iff_ne.mpr c2
    have c2b1 : (a0.toList != ([61, 61] : List UInt8)) = true := bne_iff_ne.mpr c2
    by_cases c3 : a0.toList = ([33, 61] : List UInt8)
    · rw [if_pos c3] at H
      have c3b0 : (a0.toList == ([33, 61] : List UInt8)) = true := beq_iff_eq.mpr c3
      have c3b1 : (a0.toList != ([33, 61] : List UInt8)) = false := bne_eq_false_iff_eq.mpr c3
      clear c3
      obtain rfl := Option.some.inj H
      go_enter Tryd.func20, Tryd.ntmps20
      go_wp2
      go_ret
      exact ⟨by first | rfl | (simp; done) | (simp [*]; done), by repeat (first | exact Drawn0.refl _ | apply Drawn0.step)⟩
    · rw [if_neg c3] at H
      have c3b0 : (a0.toList == ([33, 61] : List UInt8)) = false := beq_eq_false_iff_ne.mpr c3
      have c3b1 : (a0.toList != ([33, 61] : List UInt8)) = true := bne_iff_ne.mpr c3
      by_cases c4 : a0.toList = ([60, 61] : List UInt8)
      · rw [if_pos c4] at H
        have c4b0 : (a0.toList == ([60, 61] : List UInt8)) = true := beq_iff_eq.mpr c4
        have c4b1 : (a0.toList != ([60, 61] : List UInt8)) = false := bne_eq_false_iff_eq.mpr c4
        clear c4
        obtain rfl := Option.some.inj H
        go_enter Tryd.func20, Tryd.ntmps20
        go_wp2
        go_ret
        exact ⟨by first | rfl | (simp; done) | (simp [*]; done), by repeat (first | exact Drawn0.refl _ | apply Drawn0.step)⟩
      · rw [if_neg c4] at H
        have c4b0 : (a0.toList == ([60, 61] : List UInt8)) = false := beq_eq_false_iff_ne.mpr c4
        have c4b1 : (a0.toList != ([60, 61] : List UInt8)) = true := bne_iff_ne.mpr c4
        by_cases c5 : a0.toList = ([62, 61] : List UInt8)
        · rw [if_pos c5] at H
          have c5b0 : (a0.toList == ([62, 61] : List UInt8)) = true := beq_iff_eq.mpr c5
          have c5b1 : (a0.toList != ([62, 61] : List UInt8)) = false := bne_eq_false_iff_eq.mpr c5
          clear c5
          obtain rfl := Option.some.inj H
          go_enter Tryd.func20, Tryd.ntmps20
          go_wp2
          go_ret
          exact ⟨by first | rfl | (simp; done) | (simp [*]; done), by repeat (first | exact Drawn0.refl _ | apply Drawn0.step)⟩
        · rw [if_neg c5] at H
          have c5b0 : (a0.toList == ([62, 61] : List UInt8)) = false := beq_eq_false_iff_ne.mpr c5
          have c5b1 : (a0.toList != ([62, 61] : List UInt8)) = true := bne_iff_ne.mpr c5
          by_cases c6 : a0.toList = ([38, 38] : List UInt8)
          · rw [if_pos c6] at H
            have c6b0 : (a0.toList == ([38, 38] : List UInt8)) = true := beq_iff_eq.mpr c6
            have c6b1 : (a0.toList != ([38, 38] : List UInt8)) = false := bne_eq_false_iff_eq.mpr c6
            clear c6
            obtain rfl := Option.some.inj H
            go_enter Tryd.func20, Tryd.ntmps20
            go_wp2
            go_ret
            exact ⟨by first | rfl | (simp; done) | (simp [*]; done), by repeat (first | exact Drawn0.refl _ | apply Drawn0.step)⟩
          · rw [if_neg c6] at H
            have c6b0 : (a0.toList == ([38, 38] : List UInt8)) = false := beq_eq_false_iff_ne.mpr c6
            have c6b1 : (a0.toList != ([38, 38] : List UInt8)) = true := bne_iff_ne.mpr c6
            obtain rfl := Option.some.inj H
            go_enter Tryd.func20, Tryd.ntmps20
            go_wp2
            go_ret
            exact ⟨by first | rfl | (simp; done) | (simp [*]; done), by repeat (first | exact Drawn0.refl _ | apply Drawn0.step)⟩

end Go.Proofs.YtlcbdgkkkljfnaaDoor.P
end

section
namespace Go.Proofs.YtlcbdgkkkljfnaaDoor.P
open Go.RowKit Go.Proofs.YtlcbdgkkkljfnaaDoorW.PrintWords Go.Proofs.YtlcbdgkkkljfnaaDoorW.PrintLast Go.Proofs.YtlcbdgkkkljfnaaDoorW.PrintMore
attribute [local go_sem low] cell_set_at
attribute [local go_sem] max2_int min2_int max_two min_two max_three min_three max_four min_four   -- for this text's walks alone
set_option linter.unusedVariables false
set_option linter.unusedSimpArgs false

/-! ### helmsmanref11_one: function 21 -/
def helmsmanref11_one.l0 : Nat → Int → ByteArray → Int → Option (Bool)
  | 0, _, _, _ => none
  | k + 1, x0, x3, x4 => if x4 < (x3.size : Int) then (if 0 ≤ x4 then (if (bt x3 x4) = x0 then (some true) else (helmsmanref11_one.l0 k x0 x3 (wrap64 (x4 + 1)))) else (none)) else (some false)
def helmsmanref11_one.f (k : Nat) (a0 : Int) : Option (Bool) := helmsmanref11_one.l0 k a0 (⟨#[123, 125, 40, 41, 91, 93, 59, 58, 44, 61, 60, 62, 43, 45, 42, 47, 33]⟩ : ByteArray) 0
theorem helmsmanref11_one.mono_l : ∀ k, (∀ y0 y1 y2, LeO (helmsmanref11_one.l0 k y0 y1 y2) (helmsmanref11_one.l0 (k + 1) y0 y1 y2))
  | 0 => fun _ _ _ r h => by simp [helmsmanref11_one.l0] at h
  | k + 1 => by
    have ih0 := helmsmanref11_one.mono_l k
    · intro y0 y1 y2
      unfold helmsmanref11_one.l0
      repeat' first
      | (with_reducible exact ih0 _ _ _)
      | (with_reducible exact LeO.refl _)
      | (with_reducible exact LeO.none _)
      | (with_reducible refine LeO.ite ?_ ?_)
      | (with_reducible refine LeO.bind ?_ (fun _ => ?_))
      | exact ih0 _ _ _
      | exact LeO.none _
      | refine LeO.ite ?_ ?_
      | refine LeO.bind ?_ (fun _ => ?_)
theorem helmsmanref11_one.mono : ∀ a0 k, LeO (helmsmanref11_one.f k a0) (helmsmanref11_one.f (k + 1) a0) := by
  intro a0 k
  have ih0 := helmsmanref11_one.mono_l k
  unfold helmsmanref11_one.f
  repeat' first
      | (with_reducible exact ih0 _ _ _)
      | (with_reducible exact LeO.refl _)
      | (with_reducible exact LeO.none _)
      | (with_reducible refine LeO.ite ?_ ?_)
      | (with_reducible refine LeO.bind ?_ (fun _ => ?_))
      | exact ih0 _ _ _
      | exact LeO.none _
      | refine LeO.ite ?_ ?_
      | refine LeO.bind ?_ (fun _ => ?_)
set_option maxHeartbeats 8000000 in
set_option maxRecDepth 100000 in
theorem helmsmanref11_one.calls (k : Nat) (a0 : Int) (r : Bool) (w : World) (h : helmsmanref11_one.f k a0 = some r) :
    Calls Tryd.prog 21 #[.int .u8 a0] w fun e w' => e = .returned (.bool r) ∧ Drawn0 w w' := by
  have H : (helmsmanref11_one.l0 k a0 (⟨#[123, 125, 40, 41, 91, 93, 59, 58, 44, 61, 60, 62, 43, 45, 42, 47, 33]⟩ : ByteArray) 0) = some r := h
  clear h
  have H' := Aside0.mk H
  clear H
  go_enter Tryd.func21, Tryd.ntmps21
  go_wp2
  (try simp only [Act.put, List.setIfInBounds_toArray, List.set_cons_succ, List.set_cons_zero])
  go_loopg [4] k (fun kq v4 w' => ∃ (x4_1 : Int), v4 = .int .i64 x4_1 ∧ Aside0 (helmsmanref11_one.l0 kq a0 (⟨#[123, 125, 40, 41, 91, 93, 59, 58, 44, 61, 60, 62, 43, 45, 42, 47, 33]⟩ : ByteArray) x4_1 = some r) ∧ Aside0 (kq ≤ k) ∧ Drawn0 w w')
  case atStart => exact ⟨(0), (by first | rfl | (simp; done) | (simp [*]; done)), H', ⟨Nat.le_refl _⟩, by repeat (first | exact Drawn0.refl _ | apply Drawn0.step)⟩
  case round =>
    clear H'
    obtain ⟨x4_1, rfl, HA, HK1, ⟨m1, rfl⟩⟩ := hrel
    cases gk with
    | zero => exact absurd HA.out (by simp [helmsmanref11_one.l0])
    | succ k1 =>
      have H := HA.out
      clear HA
      simp only [helmsmanref11_one.l0] at H
      by_cases c2 : x4_1 < ((⟨#[123, 125, 40, 41, 91, 93, 59, 58, 44, 61, 60, 62, 43, 45, 42, 47, 33]⟩ : ByteArray).size : Int)
      · rw [if_pos c2] at H
        have c2b0 : decide (x4_1 < 17) = true := decide_eq_true c2
        clear c2
        by_cases c3 : 0 ≤ x4_1
        · rw [if_pos c3] at H
          have c3b0 : decide (0 ≤ x4_1) = true := decide_eq_true c3
          clear c3
          by_cases c5 : (bt (⟨#[123, 125, 40, 41, 91, 93, 59, 58, 44, 61, 60, 62, 43, 45, 42, 47, 33]⟩ : ByteArray) x4_1) = a0
          · rw [if_pos c5] at H
            have c5b0 : ((bt (⟨#[123, 125, 40, 41, 91, 93, 59, 58, 44, 61, 60, 62, 43, 45, 42, 47, 33]⟩ : ByteArray) x4_1) == a0) = true := beq_iff_eq.mpr c5
            have c5b1 : ((bt (⟨#[123, 125, 40, 41, 91, 93, 59, 58, 44, 61, 60, 62, 43, 45, 42, 47, 33]⟩ : ByteArray) x4_1) != a0) = false := bne_eq_false_iff_eq.mpr c5
            clear c5
            obtain rfl := Option.some.inj H
            have p4 : 0 ≤ (x4_1 : Int) := of_decide_eq_true (by first | (with_reducible assumption) | assumption)
            have q4 : x4_1 < (17 : Int) := of_decide_eq_true (by first | (with_reducible assumption) | assumption)
            have hx4 := bt_at (⟨#[123, 125, 40, 41, 91, 93, 59, 58, 44, 61, 60, 62, 43, 45, 42, 47, 33]⟩ : ByteArray) x4_1
            replace p4 := eq_true p4
            replace q4 := eq_true q4
            go_wp2
            go_ret
            exact ⟨by first | rfl | (simp; done) | (simp [*]; done), by repeat (first | exact Drawn0.refl _ | apply Drawn0.step)⟩
          · rw [if_neg c5] at H
            have c5b0 : ((bt (⟨#[123, 125, 40, 41, 91, 93, 59, 58, 44, 61, 60, 62, 43, 45, 42, 47, 33]⟩ : ByteArray) x4_1) == a0) = false := beq_eq_false_iff_ne.mpr c5
            have c5b1 : ((bt (⟨#[123, 125, 40, 41, 91, 93, 59, 58, 44, 61, 60, 62, 43, 45, 42, 47, 33]⟩ : ByteArray) x4_1) != a0) = true := bne_iff_ne.mpr c5
            have H' := Aside0.mk H
            clear H
            have p4 : 0 ≤ (x4_1 : Int) := of_decide_eq_true (by first | (with_reducible assumption) | assumption)
            have q4 : x4_1 < (17 : Int) := of_decide_eq_true (by first | (with_reducible assumption) | assumption)
            have hx4 := bt_at (⟨#[123, 125, 40, 41, 91, 93, 59, 58, 44, 61, 60, 62, 43, 45, 42, 47, 33]⟩ : ByteArray) x4_1
            replace p4 := eq_true p4
            replace q4 := eq_true q4
            go_wp2
            go_roundg k1
            case measure => have := HK1.out; omega
            case rel => exact ⟨(wrap64 (x4_1 + 1)), (by first | rfl | (simp; done) | (simp [*]; done)), H', ⟨by have := HK1.out; omega⟩, by repeat (first | exact Drawn0.refl _ | apply Drawn0.step)⟩
        · rw [if_neg c3] at H
          exact absurd H (by simp)
      · rw [if_neg c2] at H
        have c2b0 : decide (x4_1 < 17) = false := decide_eq_false c2
        clear c2
        obtain rfl := Option.some.inj H
        go_wp2
        go_ret
        exact ⟨by first | rfl | (simp; done) | (simp [*]; done), by repeat (first | exact Drawn0.refl _ | apply Drawn0.step)⟩

end Go.Proofs.YtlcbdgkkkljfnaaDoor.P
end
