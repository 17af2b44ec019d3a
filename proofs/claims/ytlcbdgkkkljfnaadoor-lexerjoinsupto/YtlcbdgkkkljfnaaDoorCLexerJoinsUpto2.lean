/- LexerJoins: for every row of tokens, what those of them that may be are joined to is lexed as them. Condition: what is read holds at most 1048576 values and letters (the second form). -/
import Derived.Test.YtlcbdgkkkljfnaaDoorCLexerJoinsUpto0
import Derived.Test.YtlcbdgkkkljfnaaDoorCLexerJoinsUpto1
import Derived.Test.YtlcbdgkkkljfnaaDoorWWords
import Derived.Deep.Slices
import Derived.DataReads
import Derived.ChangeArms
import Derived.KernelRfl
import Derived.Test.YtlcbdgkkkljfnaaDoorRows
import Derived.Test.YtlcbdgkkkljfnaaDoorCards
import Derived.Test.YtlcbdgkkkljfnaaDoorTie
import Derived.WalkKit
import Derived.ProofKit
import Derived.OpenShut
import Derived.ShutString
import Derived.ChangeOld
import Derived.Below
import Derived.SizedLaws
section
namespace Go.Proofs.YtlcbdgkkkljfnaaDoor.P
open Go.RowKit Go.Proofs.YtlcbdgkkkljfnaaDoorW.PrintWords Go.Proofs.YtlcbdgkkkljfnaaDoorW.PrintLast Go.Proofs.YtlcbdgkkkljfnaaDoorW.PrintMore
attribute [local go_sem low] cell_set_at
attribute [local go_sem] max2_int min2_int max_two min_two max_three min_three max_four min_four   -- for this text's walks alone
set_option linter.unusedVariables false
set_option linter.unusedSimpArgs false

/-! ### helmsmanref11_Lex: function 10 -/
mutual
def helmsmanref11_Lex.l0 : Nat → ByteArray → List (S31) → Int → Option ((List (S31)) × Int × Int)
  | 0, _, _, _ => none
  | k + 1, x0, x5, x6 => if x6 < (x0.size : Int) then (if 0 ≤ x6 then (if (bt x0 x6) = 32 then (helmsmanref11_Lex.j1 k x0 x5 x6 (bt x0 x6) (wrap64 (x6 + 1)) true) else (if (bt x0 x6) = 9 then (helmsmanref11_Lex.j1 k x0 x5 x6 (bt x0 x6) (wrap64 (x6 + 1)) true) else (helmsmanref11_Lex.j1 k x0 x5 x6 (bt x0 x6) (wrap64 (x6 + 1)) ((bt x0 x6) == 10)))) else (none)) else (some (x5, (x0.size : Int), 0))
def helmsmanref11_Lex.j1 : Nat → ByteArray → List (S31) → Int → Int → Int → Bool → Option ((List (S31)) × Int × Int)
  | 0, _, _, _, _, _, _ => none
  | k + 1, x0, x5, x6, x7, x8, x32 => if x32 = true then (helmsmanref11_Lex.l0 k x0 x5 x8) else (if x7 = 35 then (helmsmanref11_Lex.l1 k x0 x5 x6) else ((helmsmanref11_letter.f x7).bind fun t153 => (if t153 = true then (helmsmanref11_Lex.l2 k x0 x5 x6 x8) else ((helmsmanref11_digit.f x7).bind fun t162 => (if t162 = true then (helmsmanref11_Lex.l3 k x0 x5 x6 x8) else (if (wrap64 (x6 + 2)) ≤ (x0.size : Int) then (if 0 ≤ x6 then (if x6 ≤ (wrap64 (x6 + 2)) then ((helmsmanref11_two.f (x0.extract (x6 : Int).toNat ((wrap64 (x6 + 2)) : Int).toNat)).bind fun t174 => (helmsmanref11_Lex.j5 k x0 x5 x6 x7 x8 t174)) else (none)) else (none)) else (helmsmanref11_Lex.j5 k x0 x5 x6 x7 x8 false)))))))
def helmsmanref11_Lex.l1 : Nat → ByteArray → List (S31) → Int → Option ((List (S31)) × Int × Int)
  | 0, _, _, _ => none
  | k + 1, x0, x5, x6 => if x6 < (x0.size : Int) then (if 0 ≤ x6 then (if (bt x0 x6) = 10 then (helmsmanref11_Lex.l0 k x0 x5 x6) else (helmsmanref11_Lex.l1 k x0 x5 (wrap64 (x6 + 1)))) else (none)) else (helmsmanref11_Lex.l0 k x0 x5 x6)
def helmsmanref11_Lex.l2 : Nat → ByteArray → List (S31) → Int → Int → Option ((List (S31)) × Int × Int)
  | 0, _, _, _, _ => none
  | k + 1, x0, x5, x6, x8 => if x8 < (x0.size : Int) then (if 0 ≤ x8 then ((helmsmanref11_letter.f (bt x0 x8)).bind fun t154 => (if t154 = true then (helmsmanref11_Lex.l2 k x0 x5 x6 (wrap64 (x8 + 1))) else ((helmsmanref11_digit.f (bt x0 x8)).bind fun t155 => (if t155 = true then (helmsmanref11_Lex.l2 k x0 x5 x6 (wrap64 (x8 + 1))) else (if (bt x0 x8) = 95 then (helmsmanref11_Lex.l2 k x0 x5 x6 (wrap64 (x8 + 1))) else (if (wrap64 (x8 - x6)) > 16 then (some (([] : List (S31)), x6, 111)) else (if 0 ≤ x6 then (if x6 ≤ x8 then (if x8 ≤ (x0.size : Int) then (if x5.length < 3518437208883 then (helmsmanref11_Lex.l0 k x0 (x5 ++ [(⟨0, x0.extract (x6 : Int).toNat (x8 : Int).toNat, 0, x6⟩ : S31)]) x8) else (none)) else (none)) else (none)) else (none)))))))) else (none)) else (if (wrap64 (x8 - x6)) > 16 then (some (([] : List (S31)), x6, 111)) else (if 0 ≤ x6 then (if x6 ≤ x8 then (if x8 ≤ (x0.size : Int) then (if x5.length < 3518437208883 then (helmsmanref11_Lex.l0 k x0 (x5 ++ [(⟨0, x0.extract (x6 : Int).toNat (x8 : Int).toNat, 0, x6⟩ : S31)]) x8) else (none)) else (none)) else (none)) else (none)))
def helmsmanref11_Lex.l3 : Nat → ByteArray → List (S31) → Int → Int → Option ((List (S31)) × Int × Int)
  | 0, _, _, _, _ => none
  | k + 1, x0, x5, x6, x8 => if x8 < (x0.size : Int) then (if 0 ≤ x8 then ((helmsmanref11_digit.f (bt x0 x8)).bind fun t163 => (if t163 = true then (helmsmanref11_Lex.l3 k x0 x5 x6 (wrap64 (x8 + 1))) else (if 0 ≤ x6 then (if x6 ≤ x8 then (if x8 ≤ (x0.size : Int) then ((helmsmanref11_Number.f k (x0.extract (x6 : Int).toNat (x8 : Int).toNat)).bind fun bt164 => (if bt164.2 = true then (if x5.length < 3518437208883 then (helmsmanref11_Lex.l0 k x0 (x5 ++ [(⟨1, x0.extract (x6 : Int).toNat (x8 : Int).toNat, bt164.1, x6⟩ : S31)]) x8) else (none)) else (some (([] : List (S31)), x6, 111)))) else (none)) else (none)) else (none)))) else (none)) else (if 0 ≤ x6 then (if x6 ≤ x8 then (if x8 ≤ (x0.size : Int) then ((helmsmanref11_Number.f k (x0.extract (x6 : Int).toNat (x8 : Int).toNat)).bind fun bt169 => (if bt169.2 = true then (if x5.length < 3518437208883 then (helmsmanref11_Lex.l0 k x0 (x5 ++ [(⟨1, x0.extract (x6 : Int).toNat (x8 : Int).toNat, bt169.1, x6⟩ : S31)]) x8) else (none)) else (some (([] : List (S31)), x6, 111)))) else (none)) else (none)) else (none))
def helmsmanref11_Lex.j5 : Nat → ByteArray → List (S31) → Int → Int → Int → Bool → Option ((List (S31)) × Int × Int)
  | 0, _, _, _, _, _, _ => none
  | k + 1, x0, x5, x6, x7, x8, x137 => if x137 = true then (if 0 ≤ x6 then (if x6 ≤ (wrap64 (x6 + 2)) then (if (wrap64 (x6 + 2)) ≤ (x0.size : Int) then (if x5.length < 3518437208883 then (helmsmanref11_Lex.l0 k x0 (x5 ++ [(⟨2, x0.extract (x6 : Int).toNat ((wrap64 (x6 + 2)) : Int).toNat, 0, x6⟩ : S31)]) (wrap64 (x6 + 2))) else (none)) else (none)) else (none)) else (none)) else ((helmsmanref11_one.f k x7).bind fun t178 => (if t178 = true then (if 0 ≤ x6 then (if x6 ≤ x8 then (if x8 ≤ (x0.size : Int) then (if x5.length < 3518437208883 then (helmsmanref11_Lex.l0 k x0 (x5 ++ [(⟨2, x0.extract (x6 : Int).toNat (x8 : Int).toNat, 0, x6⟩ : S31)]) x8) else (none)) else (none)) else (none)) else (none)) else (some (([] : List (S31)), x6, 110))))
end
def helmsmanref11_Lex.f (k : Nat) (a0 : ByteArray) : Option ((List (S31)) × Int × Int) := if (a0.size : Int) > 4096 then (some (([] : List (S31)), 0, 111)) else (helmsmanref11_Lex.l0 k a0 ([] : List (S31)) 0)
theorem helmsmanref11_Lex.mono_l : ∀ k, (∀ y0 y1 y2, LeO (helmsmanref11_Lex.l0 k y0 y1 y2) (helmsmanref11_Lex.l0 (k + 1) y0 y1 y2)) ∧ (∀ y0 y1 y2 y3 y4 y5, LeO (helmsmanref11_Lex.j1 k y0 y1 y2 y3 y4 y5) (helmsmanref11_Lex.j1 (k + 1) y0 y1 y2 y3 y4 y5)) ∧ (∀ y0 y1 y2, LeO (helmsmanref11_Lex.l1 k y0 y1 y2) (helmsmanref11_Lex.l1 (k + 1) y0 y1 y2)) ∧ (∀ y0 y1 y2 y3, LeO (helmsmanref11_Lex.l2 k y0 y1 y2 y3) (helmsmanref11_Lex.l2 (k + 1) y0 y1 y2 y3)) ∧ (∀ y0 y1 y2 y3, LeO (helmsmanref11_Lex.l3 k y0 y1 y2 y3) (helmsmanref11_Lex.l3 (k + 1) y0 y1 y2 y3)) ∧ (∀ y0 y1 y2 y3 y4 y5, LeO (helmsmanref11_Lex.j5 k y0 y1 y2 y3 y4 y5) (helmsmanref11_Lex.j5 (k + 1) y0 y1 y2 y3 y4 y5))
  | 0 => ⟨fun _ _ _ r h => by simp [helmsmanref11_Lex.l0] at h, fun _ _ _ _ _ _ r h => by simp [helmsmanref11_Lex.j1] at h, fun _ _ _ r h => by simp [helmsmanref11_Lex.l1] at h, fun _ _ _ _ r h => by simp [helmsmanref11_Lex.l2] at h, fun _ _ _ _ r h => by simp [helmsmanref11_Lex.l3] at h, fun _ _ _ _ _ _ r h => by simp [helmsmanref11_Lex.j5] at h⟩
  | k + 1 => by
    obtain ⟨ih0, ih1, ih2, ih3, ih4, ih5⟩ := helmsmanref11_Lex.mono_l k
    refine ⟨?_, ?_, ?_, ?_, ?_, ?_⟩
    · intro y0 y1 y2
      unfold helmsmanref11_Lex.l0
      repeat' first
      | (with_reducible exact ih0 _ _ _)
      | (with_reducible exact ih1 _ _ _ _ _ _)
      | (with_reducible exact ih2 _ _ _)
      | (with_reducible exact ih3 _ _ _ _)
      | (with_reducible exact ih4 _ _ _ _)
      | (with_reducible exact ih5 _ _ _ _ _ _)
      | (with_reducible exact helmsmanref11_Number.mono _ _)
      | (with_reducible exact helmsmanref11_one.mono _ _)
      | (with_reducible exact LeO.refl _)
      | (with_reducible exact LeO.none _)
      | (with_reducible refine LeO.ite ?_ ?_)
      | (with_reducible refine LeO.bind ?_ (fun _ => ?_))
      | exact ih0 _ _ _
      | exact ih1 _ _ _ _ _ _
      | exact ih2 _ _ _
      | exact ih3 _ _ _ _
      | exact ih4 _ _ _ _
      | exact ih5 _ _ _ _ _ _
      | exact helmsmanref11_Number.mono _ _
      | exact helmsmanref11_one.mono _ _
      | exact LeO.none _
      | refine LeO.ite ?_ ?_
      | refine LeO.bind ?_ (fun _ => ?_)
    · intro y0 y1 y2 y3 y4 y5
      unfold helmsmanref11_Lex.j1
      repeat' first
      | (with_reducible exact ih0 _ _ _)
      | (with_reducible exact ih1 _ _ _ _ _ _)
      | (with_reducible exact ih2 _ _ _)
      | (with_reducible exact ih3 _ _ _ _)
      | (with_reducible exact ih4 _ _ _ _)
      | (with_reducible exact ih5 _ _ _ _ _ _)
      | (with_reducible exact helmsmanref11_Number.mono _ _)
      | (with_reducible exact helmsmanref11_one.mono _ _)
      | (with_reducible exact LeO.refl _)
      | (with_reducible exact LeO.none _)
      | (with_reducible refine LeO.ite ?_ ?_)
      | (with_reducible refine LeO.bind ?_ (fun _ => ?_))
      | exact ih0 _ _ _
      | exact ih1 _ _ _ _ _ _
      | exact ih2 _ _ _
      | exact ih3 _ _ _ _
      | exact ih4 _ _ _ _
      | exact ih5 _ _ _ _ _ _
      | exact helmsmanref11_Number.mono _ _
      | exact helmsmanref11_one.mono _ _
      | exact LeO.none _
      | refine LeO.ite ?_ ?_
      | refine LeO.bind ?_ (fun _ => ?_)
    · intro y0 y1 y2
      unfold helmsmanref11_Lex.l1
      repeat' first
      | (with_reducible exact ih0 _ _ _)
      | (with_reducible exact ih1 _ _ _ _ _ _)
      | (with_reducible exact ih2 _ _ _)
      | (with_reducible exact ih3 _ _ _ _)
      | (with_reducible exact ih4 _ _ _ _)
      | (with_reducible exact ih5 _ _ _ _ _ _)
      | (with_reducible exact helmsmanref11_Number.mono _ _)
      | (with_reducible exact helmsmanref11_one.mono _ _)
      | (with_reducible exact LeO.refl _)
      | (with_reducible exact LeO.none _)
      | (with_reducible refine LeO.ite ?_ ?_)
      | (with_reducible refine LeO.bind ?_ (fun _ => ?_))
      | exact ih0 _ _ _
      | exact ih1 _ _ _ _ _ _
      | exact ih2 _ _ _
      | exact ih3 _ _ _ _
      | exact ih4 _ _ _ _
      | exact ih5 _ _ _ _ _ _
      | exact helmsmanref11_Number.mono _ _
      | exact helmsmanref11_one.mono _ _
      | exact LeO.none _
      | refine LeO.ite ?_ ?_
      | refine LeO.bind ?_ (fun _ => ?_)
    · intro y0 y1 y2 y3
      unfold helmsmanref11_Lex.l2
      repeat' first
      | (with_reducible exact ih0 _ _ _)
      | (with_reducible exact ih1 _ _ _ _ _ _)
      | (with_reducible exact ih2 _ _ _)
      | (with_reducible exact ih3 _ _ _ _)
      | (with_reducible exact ih4 _ _ _ _)
      | (with_reducible exact ih5 _ _ _ _ _ _)
      | (with_reducible exact helmsmanref11_Number.mono _ _)
      | (with_reducible exact helmsmanref11_one.mono _ _)
      | (with_reducible exact LeO.refl _)
      | (with_reducible exact LeO.none _)
      | (with_reducible refine LeO.ite ?_ ?_)
      | (with_reducible refine LeO.bind ?_ (fun _ => ?_))
      | exact ih0 _ _ _
      | exact ih1 _ _ _ _ _ _
      | exact ih2 _ _ _
      | exact ih3 _ _ _ _
      | exact ih4 _ _ _ _
      | exact ih5 _ _ _ _ _ _
      | exact helmsmanref11_Number.mono _ _
      | exact helmsmanref11_one.mono _ _
      | exact LeO.none _
      | refine LeO.ite ?_ ?_
      | refine LeO.bind ?_ (fun _ => ?_)
    · intro y0 y1 y2 y3
      unfold helmsmanref11_Lex.l3
      repeat' first
      | (with_reducible exact ih0 _ _ _)
      | (with_reducible exact ih1 _ _ _ _ _ _)
      | (with_reducible exact ih2 _ _ _)
      | (with_reducible exact ih3 _ _ _ _)
      | (with_reducible exact ih4 _ _ _ _)
      | (with_reducible exact ih5 _ _ _ _ _ _)
      | (with_reducible exact helmsmanref11_Number.mono _ _)
      | (with_reducible exact helmsmanref11_one.mono _ _)
      | (with_reducible exact LeO.refl _)
      | (with_reducible exact LeO.none _)
      | (with_reducible refine LeO.ite ?_ ?_)
      | (with_reducible refine LeO.bind ?_ (fun _ => ?_))
      | exact ih0 _ _ _
      | exact ih1 _ _ _ _ _ _
      | exact ih2 _ _ _
      | exact ih3 _ _ _ _
      | exact ih4 _ _ _ _
      | exact ih5 _ _ _ _ _ _
      | exact helmsmanref11_Number.mono _ _
      | exact helmsmanref11_one.mono _ _
      | exact LeO.none _
      | refine LeO.ite ?_ ?_
      | refine LeO.bind ?_ (fun _ => ?_)
    · intro y0 y1 y2 y3 y4 y5
      unfold helmsmanref11_Lex.j5
      repeat' first
      | (with_reducible exact ih0 _ _ _)
      | (with_reducible exact ih1 _ _ _ _ _ _)
      | (with_reducible exact ih2 _ _ _)
      | (with_reducible exact ih3 _ _ _ _)
      | (with_reducible exact ih4 _ _ _ _)
      | (with_reducible exact ih5 _ _ _ _ _ _)
      | (with_reducible exact helmsmanref11_Number.mono _ _)
      | (with_reducible exact helmsmanref11_one.mono _ _)
      | (with_reducible exact LeO.refl _)
      | (with_reducible exact LeO.none _)
      | (with_reducible refine LeO.ite ?_ ?_)
      | (with_reducible refine LeO.bind ?_ (fun _ => ?_))
      | exact ih0 _ _ _
      | exact ih1 _ _ _ _ _ _
      | exact ih2 _ _ _
      | exact ih3 _ _ _ _
      | exact ih4 _ _ _ _
      | exact ih5 _ _ _ _ _ _
      | exact helmsmanref11_Number.mono _ _
      | exact helmsmanref11_one.mono _ _
      | exact LeO.none _
      | refine LeO.ite ?_ ?_
      | refine LeO.bind ?_ (fun _ => ?_)
theorem helmsmanref11_Lex.mono : ∀ a0 k, LeO (helmsmanref11_Lex.f k a0) (helmsmanref11_Lex.f (k + 1) a0) := by
  intro a0 k
  obtain ⟨ih0, ih1, ih2, ih3, ih4, ih5⟩ := helmsmanref11_Lex.mono_l k
  unfold helmsmanref11_Lex.f
  repeat' first
      | (with_reducible exact ih0 _ _ _)
      | (with_reducible exact ih1 _ _ _ _ _ _)
      | (with_reducible exact ih2 _ _ _)
      | (with_reducible exact ih3 _ _ _ _)
      | (with_reducible exact ih4 _ _ _ _)
      | (with_reducible exact ih5 _ _ _ _ _ _)
      | (with_reducible exact helmsmanref11_Number.mono _ _)
      | (with_reducible exact helmsmanref11_one.mono _ _)
      | (with_reducible exact LeO.refl _)
      | (with_reducible exact LeO.none _)
      | (with_reducible refine LeO.ite ?_ ?_)
      | (with_reducible refine LeO.bind ?_ (fun _ => ?_))
      | exact ih0 _ _ _
      | exact ih1 _ _ _ _ _ _
      | exact ih2 _ _ _
      | exact ih3 _ _ _ _
      | exact ih4 _ _ _ _
      | exact ih5 _ _ _ _ _ _
      | exact helmsmanref11_Number.mono _ _
      | exact helmsmanref11_one.mono _ _
      | exact LeO.none _
      | refine LeO.ite ?_ ?_
      | refine LeO.bind ?_ (fun _ => ?_)
set_option maxHeartbeats 8000000 in
set_option maxRecDepth 100000 in
theorem helmsmanref11_Lex.calls (k : Nat) (a0 : ByteArray) (r1 : List (S31)) (r2 : Int) (r3 : Int) (w : World) (h : helmsmanref11_Lex.f k a0 = some (r1, r2, r3)) :
    Calls Tryd.prog 10 #[.string a0] w fun e w' => ∃ v0_ : Value, e = .returned (.tuple #[v0_, .int .i64 r2, .int .i64 r3]) ∧ Kd.R k31 31 w' w.heap.size (fun _ => True) v0_ r1 ∧ Below w.heap.size w w' := by
  have hu31 := Tryd.underlying31
  have HB := Aside0.mk (Below.refl w.heap.size w)
  have H : (if (a0.size : Int) > 4096 then (some (([] : List (S31)), 0, 111)) else (helmsmanref11_Lex.l0 k a0 ([] : List (S31)) 0)) = some (r1, r2, r3) := h
  clear h
  by_cases c2 : (a0.size : Int) > 4096
  · rw [if_pos c2] at H
    have c2b0 : decide (4096 < (a0.size : Int)) = true := decide_eq_true c2
    have c2b1 : decide (4096 < a0.size) = true := decide_eq_true (by omega)
    clear c2
    simp only [Option.some.injEq, Prod.mk.injEq] at H
    obtain ⟨rfl, rfl, rfl⟩ := H
    go_enter Tryd.func10, Tryd.ntmps10
    go_wp2
    go_ret3
    exact ⟨_, by first | rfl | (simp [errW_none, errW_some] <;> rfl) | (simp [*, errW_none, errW_some] <;> rfl), by first | exact Kd.R_nil _ _ _ _ _ | exact Kd.N_nil _ _ _ _ _ | exact Kd.V_nil _ _ _ _ _ | exact Kd.Q_nil _ _ _ _ _ | exact Kd.S_nil _ _ _ _ _, by repeat (first | (with_reducible first | exact HB.out | apply below_alloc | apply pw_below_drewN | apply below_drew1) | exact HB.out)⟩
  · rw [if_neg c2] at H
    have c2b0 : decide (4096 < (a0.size : Int)) = false := decide_eq_false c2
    have c2b1 : decide (4096 < a0.size) = false := decide_eq_false (by omega)
    clear c2
    have H' := Aside0.mk H
    clear H
    go_enter Tryd.func10, Tryd.ntmps10
    go_wp2
    (try simp only [Act.put, List.setIfInBounds_toArray, List.set_cons_succ, List.set_cons_zero])
    go_loopg [5, 6] k (fun kq v5 v6 w' => ∃ (x5_1 : List (S31)) (x6_1 : Int), v6 = .int .i64 x6_1 ∧ Aside0 (helmsmanref11_Lex.l0 kq a0 x5_1 x6_1 = some (r1, r2, r3)) ∧ Aside0 (kq ≤ k) ∧ Aside0 (Kd.R k31 31 w' w.heap.size (fun _ => True) v5 x5_1) ∧ Aside0 (Below w.heap.size w w'))
    case atStart => exact ⟨(([] : List (S31))), (0), (by first | rfl | (simp; done) | (simp [*]; done)), H', ⟨Nat.le_refl _⟩, ⟨by first | exact Kd.R_nil _ _ _ _ _ | exact Kd.N_nil _ _ _ _ _ | exact Kd.V_nil _ _ _ _ _ | exact Kd.Q_nil _ _ _ _ _ | exact Kd.S_nil _ _ _ _ _⟩, ⟨by repeat (first | (with_reducible first | exact HB.out | apply below_alloc | apply pw_below_drewN | apply below_drew1) | exact HB.out)⟩⟩
    case round =>
      clear H'
      try clear c1
      try clear c2
      try clear c2b0
      try clear c2b1
      try clear p2
      obtain ⟨x5_1, x6_1, rfl, HA, HK1, HO_5, HB⟩ := hrel
      cases gk with
      | zero => exact absurd HA.out (by simp [helmsmanref11_Lex.l0])
      | succ k1 =>
        have H := HA.out
        clear HA
        simp only [helmsmanref11_Lex.l0] at H
        by_cases c3 : x6_1 < (a0.size : Int)
        · rw [if_pos c3] at H
          have c3b0 : decide (x6_1 < (a0.size : Int)) = true := decide_eq_true c3
          clear c3
          by_cases c4 : 0 ≤ x6_1
          · rw [if_pos c4] at H
            have c4b0 : decide (0 ≤ x6_1) = true := decide_eq_true c4
            clear c4
            have HC6 := Aside0.mk H
            clear H
            have p5 : 0 ≤ (x6_1 : Int) := of_decide_eq_true (by first | (with_reducible assumption) | assumption)
            have q5 : x6_1 < (a0.size : Int) := of_decide_eq_true (by first | (with_reducible assumption) | assumption)
            have hx5 := bt_at a0 x6_1
            replace p5 := eq_true p5
            replace q5 := eq_true q5
            go_upto_region 8 with (fail)
            go_cut [32] (fun v32 wc => ∃ (kq : Nat) (x32_5 : Bool), v32 = .bool x32_5 ∧ Aside0 (helmsmanref11_Lex.j1 kq a0 x5_1 x6_1 (bt a0 x6_1) (wrap64 (x6_1 + 1)) x32_5 = some (r1, r2, r3)) ∧ Aside0 (kq ≤ k1) ∧ Aside0 (Kd.R k31 31 wc w.heap.size (fun _ => True) u5 x5_1) ∧ Aside0 (Below w.heap.size w wc))
            case first =>
              have H := HC6.out
              clear HC6
              by_cases c7 : (bt a0 x6_1) = 32
              · rw [if_pos c7] at H
                have c7b0 : ((bt a0 x6_1) == 32) = true := beq_iff_eq.mpr c7
                have c7b1 : ((bt a0 x6_1) != 32) = false := bne_eq_false_iff_eq.mpr c7
                clear c7
                (first | rw [c7b0] | (simp only [i64_w, i32_w]; rw [c7b0]) | skip)
                have H' := Aside0.mk H
                clear H
                go_wp2
                go_meet
                case rel => exact ⟨_, (true), (by first | rfl | (simp; done) | (simp [*]; done)), H', ⟨by have := HK1.out; first | omega | exact Nat.le_refl _⟩, ⟨by (with_reducible repeat (first | apply Kd.R_alloc | apply Kd.R_drewN | apply Kd.R_drew)); exact HO_5.out⟩, ⟨by repeat (first | (with_reducible first | exact HB.out | apply below_alloc | apply pw_below_drewN | apply below_drew1) | exact HB.out)⟩⟩
              · rw [if_neg c7] at H
                have c7b0 : ((bt a0 x6_1) == 32) = false := beq_eq_false_iff_ne.mpr c7
                have c7b1 : ((bt a0 x6_1) != 32) = true := bne_iff_ne.mpr c7
                (first | rw [c7b0] | (simp only [i64_w, i32_w]; rw [c7b0]) | skip)
                by_cases c8 : (bt a0 x6_1) = 9
                · rw [if_pos c8] at H
                  have c8b0 : ((bt a0 x6_1) == 9) = true := beq_iff_eq.mpr c8
                  have c8b1 : ((bt a0 x6_1) != 9) = false := bne_eq_false_iff_eq.mpr c8
                  clear c8
                  have H' := Aside0.mk H
                  clear H
                  go_wp2
                  go_meet
                  case rel => exact ⟨_, (true), (by first | rfl | (simp; done) | (simp [*]; done)), H', ⟨by have := HK1.out; first | omega | exact Nat.le_refl _⟩, ⟨by (with_reducible repeat (first | apply Kd.R_alloc | apply Kd.R_drewN | apply Kd.R_drew)); exact HO_5.out⟩, ⟨by repeat (first | (with_reducible first | exact HB.out | apply below_alloc | apply pw_below_drewN | apply below_drew1) | exact HB.out)⟩⟩
                · rw [if_neg c8] at H
                  have c8b0 : ((bt a0 x6_1) == 9) = false := beq_eq_false_iff_ne.mpr c8
                  have c8b1 : ((bt a0 x6_1) != 9) = true := bne_iff_ne.mpr c8
                  have H' := Aside0.mk H
                  clear H
                  go_wp2
                  go_meet
                  case rel => exact ⟨_, (((bt a0 x6_1) == 10)), (by first | rfl | (simp; done) | (simp [*]; done)), H', ⟨by have := HK1.out; first | omega | exact Nat.le_refl _⟩, ⟨by (with_reducible repeat (first | apply Kd.R_alloc | apply Kd.R_drewN | apply Kd.R_drew)); exact HO_5.out⟩, ⟨by repeat (first | (with_reducible first | exact HB.out | apply below_alloc | apply pw_below_drewN | apply below_drew1) | exact HB.out)⟩⟩
            case rest =>
              clear HC6
              try clear c1
              try clear c2
              try clear c2b0
              try clear c2b1
              try clear p2
              try clear c3
              try clear c3b0
              try clear c4
              try clear c4b0
              try clear p5
              try clear q5
              try clear hx5
              try clear p6
              try clear c7
              try clear c7b0
              try clear c7b1
              try clear c8
              try clear c8b0
              try clear c8b1
              try clear p2
              try clear p5
              try clear q5
              obtain ⟨kq, x32_5, rfl, HA, HJ5, HO_5, HB⟩ := hcut
              cases kq with
              | zero => exact absurd HA.out (by simp [helmsmanref11_Lex.j1])
              | succ kj5 =>
                have H := HA.out
                clear HA
                simp only [helmsmanref11_Lex.j1] at H
                by_cases c9 : x32_5 = true
                · subst c9
                  have H1 : (helmsmanref11_Lex.l0 kj5 a0 x5_1 (wrap64 (x6_1 + 1))) = some (r1, r2, r3) := by rw [if_pos rfl] at H; exact H
                  clear H
                  have H := H1
                  clear H1
                  have H' := Aside0.mk H
                  clear H
                  go_wp2
                  go_roundg kj5
                  case measure => have := HK1.out; have := HJ5.out; omega
                  case rel => exact ⟨(x5_1), ((wrap64 (x6_1 + 1))), (by first | rfl | (simp; done) | (simp [*]; done)), H', ⟨by have := HK1.out; have := HJ5.out; omega⟩, ⟨by (with_reducible repeat (first | apply Kd.R_alloc | apply Kd.R_drewN | apply Kd.R_drew)); exact HO_5.out⟩, ⟨by repeat (first | (with_reducible first | exact HB.out | apply below_alloc | apply pw_below_drewN | apply below_drew1) | exact HB.out)⟩⟩
                · replace c9 := Bool.eq_false_iff.mpr c9
                  subst c9
                  have H1 : (if (bt a0 x6_1) = 35 then (helmsmanref11_Lex.l1 kj5 a0 x5_1 x6_1) else ((helmsmanref11_letter.f (bt a0 x6_1)).bind fun t153 => (if t153 = true then (helmsmanref11_Lex.l2 kj5 a0 x5_1 x6_1 (wrap64 (x6_1 + 1))) else ((helmsmanref11_digit.f (bt a0 x6_1)).bind fun t162 => (if t162 = true then (helmsmanref11_Lex.l3 kj5 a0 x5_1 x6_1 (wrap64 (x6_1 + 1))) else (if (wrap64 (x6_1 + 2)) ≤ (a0.size : Int) then (if 0 ≤ x6_1 then (if x6_1 ≤ (wrap64 (x6_1 + 2)) then ((helmsmanref11_two.f (a0.extract (x6_1 : Int).toNat ((wrap64 (x6_1 + 2)) : Int).toNat)).bind fun t174 => (helmsmanref11_Lex.j5 kj5 a0 x5_1 x6_1 (bt a0 x6_1) (wrap64 (x6_1 + 1)) t174)) else (none)) else (none)) else (helmsmanref11_Lex.j5 kj5 a0 x5_1 x6_1 (bt a0 x6_1) (wrap64 (x6_1 + 1)) false))))))) = some (r1, r2, r3) := by rw [if_neg (show ¬ (false = true) by decide)] at H; exact H
                  clear H
                  have H := H1
                  clear H1
                  by_cases c10 : (bt a0 x6_1) = 35
                  · rw [if_pos c10] at H
                    have c10b0 : ((bt a0 x6_1) == 35) = true := beq_iff_eq.mpr c10
                    have c10b1 : ((bt a0 x6_1) != 35) = false := bne_eq_false_iff_eq.mpr c10
                    clear c10
                    have H' := Aside0.mk H
                    clear H
                    go_wp2
                    (try simp only [Act.put, List.setIfInBounds_toArray, List.set_cons_succ, List.set_cons_zero])
                    go_loopg [6] kj5 (fun kq v6 w' => ∃ (x6_3 : Int), v6 = .int .i64 x6_3 ∧ Aside0 (helmsmanref11_Lex.l1 kq a0 x5_1 x6_3 = some (r1, r2, r3)) ∧ Aside0 (kq ≤ kj5) ∧ Aside0 (Kd.R k31 31 w' w.heap.size (fun _ => True) u5 x5_1) ∧ Aside0 (Below w.heap.size w w'))
                    case atStart => exact ⟨(x6_1), (by first | rfl | (simp; done) | (simp [*]; done)), H', ⟨Nat.le_refl _⟩, ⟨by (with_reducible repeat (first | apply Kd.R_alloc | apply Kd.R_drewN | apply Kd.R_drew)); exact HO_5.out⟩, ⟨by repeat (first | (with_reducible first | exact HB.out | apply below_alloc | apply pw_below_drewN | apply below_drew1) | exact HB.out)⟩⟩
                    case round =>
                      clear H'
                      try clear c1
                      try clear c2
                      try clear c2b0
                      try clear c2b1
                      try clear p2
                      try clear c3
                      try clear c3b0
                      try clear c4
                      try clear c4b0
                      try clear p5
                      try clear q5
                      try clear hx5
                      try clear p6
                      try clear c7
                      try clear c7b0
                      try clear c7b1
                      try clear c8
                      try clear c8b0
                      try clear c8b1
                      try clear c9
                      try clear c10
                      try clear c10b0
                      try clear c10b1
                      try clear p2
                      try clear p5
                      try clear p6
                      try clear q5
                      obtain ⟨x6_3, rfl, HA, HK3, HO_5, HB⟩ := hrel
                      cases gk with
                      | zero => exact absurd HA.out (by simp [helmsmanref11_Lex.l1])
                      | succ k3 =>
                        have H := HA.out
                        clear HA
                        simp only [helmsmanref11_Lex.l1] at H
                        by_cases c11 : x6_3 < (a0.size : Int)
                        · rw [if_pos c11] at H
                          have c11b0 : decide (x6_3 < (a0.size : Int)) = true := decide_eq_true c11
                          clear c11
                          by_cases c12 : 0 ≤ x6_3
                          · rw [if_pos c12] at H
                            have c12b0 : decide (0 ≤ x6_3) = true := decide_eq_true c12
                            clear c12
                            by_cases c14 : (bt a0 x6_3) = 10
                            · rw [if_pos c14] at H
                              have c14b0 : ((bt a0 x6_3) == 10) = true := beq_iff_eq.mpr c14
                              have c14b1 : ((bt a0 x6_3) != 10) = false := bne_eq_false_iff_eq.mpr c14
                              clear c14
                              have H' := Aside0.mk H
                              clear H
                              have p13 : 0 ≤ (x6_3 : Int) := of_decide_eq_true (by first | (with_reducible assumption) | assumption)
                              have q13 : x6_3 < (a0.size : Int) := of_decide_eq_true (by first | (with_reducible assumption) | assumption)
                              have hx13 := bt_at a0 x6_3
                              replace p13 := eq_true p13
                              replace q13 := eq_true q13
                              go_wp2
                              go_roundg k3
                              case measure => have := HK1.out; have := HJ5.out; have := HK3.out; omega
                              case rel => exact ⟨(x5_1), (x6_3), (by first | rfl | (simp; done) | (simp [*]; done)), H', ⟨by have := HK1.out; have := HJ5.out; have := HK3.out; omega⟩, ⟨by (with_reducible repeat (first | apply Kd.R_alloc | apply Kd.R_drewN | apply Kd.R_drew)); exact HO_5.out⟩, ⟨by repeat (first | (with_reducible first | exact HB.out | apply below_alloc | apply pw_below_drewN | apply below_drew1) | exact HB.out)⟩⟩
                            · rw [if_neg c14] at H
                              have c14b0 : ((bt a0 x6_3) == 10) = false := beq_eq_false_iff_ne.mpr c14
                              have c14b1 : ((bt a0 x6_3) != 10) = true := bne_iff_ne.mpr c14
                              have H' := Aside0.mk H
                              clear H
                              have p13 : 0 ≤ (x6_3 : Int) := of_decide_eq_true (by first | (with_reducible assumption) | assumption)
                              have q13 : x6_3 < (a0.size : Int) := of_decide_eq_true (by first | (with_reducible assumption) | assumption)
                              have hx13 := bt_at a0 x6_3
                              replace p13 := eq_true p13
                              replace q13 := eq_true q13
                              go_wp2
                              go_roundg k3
                              case measure => have := HK1.out; have := HJ5.out; have := HK3.out; omega
                              case rel => exact ⟨(wrap64 (x6_3 + 1)), (by first | rfl | (simp; done) | (simp [*]; done)), H', ⟨by have := HK1.out; have := HJ5.out; have := HK3.out; omega⟩, ⟨by (with_reducible repeat (first | apply Kd.R_alloc | apply Kd.R_drewN | apply Kd.R_drew)); exact HO_5.out⟩, ⟨by repeat (first | (with_reducible first | exact HB.out | apply below_alloc | apply pw_below_drewN | apply below_drew1) | exact HB.out)⟩⟩
                          · rw [if_neg c12] at H
                            exact absurd H (by simp)
                        · rw [if_neg c11] at H
                          have c11b0 : decide (x6_3 < (a0.size : Int)) = false := decide_eq_false c11
                          clear c11
                          have H' := Aside0.mk H
                          clear H
                          go_wp2
                          go_roundg k3
                          case measure => have := HK1.out; have := HJ5.out; have := HK3.out; omega
                          case rel => exact ⟨(x5_1), (x6_3), (by first | rfl | (simp; done) | (simp [*]; done)), H', ⟨by have := HK1.out; have := HJ5.out; have := HK3.out; omega⟩, ⟨by (with_reducible repeat (first | apply Kd.R_alloc | apply Kd.R_drewN | apply Kd.R_drew)); exact HO_5.out⟩, ⟨by repeat (first | (with_reducible first | exact HB.out | apply below_alloc | apply pw_below_drewN | apply below_drew1) | exact HB.out)⟩⟩
                  · rw [if_neg c10] at H
                    have c10b0 : ((bt a0 x6_1) == 35) = false := beq_eq_false_iff_ne.mpr c10
                    have c10b1 : ((bt a0 x6_1) != 35) = true := bne_iff_ne.mpr c10
                    replace H := Option.bind_eq_some_iff.mp H
                    obtain ⟨t153, A150, H⟩ := H
                    replace H : (if t153 = true then (helmsmanref11_Lex.l2 kj5 a0 x5_1 x6_1 (wrap64 (x6_1 + 1))) else ((helmsmanref11_digit.f (bt a0 x6_1)).bind fun t162 => (if t162 = true then (helmsmanref11_Lex.l3 kj5 a0 x5_1 x6_1 (wrap64 (x6_1 + 1))) else (if (wrap64 (x6_1 + 2)) ≤ (a0.size : Int) then (if 0 ≤ x6_1 then (if x6_1 ≤ (wrap64 (x6_1 + 2)) then ((helmsmanref11_two.f (a0.extract (x6_1 : Int).toNat ((wrap64 (x6_1 + 2)) : Int).toNat)).bind fun t174 => (helmsmanref11_Lex.j5 kj5 a0 x5_1 x6_1 (bt a0 x6_1) (wrap64 (x6_1 + 1)) t174)) else (none)) else (none)) else (helmsmanref11_Lex.j5 kj5 a0 x5_1 x6_1 (bt a0 x6_1) (wrap64 (x6_1 + 1)) false))))) = some (r1, r2, r3) := H
                    have A15 := Aside0.mk A150
                    clear A150
                    by_cases c16 : t153 = true
                    · subst c16
                      have H1 : (helmsmanref11_Lex.l2 kj5 a0 x5_1 x6_1 (wrap64 (x6_1 + 1))) = some (r1, r2, r3) := by rw [if_pos rfl] at H; exact H
                      clear H
                      have H := H1
                      clear H1
                      have H' := Aside0.mk H
                      clear H
                      go_wp2_with (first | ((with_reducible refine gate_callee (f := 17) rfl ?_); refine goesL_ (some 49) rfl rfl Tryd.func17 (by kernel_rfl) rfl #[.int .u8 (bt a0 x6_1)] rfl (by (try simp only [List.map_toArray, List.map_cons, List.map_nil]); first | done | rfl | (simp only [List.length_drop, List.length_take]; rfl)) ?_; (with_reducible refine (helmsmanref11_letter.calls (bt a0 x6_1) true _ A15.out).mono ?_); rintro e w' ⟨rfl, ⟨nd, rfl⟩⟩; refine ⟨_, rfl, ?_⟩))
                      (try simp only [Act.put, List.setIfInBounds_toArray, List.set_cons_succ, List.set_cons_zero])
                      go_loopg [8] kj5 (fun kq v8 w' => ∃ (x8_3 : Int), v8 = .int .i64 x8_3 ∧ Aside0 (helmsmanref11_Lex.l2 kq a0 x5_1 x6_1 x8_3 = some (r1, r2, r3)) ∧ Aside0 (kq ≤ kj5) ∧ Aside0 (Kd.R k31 31 w' w.heap.size (fun _ => True) u5 x5_1) ∧ Aside0 (Below w.heap.size w w'))
                      case atStart => exact ⟨((wrap64 (x6_1 + 1))), (by first | rfl | (simp; done) | (simp [*]; done)), H', ⟨Nat.le_refl _⟩, ⟨by (with_reducible repeat (first | apply Kd.R_alloc | apply Kd.R_drewN | apply Kd.R_drew)); exact HO_5.out⟩, ⟨by repeat (first | (with_reducible first | exact HB.out | apply below_alloc | apply pw_below_drewN | apply below_drew1) | exact HB.out)⟩⟩
                      case round =>
                        clear H'
                        try clear c1
                        try clear p1
                        try clear q1
                        try clear hx1
                        try clear c2
                        try clear c2b0
                        try clear c2b1
                        try clear p2
                        try clear c3
                        try clear c3b0
                        try clear c4
                        try clear c4b0
                        try clear p5
                        try clear q5
                        try clear hx5
                        try clear p6
                        try clear c7
                        try clear c7b0
                        try clear c7b1
                        try clear c8
                        try clear c8b0
                        try clear c8b1
                        try clear c9
                        try clear c10
                        try clear c10b0
                        try clear c10b1
                        try clear c11
                        try clear c11b0
                        try clear c12
                        try clear c12b0
                        try clear p13
                        try clear q13
                        try clear hx13
                        try clear c14
                        try clear c14b0
                        try clear c14b1
                        try clear c16
                        try clear p13
                        try clear p2
                        try clear p5
                        try clear p6
                        try clear q13
                        try clear q5
                        obtain ⟨x8_3, rfl, HA, HK3, HO_5, HB⟩ := hrel
                        cases gk with
                        | zero => exact absurd HA.out (by simp [helmsmanref11_Lex.l2])
                        | succ k3 =>
                          have H := HA.out
                          clear HA
                          simp only [helmsmanref11_Lex.l2] at H
                          by_cases c17 : x8_3 < (a0.size : Int)
                          · rw [if_pos c17] at H
                            have c17b0 : decide (x8_3 < (a0.size : Int)) = true := decide_eq_true c17
                            clear c17
                            by_cases c18 : 0 ≤ x8_3
                            · rw [if_pos c18] at H
                              have c18b0 : decide (0 ≤ x8_3) = true := decide_eq_true c18
                              clear c18
                              replace H := Option.bind_eq_some_iff.mp H
                              obtain ⟨t154, A200, H⟩ := H
                              replace H : (if t154 = true then (helmsmanref11_Lex.l2 k3 a0 x5_1 x6_1 (wrap64 (x8_3 + 1))) else ((helmsmanref11_digit.f (bt a0 x8_3)).bind fun t155 => (if t155 = true then (helmsmanref11_Lex.l2 k3 a0 x5_1 x6_1 (wrap64 (x8_3 + 1))) else (if (bt a0 x8_3) = 95 then (helmsmanref11_Lex.l2 k3 a0 x5_1 x6_1 (wrap64 (x8_3 + 1))) else (if (wrap64 (x8_3 - x6_1)) > 16 then (some (([] : List (S31)), x6_1, 111)) else (if 0 ≤ x6_1 then (if x6_1 ≤ x8_3 then (if x8_3 ≤ (a0.size : Int) then (if x5_1.length < 3518437208883 then (helmsmanref11_Lex.l0 k3 a0 (x5_1 ++ [(⟨0, a0.extract (x6_1 : Int).toNat (x8_3 : Int).toNat, 0, x6_1⟩ : S31)]) x8_3) else (none)) else (none)) else (none)) else (none))))))) = some (r1, r2, r3) := H
                              have A20 := Aside0.mk A200
                              clear A200
                              by_cases c21 : t154 = true
                              · subst c21
                                have H1 : (helmsmanref11_Lex.l2 k3 a0 x5_1 x6_1 (wrap64 (x8_3 + 1))) = some (r1, r2, r3) := by rw [if_pos rfl] at H; exact H
                                clear H
                                have H := H1
                                clear H1
                                have H' := Aside0.mk H
                                clear H
                                have p19 : 0 ≤ (x8_3 : Int) := of_decide_eq_true (by first | (with_reducible assumption) | assumption)
                                have q19 : x8_3 < (a0.size : Int) := of_decide_eq_true (by first | (with_reducible assumption) | assumption)
                                have hx19 := bt_at a0 x8_3
                                replace p19 := eq_true p19
                                replace q19 := eq_true q19
                                go_wp2_with (first | (go_at_call 17; (with_reducible refine (helmsmanref11_letter.calls (bt a0 x8_3) true _ A20.out).mono ?_); rintro e w' ⟨rfl, ⟨nd, rfl⟩⟩))
                                go_roundg k3
                                case measure => have := HK1.out; have := HJ5.out; have := HK3.out; omega
                                case rel => exact ⟨(wrap64 (x8_3 + 1)), (by first | rfl | (simp; done) | (simp [*]; done)), H', ⟨by have := HK1.out; have := HJ5.out; have := HK3.out; omega⟩, ⟨by (with_reducible repeat (first | apply Kd.R_alloc | apply Kd.R_drewN | apply Kd.R_drew)); exact HO_5.out⟩, ⟨by repeat (first | (with_reducible first | exact HB.out | apply below_alloc | apply pw_below_drewN | apply below_drew1) | exact HB.out)⟩⟩
                              · replace c21 := Bool.eq_false_iff.mpr c21
                                subst c21
                                have H1 : ((helmsmanref11_digit.f (bt a0 x8_3)).bind fun t155 => (if t155 = true then (helmsmanref11_Lex.l2 k3 a0 x5_1 x6_1 (wrap64 (x8_3 + 1))) else (if (bt a0 x8_3) = 95 then (helmsmanref11_Lex.l2 k3 a0 x5_1 x6_1 (wrap64 (x8_3 + 1))) else (if (wrap64 (x8_3 - x6_1)) > 16 then (some (([] : List (S31)), x6_1, 111)) else (if 0 ≤ x6_1 then (if x6_1 ≤ x8_3 then (if x8_3 ≤ (a0.size : Int) then (if x5_1.length < 3518437208883 then (helmsmanref11_Lex.l0 k3 a0 (x5_1 ++ [(⟨0, a0.extract (x6_1 : Int).toNat (x8_3 : Int).toNat, 0, x6_1⟩ : S31)]) x8_3) else (none)) else (none)) else (none)) else (none)))))) = some (r1, r2, r3) := by rw [if_neg (show ¬ (false = true) by decide)] at H; exact H
                                clear H
                                have H := H1
                                clear H1
                                replace H := Option.bind_eq_some_iff.mp H
                                obtain ⟨t155, A230, H⟩ := H
                                replace H : (if t155 = true then (helmsmanref11_Lex.l2 k3 a0 x5_1 x6_1 (wrap64 (x8_3 + 1))) else (if (bt a0 x8_3) = 95 then (helmsmanref11_Lex.l2 k3 a0 x5_1 x6_1 (wrap64 (x8_3 + 1))) else (if (wrap64 (x8_3 - x6_1)) > 16 then (some (([] : List (S31)), x6_1, 111)) else (if 0 ≤ x6_1 then (if x6_1 ≤ x8_3 then (if x8_3 ≤ (a0.size : Int) then (if x5_1.length < 3518437208883 then (helmsmanref11_Lex.l0 k3 a0 (x5_1 ++ [(⟨0, a0.extract (x6_1 : Int).toNat (x8_3 : Int).toNat, 0, x6_1⟩ : S31)]) x8_3) else (none)) else (none)) else (none)) else (none))))) = some (r1, r2, r3) := H
                                have A23 := Aside0.mk A230
                                clear A230
                                by_cases c24 : t155 = true
                                · subst c24
                                  have H1 : (helmsmanref11_Lex.l2 k3 a0 x5_1 x6_1 (wrap64 (x8_3 + 1))) = some (r1, r2, r3) := by rw [if_pos rfl] at H; exact H
                                  clear H
                                  have H := H1
                                  clear H1
                                  have H' := Aside0.mk H
                                  clear H
                                  have p19 : 0 ≤ (x8_3 : Int) := of_decide_eq_true (by first | (with_reducible assumption) | assumption)
                                  have q19 : x8_3 < (a0.size : Int) := of_decide_eq_true (by first | (with_reducible assumption) | assumption)
                                  have hx19 := bt_at a0 x8_3
                                  replace p19 := eq_true p19
                                  replace q19 := eq_true q19
                                  go_wp2_with (first | (go_at_call 17; (with_reducible refine (helmsmanref11_letter.calls (bt a0 x8_3) false _ A20.out).mono ?_); rintro e w' ⟨rfl, ⟨nd, rfl⟩⟩; have p22 : 0 ≤ (x8_3 : Int) := of_decide_eq_true (by first | (with_reducible assumption) | assumption); have q22 : x8_3 < (a0.size : Int) := of_decide_eq_true (by first | (with_reducible assumption) | assumption); have hx22 := bt_at a0 x8_3; replace p22 := eq_true p22; replace q22 := eq_true q22) | (go_at_call 18; (with_reducible refine (helmsmanref11_digit.calls (bt a0 x8_3) true _ A23.out).mono ?_); rintro e w' ⟨rfl, ⟨nd, rfl⟩⟩))
                                  go_roundg k3
                                  case measure => have := HK1.out; have := HJ5.out; have := HK3.out; omega
                                  case rel => exact ⟨(wrap64 (x8_3 + 1)), (by first | rfl | (simp; done) | (simp [*]; done)), H', ⟨by have := HK1.out; have := HJ5.out; have := HK3.out; omega⟩, ⟨by (with_reducible repeat (first | apply Kd.R_alloc | apply Kd.R_drewN | apply Kd.R_drew)); exact HO_5.out⟩, ⟨by repeat (first | (with_reducible first | exact HB.out | apply below_alloc | apply pw_below_drewN | apply below_drew1) | exact HB.out)⟩⟩
                                · replace c24 := Bool.eq_false_iff.mpr c24
                                  subst c24
                                  have H1 : (if (bt a0 x8_3) = 95 then (helmsmanref11_Lex.l2 k3 a0 x5_1 x6_1 (wrap64 (x8_3 + 1))) else (if (wrap64 (x8_3 - x6_1)) > 16 then (some (([] : List (S31)), x6_1, 111)) else (if 0 ≤ x6_1 then (if x6_1 ≤ x8_3 then (if x8_3 ≤ (a0.size : Int) then (if x5_1.length < 3518437208883 then (helmsmanref11_Lex.l0 k3 a0 (x5_1 ++ [(⟨0, a0.extract (x6_1 : Int).toNat (x8_3 : Int).toNat, 0, x6_1⟩ : S31)]) x8_3) else (none)) else (none)) else (none)) else (none)))) = some (r1, r2, r3) := by rw [if_neg (show ¬ (false = true) by decide)] at H; exact H
                                  clear H
                                  have H := H1
                                  clear H1
                                  by_cases c26 : (bt a0 x8_3) = 95
                                  · rw [if_pos c26] at H
                                    have c26b0 : ((bt a0 x8_3) == 95) = true := beq_iff_eq.mpr c26
                                    have c26b1 : ((bt a0 x8_3) != 95) = false := bne_eq_false_iff_eq.mpr c26
                                    clear c26
                                    have H' := Aside0.mk H
                                    clear H
                                    have p19 : 0 ≤ (x8_3 : Int) := of_decide_eq_true (by first | (with_reducible assumption) | assumption)
                                    have q19 : x8_3 < (a0.size : Int) := of_decide_eq_true (by first | (with_reducible assumption) | assumption)
                                    have hx19 := bt_at a0 x8_3
                                    replace p19 := eq_true p19
                                    replace q19 := eq_true q19
                                    go_wp2_with (first | (go_at_call 17; (with_reducible refine (helmsmanref11_letter.calls (bt a0 x8_3) false _ A20.out).mono ?_); rintro e w' ⟨rfl, ⟨nd, rfl⟩⟩; have p22 : 0 ≤ (x8_3 : Int) := of_decide_eq_true (by first | (with_reducible assumption) | assumption); have q22 : x8_3 < (a0.size : Int) := of_decide_eq_true (by first | (with_reducible assumption) | assumption); have hx22 := bt_at a0 x8_3; replace p22 := eq_true p22; replace q22 := eq_true q22) | (go_at_call 18; (with_reducible refine (helmsmanref11_digit.calls (bt a0 x8_3) false _ A23.out).mono ?_); rintro e w' ⟨rfl, ⟨nd, rfl⟩⟩; have p25 : 0 ≤ (x8_3 : Int) := of_decide_eq_true (by first | (with_reducible assumption) | assumption); have q25 : x8_3 < (a0.size : Int) := of_decide_eq_true (by first | (with_reducible assumption) | assumption); have hx25 := bt_at a0 x8_3; replace p25 := eq_true p25; replace q25 := eq_true q25))
                                    go_roundg k3
                                    case measure => have := HK1.out; have := HJ5.out; have := HK3.out; omega
                                    case rel => exact ⟨(wrap64 (x8_3 + 1)), (by first | rfl | (simp; done) | (simp [*]; done)), H', ⟨by have := HK1.out; have := HJ5.out; have := HK3.out; omega⟩, ⟨by (with_reducible repeat (first | apply Kd.R_alloc | apply Kd.R_drewN | apply Kd.R_drew)); exact HO_5.out⟩, ⟨by repeat (first | (with_reducible first | exact HB.out | apply below_alloc | apply pw_below_drewN | apply below_drew1) | exact HB.out)⟩⟩
                                  · rw [if_neg c26] at H
                                    have c26b0 : ((bt a0 x8_3) == 95) = false := beq_eq_false_iff_ne.mpr c26
                                    have c26b1 : ((bt a0 x8_3) != 95) = true := bne_iff_ne.mpr c26
                                    by_cases c27 : (wrap64 (x8_3 - x6_1)) > 16
                                    · rw [if_pos c27] at H
                                      have c27b0 : decide (16 < (wrap64 (x8_3 - x6_1))) = true := decide_eq_true c27
                                      clear c27
                                      simp only [Option.some.injEq, Prod.mk.injEq] at H
                                      obtain ⟨rfl, rfl, rfl⟩ := H
                                      have p19 : 0 ≤ (x8_3 : Int) := of_decide_eq_true (by first | (with_reducible assumption) | assumption)
                                      have q19 : x8_3 < (a0.size : Int) := of_decide_eq_true (by first | (with_reducible assumption) | assumption)
                                      have hx19 := bt_at a0 x8_3
                                      replace p19 := eq_true p19
                                      replace q19 := eq_true q19
                                      go_wp2_with (first | (go_at_call 17; (with_reducible refine (helmsmanref11_letter.calls (bt a0 x8_3) false _ A20.out).mono ?_); rintro e w' ⟨rfl, ⟨nd, rfl⟩⟩; have p22 : 0 ≤ (x8_3 : Int) := of_decide_eq_true (by first | (with_reducible assumption) | assumption); have q22 : x8_3 < (a0.size : Int) := of_decide_eq_true (by first | (with_reducible assumption) | assumption); have hx22 := bt_at a0 x8_3; replace p22 := eq_true p22; replace q22 := eq_true q22) | (go_at_call 18; (with_reducible refine (helmsmanref11_digit.calls (bt a0 x8_3) false _ A23.out).mono ?_); rintro e w' ⟨rfl, ⟨nd, rfl⟩⟩; have p25 : 0 ≤ (x8_3 : Int) := of_decide_eq_true (by first | (with_reducible assumption) | assumption); have q25 : x8_3 < (a0.size : Int) := of_decide_eq_true (by first | (with_reducible assumption) | assumption); have hx25 := bt_at a0 x8_3; replace p25 := eq_true p25; replace q25 := eq_true q25))
                                      go_ret3
                                      exact ⟨_, by first | rfl | (simp [errW_none, errW_some] <;> rfl) | (simp [*, errW_none, errW_some] <;> rfl), by first | exact Kd.R_nil _ _ _ _ _ | exact Kd.N_nil _ _ _ _ _ | exact Kd.V_nil _ _ _ _ _ | exact Kd.Q_nil _ _ _ _ _ | exact Kd.S_nil _ _ _ _ _, by repeat (first | (with_reducible first | exact HB.out | apply below_alloc | apply pw_below_drewN | apply below_drew1) | exact HB.out)⟩
                                    · rw [if_neg c27] at H
                                      have c27b0 : decide (16 < (wrap64 (x8_3 - x6_1))) = false := decide_eq_false c27
                                      clear c27
                                      by_cases c28 : 0 ≤ x6_1
                                      · rw [if_pos c28] at H
                                        have c28b0 := eq_true c28
                                        have c28b1 : decide (0 ≤ x6_1) = true := decide_eq_true c28
                                        clear c28
                                        by_cases c29 : x6_1 ≤ x8_3
                                        · rw [if_pos c29] at H
                                          have c29b0 := eq_true c29
                                          have c29b1 : decide (x6_1 ≤ x8_3) = true := decide_eq_true c29
                                          clear c29
                                          by_cases c30 : x8_3 ≤ (a0.size : Int)
                                          · rw [if_pos c30] at H
                                            have c30b0 := eq_true c30
                                            have c30b1 : decide (x8_3 ≤ (a0.size : Int)) = true := decide_eq_true c30
                                            clear c30
                                            by_cases c31 : x5_1.length < 3518437208883
                                            · rw [if_pos c31] at H
                                              have LMc31 := Aside0.mk c31
                                              clear c31
                                              obtain ⟨y156, hy156⟩ : ∃ y_ : List (S31), y_ = (x5_1 ++ [(⟨0, a0.extract (x6_1 : Int).toNat (x8_3 : Int).toNat, 0, x6_1⟩ : S31)]) := ⟨_, rfl⟩
                                              replace H : (helmsmanref11_Lex.l0 k3 a0 y156 x8_3) = some (r1, r2, r3) := by first | (rw [hy156]; with_reducible exact H) | (have H2_ := (Option.bind_some _ _).symm.trans H; rw [hy156]; with_reducible exact H2_) | (have H2_ := (Option.bind_some _ _).symm.trans H; with_reducible exact H2_) | with_reducible exact H | (rw [hy156]; exact H) | exact H
                                              have Ny156 := Aside0.mk hy156
                                              clear hy156
                                              have H' := Aside0.mk H
                                              clear H
                                              have p19 : 0 ≤ (x8_3 : Int) := of_decide_eq_true (by first | (with_reducible assumption) | assumption)
                                              have q19 : x8_3 < (a0.size : Int) := of_decide_eq_true (by first | (with_reducible assumption) | assumption)
                                              have hx19 := bt_at a0 x8_3
                                              replace p19 := eq_true p19
                                              replace q19 := eq_true q19
                                              go_wp2_with (first | (go_at_call 17; (with_reducible refine (helmsmanref11_letter.calls (bt a0 x8_3) false _ A20.out).mono ?_); rintro e w' ⟨rfl, ⟨nd, rfl⟩⟩; have p22 : 0 ≤ (x8_3 : Int) := of_decide_eq_true (by first | (with_reducible assumption) | assumption); have q22 : x8_3 < (a0.size : Int) := of_decide_eq_true (by first | (with_reducible assumption) | assumption); have hx22 := bt_at a0 x8_3; replace p22 := eq_true p22; replace q22 := eq_true q22) | (go_at_call 18; (with_reducible refine (helmsmanref11_digit.calls (bt a0 x8_3) false _ A23.out).mono ?_); rintro e w' ⟨rfl, ⟨nd, rfl⟩⟩; have p25 : 0 ≤ (x8_3 : Int) := of_decide_eq_true (by first | (with_reducible assumption) | assumption); have q25 : x8_3 < (a0.size : Int) := of_decide_eq_true (by first | (with_reducible assumption) | assumption); have hx25 := bt_at a0 x8_3; replace p25 := eq_true p25; replace q25 := eq_true q25) | ((with_reducible refine gate_builtin (b := .append) (xs := #[.tmp 79, .tmp 86]) rfl ?_); at_builtin; refine Kd.R_append k31 (w0 := w) w.heap.size rfl (.tmp 79) (.tmp 86) 27 31 (.agg #[(.int .i64 0), (.string ⟨#[]⟩), (.int .i64 0), (.int .i64 0)]) 40 rfl Tryd.underlying27 info31 rfl (by decide) (by omega) u5 x5_1 (⟨0, a0.extract (x6_1 : Int).toNat (x8_3 : Int).toNat, 0, x6_1⟩ : S31) [.int .i64 0, .string (a0.extract (x6_1 : Int).toNat (x8_3 : Int).toNat), .int .i64 0, .int .i64 x6_1] (fun _ => True) (fun _ => False) rfl rfl ?aP (fun _ hk => hk.elim) ?aF ?aO ?aB ?aS ?aL ?_; (case aP => exact k31_mkM _ _ _ (⟨0, a0.extract (x6_1 : Int).toNat (x8_3 : Int).toNat, 0, x6_1⟩ : S31)); (case aB => exact (by repeat (first | (with_reducible first | exact HB.out | apply below_alloc | apply pw_below_drewN | apply below_drew1) | exact HB.out))); (case aF => exact (fun _ _ => trivial)); (case aO => exact (by (with_reducible repeat (first | apply Kd.R_alloc | apply Kd.R_drewN | apply Kd.R_drew)); exact HO_5.out)); (case aS => exact (below_size (by repeat (first | (with_reducible first | exact HB.out | apply below_alloc | apply pw_below_drewN | apply below_drew1) | exact HB.out)))); (case aL => have := LMc31.out; omega); intro v157 w32 ho hb hg hat; rw [← Ny156.out] at ho; have n0_ := Aside0.mk (hb); have n1_ := Aside0.mk (ho); clear HB; clear HO_5; have HB := n0_; have HO158 := n1_; clear n0_ n1_; clear ho hb hg hat))
                                              go_roundg k3
                                              case measure => have := HK1.out; have := HJ5.out; have := HK3.out; omega
                                              case rel => exact ⟨(y156), (x8_3), (by first | rfl | (simp; done) | (simp [*]; done)), H', ⟨by have := HK1.out; have := HJ5.out; have := HK3.out; omega⟩, ⟨by (with_reducible repeat (first | apply Kd.R_alloc | apply Kd.R_drewN | apply Kd.R_drew)); exact HO158.out⟩, ⟨by repeat (first | (with_reducible first | exact HB.out | apply below_alloc | apply pw_below_drewN | apply below_drew1) | exact HB.out)⟩⟩
                                            · rw [if_neg c31] at H
                                              exact absurd H (by simp)
                                          · rw [if_neg c30] at H
                                            exact absurd H (by simp)
                                        · rw [if_neg c29] at H
                                          exact absurd H (by simp)
                                      · rw [if_neg c28] at H
                                        exact absurd H (by simp)
                            · rw [if_neg c18] at H
                              exact absurd H (by simp)
                          · rw [if_neg c17] at H
                            have c17b0 : decide (x8_3 < (a0.size : Int)) = false := decide_eq_false c17
                            clear c17
                            by_cases c33 : (wrap64 (x8_3 - x6_1)) > 16
                            · rw [if_pos c33] at H
                              have c33b0 : decide (16 < (wrap64 (x8_3 - x6_1))) = true := decide_eq_true c33
                              clear c33
                              simp only [Option.some.injEq, Prod.mk.injEq] at H
                              obtain ⟨rfl, rfl, rfl⟩ := H
                              go_wp2
                              go_ret3
                              exact ⟨_, by first | rfl | (simp [errW_none, errW_some] <;> rfl) | (simp [*, errW_none, errW_some] <;> rfl), by first | exact Kd.R_nil _ _ _ _ _ | exact Kd.N_nil _ _ _ _ _ | exact Kd.V_nil _ _ _ _ _ | exact Kd.Q_nil _ _ _ _ _ | exact Kd.S_nil _ _ _ _ _, by repeat (first | (with_reducible first | exact HB.out | apply below_alloc | apply pw_below_drewN | apply below_drew1) | exact HB.out)⟩
                            · rw [if_neg c33] at H
                              have c33b0 : decide (16 < (wrap64 (x8_3 - x6_1))) = false := decide_eq_false c33
                              clear c33
                              by_cases c34 : 0 ≤ x6_1
                              · rw [if_pos c34] at H
                                have c34b0 := eq_true c34
                                have c34b1 : decide (0 ≤ x6_1) = true := decide_eq_true c34
                                clear c34
                                by_cases c35 : x6_1 ≤ x8_3
                                · rw [if_pos c35] at H
                                  have c35b0 := eq_true c35
                                  have c35b1 : decide (x6_1 ≤ x8_3) = true := decide_eq_true c35
                                  clear c35
                                  by_cases c36 : x8_3 ≤ (a0.size : Int)
                                  · rw [if_pos c36] at H
                                    have c36b0 := eq_true c36
                                    have c36b1 : decide (x8_3 ≤ (a0.size : Int)) = true := decide_eq_true c36
                                    clear c36
                                    by_cases c37 : x5_1.length < 3518437208883
                                    · rw [if_pos c37] at H
                                      have LMc37 := Aside0.mk c37
                                      clear c37
                                      obtain ⟨y159, hy159⟩ : ∃ y_ : List (S31), y_ = (x5_1 ++ [(⟨0, a0.extract (x6_1 : Int).toNat (x8_3 : Int).toNat, 0, x6_1⟩ : S31)]) := ⟨_, rfl⟩
                                      replace H : (helmsmanref11_Lex.l0 k3 a0 y159 x8_3) = some (r1, r2, r3) := by first | (rw [hy159]; with_reducible exact H) | (have H2_ := (Option.bind_some _ _).symm.trans H; rw [hy159]; with_reducible exact H2_) | (have H2_ := (Option.bind_some _ _).symm.trans H; with_reducible exact H2_) | with_reducible exact H | (rw [hy159]; exact H) | exact H
                                      have Ny159 := Aside0.mk hy159
                                      clear hy159
                                      have H' := Aside0.mk H
                                      clear H
                                      go_wp2_with (first | ((with_reducible refine gate_builtin (b := .append) (xs := #[.tmp 79, .tmp 86]) rfl ?_); at_builtin; refine Kd.R_append k31 (w0 := w) w.heap.size rfl (.tmp 79) (.tmp 86) 27 31 (.agg #[(.int .i64 0), (.string ⟨#[]⟩), (.int .i64 0), (.int .i64 0)]) 40 rfl Tryd.underlying27 info31 rfl (by decide) (by omega) u5 x5_1 (⟨0, a0.extract (x6_1 : Int).toNat (x8_3 : Int).toNat, 0, x6_1⟩ : S31) [.int .i64 0, .string (a0.extract (x6_1 : Int).toNat (x8_3 : Int).toNat), .int .i64 0, .int .i64 x6_1] (fun _ => True) (fun _ => False) rfl rfl ?aP (fun _ hk => hk.elim) ?aF ?aO ?aB ?aS ?aL ?_; (case aP => exact k31_mkM _ _ _ (⟨0, a0.extract (x6_1 : Int).toNat (x8_3 : Int).toNat, 0, x6_1⟩ : S31)); (case aB => exact (by repeat (first | (with_reducible first | exact HB.out | apply below_alloc | apply pw_below_drewN | apply below_drew1) | exact HB.out))); (case aF => exact (fun _ _ => trivial)); (case aO => exact (by (with_reducible repeat (first | apply Kd.R_alloc | apply Kd.R_drewN | apply Kd.R_drew)); exact HO_5.out)); (case aS => exact (below_size (by repeat (first | (with_reducible first | exact HB.out | apply below_alloc | apply pw_below_drewN | apply below_drew1) | exact HB.out)))); (case aL => have := LMc37.out; omega); intro v160 w38 ho hb hg hat; rw [← Ny159.out] at ho; have n0_ := Aside0.mk (hb); have n1_ := Aside0.mk (ho); clear HB; clear HO_5; have HB := n0_; have HO161 := n1_; clear n0_ n1_; clear ho hb hg hat))
                                      go_roundg k3
                                      case measure => have := HK1.out; have := HJ5.out; have := HK3.out; omega
                                      case rel => exact ⟨(y159), (x8_3), (by first | rfl | (simp; done) | (simp [*]; done)), H', ⟨by have := HK1.out; have := HJ5.out; have := HK3.out; omega⟩, ⟨by (with_reducible repeat (first | apply Kd.R_alloc | apply Kd.R_drewN | apply Kd.R_drew)); exact HO161.out⟩, ⟨by repeat (first | (with_reducible first | exact HB.out | apply below_alloc | apply pw_below_drewN | apply below_drew1) | exact HB.out)⟩⟩
                                    · rw [if_neg c37] at H
                                      exact absurd H (by simp)
                                  · rw [if_neg c36] at H
                                    exact absurd H (by simp)
                                · rw [if_neg c35] at H
                                  exact absurd H (by simp)
                              · rw [if_neg c34] at H
                                exact absurd H (by simp)
                    · replace c16 := Bool.eq_false_iff.mpr c16
                      subst c16
                      have H1 : ((helmsmanref11_digit.f (bt a0 x6_1)).bind fun t162 => (if t162 = true then (helmsmanref11_Lex.l3 kj5 a0 x5_1 x6_1 (wrap64 (x6_1 + 1))) else (if (wrap64 (x6_1 + 2)) ≤ (a0.size : Int) then (if 0 ≤ x6_1 then (if x6_1 ≤ (wrap64 (x6_1 + 2)) then ((helmsmanref11_two.f (a0.extract (x6_1 : Int).toNat ((wrap64 (x6_1 + 2)) : Int).toNat)).bind fun t174 => (helmsmanref11_Lex.j5 kj5 a0 x5_1 x6_1 (bt a0 x6_1) (wrap64 (x6_1 + 1)) t174)) else (none)) else (none)) else (helmsmanref11_Lex.j5 kj5 a0 x5_1 x6_1 (bt a0 x6_1) (wrap64 (x6_1 + 1)) false)))) = some (r1, r2, r3) := by rw [if_neg (show ¬ (false = true) by decide)] at H; exact H
                      clear H
                      have H := H1
                      clear H1
                      replace H := Option.bind_eq_some_iff.mp H
                      obtain ⟨t162, A390, H⟩ := H
                      replace H : (if t162 = true then (helmsmanref11_Lex.l3 kj5 a0 x5_1 x6_1 (wrap64 (x6_1 + 1))) else (if (wrap64 (x6_1 + 2)) ≤ (a0.size : Int) then (if 0 ≤ x6_1 then (if x6_1 ≤ (wrap64 (x6_1 + 2)) then ((helmsmanref11_two.f (a0.extract (x6_1 : Int).toNat ((wrap64 (x6_1 + 2)) : Int).toNat)).bind fun t174 => (helmsmanref11_Lex.j5 kj5 a0 x5_1 x6_1 (bt a0 x6_1) (wrap64 (x6_1 + 1)) t174)) else (none)) else (none)) else (helmsmanref11_Lex.j5 kj5 a0 x5_1 x6_1 (bt a0 x6_1) (wrap64 (x6_1 + 1)) false))) = some (r1, r2, r3) := H
                      have A39 := Aside0.mk A390
                      clear A390
                      by_cases c40 : t162 = true
                      · subst c40
                        have H1 : (helmsmanref11_Lex.l3 kj5 a0 x5_1 x6_1 (wrap64 (x6_1 + 1))) = some (r1, r2, r3) := by rw [if_pos rfl] at H; exact H
                        clear H
                        have H := H1
                        clear H1
                        have H' := Aside0.mk H
                        clear H
                        go_wp2_with (first | ((with_reducible refine gate_callee (f := 17) rfl ?_); refine goesL_ (some 49) rfl rfl Tryd.func17 (by kernel_rfl) rfl #[.int .u8 (bt a0 x6_1)] rfl (by (try simp only [List.map_toArray, List.map_cons, List.map_nil]); first | done | rfl | (simp only [List.length_drop, List.length_take]; rfl)) ?_; (with_reducible refine (helmsmanref11_letter.calls (bt a0 x6_1) false _ A15.out).mono ?_); rintro e w' ⟨rfl, ⟨nd, rfl⟩⟩; refine ⟨_, rfl, ?_⟩) | ((with_reducible refine gate_callee (f := 18) rfl ?_); refine goesL_ (some 90) rfl rfl Tryd.func18 (by kernel_rfl) rfl #[.int .u8 (bt a0 x6_1)] rfl (by (try simp only [List.map_toArray, List.map_cons, List.map_nil]); first | done | rfl | (simp only [List.length_drop, List.length_take]; rfl)) ?_; (with_reducible refine (helmsmanref11_digit.calls (bt a0 x6_1) true _ A39.out).mono ?_); rintro e w' ⟨rfl, ⟨nd, rfl⟩⟩; refine ⟨_, rfl, ?_⟩))
                        (try simp only [Act.put, List.setIfInBounds_toArray, List.set_cons_succ, List.set_cons_zero])
                        go_loopg [8] kj5 (fun kq v8 w' => ∃ (x8_3 : Int), v8 = .int .i64 x8_3 ∧ Aside0 (helmsmanref11_Lex.l3 kq a0 x5_1 x6_1 x8_3 = some (r1, r2, r3)) ∧ Aside0 (kq ≤ kj5) ∧ Aside0 (Kd.R k31 31 w' w.heap.size (fun _ => True) u5 x5_1) ∧ Aside0 (Below w.heap.size w w'))
                        case atStart => exact ⟨((wrap64 (x6_1 + 1))), (by first | rfl | (simp; done) | (simp [*]; done)), H', ⟨Nat.le_refl _⟩, ⟨by (with_reducible repeat (first | apply Kd.R_alloc | apply Kd.R_drewN | apply Kd.R_drew)); exact HO_5.out⟩, ⟨by repeat (first | (with_reducible first | exact HB.out | apply below_alloc | apply pw_below_drewN | apply below_drew1) | exact HB.out)⟩⟩
                        case round =>
                          clear H'
                          try clear c1
                          try clear p1
                          try clear q1
                          try clear hx1
                          try clear c2
                          try clear c2b0
                          try clear c2b1
                          try clear p2
                          try clear q2
                          try clear hx2
                          try clear c3
                          try clear c3b0
                          try clear c4
                          try clear c4b0
                          try clear p5
                          try clear q5
                          try clear hx5
                          try clear p6
                          try clear c7
                          try clear c7b0
                          try clear c7b1
                          try clear c8
                          try clear c8b0
                          try clear c8b1
                          try clear c9
                          try clear c10
                          try clear c10b0
                          try clear c10b1
                          try clear c11
                          try clear c11b0
                          try clear c12
                          try clear c12b0
                          try clear p13
                          try clear q13
                          try clear hx13
                          try clear c14
                          try clear c14b0
                          try clear c14b1
                          try clear c16
                          try clear c17
                          try clear c17b0
                          try clear c18
                          try clear c18b0
                          try clear p19
                          try clear q19
                          try clear hx19
                          try clear c21
                          try clear p22
                          try clear q22
                          try clear hx22
                          try clear c24
                          try clear p25
                          try clear q25
                          try clear hx25
                          try clear c26
                          try clear c26b0
                          try clear c26b1
                          try clear c27
                          try clear c27b0
                          try clear c28
                          try clear c28b0
                          try clear c28b1
                          try clear c29
                          try clear c29b0
                          try clear c29b1
                          try clear c30
                          try clear c30b0
                          try clear c30b1
                          try clear c31
                          try clear c33
                          try clear c33b0
                          try clear c34
                          try clear c34b0
                          try clear c34b1
                          try clear c35
                          try clear c35b0
                          try clear c35b1
                          try clear c36
                          try clear c36b0
                          try clear c36b1
                          try clear c37
                          try clear c40
                          try clear p1
                          try clear p13
                          try clear p19
                          try clear p2
                          try clear p22
                          try clear p25
                          try clear p5
                          try clear p6
                          try clear q1
                          try clear q13
                          try clear q19
                          try clear q22
                          try clear q25
                          try clear q5
                          obtain ⟨x8_3, rfl, HA, HK3, HO_5, HB⟩ := hrel
                          cases gk with
                          | zero => exact absurd HA.out (by simp [helmsmanref11_Lex.l3])
                          | succ k3 =>
                            have H := HA.out
                            clear HA
                            simp only [helmsmanref11_Lex.l3] at H
                            by_cases c41 : x8_3 < (a0.size : Int)
                            · rw [if_pos c41] at H
                              have c41b0 : decide (x8_3 < (a0.size : Int)) = true := decide_eq_true c41
                              clear c41
                              by_cases c42 : 0 ≤ x8_3
                              · rw [if_pos c42] at H
                                have c42b0 : decide (0 ≤ x8_3) = true := decide_eq_true c42
                                clear c42
                                replace H := Option.bind_eq_some_iff.mp H
                                obtain ⟨t163, A440, H⟩ := H
                                replace H : (if t163 = true then (helmsmanref11_Lex.l3 k3 a0 x5_1 x6_1 (wrap64 (x8_3 + 1))) else (if 0 ≤ x6_1 then (if x6_1 ≤ x8_3 then (if x8_3 ≤ (a0.size : Int) then ((helmsmanref11_Number.f k3 (a0.extract (x6_1 : Int).toNat (x8_3 : Int).toNat)).bind fun bt164 => (if bt164.2 = true then (if x5_1.length < 3518437208883 then (helmsmanref11_Lex.l0 k3 a0 (x5_1 ++ [(⟨1, a0.extract (x6_1 : Int).toNat (x8_3 : Int).toNat, bt164.1, x6_1⟩ : S31)]) x8_3) else (none)) else (some (([] : List (S31)), x6_1, 111)))) else (none)) else (none)) else (none))) = some (r1, r2, r3) := H
                                have A44 := Aside0.mk A440
                                clear A440
                                by_cases c45 : t163 = true
                                · subst c45
                                  have H1 : (helmsmanref11_Lex.l3 k3 a0 x5_1 x6_1 (wrap64 (x8_3 + 1))) = some (r1, r2, r3) := by rw [if_pos rfl] at H; exact H
                                  clear H
                                  have H := H1
                                  clear H1
                                  have H' := Aside0.mk H
                                  clear H
                                  have p43 : 0 ≤ (x8_3 : Int) := of_decide_eq_true (by first | (with_reducible assumption) | assumption)
                                  have q43 : x8_3 < (a0.size : Int) := of_decide_eq_true (by first | (with_reducible assumption) | assumption)
                                  have hx43 := bt_at a0 x8_3
                                  replace p43 := eq_true p43
                                  replace q43 := eq_true q43
                                  go_wp2_with (first | (go_at_call 18; (with_reducible refine (helmsmanref11_digit.calls (bt a0 x8_3) true _ A44.out).mono ?_); rintro e w' ⟨rfl, ⟨nd, rfl⟩⟩))
                                  go_roundg k3
                                  case measure => have := HK1.out; have := HJ5.out; have := HK3.out; omega
                                  case rel => exact ⟨(wrap64 (x8_3 + 1)), (by first | rfl | (simp; done) | (simp [*]; done)), H', ⟨by have := HK1.out; have := HJ5.out; have := HK3.out; omega⟩, ⟨by (with_reducible repeat (first | apply Kd.R_alloc | apply Kd.R_drewN | apply Kd.R_drew)); exact HO_5.out⟩, ⟨by repeat (first | (with_reducible first | exact HB.out | apply below_alloc | apply pw_below_drewN | apply below_drew1) | exact HB.out)⟩⟩
                                · replace c45 := Bool.eq_false_iff.mpr c45
                                  subst c45
                                  have H1 : (if 0 ≤ x6_1 then (if x6_1 ≤ x8_3 then (if x8_3 ≤ (a0.size : Int) then ((helmsmanref11_Number.f k3 (a0.extract (x6_1 : Int).toNat (x8_3 : Int).toNat)).bind fun bt164 => (if bt164.2 = true then (if x5_1.length < 3518437208883 then (helmsmanref11_Lex.l0 k3 a0 (x5_1 ++ [(⟨1, a0.extract (x6_1 : Int).toNat (x8_3 : Int).toNat, bt164.1, x6_1⟩ : S31)]) x8_3) else (none)) else (some (([] : List (S31)), x6_1, 111)))) else (none)) else (none)) else (none)) = some (r1, r2, r3) := by rw [if_neg (show ¬ (false = true) by decide)] at H; exact H
                                  clear H
                                  have H := H1
                                  clear H1
                                  by_cases c46 : 0 ≤ x6_1
                                  · rw [if_pos c46] at H
                                    have c46b0 := eq_true c46
                                    have c46b1 : decide (0 ≤ x6_1) = true := decide_eq_true c46
                                    clear c46
                                    by_cases c47 : x6_1 ≤ x8_3
                                    · rw [if_pos c47] at H
                                      have c47b0 := eq_true c47
                                      have c47b1 : decide (x6_1 ≤ x8_3) = true := decide_eq_true c47
                                      clear c47
                                      by_cases c48 : x8_3 ≤ (a0.size : Int)
                                      · rw [if_pos c48] at H
                                        have c48b0 := eq_true c48
                                        have c48b1 : decide (x8_3 ≤ (a0.size : Int)) = true := decide_eq_true c48
                                        clear c48
                                        replace H := Option.bind_eq_some_iff.mp H
                                        obtain ⟨⟨t164, t165⟩, A490, H⟩ := H
                                        replace H : (if t165 = true then (if x5_1.length < 3518437208883 then (helmsmanref11_Lex.l0 k3 a0 (x5_1 ++ [(⟨1, a0.extract (x6_1 : Int).toNat (x8_3 : Int).toNat, t164, x6_1⟩ : S31)]) x8_3) else (none)) else (some (([] : List (S31)), x6_1, 111))) = some (r1, r2, r3) := H
                                        have A49 := Aside0.mk A490
                                        clear A490
                                        by_cases c50 : t165 = true
                                        · subst c50
                                          have H1 : (if x5_1.length < 3518437208883 then (helmsmanref11_Lex.l0 k3 a0 (x5_1 ++ [(⟨1, a0.extract (x6_1 : Int).toNat (x8_3 : Int).toNat, t164, x6_1⟩ : S31)]) x8_3) else (none)) = some (r1, r2, r3) := by rw [if_pos rfl] at H; exact H
                                          clear H
                                          have H := H1
                                          clear H1
                                          have c51b0 := eq_true (of_decide_eq_true (by first | (with_reducible assumption) | assumption) : 0 ≤ x6_1)
                                          have c52b0 := eq_true (of_decide_eq_true (by first | (with_reducible assumption) | assumption) : x6_1 ≤ x8_3)
                                          have c53b0 := eq_true (of_decide_eq_true (by first | (with_reducible assumption) | assumption) : x8_3 ≤ (a0.size : Int))
                                          by_cases c54 : x5_1.length < 3518437208883
                                          · rw [if_pos c54] at H
                                            have LMc54 := Aside0.mk c54
                                            clear c54
                                            obtain ⟨y166, hy166⟩ : ∃ y_ : List (S31), y_ = (x5_1 ++ [(⟨1, a0.extract (x6_1 : Int).toNat (x8_3 : Int).toNat, t164, x6_1⟩ : S31)]) := ⟨_, rfl⟩
                                            replace H : (helmsmanref11_Lex.l0 k3 a0 y166 x8_3) = some (r1, r2, r3) := by first | (rw [hy166]; with_reducible exact H) | (have H2_ := (Option.bind_some _ _).symm.trans H; rw [hy166]; with_reducible exact H2_) | (have H2_ := (Option.bind_some _ _).symm.trans H; with_reducible exact H2_) | with_reducible exact H | (rw [hy166]; exact H) | exact H
                                            have Ny166 := Aside0.mk hy166
                                            clear hy166
                                            have H' := Aside0.mk H
                                            clear H
                                            have p43 : 0 ≤ (x8_3 : Int) := of_decide_eq_true (by first | (with_reducible assumption) | assumption)
                                            have q43 : x8_3 < (a0.size : Int) := of_decide_eq_true (by first | (with_reducible assumption) | assumption)
                                            have hx43 := bt_at a0 x8_3
                                            replace p43 := eq_true p43
                                            replace q43 := eq_true q43
                                            go_wp2_with (first | (go_at_call 18; (with_reducible refine (helmsmanref11_digit.calls (bt a0 x8_3) false _ A44.out).mono ?_); rintro e w' ⟨rfl, ⟨nd, rfl⟩⟩) | ((with_reducible refine gate_callee (f := 19) rfl ?_); refine goesL_ (some 108) rfl rfl Tryd.func19 (by kernel_rfl) rfl #[.string (a0.extract (x6_1 : Int).toNat (x8_3 : Int).toNat)] rfl (by (try simp only [List.map_toArray, List.map_cons, List.map_nil]); first | done | rfl | (simp only [List.length_drop, List.length_take]; rfl)) ?_; (with_reducible refine (helmsmanref11_Number.calls k3 (a0.extract (x6_1 : Int).toNat (x8_3 : Int).toNat) t164 true _ A49.out).mono ?_); rintro e w' ⟨rfl, ⟨nd, rfl⟩⟩; refine ⟨_, rfl, ?_⟩) | ((with_reducible refine gate_builtin (b := .append) (xs := #[.tmp 114, .tmp 122]) rfl ?_); at_builtin; refine Kd.R_append k31 (w0 := w) w.heap.size rfl (.tmp 114) (.tmp 122) 27 31 (.agg #[(.int .i64 0), (.string ⟨#[]⟩), (.int .i64 0), (.int .i64 0)]) 40 rfl Tryd.underlying27 info31 rfl (by decide) (by omega) u5 x5_1 (⟨1, a0.extract (x6_1 : Int).toNat (x8_3 : Int).toNat, t164, x6_1⟩ : S31) [.int .i64 1, .string (a0.extract (x6_1 : Int).toNat (x8_3 : Int).toNat), .int .i64 t164, .int .i64 x6_1] (fun _ => True) (fun _ => False) rfl rfl ?aP (fun _ hk => hk.elim) ?aF ?aO ?aB ?aS ?aL ?_; (case aP => exact k31_mkM _ _ _ (⟨1, a0.extract (x6_1 : Int).toNat (x8_3 : Int).toNat, t164, x6_1⟩ : S31)); (case aB => exact (by repeat (first | (with_reducible first | exact HB.out | apply below_alloc | apply pw_below_drewN | apply below_drew1) | exact HB.out))); (case aF => exact (fun _ _ => trivial)); (case aO => exact (by (with_reducible repeat (first | apply Kd.R_alloc | apply Kd.R_drewN | apply Kd.R_drew)); exact HO_5.out)); (case aS => exact (below_size (by repeat (first | (with_reducible first | exact HB.out | apply below_alloc | apply pw_below_drewN | apply below_drew1) | exact HB.out)))); (case aL => have := LMc54.out; omega); intro v167 w55 ho hb hg hat; rw [← Ny166.out] at ho; have n0_ := Aside0.mk (hb); have n1_ := Aside0.mk (ho); clear HB; clear HO_5; have HB := n0_; have HO168 := n1_; clear n0_ n1_; clear ho hb hg hat))
                                            go_roundg k3
                                            case measure => have := HK1.out; have := HJ5.out; have := HK3.out; omega
                                            case rel => exact ⟨(y166), (x8_3), (by first | rfl | (simp; done) | (simp [*]; done)), H', ⟨by have := HK1.out; have := HJ5.out; have := HK3.out; omega⟩, ⟨by (with_reducible repeat (first | apply Kd.R_alloc | apply Kd.R_drewN | apply Kd.R_drew)); exact HO168.out⟩, ⟨by repeat (first | (with_reducible first | exact HB.out | apply below_alloc | apply pw_below_drewN | apply below_drew1) | exact HB.out)⟩⟩
                                          · rw [if_neg c54] at H
                                            exact absurd H (by simp)
                                        · replace c50 := Bool.eq_false_iff.mpr c50
                                          subst c50
                                          have H1 : (some (([] : List (S31)), x6_1, 111)) = some (r1, r2, r3) := by rw [if_neg (show ¬ (false = true) by decide)] at H; exact H
                                          clear H
                                          have H := H1
                                          clear H1
                                          simp only [Option.some.injEq, Prod.mk.injEq] at H
                                          obtain ⟨rfl, rfl, rfl⟩ := H
                                          have p43 : 0 ≤ (x8_3 : Int) := of_decide_eq_true (by first | (with_reducible assumption) | assumption)
                                          have q43 : x8_3 < (a0.size : Int) := of_decide_eq_true (by first | (with_reducible assumption) | assumption)
                                          have hx43 := bt_at a0 x8_3
                                          replace p43 := eq_true p43
                                          replace q43 := eq_true q43
                                          go_wp2_with (first | (go_at_call 18; (with_reducible refine (helmsmanref11_digit.calls (bt a0 x8_3) false _ A44.out).mono ?_); rintro e w' ⟨rfl, ⟨nd, rfl⟩⟩) | ((with_reducible refine gate_callee (f := 19) rfl ?_); refine goesL_ (some 108) rfl rfl Tryd.func19 (by kernel_rfl) rfl #[.string (a0.extract (x6_1 : Int).toNat (x8_3 : Int).toNat)] rfl (by (try simp only [List.map_toArray, List.map_cons, List.map_nil]); first | done | rfl | (simp only [List.length_drop, List.length_take]; rfl)) ?_; (with_reducible refine (helmsmanref11_Number.calls k3 (a0.extract (x6_1 : Int).toNat (x8_3 : Int).toNat) t164 false _ A49.out).mono ?_); rintro e w' ⟨rfl, ⟨nd, rfl⟩⟩; refine ⟨_, rfl, ?_⟩))
                                          go_ret3
                                          exact ⟨_, by first | rfl | (simp [errW_none, errW_some] <;> rfl) | (simp [*, errW_none, errW_some] <;> rfl), by first | exact Kd.R_nil _ _ _ _ _ | exact Kd.N_nil _ _ _ _ _ | exact Kd.V_nil _ _ _ _ _ | exact Kd.Q_nil _ _ _ _ _ | exact Kd.S_nil _ _ _ _ _, by repeat (first | (with_reducible first | exact HB.out | apply below_alloc | apply pw_below_drewN | apply below_drew1) | exact HB.out)⟩
                                      · rw [if_neg c48] at H
                                        exact absurd H (by simp)
                                    · rw [if_neg c47] at H
                                      exact absurd H (by simp)
                                  · rw [if_neg c46] at H
                                    exact absurd H (by simp)
                              · rw [if_neg c42] at H
                                exact absurd H (by simp)
                            · rw [if_neg c41] at H
                              have c41b0 : decide (x8_3 < (a0.size : Int)) = false := decide_eq_false c41
                              clear c41
                              by_cases c56 : 0 ≤ x6_1
                              · rw [if_pos c56] at H
                                have c56b0 := eq_true c56
                                have c56b1 : decide (0 ≤ x6_1) = true := decide_eq_true c56
                                clear c56
                                by_cases c57 : x6_1 ≤ x8_3
                                · rw [if_pos c57] at H
                                  have c57b0 := eq_true c57
                                  have c57b1 : decide (x6_1 ≤ x8_3) = true := decide_eq_true c57
                                  clear c57
                                  by_cases c58 : x8_3 ≤ (a0.size : Int)
                                  · rw [if_pos c58] at H
                                    have c58b0 := eq_true c58
                                    have c58b1 : decide (x8_3 ≤ (a0.size : Int)) = true := decide_eq_true c58
                                    clear c58
                                    replace H := Option.bind_eq_some_iff.mp H
                                    obtain ⟨⟨t169, t170⟩, A590, H⟩ := H
                                    replace H : (if t170 = true then (if x5_1.length < 3518437208883 then (helmsmanref11_Lex.l0 k3 a0 (x5_1 ++ [(⟨1, a0.extract (x6_1 : Int).toNat (x8_3 : Int).toNat, t169, x6_1⟩ : S31)]) x8_3) else (none)) else (some (([] : List (S31)), x6_1, 111))) = some (r1, r2, r3) := H
                                    have A59 := Aside0.mk A590
                                    clear A590
                                    by_cases c60 : t170 = true
                                    · subst c60
                                      have H1 : (if x5_1.length < 3518437208883 then (helmsmanref11_Lex.l0 k3 a0 (x5_1 ++ [(⟨1, a0.extract (x6_1 : Int).toNat (x8_3 : Int).toNat, t169, x6_1⟩ : S31)]) x8_3) else (none)) = some (r1, r2, r3) := by rw [if_pos rfl] at H; exact H
                                      clear H
                                      have H := H1
                                      clear H1
                                      have c61b0 := eq_true (of_decide_eq_true (by first | (with_reducible assumption) | assumption) : 0 ≤ x6_1)
                                      have c62b0 := eq_true (of_decide_eq_true (by first | (with_reducible assumption) | assumption) : x6_1 ≤ x8_3)
                                      have c63b0 := eq_true (of_decide_eq_true (by first | (with_reducible assumption) | assumption) : x8_3 ≤ (a0.size : Int))
                                      by_cases c64 : x5_1.length < 3518437208883
                                      · rw [if_pos c64] at H
                                        have LMc64 := Aside0.mk c64
                                        clear c64
                                        obtain ⟨y171, hy171⟩ : ∃ y_ : List (S31), y_ = (x5_1 ++ [(⟨1, a0.extract (x6_1 : Int).toNat (x8_3 : Int).toNat, t169, x6_1⟩ : S31)]) := ⟨_, rfl⟩
                                        replace H : (helmsmanref11_Lex.l0 k3 a0 y171 x8_3) = some (r1, r2, r3) := by first | (rw [hy171]; with_reducible exact H) | (have H2_ := (Option.bind_some _ _).symm.trans H; rw [hy171]; with_reducible exact H2_) | (have H2_ := (Option.bind_some _ _).symm.trans H; with_reducible exact H2_) | with_reducible exact H | (rw [hy171]; exact H) | exact H
                                        have Ny171 := Aside0.mk hy171
                                        clear hy171
                                        have H' := Aside0.mk H
                                        clear H
                                        go_wp2_with (first | ((with_reducible refine gate_callee (f := 19) rfl ?_); refine goesL_ (some 108) rfl rfl Tryd.func19 (by kernel_rfl) rfl #[.string (a0.extract (x6_1 : Int).toNat (x8_3 : Int).toNat)] rfl (by (try simp only [List.map_toArray, List.map_cons, List.map_nil]); first | done | rfl | (simp only [List.length_drop, List.length_take]; rfl)) ?_; (with_reducible refine (helmsmanref11_Number.calls k3 (a0.extract (x6_1 : Int).toNat (x8_3 : Int).toNat) t169 true _ A59.out).mono ?_); rintro e w' ⟨rfl, ⟨nd, rfl⟩⟩; refine ⟨_, rfl, ?_⟩) | ((with_reducible refine gate_builtin (b := .append) (xs := #[.tmp 114, .tmp 122]) rfl ?_); at_builtin; refine Kd.R_append k31 (w0 := w) w.heap.size rfl (.tmp 114) (.tmp 122) 27 31 (.agg #[(.int .i64 0), (.string ⟨#[]⟩), (.int .i64 0), (.int .i64 0)]) 40 rfl Tryd.underlying27 info31 rfl (by decide) (by omega) u5 x5_1 (⟨1, a0.extract (x6_1 : Int).toNat (x8_3 : Int).toNat, t169, x6_1⟩ : S31) [.int .i64 1, .string (a0.extract (x6_1 : Int).toNat (x8_3 : Int).toNat), .int .i64 t169, .int .i64 x6_1] (fun _ => True) (fun _ => False) rfl rfl ?aP (fun _ hk => hk.elim) ?aF ?aO ?aB ?aS ?aL ?_; (case aP => exact k31_mkM _ _ _ (⟨1, a0.extract (x6_1 : Int).toNat (x8_3 : Int).toNat, t169, x6_1⟩ : S31)); (case aB => exact (by repeat (first | (with_reducible first | exact HB.out | apply below_alloc | apply pw_below_drewN | apply below_drew1) | exact HB.out))); (case aF => exact (fun _ _ => trivial)); (case aO => exact (by (with_reducible repeat (first | apply Kd.R_alloc | apply Kd.R_drewN | apply Kd.R_drew)); exact HO_5.out)); (case aS => exact (below_size (by repeat (first | (with_reducible first | exact HB.out | apply below_alloc | apply pw_below_drewN | apply below_drew1) | exact HB.out)))); (case aL => have := LMc64.out; omega); intro v172 w65 ho hb hg hat; rw [← Ny171.out] at ho; have n0_ := Aside0.mk (hb); have n1_ := Aside0.mk (ho); clear HB; clear HO_5; have HB := n0_; have HO173 := n1_; clear n0_ n1_; clear ho hb hg hat))
                                        go_roundg k3
                                        case measure => have := HK1.out; have := HJ5.out; have := HK3.out; omega
                                        case rel => exact ⟨(y171), (x8_3), (by first | rfl | (simp; done) | (simp [*]; done)), H', ⟨by have := HK1.out; have := HJ5.out; have := HK3.out; omega⟩, ⟨by (with_reducible repeat (first | apply Kd.R_alloc | apply Kd.R_drewN | apply Kd.R_drew)); exact HO173.out⟩, ⟨by repeat (first | (with_reducible first | exact HB.out | apply below_alloc | apply pw_below_drewN | apply below_drew1) | exact HB.out)⟩⟩
                                      · rw [if_neg c64] at H
                                        exact absurd H (by simp)
                                    · replace c60 := Bool.eq_false_iff.mpr c60
                                      subst c60
                                      have H1 : (some (([] : List (S31)), x6_1, 111)) = some (r1, r2, r3) := by rw [if_neg (show ¬ (false = true) by decide)] at H; exact H
                                      clear H
                                      have H := H1
                                      clear H1
                                      simp only [Option.some.injEq, Prod.mk.injEq] at H
                                      obtain ⟨rfl, rfl, rfl⟩ := H
                                      go_wp2_with (first | ((with_reducible refine gate_callee (f := 19) rfl ?_); refine goesL_ (some 108) rfl rfl Tryd.func19 (by kernel_rfl) rfl #[.string (a0.extract (x6_1 : Int).toNat (x8_3 : Int).toNat)] rfl (by (try simp only [List.map_toArray, List.map_cons, List.map_nil]); first | done | rfl | (simp only [List.length_drop, List.length_take]; rfl)) ?_; (with_reducible refine (helmsmanref11_Number.calls k3 (a0.extract (x6_1 : Int).toNat (x8_3 : Int).toNat) t169 false _ A59.out).mono ?_); rintro e w' ⟨rfl, ⟨nd, rfl⟩⟩; refine ⟨_, rfl, ?_⟩))
                                      go_ret3
                                      exact ⟨_, by first | rfl | (simp [errW_none, errW_some] <;> rfl) | (simp [*, errW_none, errW_some] <;> rfl), by first | exact Kd.R_nil _ _ _ _ _ | exact Kd.N_nil _ _ _ _ _ | exact Kd.V_nil _ _ _ _ _ | exact Kd.Q_nil _ _ _ _ _ | exact Kd.S_nil _ _ _ _ _, by repeat (first | (with_reducible first | exact HB.out | apply below_alloc | apply pw_below_drewN | apply below_drew1) | exact HB.out)⟩
                                  · rw [if_neg c58] at H
                                    exact absurd H (by simp)
                                · rw [if_neg c57] at H
                                  exact absurd H (by simp)
                              · rw [if_neg c56] at H
                                exact absurd H (by simp)
                      · replace c40 := Bool.eq_false_iff.mpr c40
                        subst c40
                        have H1 : (if (wrap64 (x6_1 + 2)) ≤ (a0.size : Int) then (if 0 ≤ x6_1 then (if x6_1 ≤ (wrap64 (x6_1 + 2)) then ((helmsmanref11_two.f (a0.extract (x6_1 : Int).toNat ((wrap64 (x6_1 + 2)) : Int).toNat)).bind fun t174 => (helmsmanref11_Lex.j5 kj5 a0 x5_1 x6_1 (bt a0 x6_1) (wrap64 (x6_1 + 1)) t174)) else (none)) else (none)) else (helmsmanref11_Lex.j5 kj5 a0 x5_1 x6_1 (bt a0 x6_1) (wrap64 (x6_1 + 1)) false)) = some (r1, r2, r3) := by rw [if_neg (show ¬ (false = true) by decide)] at H; exact H
                        clear H
                        have H := H1
                        clear H1
                        have HC66 := Aside0.mk H
                        clear H
                        go_upto_region 28 with (first | ((with_reducible refine gate_callee (f := 17) rfl ?_); refine goesL_ (some 49) rfl rfl Tryd.func17 (by kernel_rfl) rfl #[.int .u8 (bt a0 x6_1)] rfl (by (try simp only [List.map_toArray, List.map_cons, List.map_nil]); first | done | rfl | (simp only [List.length_drop, List.length_take]; rfl)) ?_; (with_reducible refine (helmsmanref11_letter.calls (bt a0 x6_1) false _ A15.out).mono ?_); rintro e w' ⟨rfl, ⟨nd, rfl⟩⟩; refine ⟨_, rfl, ?_⟩) | ((with_reducible refine gate_callee (f := 18) rfl ?_); refine goesL_ (some 90) rfl rfl Tryd.func18 (by kernel_rfl) rfl #[.int .u8 (bt a0 x6_1)] rfl (by (try simp only [List.map_toArray, List.map_cons, List.map_nil]); first | done | rfl | (simp only [List.length_drop, List.length_take]; rfl)) ?_; (with_reducible refine (helmsmanref11_digit.calls (bt a0 x6_1) false _ A39.out).mono ?_); rintro e w' ⟨rfl, ⟨nd, rfl⟩⟩; refine ⟨_, rfl, ?_⟩))
                        (try simp only [Act.put, List.setIfInBounds_toArray, List.set_cons_zero, List.set_cons_succ])
                        go_cut [137] (fun v137 wc => ∃ (kq : Nat) (x137_65 : Bool), v137 = .bool x137_65 ∧ Aside0 (helmsmanref11_Lex.j5 kq a0 x5_1 x6_1 (bt a0 x6_1) (wrap64 (x6_1 + 1)) x137_65 = some (r1, r2, r3)) ∧ Aside0 (kq ≤ kj5) ∧ Aside0 (Kd.R k31 31 wc w.heap.size (fun _ => True) u5 x5_1) ∧ Aside0 (Below w.heap.size w wc))
                        case first =>
                          have H := HC66.out
                          clear HC66
                          by_cases c67 : (wrap64 (x6_1 + 2)) ≤ (a0.size : Int)
                          · rw [if_pos c67] at H
                            have c67b0 : decide ((wrap64 (x6_1 + 2)) ≤ (a0.size : Int)) = true := decide_eq_true c67
                            clear c67
                            (first | rw [c67b0] | (simp only [i64_w, i32_w]; rw [c67b0]) | skip)
                            by_cases c68 : 0 ≤ x6_1
                            · rw [if_pos c68] at H
                              have c68b0 := eq_true c68
                              have c68b1 : decide (0 ≤ x6_1) = true := decide_eq_true c68
                              clear c68
                              by_cases c69 : x6_1 ≤ (wrap64 (x6_1 + 2))
                              · rw [if_pos c69] at H
                                have c69b0 := eq_true c69
                                have c69b1 : decide (x6_1 ≤ (wrap64 (x6_1 + 2))) = true := decide_eq_true c69
                                have c70b0 := eq_true (of_decide_eq_true (by first | (with_reducible assumption) | assumption) : (wrap64 (x6_1 + 2)) ≤ (a0.size : Int))
                                replace H := Option.bind_eq_some_iff.mp H
                                obtain ⟨t174, A710, H⟩ := H
                                replace H : (helmsmanref11_Lex.j5 kj5 a0 x5_1 x6_1 (bt a0 x6_1) (wrap64 (x6_1 + 1)) t174) = some (r1, r2, r3) := H
                                have A71 := Aside0.mk A710
                                clear A710
                                have H' := Aside0.mk H
                                clear H
                                go_wp2_with (first | (go_at_call 20; (with_reducible refine (helmsmanref11_two.calls (a0.extract (x6_1 : Int).toNat ((wrap64 (x6_1 + 2)) : Int).toNat) t174 _ A71.out).mono ?_); rintro e w' ⟨rfl, ⟨nd, rfl⟩⟩))
                                go_meet
                                case rel => exact ⟨_, (t174), (by first | rfl | (simp; done) | (simp [*]; done)), H', ⟨by have := HK1.out; have := HJ5.out; first | omega | exact Nat.le_refl _⟩, ⟨by (with_reducible repeat (first | apply Kd.R_alloc | apply Kd.R_drewN | apply Kd.R_drew)); exact HO_5.out⟩, ⟨by repeat (first | (with_reducible first | exact HB.out | apply below_alloc | apply pw_below_drewN | apply below_drew1) | exact HB.out)⟩⟩
                              · rw [if_neg c69] at H
                                exact absurd H (by simp)
                            · rw [if_neg c68] at H
                              exact absurd H (by simp)
                          · rw [if_neg c67] at H
                            have c67b0 : decide ((wrap64 (x6_1 + 2)) ≤ (a0.size : Int)) = false := decide_eq_false c67
                            clear c67
                            (first | rw [c67b0] | (simp only [i64_w, i32_w]; rw [c67b0]) | skip)
                            have H' := Aside0.mk H
                            clear H
                            go_wp2
                            go_meet
                            case rel => exact ⟨_, (false), (by first | rfl | (simp; done) | (simp [*]; done)), H', ⟨by have := HK1.out; have := HJ5.out; first | omega | exact Nat.le_refl _⟩, ⟨by (with_reducible repeat (first | apply Kd.R_alloc | apply Kd.R_drewN | apply Kd.R_drew)); exact HO_5.out⟩, ⟨by repeat (first | (with_reducible first | exact HB.out | apply below_alloc | apply pw_below_drewN | apply below_drew1) | exact HB.out)⟩⟩
                        case rest =>
                          clear HC66
                          try clear c1
                          try clear p1
                          try clear q1
                          try clear hx1
                          try clear c2
                          try clear c2b0
                          try clear c2b1
                          try clear p2
                          try clear q2
                          try clear hx2
                          try clear c3
                          try clear c3b0
                          try clear c4
                          try clear c4b0
                          try clear p4
                          try clear q4
                          try clear hx4
                          try clear c5
                          try clear p5
                          try clear q5
                          try clear hx5
                          try clear c6
                          try clear p6
                          try clear c7
                          try clear c7b0
                          try clear c7b1
                          try clear c8
                          try clear c8b0
                          try clear c8b1
                          try clear c9
                          try clear c10
                          try clear c10b0
                          try clear c10b1
                          try clear c11
                          try clear c11b0
                          try clear c12
                          try clear c12b0
                          try clear p13
                          try clear q13
                          try clear hx13
                          try clear c14
                          try clear c14b0
                          try clear c14b1
                          try clear c16
                          try clear c17
                          try clear c17b0
                          try clear c18
                          try clear c18b0
                          try clear c19
                          try clear p19
                          try clear q19
                          try clear hx19
                          try clear c21
                          try clear p22
                          try clear q22
                          try clear hx22
                          try clear c24
                          try clear p25
                          try clear q25
                          try clear hx25
                          try clear c26
                          try clear c26b0
                          try clear c26b1
                          try clear c27
                          try clear c27b0
                          try clear c28
                          try clear c28b0
                          try clear c28b1
                          try clear c29
                          try clear c29b0
                          try clear c29b1
                          try clear c30
                          try clear c30b0
                          try clear c30b1
                          try clear c31
                          try clear c33
                          try clear c33b0
                          try clear c34
                          try clear c34b0
                          try clear c34b1
                          try clear c35
                          try clear c35b0
                          try clear c35b1
                          try clear c36
                          try clear c36b0
                          try clear c36b1
                          try clear c37
                          try clear c40
                          try clear c41
                          try clear c41b0
                          try clear c42
                          try clear c42b0
                          try clear p43
                          try clear q43
                          try clear hx43
                          try clear c45
                          try clear c46
                          try clear c46b0
                          try clear c46b1
                          try clear c47
                          try clear c47b0
                          try clear c47b1
                          try clear c48
                          try clear c48b0
                          try clear c48b1
                          try clear c50
                          try clear c51
                          try clear c51b0
                          try clear c52
                          try clear c52b0
                          try clear c53
                          try clear c53b0
                          try clear c54
                          try clear c56
                          try clear c56b0
                          try clear c56b1
                          try clear c57
                          try clear c57b0
                          try clear c57b1
                          try clear c58
                          try clear c58b0
                          try clear c58b1
                          try clear c60
                          try clear c61
                          try clear c61b0
                          try clear c62
                          try clear c62b0
                          try clear c63
                          try clear c63b0
                          try clear c64
                          try clear p64
                          try clear c67
                          try clear c67b0
                          try clear c68
                          try clear c68b0
                          try clear c68b1
                          try clear c69
                          try clear c69b0
                          try clear c69b1
                          try clear c70
                          try clear c70b0
                          try clear p1
                          try clear p13
                          try clear p19
                          try clear p2
                          try clear p22
                          try clear p25
                          try clear p43
                          try clear p5
                          try clear p6
                          try clear q1
                          try clear q13
                          try clear q19
                          try clear q2
                          try clear q22
                          try clear q25
                          try clear q43
                          try clear q5
                          obtain ⟨kq, x137_65, rfl, HA, HJ65, HO_5, HB⟩ := hcut
                          cases kq with
                          | zero => exact absurd HA.out (by simp [helmsmanref11_Lex.j5])
                          | succ kj65 =>
                            have H := HA.out
                            clear HA
                            simp only [helmsmanref11_Lex.j5] at H
                            by_cases c72 : x137_65 = true
                            · subst c72
                              have H1 : (if 0 ≤ x6_1 then (if x6_1 ≤ (wrap64 (x6_1 + 2)) then (if (wrap64 (x6_1 + 2)) ≤ (a0.size : Int) then (if x5_1.length < 3518437208883 then (helmsmanref11_Lex.l0 kj65 a0 (x5_1 ++ [(⟨2, a0.extract (x6_1 : Int).toNat ((wrap64 (x6_1 + 2)) : Int).toNat, 0, x6_1⟩ : S31)]) (wrap64 (x6_1 + 2))) else (none)) else (none)) else (none)) else (none)) = some (r1, r2, r3) := by rw [if_pos rfl] at H; exact H
                              clear H
                              have H := H1
                              clear H1
                              by_cases c73 : 0 ≤ x6_1
                              · rw [if_pos c73] at H
                                have c73b0 := eq_true c73
                                have c73b1 : decide (0 ≤ x6_1) = true := decide_eq_true c73
                                clear c73
                                by_cases c74 : x6_1 ≤ (wrap64 (x6_1 + 2))
                                · rw [if_pos c74] at H
                                  have c74b0 := eq_true c74
                                  have c74b1 : decide (x6_1 ≤ (wrap64 (x6_1 + 2))) = true := decide_eq_true c74
                                  by_cases c75 : (wrap64 (x6_1 + 2)) ≤ (a0.size : Int)
                                  · rw [if_pos c75] at H
                                    have c75b0 := eq_true c75
                                    have c75b1 : decide ((wrap64 (x6_1 + 2)) ≤ (a0.size : Int)) = true := decide_eq_true c75
                                    by_cases c76 : x5_1.length < 3518437208883
                                    · rw [if_pos c76] at H
                                      have LMc76 := Aside0.mk c76
                                      clear c76
                                      obtain ⟨y175, hy175⟩ : ∃ y_ : List (S31), y_ = (x5_1 ++ [(⟨2, a0.extract (x6_1 : Int).toNat ((wrap64 (x6_1 + 2)) : Int).toNat, 0, x6_1⟩ : S31)]) := ⟨_, rfl⟩
                                      replace H : (helmsmanref11_Lex.l0 kj65 a0 y175 (wrap64 (x6_1 + 2))) = some (r1, r2, r3) := by first | (rw [hy175]; with_reducible exact H) | (have H2_ := (Option.bind_some _ _).symm.trans H; rw [hy175]; with_reducible exact H2_) | (have H2_ := (Option.bind_some _ _).symm.trans H; with_reducible exact H2_) | with_reducible exact H | (rw [hy175]; exact H) | exact H
                                      have Ny175 := Aside0.mk hy175
                                      clear hy175
                                      have H' := Aside0.mk H
                                      clear H
                                      go_wp2_with (first | ((with_reducible refine gate_builtin (b := .append) (xs := #[.tmp 144, .tmp 151]) rfl ?_); at_builtin; refine Kd.R_append k31 (w0 := w) w.heap.size rfl (.tmp 144) (.tmp 151) 27 31 (.agg #[(.int .i64 0), (.string ⟨#[]⟩), (.int .i64 0), (.int .i64 0)]) 40 rfl Tryd.underlying27 info31 rfl (by decide) (by omega) u5 x5_1 (⟨2, a0.extract (x6_1 : Int).toNat ((wrap64 (x6_1 + 2)) : Int).toNat, 0, x6_1⟩ : S31) [.int .i64 2, .string (a0.extract (x6_1 : Int).toNat ((wrap64 (x6_1 + 2)) : Int).toNat), .int .i64 0, .int .i64 x6_1] (fun _ => True) (fun _ => False) rfl rfl ?aP (fun _ hk => hk.elim) ?aF ?aO ?aB ?aS ?aL ?_; (case aP => exact k31_mkM _ _ _ (⟨2, a0.extract (x6_1 : Int).toNat ((wrap64 (x6_1 + 2)) : Int).toNat, 0, x6_1⟩ : S31)); (case aB => exact (by repeat (first | (with_reducible first | exact HB.out | apply below_alloc | apply pw_below_drewN | apply below_drew1) | exact HB.out))); (case aF => exact (fun _ _ => trivial)); (case aO => exact (by (with_reducible repeat (first | apply Kd.R_alloc | apply Kd.R_drewN | apply Kd.R_drew)); exact HO_5.out)); (case aS => exact (below_size (by repeat (first | (with_reducible first | exact HB.out | apply below_alloc | apply pw_below_drewN | apply below_drew1) | exact HB.out)))); (case aL => have := LMc76.out; omega); intro v176 w77 ho hb hg hat; rw [← Ny175.out] at ho; have n0_ := Aside0.mk (hb); have n1_ := Aside0.mk (ho); clear HB; clear HO_5; have HB := n0_; have HO177 := n1_; clear n0_ n1_; clear ho hb hg hat))
                                      go_roundg kj65
                                      case measure => have := HK1.out; have := HJ5.out; have := HJ65.out; omega
                                      case rel => exact ⟨(y175), (wrap64 (x6_1 + 2)), (by first | rfl | (simp; done) | (simp [*]; done)), H', ⟨by have := HK1.out; have := HJ5.out; have := HJ65.out; omega⟩, ⟨by (with_reducible repeat (first | apply Kd.R_alloc | apply Kd.R_drewN | apply Kd.R_drew)); exact HO177.out⟩, ⟨by repeat (first | (with_reducible first | exact HB.out | apply below_alloc | apply pw_below_drewN | apply below_drew1) | exact HB.out)⟩⟩
                                    · rw [if_neg c76] at H
                                      exact absurd H (by simp)
                                  · rw [if_neg c75] at H
                                    exact absurd H (by simp)
                                · rw [if_neg c74] at H
                                  exact absurd H (by simp)
                              · rw [if_neg c73] at H
                                exact absurd H (by simp)
                            · replace c72 := Bool.eq_false_iff.mpr c72
                              subst c72
                              have H1 : ((helmsmanref11_one.f kj65 (bt a0 x6_1)).bind fun t178 => (if t178 = true then (if 0 ≤ x6_1 then (if x6_1 ≤ (wrap64 (x6_1 + 1)) then (if (wrap64 (x6_1 + 1)) ≤ (a0.size : Int) then (if x5_1.length < 3518437208883 then (helmsmanref11_Lex.l0 kj65 a0 (x5_1 ++ [(⟨2, a0.extract (x6_1 : Int).toNat ((wrap64 (x6_1 + 1)) : Int).toNat, 0, x6_1⟩ : S31)]) (wrap64 (x6_1 + 1))) else (none)) else (none)) else (none)) else (none)) else (some (([] : List (S31)), x6_1, 110)))) = some (r1, r2, r3) := by rw [if_neg (show ¬ (false = true) by decide)] at H; exact H
                              clear H
                              have H := H1
                              clear H1
                              replace H := Option.bind_eq_some_iff.mp H
                              obtain ⟨t178, A780, H⟩ := H
                              replace H : (if t178 = true then (if 0 ≤ x6_1 then (if x6_1 ≤ (wrap64 (x6_1 + 1)) then (if (wrap64 (x6_1 + 1)) ≤ (a0.size : Int) then (if x5_1.length < 3518437208883 then (helmsmanref11_Lex.l0 kj65 a0 (x5_1 ++ [(⟨2, a0.extract (x6_1 : Int).toNat ((wrap64 (x6_1 + 1)) : Int).toNat, 0, x6_1⟩ : S31)]) (wrap64 (x6_1 + 1))) else (none)) else (none)) else (none)) else (none)) else (some (([] : List (S31)), x6_1, 110))) = some (r1, r2, r3) := H
                              have A78 := Aside0.mk A780
                              clear A780
                              by_cases c79 : t178 = true
                              · subst c79
                                have H1 : (if 0 ≤ x6_1 then (if x6_1 ≤ (wrap64 (x6_1 + 1)) then (if (wrap64 (x6_1 + 1)) ≤ (a0.size : Int) then (if x5_1.length < 3518437208883 then (helmsmanref11_Lex.l0 kj65 a0 (x5_1 ++ [(⟨2, a0.extract (x6_1 : Int).toNat ((wrap64 (x6_1 + 1)) : Int).toNat, 0, x6_1⟩ : S31)]) (wrap64 (x6_1 + 1))) else (none)) else (none)) else (none)) else (none)) = some (r1, r2, r3) := by rw [if_pos rfl] at H; exact H
                                clear H
                                have H := H1
                                clear H1
                                by_cases c80 : 0 ≤ x6_1
                                · rw [if_pos c80] at H
                                  have c80b0 := eq_true c80
                                  have c80b1 : decide (0 ≤ x6_1) = true := decide_eq_true c80
                                  clear c80
                                  by_cases c81 : x6_1 ≤ (wrap64 (x6_1 + 1))
                                  · rw [if_pos c81] at H
                                    have c81b0 := eq_true c81
                                    have c81b1 : decide (x6_1 ≤ (wrap64 (x6_1 + 1))) = true := decide_eq_true c81
                                    by_cases c82 : (wrap64 (x6_1 + 1)) ≤ (a0.size : Int)
                                    · rw [if_pos c82] at H
                                      have c82b0 := eq_true c82
                                      have c82b1 : decide ((wrap64 (x6_1 + 1)) ≤ (a0.size : Int)) = true := decide_eq_true c82
                                      by_cases c83 : x5_1.length < 3518437208883
                                      · rw [if_pos c83] at H
                                        have LMc83 := Aside0.mk c83
                                        clear c83
                                        obtain ⟨y179, hy179⟩ : ∃ y_ : List (S31), y_ = (x5_1 ++ [(⟨2, a0.extract (x6_1 : Int).toNat ((wrap64 (x6_1 + 1)) : Int).toNat, 0, x6_1⟩ : S31)]) := ⟨_, rfl⟩
                                        replace H : (helmsmanref11_Lex.l0 kj65 a0 y179 (wrap64 (x6_1 + 1))) = some (r1, r2, r3) := by first | (rw [hy179]; with_reducible exact H) | (have H2_ := (Option.bind_some _ _).symm.trans H; rw [hy179]; with_reducible exact H2_) | (have H2_ := (Option.bind_some _ _).symm.trans H; with_reducible exact H2_) | with_reducible exact H | (rw [hy179]; exact H) | exact H
                                        have Ny179 := Aside0.mk hy179
                                        clear hy179
                                        have H' := Aside0.mk H
                                        clear H
                                        go_wp2_with (first | ((with_reducible refine gate_callee (f := 21) rfl ?_); refine goesL_ (some 141) rfl rfl Tryd.func21 (by kernel_rfl) rfl #[.int .u8 (bt a0 x6_1)] rfl (by (try simp only [List.map_toArray, List.map_cons, List.map_nil]); first | done | rfl | (simp only [List.length_drop, List.length_take]; rfl)) ?_; (with_reducible refine (helmsmanref11_one.calls kj65 (bt a0 x6_1) true _ A78.out).mono ?_); rintro e w' ⟨rfl, ⟨nd, rfl⟩⟩; refine ⟨_, rfl, ?_⟩) | ((with_reducible refine gate_builtin (b := .append) (xs := #[.tmp 144, .tmp 151]) rfl ?_); at_builtin; refine Kd.R_append k31 (w0 := w) w.heap.size rfl (.tmp 144) (.tmp 151) 27 31 (.agg #[(.int .i64 0), (.string ⟨#[]⟩), (.int .i64 0), (.int .i64 0)]) 40 rfl Tryd.underlying27 info31 rfl (by decide) (by omega) u5 x5_1 (⟨2, a0.extract (x6_1 : Int).toNat ((wrap64 (x6_1 + 1)) : Int).toNat, 0, x6_1⟩ : S31) [.int .i64 2, .string (a0.extract (x6_1 : Int).toNat ((wrap64 (x6_1 + 1)) : Int).toNat), .int .i64 0, .int .i64 x6_1] (fun _ => True) (fun _ => False) rfl rfl ?aP (fun _ hk => hk.elim) ?aF ?aO ?aB ?aS ?aL ?_; (case aP => exact k31_mkM _ _ _ (⟨2, a0.extract (x6_1 : Int).toNat ((wrap64 (x6_1 + 1)) : Int).toNat, 0, x6_1⟩ : S31)); (case aB => exact (by repeat (first | (with_reducible first | exact HB.out | apply below_alloc | apply pw_below_drewN | apply below_drew1) | exact HB.out))); (case aF => exact (fun _ _ => trivial)); (case aO => exact (by (with_reducible repeat (first | apply Kd.R_alloc | apply Kd.R_drewN | apply Kd.R_drew)); exact HO_5.out)); (case aS => exact (below_size (by repeat (first | (with_reducible first | exact HB.out | apply below_alloc | apply pw_below_drewN | apply below_drew1) | exact HB.out)))); (case aL => have := LMc83.out; omega); intro v180 w84 ho hb hg hat; rw [← Ny179.out] at ho; have n0_ := Aside0.mk (hb); have n1_ := Aside0.mk (ho); clear HB; clear HO_5; have HB := n0_; have HO181 := n1_; clear n0_ n1_; clear ho hb hg hat))
                                        go_roundg kj65
                                        case measure => have := HK1.out; have := HJ5.out; have := HJ65.out; omega
                                        case rel => exact ⟨(y179), ((wrap64 (x6_1 + 1))), (by first | rfl | (simp; done) | (simp [*]; done)), H', ⟨by have := HK1.out; have := HJ5.out; have := HJ65.out; omega⟩, ⟨by (with_reducible repeat (first | apply Kd.R_alloc | apply Kd.R_drewN | apply Kd.R_drew)); exact HO181.out⟩, ⟨by repeat (first | (with_reducible first | exact HB.out | apply below_alloc | apply pw_below_drewN | apply below_drew1) | exact HB.out)⟩⟩
                                      · rw [if_neg c83] at H
                                        exact absurd H (by simp)
                                    · rw [if_neg c82] at H
                                      exact absurd H (by simp)
                                  · rw [if_neg c81] at H
                                    exact absurd H (by simp)
                                · rw [if_neg c80] at H
                                  exact absurd H (by simp)
                              · replace c79 := Bool.eq_false_iff.mpr c79
                                subst c79
                                have H1 : (some (([] : List (S31)), x6_1, 110)) = some (r1, r2, r3) := by rw [if_neg (show ¬ (false = true) by decide)] at H; exact H
                                clear H
                                have H := H1
                                clear H1
                                simp only [Option.some.injEq, Prod.mk.injEq] at H
                                obtain ⟨rfl, rfl, rfl⟩ := H
                                go_wp2_with (first | ((with_reducible refine gate_callee (f := 21) rfl ?_); refine goesL_ (some 141) rfl rfl Tryd.func21 (by kernel_rfl) rfl #[.int .u8 (bt a0 x6_1)] rfl (by (try simp only [List.map_toArray, List.map_cons, List.map_nil]); first | done | rfl | (simp only [List.length_drop, List.length_take]; rfl)) ?_; (with_reducible refine (helmsmanref11_one.calls kj65 (bt a0 x6_1) false _ A78.out).mono ?_); rintro e w' ⟨rfl, ⟨nd, rfl⟩⟩; refine ⟨_, rfl, ?_⟩))
                                go_ret3
                                exact ⟨_, by first | rfl | (simp [errW_none, errW_some] <;> rfl) | (simp [*, errW_none, errW_some] <;> rfl), by first | exact Kd.R_nil _ _ _ _ _ | exact Kd.N_nil _ _ _ _ _ | exact Kd.V_nil _ _ _ _ _ | exact Kd.Q_nil _ _ _ _ _ | exact Kd.S_nil _ _ _ _ _, by repeat (first | (with_reducible first | exact HB.out | apply below_alloc | apply pw_below_drewN | apply below_drew1) | exact HB.out)⟩
          · rw [if_neg c4] at H
            exact absurd H (by simp)
        · rw [if_neg c3] at H
          have c3b0 : decide (x6_1 < (a0.size : Int)) = false := decide_eq_false c3
          clear c3
          simp only [Option.some.injEq, Prod.mk.injEq] at H
          obtain ⟨rfl, rfl, rfl⟩ := H
          go_wp2
          go_ret3
          exact ⟨_, by first | rfl | (simp [errW_none, errW_some] <;> rfl) | (simp [*, errW_none, errW_some] <;> rfl), by (with_reducible repeat (first | apply Kd.R_alloc | apply Kd.R_drewN | apply Kd.R_drew)); exact HO_5.out, by repeat (first | (with_reducible first | exact HB.out | apply below_alloc | apply pw_below_drewN | apply below_drew1) | exact HB.out)⟩

end Go.Proofs.YtlcbdgkkkljfnaaDoor.P
end

section
/- Plain facts on a token. -/
namespace Go.Proofs.YtlcbdgkkkljfnaaDoor.Lx
open Go Go.Proofs

theorem tokF_cons {s : ByteArray} (h0 : 0 < s.size) : tokF s.data.toList = 
    if letB s[0].toNat = true then (if 16 < wh (byB innB) s.data.toList then (0, [], 0, 111) else (0, s.data.toList.take (wh (byB innB) s.data.toList), 0, 0))
    else if digB s[0].toNat = true then (1, s.data.toList.take (wh (byB digB) s.data.toList), (numF (s.data.toList.take (wh (byB digB) s.data.toList))).1, (numF (s.data.toList.take (wh (byB digB) s.data.toList))).2)
    else if signF s.data.toList = [] then (0, [], 0, 110) else (2, signF s.data.toList, 0, 0) := by
  have hd : s.data.toList = s[0] :: s.data.toList.drop 1 := by have := drop_cons s 0 h0; simpa using this
  rw [hd]; rfl

theorem wh_le_size (q : UInt8 → Bool) (s : ByteArray) : wh q s.data.toList ≤ s.size := by
  have := wh_le q s.data.toList
  rw [Array.length_toList] at this
  exact this

/-- What the first bytes are, for which q holds. -/
theorem take_wh (q : UInt8 → Bool) : ∀ (l : List UInt8), ∀ b ∈ l.take (wh q l), q b = true
  | [], b, h => by simp at h
  | c :: l, b, h => by
    rw [wh_cons] at h
    split at h
    · rw [Nat.add_comm, List.take_succ_cons] at h
      rcases List.mem_cons.mp h with rfl | h'
      · assumption
      · exact take_wh q l b h'
    · simp at h

end Go.Proofs.YtlcbdgkkkljfnaaDoor.Lx
end

section
/- What Lex comes to, on lists of bytes: of the program's text and of the document's. -/
namespace Go.Proofs.YtlcbdgkkkljfnaaDoor.P
open Go Go.RowKit Go.Proofs Go.Proofs.YtlcbdgkkkljfnaaDoor.Lx
open Go.Proofs.YtlcbdgkkkljfnaaDoorW.PrintWords

theorem Ev.yes {α : Type} {c : Prop} [Decidable c] {f g : Nat → Option α} {r : α} (h : c) (k : Ev f r) : Ev (fun n => if c then f n else g n) r := Ev.congr (fun _ => if_pos h) k
theorem Ev.no {α : Type} {c : Prop} [Decidable c] {f g : Nat → Option α} {r : α} (h : ¬ c) (k : Ev g r) : Ev (fun n => if c then f n else g n) r := Ev.congr (fun _ => if_neg h) k
theorem Ev.then {α β : Type} {a : α} {f : Nat → α → Option β} {r : β} {o : Option α} (h : o = some a) (k : Ev (fun n => f n a) r) : Ev (fun n => o.bind (f n)) r := by
  subst h; exact k

/-- A token: kind, bytes, number, place. -/
abbrev Tk := Int × List UInt8 × Int × Nat
inductive LexR where
  | ok (l : List Tk)
  | no (at' : Nat) (e : Int)
def LexR.cons (t : Tk) : LexR → LexR
  | .ok l => .ok (t :: l)
  | .no a e => .no a e
/-- The tokens of what begins with one, at a place. -/
def lexS : Nat → Nat → List UInt8 → LexR
  | 0, _, _ => .ok []
  | _ + 1, _, [] => .ok []
  | f + 1, a, c :: r =>
    if (tokF (c :: r)).2.2.2 = 0 then
      (lexS f (a + (tokF (c :: r)).2.1.length + skip false ((c :: r).drop (tokF (c :: r)).2.1.length)) (((c :: r).drop (tokF (c :: r)).2.1.length).drop (skip false ((c :: r).drop (tokF (c :: r)).2.1.length)))).cons ((tokF (c :: r)).1, (tokF (c :: r)).2.1, (tokF (c :: r)).2.2.1, a)
    else .no a (tokF (c :: r)).2.2.2
def lexA (l : List UInt8) : LexR := lexS l.length (skip false l) (l.drop (skip false l))
/-- What is handed back. -/
def tok32 (t : Tk) : S32 := ⟨t.1, strOf t.2.1, t.2.2.1, t.2.2.2⟩
def tok31 (t : Tk) : S31 := ⟨t.1, strOf t.2.1, t.2.2.1, t.2.2.2⟩
def out32 (n : Nat) (pre : List S32) : LexR → List S32 × Int × Int
  | .ok l => (pre ++ l.map tok32, n, 0)
  | .no a e => ([], a, e)
def out31 (n : Nat) (pre : List S31) : LexR → List S31 × Int × Int
  | .ok l => (pre ++ l.map tok31, n, 0)
  | .no a e => ([], a, e)

/-! ### Bytes -/
theorem bt_list (s : ByteArray) (i : Nat) (h : i < s.size) : bt s i = ((s[i]'h).toNat : Int) := by
  unfold bt
  simp [h]
theorem strOf_self (s : ByteArray) : strOf s.data.toList = s := by
  cases s; rfl
theorem extract_drop (s : ByteArray) (a : Nat) : s.extract a s.size = strOf (s.data.toList.drop a) := by
  apply ByteArray.ext
  apply Array.toList_inj.mp
  rw [Lib.extract_to_end]
  simp [strOf]
theorem extract_take' (s : ByteArray) (k : Nat) : s.extract 0 k = strOf (s.data.toList.take k) := by
  apply ByteArray.ext
  apply Array.toList_inj.mp
  rw [Lib.extract_data]
  simp [strOf]
theorem toList_data (s : ByteArray) : s.toList = s.data.toList := by
  have := Lib.extract_toList s 0 s.size
  have h2 := Lib.extract_data s 0 s.size
  have e : s.extract 0 s.size = s := by
    apply ByteArray.ext
    apply Array.toList_inj.mp
    rw [h2]
    simp
    exact List.take_of_length_le (by simp)
  rw [e] at this h2
  rw [this]; exact h2.symm
theorem size_list (s : ByteArray) : s.size = s.data.toList.length := (Array.length_toList).symm

theorem wrap32_small {x : Int} (h0 : 0 ≤ x) (h : x ≤ 255) : wrap32 x = x := by unfold wrap32; omega
theorem wrap64_small {x : Int} (h0 : -9223372036854775808 ≤ x) (h : x < 9223372036854775808) : wrap64 x = x := by unfold wrap64; omega

theorem whole_wh (q : UInt8 → Bool) (l : List UInt8) : (l.take (wh q l)).all q = true := List.all_eq_true.mpr (take_wh q l)
/-- The token that begins a text, as the printed function tells it. -/
theorem token_eq (s : ByteArray) (h0 : 0 < s.size) : lexer_token.f s = some ((tokF s.data.toList).1, strOf (tokF s.data.toList).2.1, (tokF s.data.toList).2.2.1, 0, (tokF s.data.toList).2.2.2) := by
  have hb := s[0].toNat_lt
  have hw : wrap32 (bt s 0) = ((s[0].toNat : Nat) : Int) := by
    rw [show (0 : Int) = ((0 : Nat) : Int) from rfl, bt_list s 0 h0]
    exact wrap32_small (by omega) (by omega)
  have hi := wh_le_size (byB innB) s
  have hg := wh_le_size (byB digB) s
  unfold lexer_token.f
  rw [if_pos (by omega), tokF_cons h0, hw]
  unfold lexer_letter.f lexer_digit.f lexer_while_inner.f lexer_while_digit.f lexer_sign.f
  simp only [Int.toNat_natCast, if_pos (Int.natCast_nonneg _), Option.bind_some]
  by_cases h1 : letB s[0].toNat = true
  · simp only [if_pos h1]
    by_cases h2 : 16 < wh (byB innB) s.data.toList
    · rw [if_pos (by omega), if_pos h2]; rfl
    · rw [if_neg (by omega), if_neg h2, if_pos (by omega), extract_take']
  · simp only [if_neg h1]
    by_cases h2 : digB s[0].toNat = true
    · simp only [if_pos h2]
      rw [if_pos (by omega), extract_take']
      unfold lexer_number.f
      rw [strOf_list, if_pos (whole_wh _ _)]
      rfl
    · simp only [if_neg h2]
      rw [toList_data, strOf_list]
      by_cases h3 : signF s.data.toList = []
      · rw [if_pos h3, if_pos h3]; rfl
      · rw [if_neg h3, if_neg h3]

theorem nothing_eq (s : ByteArray) (h : s.size ≤ 5000) : lexer_nothing.f s = some (skip false s.data.toList : Int) := by
  unfold lexer_nothing.f
  rw [if_pos (by omega)]

theorem take_len {q : UInt8 → Bool} {l : List UInt8} : (l.take (wh q l)).length = wh q l := by
  rw [List.length_take]; have := wh_le q l; omega
theorem sign_len (l : List UInt8) : (signF l).length ≤ l.length := by
  have h : ∀ (xs : List (List UInt8)) (b : List UInt8), b.length ≤ l.length → (xs.foldl (better l) b).length ≤ l.length := by
    intro xs
    induction xs with
    | nil => intro b hb; exact hb
    | cons x xs ih =>
      intro b hb
      rw [List.foldl_cons]
      apply ih
      unfold better
      split
      · rename_i h
        exact List.IsPrefix.length_le (List.isPrefixOf_iff_prefix.mp h.1)
      · exact hb
  exact h _ _ (Nat.zero_le _)
/-- A token that may be has bytes of the text. -/
theorem tokF_len : ∀ (l : List UInt8), (tokF l).2.1.length ≤ l.length
  | [] => Nat.le_refl _
  | c :: r => by
    simp only [tokF]
    split
    · split
      · exact Nat.zero_le _
      · exact List.length_take_le' _ _
    · split
      · exact List.length_take_le' _ _
      · split
        · exact Nat.zero_le _
        · exact sign_len _
theorem tokF_pos (c : UInt8) (r : List UInt8) (h : (tokF (c :: r)).2.2.2 = 0) : 1 ≤ (tokF (c :: r)).2.1.length := by
  simp only [tokF] at h ⊢
  split at h
  · rename_i hl
    rw [if_pos hl]
    split at h
    · cases h
    · rename_i h2
      rw [if_neg h2]
      simp only
      rw [take_len, wh_cons, if_pos (by unfold byB at hl ⊢; unfold innB; simp [hl])]
      omega
  · rename_i hl
    rw [if_neg hl]
    split at h
    · rename_i hd
      rw [if_pos hd]
      simp only
      rw [take_len, wh_cons, if_pos hd]
      omega
    · rename_i hd
      rw [if_neg hd]
      split at h
      · cases h
      · rename_i h2
        rw [if_neg h2]
        simp only
        cases hs : signF (c :: r) with
        | nil => exact absurd hs h2
        | cons a b => simp

/-- The program's loop, from a place on. -/
theorem lex_loop (s : ByteArray) (hs : s.size ≤ 4096) : ∀ (f a : Nat) (pre : List S32), a ≤ s.size → s.size ≤ a + f → pre.length ≤ a →
    Ev (fun k => lexer_Lex.l0 k s pre (a : Int)) (out32 s.size pre (lexS f a (s.data.toList.drop a))) := by
  intro f
  induction f with
  | zero =>
    intro a pre ha hf hp
    refine Ev.step (fun k => lexer_Lex.l0.eq_2 _ _ _ k) ?_
    refine Ev.no (by omega) ?_
    simp only [lexS, out32, List.map_nil, List.append_nil]
    exact Ev.now _
  | succ f ih =>
    intro a pre ha hf hp
    refine Ev.step (fun k => lexer_Lex.l0.eq_2 _ _ _ k) ?_
    by_cases hlt : a < s.size
    · have hd := drop_cons s a hlt
      have hsz : (strOf (s.data.toList.drop a)).size = s.size - a := by rw [strOf_size, List.length_drop, ← size_list]
      refine Ev.yes (by omega) (Ev.yes (by omega) (Ev.yes (by omega) ?_))
      rw [Int.toNat_natCast, extract_drop]
      refine Ev.then (token_eq _ (by omega)) ?_
      rw [strOf_list]
      simp only
      have hle := tokF_len (s.data.toList.drop a)
      have hll : (s.data.toList.drop a).length = s.size - a := by rw [List.length_drop, ← size_list]
      have hone : lexS (f + 1) a (s.data.toList.drop a) = if (tokF (s.data.toList.drop a)).2.2.2 = 0 then
          (lexS f (a + (tokF (s.data.toList.drop a)).2.1.length + skip false ((s.data.toList.drop a).drop (tokF (s.data.toList.drop a)).2.1.length)) (((s.data.toList.drop a).drop (tokF (s.data.toList.drop a)).2.1.length).drop (skip false ((s.data.toList.drop a).drop (tokF (s.data.toList.drop a)).2.1.length)))).cons ((tokF (s.data.toList.drop a)).1, (tokF (s.data.toList.drop a)).2.1, (tokF (s.data.toList.drop a)).2.2.1, a)
        else .no a (tokF (s.data.toList.drop a)).2.2.2 := by rw [hd]; rfl
      by_cases he : (tokF (s.data.toList.drop a)).2.2.2 = 0
      · rw [hone, if_pos he]
        have hpos : 1 ≤ (tokF (s.data.toList.drop a)).2.1.length := by rw [hd] at he ⊢; exact tokF_pos _ _ he
        generalize ht : tokF (s.data.toList.drop a) = t at *
        have hw1 : wrap64 ((a : Int) + ((strOf t.2.1).size : Int)) = ((a + t.2.1.length : Nat) : Int) := by rw [strOf_size]; rw [wrap64_small (by omega) (by omega)]; omega
        refine Ev.yes he (Ev.yes (by omega) ?_)
        rw [hw1]
        refine Ev.yes (by omega) (Ev.yes (by omega) ?_)
        rw [Int.toNat_natCast, extract_drop]
        have hsk := skip_le false ((s.data.toList.drop a).drop t.2.1.length)
        rw [List.drop_drop] at hsk ⊢
        refine Ev.then (nothing_eq _ (by rw [strOf_size, List.length_drop, ← size_list]; omega)) ?_
        rw [strOf_list]
        rw [List.length_drop, ← size_list] at hsk
        generalize skip false (s.data.toList.drop (a + t.2.1.length)) = sk at *
        rw [wrap64_small (by omega) (by omega), List.drop_drop]
        have := ih (a + t.2.1.length + sk) (pre ++ [⟨t.1, strOf t.2.1, t.2.2.1, a⟩]) (by omega) (by omega) (by simp; omega)
        rw [show ((a + t.2.1.length + sk : Nat) : Int) = ((a + t.2.1.length : Nat) : Int) + (sk : Int) from by omega] at this
        cases hx : lexS f (a + t.2.1.length + sk) (s.data.toList.drop (a + t.2.1.length + sk)) with
        | ok l =>
          rw [hx] at this
          simp only [out32, LexR.cons, List.map_cons, tok32] at this ⊢
          rw [List.append_assoc] at this
          exact this
        | no b e =>
          rw [hx] at this
          exact this
      · rw [hone, if_neg he]
        refine Ev.no he ?_
        exact Ev.now _
    · refine Ev.no (by omega) ?_
      have : s.data.toList.drop a = [] := List.drop_eq_nil_of_le (by rw [← size_list]; omega)
      rw [this]
      simp only [lexS, out32, List.map_nil, List.append_nil]
      exact Ev.now _

theorem lex_ev (s : ByteArray) (hs : s.size ≤ 4096) : Ev (fun k => lexer_Lex.f k s) (out32 s.size [] (lexA s.data.toList)) := by
  unfold lexer_Lex.f
  refine Ev.no (by omega) (Ev.then (nothing_eq s (by omega)) ?_)
  have h := skip_le false s.data.toList
  rw [← size_list] at h
  have := lex_loop s hs s.data.toList.length (skip false s.data.toList) [] h (by rw [← size_list]; omega) (Nat.zero_le _)
  exact this
theorem lex_long (s : ByteArray) (hs : ¬ s.size ≤ 4096) : Ev (fun k => lexer_Lex.f k s) ([], 0, 111) := by
  unfold lexer_Lex.f
  refine Ev.yes (by omega) (Ev.now _)
end Go.Proofs.YtlcbdgkkkljfnaaDoor.P
end

section
/- The longest sign that begins a text, by its first two bytes. -/
namespace Go.Proofs.YtlcbdgkkkljfnaaDoor.Lx
open Go

def twoB (a b : UInt8) : Bool := (b == 61 && (a == 61 || a == 33 || a == 60 || a == 62)) || (a == 38 && b == 38) || (a == 124 && b == 124)
def ones : List UInt8 := [123, 125, 40, 41, 91, 93, 59, 58, 44, 61, 60, 62, 43, 45, 42, 47, 33]
def oneB (a : UInt8) : Bool := ones.contains a

theorem better_no {l b x : List UInt8} (h : x.isPrefixOf l = false) : better l b x = b := by unfold better; rw [h]; simp
theorem signF_one (a : UInt8) : signF [a] = if oneB a = true then [a] else [] := by
  by_cases h : a ∈ ones
  · have : oneB a = true := by unfold oneB; simpa using h
    rw [if_pos this]
    simp only [ones, List.mem_cons, List.not_mem_nil, or_false] at h
    rcases h with rfl | rfl | rfl | rfl | rfl | rfl | rfl | rfl | rfl | rfl | rfl | rfl | rfl | rfl | rfl | rfl | rfl <;> rfl
  · have : oneB a = false := by unfold oneB; simpa using h
    rw [this]
    simp only [ones, List.mem_cons, List.not_mem_nil, or_false, not_or] at h
    have h' := h
    simp only [@eq_comm UInt8 a] at h'
    simp [signF, signsL, better, List.isPrefixOf, h']
theorem signF_two (a b : UInt8) (r : List UInt8) : signF (a :: b :: r) = if twoB a b = true then [a, b] else if oneB a = true then [a] else [] := by
  by_cases h : a ∈ ones
  · simp only [ones, List.mem_cons, List.not_mem_nil, or_false] at h
    by_cases hb : b = 61
    · subst hb
      rcases h with rfl | rfl | rfl | rfl | rfl | rfl | rfl | rfl | rfl | rfl | rfl | rfl | rfl | rfl | rfl | rfl | rfl <;> rfl
    · have hb' : ((61 : UInt8) == b) = false := by simpa using Ne.symm hb
      have hb2 : (b == (61 : UInt8)) = false := by simpa using hb
      rcases h with rfl | rfl | rfl | rfl | rfl | rfl | rfl | rfl | rfl | rfl | rfl | rfl | rfl | rfl | rfl | rfl | rfl <;> simp [signF, signsL, better, List.isPrefixOf, twoB, oneB, ones, hb, Ne.symm hb]
  · have ho : oneB a = false := by unfold oneB; simpa using h
    rw [ho]
    by_cases h1 : a = 38
    · subst h1
      by_cases hb : b = 38
      · subst hb; rfl
      · simp [signF, signsL, better, List.isPrefixOf, twoB, hb, Ne.symm hb]
    · by_cases h2 : a = 124
      · subst h2
        by_cases hb : b = 124
        · subst hb; rfl
        · simp [signF, signsL, better, List.isPrefixOf, twoB, hb, Ne.symm hb]
      · simp only [ones, List.mem_cons, List.not_mem_nil, or_false, not_or] at h
        have h' := h
        simp only [@eq_comm UInt8 a] at h'
        simp [signF, signsL, better, List.isPrefixOf, twoB, h, h', h1, h2, Ne.symm h1, Ne.symm h2]
end Go.Proofs.YtlcbdgkkkljfnaaDoor.Lx
end

section
/- What the document's Lex comes to: the same. -/
namespace Go.Proofs.YtlcbdgkkkljfnaaDoor.P
open Go Go.RowKit Go.Proofs Go.Proofs.YtlcbdgkkkljfnaaDoor.Lx
open Go.Proofs.YtlcbdgkkkljfnaaDoorW.PrintWords

theorem ref_letter (n : Nat) : helmsmanref11_letter.f (n : Int) = some (letB n) := by
  unfold helmsmanref11_letter.f letB
  have z1 : ((n : Int) ≥ 97) ↔ 97 ≤ n := by omega
  have z2 : ((n : Int) ≤ 122) ↔ n ≤ 122 := by omega
  have z3 : ((n : Int) ≥ 65) ↔ 65 ≤ n := by omega
  have z4 : ((n : Int) ≤ 90) ↔ n ≤ 90 := by omega
  by_cases h1 : 97 ≤ n <;> by_cases h2 : n ≤ 122 <;> by_cases h3 : 65 ≤ n <;> by_cases h4 : n ≤ 90 <;> simp [z1, z2, z3, z4, h1, h2, h3, h4]
theorem ref_digit (n : Nat) : helmsmanref11_digit.f (n : Int) = some (digB n) := by
  unfold helmsmanref11_digit.f digB
  have z1 : ((n : Int) ≥ 48) ↔ 48 ≤ n := by omega
  have z2 : ((n : Int) ≤ 57) ↔ n ≤ 57 := by omega
  by_cases h1 : 48 ≤ n <;> by_cases h2 : n ≤ 57 <;> simp [z1, z2, h1, h2]

def okN : Option Int → Option Int
  | none => none
  | some v => if 1152921504606846976 < v then none else some v
theorem okN_big : ∀ (l : List UInt8) (m : Int), 1152921504606846976 < m → okN (numL m l) = none
  | [], m, h => by simp [numL, okN, h]
  | c :: l, m, h => by
    simp only [numL]
    rw [if_pos (by omega)]; rfl
theorem numF_ok (l : List UInt8) : numF l = match okN (numL 0 l) with | none => (0, 111) | some v => if 40 < l.length then (0, 111) else (v, 0) := by
  unfold numF
  cases h : numL 0 l with
  | none => rfl
  | some n =>
    simp only [okN]
    by_cases h1 : 1152921504606846976 < n
    · rw [if_pos (.inr h1), if_pos h1]
    · rw [if_neg h1]
      by_cases h2 : 40 < l.length
      · rw [if_pos (.inl h2)]; simp only; rw [if_pos h2]
      · rw [if_neg (by omega)]; simp only; rw [if_neg h2]
def numR (n : Nat) : Option Int → Int × Bool
  | none => (0, false)
  | some v => (v, decide ((n : Int) ≤ 40))
theorem number_loop (s : ByteArray) (hs : s.size ≤ 5000) (hdig : ∀ b ∈ s.data.toList, byB digB b = true) : ∀ (d i : Nat) (m : Int), i ≤ s.size → s.size = i + d → 0 ≤ m → m ≤ 1152921504606846976 →
    Ev (fun k => helmsmanref11_Number.l0 k s m (i : Int)) (numR s.size (okN (numL m (s.data.toList.drop i)))) := by
  intro d
  induction d with
  | zero =>
    intro i m h1 h2 h3 h4
    refine Ev.step (fun k => helmsmanref11_Number.l0.eq_2 _ _ _ k) ?_
    refine Ev.no (by omega) ?_
    have : s.data.toList.drop i = [] := List.drop_eq_nil_of_le (by rw [← size_list]; omega)
    rw [this]
    simp only [numL, okN]
    rw [if_neg (by omega)]
    exact Ev.now _
  | succ d ih =>
    intro i m h1 h2 h3 h4
    refine Ev.step (fun k => helmsmanref11_Number.l0.eq_2 _ _ _ k) ?_
    have hlt : i < s.size := by omega
    refine Ev.yes (by omega) ?_
    have hd := drop_cons s i hlt
    have hdg := hdig (s[i]'hlt) (by
      have : s[i]'hlt ∈ s.data.toList.drop i := by rw [hd]; exact List.mem_cons_self
      exact List.mem_of_mem_drop this)
    unfold byB digB at hdg
    simp only [Bool.and_eq_true, decide_eq_true_eq] at hdg
    rw [hd]
    simp only [numL]
    by_cases hb : m > 115292150460684697
    · rw [if_pos hb]
      exact Ev.yes hb (Ev.now _)
    · rw [if_neg hb]
      refine Ev.no hb (Ev.yes (by omega) ?_)
      have hbt := bt_list s i hlt
      have hw : wrap64 (wrap64 (wrap64 (m * 10) - 48) + wrap64 (bt s (i : Int))) = 10 * m + (((s[i]'hlt).toNat : Int) - 48) := by
        rw [hbt]; unfold wrap64; omega
      rw [hw]
      by_cases hc : 10 * m + (((s[i]'hlt).toNat : Int) - 48) > 1152921504606846976
      · rw [okN_big _ _ hc]
        exact Ev.yes hc (Ev.now _)
      · refine Ev.no hc ?_
        rw [wrap64_small (by omega) (by omega)]
        have := ih (i + 1) (10 * m + (((s[i]'hlt).toNat : Int) - 48)) (by omega) (by omega) (by omega) (by omega)
        exact this
theorem number_ev (s : ByteArray) (hs : s.size ≤ 5000) (hdig : ∀ b ∈ s.data.toList, byB digB b = true) :
    Ev (fun k => helmsmanref11_Number.f k s) (numR s.size (okN (numL 0 s.data.toList))) := by
  unfold helmsmanref11_Number.f
  have := number_loop s hs hdig s.size 0 0 (by omega) (by omega) (by omega) (by omega)
  exact this

theorem one_loop (c : Nat) (s : ByteArray) (hs : s.size ≤ 5000) : ∀ (d i : Nat), i ≤ s.size → s.size = i + d →
    Ev (fun k => helmsmanref11_one.l0 k (c : Int) s (i : Int)) ((s.data.toList.drop i).any fun b => b.toNat == c) := by
  intro d
  induction d with
  | zero =>
    intro i h1 h2
    refine Ev.step (fun k => helmsmanref11_one.l0.eq_2 _ _ _ k) ?_
    refine Ev.no (by omega) ?_
    have : s.data.toList.drop i = [] := List.drop_eq_nil_of_le (by rw [← size_list]; omega)
    rw [this]
    exact Ev.now _
  | succ d ih =>
    intro i h1 h2
    refine Ev.step (fun k => helmsmanref11_one.l0.eq_2 _ _ _ k) ?_
    have hlt : i < s.size := by omega
    refine Ev.yes (by omega) (Ev.yes (by omega) ?_)
    rw [drop_cons s i hlt, bt_list s i hlt, List.any_cons]
    by_cases hc : (s[i]'hlt).toNat = c
    · rw [show ((s[i]'hlt).toNat == c) = true by simpa using hc, Bool.true_or]
      exact Ev.yes (by omega) (Ev.now _)
    · rw [show ((s[i]'hlt).toNat == c) = false by simpa using hc, Bool.false_or]
      refine Ev.no (by omega) ?_
      rw [wrap64_small (by omega) (by omega)]
      exact ih (i + 1) (by omega) (by omega)
theorem nat_beq (a c : UInt8) : (a.toNat == c.toNat) = (a == c) := by
  by_cases h : a = c
  · rw [h, beq_self_eq_true, beq_self_eq_true]
  · have h2 : a.toNat ≠ c.toNat := fun e => h (UInt8.toNat_inj.mp e)
    rw [beq_eq_false_iff_ne.mpr h2, beq_eq_false_iff_ne.mpr h]
theorem any_ones (c : UInt8) (l : List UInt8) : (l.any fun b => b.toNat == c.toNat) = l.contains c := by
  induction l with
  | nil => rfl
  | cons a l ih => rw [List.any_cons, List.contains_cons, ih, nat_beq, Bool.beq_comm]
theorem one_ev (c : UInt8) : Ev (fun k => helmsmanref11_one.f k (c.toNat : Int)) (oneB c) := by
  unfold helmsmanref11_one.f
  have := one_loop c.toNat ⟨#[123, 125, 40, 41, 91, 93, 59, 58, 44, 61, 60, 62, 43, 45, 42, 47, 33]⟩ (by decide) 17 0 (by decide) (by decide)
  rw [List.drop_zero, any_ones] at this
  exact this
theorem two_eq (a b : UInt8) : helmsmanref11_two.f (strOf [a, b]) = some (twoB a b) := by
  unfold helmsmanref11_two.f
  rw [toList_data, strOf_list]
  unfold twoB
  by_cases h1 : b = 61
  · subst h1
    by_cases h2 : a = 61
    · subst h2; rfl
    · by_cases h3 : a = 33
      · subst h3; rfl
      · by_cases h4 : a = 60
        · subst h4; rfl
        · by_cases h5 : a = 62
          · subst h5; rfl
          · simp [h2, h3, h4, h5]
  · by_cases h2 : b = 38
    · subst h2
      by_cases h3 : a = 38
      · subst h3; rfl
      · simp [h3]
    · simp [h1, h2]
end Go.Proofs.YtlcbdgkkkljfnaaDoor.P
end

section
/- The document's Lex, place by place. -/
namespace Go.Proofs.YtlcbdgkkkljfnaaDoor.P
open Go Go.RowKit Go.Proofs Go.Proofs.YtlcbdgkkkljfnaaDoor.Lx
open Go.Proofs.YtlcbdgkkkljfnaaDoorW.PrintWords

abbrev Out := List S31 × Int × Int
theorem drop_end (s : ByteArray) (i : Nat) (h : ¬ i < s.size) : s.data.toList.drop i = [] := List.drop_eq_nil_of_le (by rw [← size_list]; omega)

/-- A remark. -/
theorem ref_l1 (s : ByteArray) (hs : s.size ≤ 5000) (pre : List S31) (R : Out) : ∀ (d j : Nat), j ≤ s.size → s.size = j + d →
    Ev (fun k => helmsmanref11_Lex.l0 k s pre ((j + wh (byB noNl) (s.data.toList.drop j) : Nat) : Int)) R → Ev (fun k => helmsmanref11_Lex.l1 k s pre (j : Int)) R := by
  intro d
  induction d with
  | zero =>
    intro j h1 h2 h
    refine Ev.step (fun k => helmsmanref11_Lex.l1.eq_2 _ _ _ k) ?_
    refine Ev.no (by omega) ?_
    rw [drop_end s j (by omega), wh_nil] at h
    exact h
  | succ d ih =>
    intro j h1 h2 h
    have hlt : j < s.size := by omega
    refine Ev.step (fun k => helmsmanref11_Lex.l1.eq_2 _ _ _ k) ?_
    refine Ev.yes (by omega) (Ev.yes (by omega) ?_)
    rw [bt_list s j hlt]
    rw [drop_cons s j hlt, wh_cons] at h
    by_cases h10 : (s[j]'hlt).toNat = 10
    · rw [if_neg (by unfold byB noNl; simp [h10])] at h
      exact Ev.yes (by omega) h
    · rw [if_pos (by unfold byB noNl; simp [h10])] at h
      refine Ev.no (by omega) ?_
      rw [wrap64_small (by omega) (by omega)]
      have := ih (j + 1) (by omega) (by omega) (by rw [show j + 1 + wh (byB noNl) (s.data.toList.drop (j + 1)) = j + (1 + wh (byB noNl) (s.data.toList.drop (j + 1))) by omega]; exact h)
      exact this

def exit2 (k : Nat) (x0 : ByteArray) (x5 : List S31) (x6 x8 : Int) : Option Out :=
  if (wrap64 (x8 - x6)) > 16 then (some (([] : List (S31)), x6, 111)) else (if 0 ≤ x6 then (if x6 ≤ x8 then (if x8 ≤ (x0.size : Int) then (if x5.length < 3518437208883 then (helmsmanref11_Lex.l0 k x0 (x5 ++ [(⟨0, x0.extract (x6 : Int).toNat (x8 : Int).toNat, 0, x6⟩ : S31)]) x8) else (none)) else (none)) else (none)) else (none))
theorem ref_l2 (s : ByteArray) (hs : s.size ≤ 5000) (pre : List S31) (a : Int) (R : Out) : ∀ (d j : Nat), j ≤ s.size → s.size = j + d →
    Ev (fun k => exit2 k s pre a ((j + wh (byB innB) (s.data.toList.drop j) : Nat) : Int)) R → Ev (fun k => helmsmanref11_Lex.l2 k s pre a (j : Int)) R := by
  intro d
  induction d with
  | zero =>
    intro j h1 h2 h
    refine Ev.step (fun k => helmsmanref11_Lex.l2.eq_2 _ _ _ _ k) ?_
    refine Ev.no (by omega) ?_
    rw [drop_end s j (by omega), wh_nil] at h
    exact h
  | succ d ih =>
    intro j h1 h2 h
    have hlt : j < s.size := by omega
    refine Ev.step (fun k => helmsmanref11_Lex.l2.eq_2 _ _ _ _ k) ?_
    refine Ev.yes (by omega) (Ev.yes (by omega) ?_)
    rw [bt_list s j hlt]
    rw [drop_cons s j hlt, wh_cons] at h
    have step : byB innB (s[j]'hlt) = true → Ev (fun k => helmsmanref11_Lex.l2 k s pre a (wrap64 ((j : Int) + 1))) R := fun hi => by
      rw [if_pos hi] at h
      rw [wrap64_small (by omega) (by omega)]
      have := ih (j + 1) (by omega) (by omega) (by rw [show j + 1 + wh (byB innB) (s.data.toList.drop (j + 1)) = j + (1 + wh (byB innB) (s.data.toList.drop (j + 1))) by omega]; exact h)
      exact this
    refine Ev.then (ref_letter _) ?_
    by_cases hl : letB (s[j]'hlt).toNat = true
    · refine Ev.yes hl (step (by unfold byB innB; simp [hl]))
    · refine Ev.no hl (Ev.then (ref_digit _) ?_)
      by_cases hd : digB (s[j]'hlt).toNat = true
      · refine Ev.yes hd (step (by unfold byB innB; simp [hd]))
      · refine Ev.no hd ?_
        by_cases h95 : (s[j]'hlt).toNat = 95
        · exact Ev.yes (by omega) (step (by unfold byB innB; simp [h95]))
        · refine Ev.no (by omega) ?_
          rw [if_neg (by unfold byB innB; simp [hl, hd, h95])] at h
          exact h

def exit3 (k : Nat) (x0 : ByteArray) (x5 : List S31) (x6 x8 : Int) : Option Out :=
  if 0 ≤ x6 then (if x6 ≤ x8 then (if x8 ≤ (x0.size : Int) then ((helmsmanref11_Number.f k (x0.extract (x6 : Int).toNat (x8 : Int).toNat)).bind fun bt133 => (if bt133.2 = true then (if x5.length < 3518437208883 then (helmsmanref11_Lex.l0 k x0 (x5 ++ [(⟨1, x0.extract (x6 : Int).toNat (x8 : Int).toNat, bt133.1, x6⟩ : S31)]) x8) else (none)) else (some (([] : List (S31)), x6, 111)))) else (none)) else (none)) else (none)
theorem ref_l3 (s : ByteArray) (hs : s.size ≤ 5000) (pre : List S31) (a : Int) (R : Out) : ∀ (d j : Nat), j ≤ s.size → s.size = j + d →
    Ev (fun k => exit3 k s pre a ((j + wh (byB digB) (s.data.toList.drop j) : Nat) : Int)) R → Ev (fun k => helmsmanref11_Lex.l3 k s pre a (j : Int)) R := by
  intro d
  induction d with
  | zero =>
    intro j h1 h2 h
    refine Ev.step (fun k => helmsmanref11_Lex.l3.eq_2 _ _ _ _ k) ?_
    refine Ev.no (by omega) ?_
    rw [drop_end s j (by omega), wh_nil] at h
    exact h
  | succ d ih =>
    intro j h1 h2 h
    have hlt : j < s.size := by omega
    refine Ev.step (fun k => helmsmanref11_Lex.l3.eq_2 _ _ _ _ k) ?_
    refine Ev.yes (by omega) (Ev.yes (by omega) ?_)
    rw [bt_list s j hlt]
    rw [drop_cons s j hlt, wh_cons] at h
    refine Ev.then (ref_digit _) ?_
    by_cases hd : digB (s[j]'hlt).toNat = true
    · refine Ev.yes hd ?_
      rw [if_pos (show byB digB (s[j]'hlt) = true from hd)] at h
      rw [wrap64_small (by omega) (by omega)]
      have := ih (j + 1) (by omega) (by omega) (by rw [show j + 1 + wh (byB digB) (s.data.toList.drop (j + 1)) = j + (1 + wh (byB digB) (s.data.toList.drop (j + 1))) by omega]; exact h)
      exact this
    · refine Ev.no hd ?_
      rw [if_neg (show ¬ byB digB (s[j]'hlt) = true from hd)] at h
      exact h
end Go.Proofs.YtlcbdgkkkljfnaaDoor.P
end

section
/- The document's Lex and the program's are the same. -/
namespace Go.Proofs.YtlcbdgkkkljfnaaDoor.P
open Go Go.RowKit Go.Proofs Go.Proofs.YtlcbdgkkkljfnaaDoor.Lx
open Go.Proofs.YtlcbdgkkkljfnaaDoorW.PrintWords

theorem lexS_tok (s : ByteArray) (a f : Nat) (h : a < s.size) {k n e : Int} {x : List UInt8} (ht : tokF (s.data.toList.drop a) = (k, x, n, e)) :
    lexS (f + 1) a (s.data.toList.drop a) = if e = 0 then (lexS f (a + x.length + skip false (s.data.toList.drop (a + x.length))) (s.data.toList.drop (a + x.length + skip false (s.data.toList.drop (a + x.length))))).cons (k, x, n, a) else .no a e := by
  have hd := drop_cons s a h
  have h1 : lexS (f + 1) a (s.data.toList.drop a) = if (tokF (s.data.toList.drop a)).2.2.2 = 0 then
          (lexS f (a + (tokF (s.data.toList.drop a)).2.1.length + skip false ((s.data.toList.drop a).drop (tokF (s.data.toList.drop a)).2.1.length)) (((s.data.toList.drop a).drop (tokF (s.data.toList.drop a)).2.1.length).drop (skip false ((s.data.toList.drop a).drop (tokF (s.data.toList.drop a)).2.1.length)))).cons ((tokF (s.data.toList.drop a)).1, (tokF (s.data.toList.drop a)).2.1, (tokF (s.data.toList.drop a)).2.2.1, a)
        else .no a (tokF (s.data.toList.drop a)).2.2.2 := by rw [hd]; rfl
  rw [h1, ht]
  simp only [List.drop_drop]
theorem out31_cons (n : Nat) (pre : List S31) (t : Tk) (r : LexR) : out31 n pre (r.cons t) = out31 n (pre ++ [tok31 t]) r := by
  cases r with
  | ok l => simp [out31, LexR.cons]
  | no b e => rfl
theorem extract_mid (s : ByteArray) (a w : Nat) : s.extract a (a + w) = strOf ((s.data.toList.drop a).take w) := by
  apply ByteArray.ext
  apply Array.toList_inj.mp
  rw [Lib.extract_data]
  simp [strOf]

/-- What the document's loop comes to at a place. -/
def At (s : ByteArray) (f a : Nat) (pre : List S31) : Out := out31 s.size pre (lexS f (a + skip false (s.data.toList.drop a)) (s.data.toList.drop (a + skip false (s.data.toList.drop a))))

theorem at_blank (s : ByteArray) (f a : Nat) (pre : List S31) (h : a < s.size) (hb : s[a].toNat = 32 ∨ s[a].toNat = 9 ∨ s[a].toNat = 10) : At s f a pre = At s f (a + 1) pre := by
  unfold At
  have : skip false (s.data.toList.drop a) = 1 + skip false (s.data.toList.drop (a + 1)) := by rw [drop_cons s a h]; simp only [skip]; rw [if_pos hb]
  rw [this, show a + (1 + skip false (s.data.toList.drop (a + 1))) = a + 1 + skip false (s.data.toList.drop (a + 1)) by omega]
theorem at_remark (s : ByteArray) (f a : Nat) (pre : List S31) (h : a < s.size) (hb : s[a].toNat = 35) : At s f a pre = At s f (a + wh (byB noNl) (s.data.toList.drop a)) pre := by
  have h1 : skip false (s.data.toList.drop a) = skip true (s.data.toList.drop a) := by
    rw [drop_cons s a h]; simp [skip, hb]
  have h2 := skip_true (s.data.toList.drop a)
  rw [List.drop_drop] at h2
  unfold At
  rw [h1, h2]
  simp only [Nat.add_assoc]
theorem at_tok (s : ByteArray) (f a : Nat) (pre : List S31) (h : a < s.size) (hb : ¬ (s[a].toNat = 32 ∨ s[a].toNat = 9 ∨ s[a].toNat = 10)) (h35 : s[a].toNat ≠ 35) {k n e : Int} {x : List UInt8} (ht : tokF (s.data.toList.drop a) = (k, x, n, e)) :
    At s (f + 1) a pre = if e = 0 then At s f (a + x.length) (pre ++ [⟨k, strOf x, n, a⟩]) else ([], a, e) := by
  have h1 : skip false (s.data.toList.drop a) = 0 := by rw [drop_cons s a h]; simp only [skip]; rw [if_neg hb, if_neg h35]
  unfold At
  rw [h1]
  simp only [Nat.add_zero]
  rw [lexS_tok s a f h ht]
  split
  · rw [out31_cons]; rfl
  · rfl
theorem at_end (s : ByteArray) (f a : Nat) (pre : List S31) (h : ¬ a < s.size) : At s f a pre = (pre, (s.size : Int), 0) := by
  unfold At
  rw [drop_end s a h, drop_end s _ (by omega)]
  cases f <;> simp [lexS, out31]

set_option maxHeartbeats 1000000 in
theorem ref_loop (s : ByteArray) (hs : s.size ≤ 4096) : ∀ (d a f : Nat) (pre : List S31), a ≤ s.size → s.size = a + d → s.size ≤ a + f → pre.length ≤ a →
    Ev (fun k => helmsmanref11_Lex.l0 k s pre (a : Int)) (At s f a pre) := by
  intro d
  induction d using Nat.strongRecOn with
  | _ d ih =>
  intro a f pre ha hd hf hp
  by_cases hlt : a < s.size
  · have IH : ∀ (a' f' : Nat) (pre' : List S31), a < a' → a' ≤ s.size → s.size ≤ a' + f' → pre'.length ≤ a' → Ev (fun k => helmsmanref11_Lex.l0 k s pre' (a' : Int)) (At s f' a' pre') :=
      fun a' f' pre' h1 h2 h3 h4 => ih (s.size - a') (by omega) a' f' pre' h2 (by omega) h3 h4
    refine Ev.step (fun k => helmsmanref11_Lex.l0.eq_2 _ _ _ k) ?_
    refine Ev.yes (by omega) (Ev.yes (by omega) ?_)
    rw [bt_list s a hlt, wrap64_small (show -9223372036854775808 ≤ (a : Int) + 1 by omega) (by omega)]
    have blank : ∀ b : Bool, b = true → (s[a].toNat = 32 ∨ s[a].toNat = 9 ∨ s[a].toNat = 10) → Ev (fun k => helmsmanref11_Lex.j1 k s pre (a : Int) (s[a].toNat : Int) ((a : Int) + 1) b) (At s f a pre) := by
      intro b hbt hbl
      refine Ev.step (fun k => helmsmanref11_Lex.j1.eq_2 _ _ _ _ _ _ k) ?_
      refine Ev.yes hbt ?_
      rw [at_blank s f a pre hlt hbl]
      exact IH (a + 1) f pre (by omega) (by omega) (by omega) (by omega)
    by_cases h32 : s[a].toNat = 32
    · exact Ev.yes (by omega) (blank true rfl (.inl h32))
    refine Ev.no (by omega) ?_
    by_cases h9 : s[a].toNat = 9
    · exact Ev.yes (by omega) (blank true rfl (.inr (.inl h9)))
    refine Ev.no (by omega) ?_
    by_cases h10 : s[a].toNat = 10
    · exact blank _ (by rw [h10]; rfl) (.inr (.inr h10))
    have hnb : ¬ (s[a].toNat = 32 ∨ s[a].toNat = 9 ∨ s[a].toNat = 10) := by omega
    refine Ev.step (fun k => helmsmanref11_Lex.j1.eq_2 _ _ _ _ _ _ k) ?_
    refine Ev.no (by simp; omega) ?_
    by_cases h35 : s[a].toNat = 35
    · refine Ev.yes (by omega) ?_
      refine ref_l1 s (by omega) pre _ (s.size - a) a ha (by omega) ?_
      have hpos : 1 ≤ wh (byB noNl) (s.data.toList.drop a) := by rw [drop_cons s a hlt, wh_cons, if_pos (by unfold byB noNl; simp [h35])]; omega
      have hle := wh_le (byB noNl) (s.data.toList.drop a)
      rw [List.length_drop, ← size_list] at hle
      rw [at_remark s f a pre hlt h35]
      exact IH _ f pre (by omega) (by omega) (by omega) (by omega)
    refine Ev.no (by omega) ?_
    obtain ⟨g, rfl⟩ : ∃ g, f = g + 1 := ⟨f - 1, by omega⟩
    have hdc := drop_cons s a hlt
    have hll : (s.data.toList.drop a).length = s.size - a := by rw [List.length_drop, ← size_list]
    refine Ev.then (ref_letter _) ?_
    have htok : tokF (s.data.toList.drop a) = 
      if letB s[a].toNat = true then (if 16 < wh (byB innB) (s.data.toList.drop a) then (0, [], 0, 111) else (0, (s.data.toList.drop a).take (wh (byB innB) (s.data.toList.drop a)), 0, 0))
      else if digB s[a].toNat = true then (1, (s.data.toList.drop a).take (wh (byB digB) (s.data.toList.drop a)), (numF ((s.data.toList.drop a).take (wh (byB digB) (s.data.toList.drop a)))).1, (numF ((s.data.toList.drop a).take (wh (byB digB) (s.data.toList.drop a)))).2)
      else if signF (s.data.toList.drop a) = [] then (0, [], 0, 110) else (2, signF (s.data.toList.drop a), 0, 0) := by rw [hdc]; rfl
    by_cases hl : letB s[a].toNat = true
    · refine Ev.yes hl ?_
      rw [if_pos hl] at htok
      have hw : wh (byB innB) (s.data.toList.drop a) = 1 + wh (byB innB) (s.data.toList.drop (a + 1)) := by rw [hdc, wh_cons, if_pos (by unfold byB innB; simp [hl])]
      have hle := wh_le (byB innB) (s.data.toList.drop a)
      have key := ref_l2 s (by omega) pre (a : Int) (At s (g + 1) a pre) (s.size - (a + 1)) (a + 1) (by omega) (by omega)
      rw [show a + 1 + wh (byB innB) (s.data.toList.drop (a + 1)) = a + wh (byB innB) (s.data.toList.drop a) by omega] at key
      refine key ?_
      clear key
      generalize hwd : wh (byB innB) (s.data.toList.drop a) = wd at *
      unfold exit2
      rw [wrap64_small (show -9223372036854775808 ≤ ((a + wd : Nat) : Int) - (a : Int) by omega) (by omega)]
      by_cases h16 : 16 < wd
      · rw [if_pos h16] at htok
        rw [at_tok s g a pre hlt hnb h35 htok]
        exact Ev.yes (by omega) (Ev.now _)
      · rw [if_neg h16] at htok
        rw [at_tok s g a pre hlt hnb h35 htok, if_pos rfl]
        refine Ev.no (by omega) (Ev.yes (by omega) (Ev.yes (by omega) (Ev.yes (by omega) (Ev.yes (by omega) ?_))))
        rw [Int.toNat_natCast, Int.toNat_natCast, extract_mid, List.length_take, Nat.min_eq_left (by omega)]
        exact IH (a + wd) g _ (by omega) (by omega) (by omega) (by simp; omega)
    refine Ev.no hl (Ev.then (ref_digit _) ?_)
    rw [if_neg hl] at htok
    by_cases hdg : digB s[a].toNat = true
    · refine Ev.yes hdg ?_
      rw [if_pos hdg] at htok
      have hw : wh (byB digB) (s.data.toList.drop a) = 1 + wh (byB digB) (s.data.toList.drop (a + 1)) := by rw [hdc, wh_cons, if_pos (show byB digB s[a] = true from hdg)]
      have hle := wh_le (byB digB) (s.data.toList.drop a)
      have key := ref_l3 s (by omega) pre (a : Int) (At s (g + 1) a pre) (s.size - (a + 1)) (a + 1) (by omega) (by omega)
      rw [show a + 1 + wh (byB digB) (s.data.toList.drop (a + 1)) = a + wh (byB digB) (s.data.toList.drop a) by omega] at key
      refine key ?_
      clear key
      have hall := take_wh (byB digB) (s.data.toList.drop a)
      have hnf := numF_ok ((s.data.toList.drop a).take (wh (byB digB) (s.data.toList.drop a)))
      generalize hwd : wh (byB digB) (s.data.toList.drop a) = wd at *
      have hlen : ((s.data.toList.drop a).take wd).length = wd := by rw [List.length_take, Nat.min_eq_left (by omega)]
      unfold exit3
      refine Ev.yes (by omega) (Ev.yes (by omega) (Ev.yes (by omega) ?_))
      rw [Int.toNat_natCast, Int.toNat_natCast, extract_mid]
      refine Ev.bind (number_ev _ (by rw [strOf_size]; omega) (by rw [strOf_list]; exact hall)) ?_
      rw [strOf_list, strOf_size, hlen]
      rw [hlen] at hnf
      cases hok : okN (numL 0 ((s.data.toList.drop a).take wd)) with
      | none =>
        rw [hok] at hnf
        simp only at hnf
        rw [hnf] at htok
        rw [at_tok s g a pre hlt hnb h35 htok]
        exact Ev.no (by simp [numR]) (Ev.now _)
      | some v =>
        rw [hok] at hnf
        simp only at hnf
        by_cases h40 : 40 < wd
        · rw [if_pos h40] at hnf
          rw [hnf] at htok
          rw [at_tok s g a pre hlt hnb h35 htok]
          exact Ev.no (by simp [numR]; omega) (Ev.now _)
        · rw [if_neg h40] at hnf
          rw [hnf] at htok
          rw [at_tok s g a pre hlt hnb h35 htok, if_pos rfl, hlen]
          refine Ev.yes (by simp [numR]; omega) (Ev.yes (by omega) ?_)
          exact IH (a + wd) g _ (by omega) (by omega) (by omega) (by simp; omega)
    refine Ev.no hdg ?_
    rw [if_neg hdg] at htok
    have hone : ∀ b : Bool, b = false → (signF (s.data.toList.drop a) = if oneB s[a] = true then [s[a]] else []) → Ev (fun k => helmsmanref11_Lex.j5 k s pre (a : Int) (s[a].toNat : Int) ((a : Int) + 1) b) (At s (g + 1) a pre) := by
      intro b hb hsg
      refine Ev.step (fun k => helmsmanref11_Lex.j5.eq_2 _ _ _ _ _ _ k) ?_
      refine Ev.no (by rw [hb]; simp) (Ev.bind (one_ev _) ?_)
      by_cases h1 : oneB s[a] = true
      · rw [if_pos h1] at hsg
        rw [hsg, if_neg (by simp)] at htok
        rw [at_tok s g a pre hlt hnb h35 htok, if_pos rfl]
        refine Ev.yes h1 (Ev.yes (by omega) (Ev.yes (by omega) (Ev.yes (by omega) (Ev.yes (by omega) ?_))))
        have he : s.extract (a : Int).toNat ((a : Int) + 1).toNat = strOf [s[a]] := by
          rw [show ((a : Int) + 1).toNat = a + 1 by omega, Int.toNat_natCast, extract_mid, hdc]; rfl
        rw [he]
        exact IH (a + 1) g _ (by omega) (by omega) (by omega) (by simp; omega)
      · rw [if_neg h1] at hsg
        rw [hsg, if_pos rfl] at htok
        rw [at_tok s g a pre hlt hnb h35 htok]
        exact Ev.no h1 (Ev.now _)
    have hw2 : wrap64 ((a : Int) + 2) = ((a + 2 : Nat) : Int) := by rw [wrap64_small (by omega) (by omega)]; omega
    rw [hw2]
    by_cases h2 : a + 2 ≤ s.size
    · refine Ev.yes (by omega) (Ev.yes (by omega) (Ev.yes (by omega) ?_))
      have hdc2 := drop_cons s (a + 1) (by omega)
      have he : s.extract a (a + 2) = strOf [s[a], s[a + 1]] := by rw [extract_mid, hdc, hdc2]; rfl
      rw [Int.toNat_natCast, Int.toNat_natCast, he]
      refine Ev.then (two_eq _ _) ?_
      have hsg : signF (s.data.toList.drop a) = if twoB s[a] s[a + 1] = true then [s[a], s[a + 1]] else if oneB s[a] = true then [s[a]] else [] := by rw [hdc, hdc2]; exact signF_two _ _ _
      by_cases ht : twoB s[a] s[a + 1] = true
      · rw [if_pos ht] at hsg
        rw [hsg, if_neg (by simp)] at htok
        rw [at_tok s g a pre hlt hnb h35 htok, if_pos rfl]
        refine Ev.step (fun k => helmsmanref11_Lex.j5.eq_2 _ _ _ _ _ _ k) ?_
        rw [hw2]
        refine Ev.yes ht (Ev.yes (by omega) (Ev.yes (by omega) (Ev.yes (by omega) (Ev.yes (by omega) ?_))))
        rw [Int.toNat_natCast, Int.toNat_natCast, he]
        exact IH (a + 2) g _ (by omega) (by omega) (by omega) (by simp; omega)
      · rw [if_neg ht] at hsg
        exact hone _ (by simpa using ht) hsg
    · refine Ev.no (by omega) (hone false rfl ?_)
      have : s.data.toList.drop (a + 1) = [] := drop_end s (a + 1) (by omega)
      rw [hdc, this]
      exact signF_one _
  · refine Ev.step (fun k => helmsmanref11_Lex.l0.eq_2 _ _ _ k) ?_
    refine Ev.no (by omega) ?_
    rw [at_end s f a pre hlt]
    exact Ev.now _
theorem ref_lex_ev (s : ByteArray) (hs : s.size ≤ 4096) : Ev (fun k => helmsmanref11_Lex.f k s) (out31 s.size [] (lexA s.data.toList)) := by
  unfold helmsmanref11_Lex.f
  refine Ev.no (by omega) ?_
  have := ref_loop s hs s.size 0 s.data.toList.length [] (by omega) (by omega) (by rw [← size_list]; omega) (Nat.zero_le _)
  unfold At at this
  rw [List.drop_zero, Nat.zero_add] at this
  exact this
theorem ref_lex_long (s : ByteArray) (hs : ¬ s.size ≤ 4096) : Ev (fun k => helmsmanref11_Lex.f k s) ([], 0, 111) := by
  unfold helmsmanref11_Lex.f
  refine Ev.yes (by omega) (Ev.now _)
end Go.Proofs.YtlcbdgkkkljfnaaDoor.P
end

section
/- Tokens are some. -/
namespace Go.Proofs.YtlcbdgkkkljfnaaDoor.P
open Go Go.RowKit Go.Proofs Go.Proofs.YtlcbdgkkkljfnaaDoor.Lx
open Go.Proofs.YtlcbdgkkkljfnaaDoorW.PrintWords

theorem alive_ev : Ev (fun k => helmsmanlaw11_alive.f k) true := Ev.of (fun k => helmsmanlaw11_alive.mono k) (k := 20) (by kernel_rfl)

theorem lexS_len : ∀ (f a : Nat) (l : List UInt8) (x : List Tk), lexS f a l = .ok x → x.length ≤ f
  | 0, a, l, x, h => by simp [lexS] at h; subst h; simp
  | f + 1, a, [], x, h => by simp [lexS] at h; subst h; simp
  | f + 1, a, c :: r, x, h => by
    rw [lexS] at h
    split at h
    · revert h
      generalize hq : lexS f _ _ = q
      intro h
      cases q with
      | ok y =>
        have := lexS_len f _ _ y hq
        simp only [LexR.cons, LexR.ok.injEq] at h
        subst h
        simp; omega
      | no b e => cases h
    · cases h

end Go.Proofs.YtlcbdgkkkljfnaaDoor.P
end

section
/- Whether a token may be. -/
namespace Go.Proofs.YtlcbdgkkkljfnaaDoor.P
open Go Go.RowKit Go.Proofs Go.Proofs.YtlcbdgkkkljfnaaDoor.Lx
open Go.Proofs.YtlcbdgkkkljfnaaDoorW.PrintWords

/-- May a token be? -/
def rightB (k : Int) (s : ByteArray) (n : Int) : Bool :=
  decide (s.size ≤ 4096) && match lexA s.data.toList with
  | .ok [t] => decide (t.1 = k) && (decide (t.2.1 = s.data.toList) && (decide (t.2.2.1 = n) && decide (t.2.2.2 = 0)))
  | _ => false
/-- The same, but for the place: a token that is all of a text stands at 0. -/
theorem one_place (s : List UInt8) (t : Tk) (h : lexA s = .ok [t]) (ht : t.2.1 = s) : t.2.2.2 = 0 := by
  unfold lexA at h
  generalize hk : skip false s = k at *
  cases s with
  | nil => simp [lexS] at h
  | cons c r =>
    rw [List.length_cons] at h
    cases hd : (c :: r).drop k with
    | nil => rw [hd, lexS] at h; simp at h
    | cons a b =>
      rw [hd, lexS] at h
      have hl := tokF_len (a :: b)
      have hll : (a :: b).length = (c :: r).length - k := by rw [← hd, List.length_drop]
      split at h
      · revert h
        generalize lexS r.length _ _ = q
        intro h
        cases q with
        | no _ _ => cases h
        | ok y =>
          simp only [LexR.cons, LexR.ok.injEq, List.cons.injEq] at h
          obtain ⟨h1, _⟩ := h
          subst h1
          simp only at ht ⊢
          rw [ht, hll] at hl
          simp only [List.length_cons] at hl
          omega
      · cases h
theorem right_ev (k : Int) (s : ByteArray) (n a : Int) : Ev (fun m => lexer_Right.f m k s n a) (rightB k s n) := by
  unfold lexer_Right.f rightB
  by_cases h4 : s.size ≤ 4096
  · rw [decide_eq_true h4, Bool.true_and]
    refine Ev.bind (lex_ev s h4) ?_
    cases hx : lexA s.data.toList with
    | no p e =>
      simp only [out32]
      by_cases he : e = 0
      · exact Ev.yes he (Ev.no (by simp) (Ev.now _))
      · exact Ev.no he (Ev.now _)
    | ok l =>
      simp only [out32, List.nil_append, List.length_map]
      refine Ev.yes trivial ?_
      match l with
      | [] => exact Ev.no (by simp) (Ev.now _)
      | [t] =>
        refine Ev.yes (by simp) (Ev.yes (by simp) ?_)
        refine Ev.congr (fun _ => ?_) (Ev.now _)
        have : rd_T32 ([t].map tok32) 0 = tok32 t := rfl
        rw [this]
        simp only [tok32, toList_data, strOf_list, Option.some.injEq]
        by_cases h1 : t.1 = k <;> by_cases h2 : t.2.1 = s.data.toList <;> by_cases h3 : t.2.2.1 = n <;> by_cases h5 : t.2.2.2 = 0 <;> simp [h1, h2, h3, h5]
      | t :: u :: r => exact Ev.no (by simp; omega) (Ev.now _)
  · rw [decide_eq_false h4, Bool.false_and]
    exact Ev.bind (lex_long s h4) (Ev.no (by simp) (Ev.now _))

end Go.Proofs.YtlcbdgkkkljfnaaDoor.P
end

section
/- The plain law of LexerJoins. -/
namespace Go.Proofs.YtlcbdgkkkljfnaaDoor.P
open Go Go.RowKit Go.Proofs Go.Proofs.YtlcbdgkkkljfnaaDoor.Lx
open Go.Proofs.YtlcbdgkkkljfnaaDoorW.PrintWords

/-- What tokens take, with a blank each. -/
def long : List S31 → Nat
  | [] => 0
  | t :: r => t.f1.size + 1 + long r
def okT (t : S31) : Bool := rightB t.f0 t.f1 t.f2
def to32 (t : S31) : S32 := ⟨t.f0, t.f1, t.f2, t.f3⟩

/-! ### A right token's bytes -/
/-- Bytes that are one token, from the first on. -/
structure Whole (k : Int) (x : List UInt8) (n : Int) : Prop where
  tok : tokF x = (k, x, n, 0)
  pos : 1 ≤ x.length
  sk : skip false x = 0
theorem whole_of (k : Int) (s : ByteArray) (n : Int) (h : rightB k s n = true) : Whole k s.data.toList n := by
  unfold rightB at h
  simp only [Bool.and_eq_true, decide_eq_true_eq] at h
  obtain ⟨_, h⟩ := h
  cases hx : lexA s.data.toList with
  | no a e => rw [hx] at h; cases h
  | ok l =>
    rw [hx] at h
    match l with
    | [] => cases h
    | t :: u :: r => cases h
    | [t] =>
      simp only [Bool.and_eq_true, decide_eq_true_eq] at h
      obtain ⟨h1, h2, h3, h4⟩ := h
      unfold lexA at hx
      generalize hs : s.data.toList = l at *
      cases l with
      | nil => simp [lexS] at hx
      | cons c r =>
        rw [List.length_cons] at hx
        cases hd : (c :: r).drop (skip false (c :: r)) with
        | nil => rw [hd, lexS] at hx; simp at hx
        | cons a b =>
          rw [hd, lexS] at hx
          split at hx
          · rename_i hok
            have hp := tokF_pos a b hok
            revert hx
            generalize lexS r.length _ _ = q
            intro hx
            cases q with
            | no _ _ => cases hx
            | ok y =>
              simp only [LexR.cons, LexR.ok.injEq, List.cons.injEq] at hx
              obtain ⟨e1, _⟩ := hx
              subst e1
              simp only at h1 h2 h3 h4
              have hsk : skip false (c :: r) = 0 := h4
              rw [hsk, List.drop_zero] at hd
              rw [← hd] at h1 h2 h3 hok hp
              refine ⟨?_, ?_, hsk⟩
              · rw [← h1, ← h3]
                refine Prod.ext rfl (Prod.ext h2 (Prod.ext rfl hok))
              · rw [← h2]; exact hp
          · cases hx

theorem wh_app (q : UInt8 → Bool) (x y : List UInt8) (b : UInt8) (hb : q b = false) (h : wh q x = x.length) : wh q (x ++ b :: y) = x.length := by
  induction x with
  | nil => rw [List.nil_append, wh_cons, hb]; simp
  | cons c x ih =>
    rw [wh_cons] at h
    split at h
    · rename_i hc
      rw [List.cons_append, wh_cons, if_pos hc, ih (by simp at h; omega)]
      simp; omega
    · simp at h
theorem take_whole {q : UInt8 → Bool} {x : List UInt8} (h : x.take (wh q x) = x) : wh q x = x.length := by
  have := congrArg List.length h
  rw [List.length_take] at this
  have := wh_le q x
  omega
/-- A token, and a blank behind it. -/
theorem tok_app (k n : Int) (x y : List UInt8) (h : Whole k x n) : tokF (x ++ 32 :: y) = (k, x, n, 0) := by
  have ht := h.tok
  have hp := h.pos
  cases x with
  | nil => simp at hp
  | cons c r =>
    rw [List.cons_append]
    simp only [tokF] at ht ⊢
    by_cases hl : byB letB c = true
    · rw [if_pos hl] at ht ⊢
      split at ht
      · simp at ht
      · rename_i h16
        simp only [Prod.mk.injEq] at ht
        obtain ⟨e1, e2, e3, _⟩ := ht
        have hw := take_whole e2
        have := wh_app (byB innB) (c :: r) y 32 (by decide) hw
        rw [List.cons_append] at this
        rw [this, if_neg (by omega), ← e1, ← e3]
        rw [← List.cons_append, List.take_left]
    · rw [if_neg hl] at ht ⊢
      by_cases hd : byB digB c = true
      · rw [if_pos hd] at ht ⊢
        simp only [Prod.mk.injEq] at ht
        obtain ⟨e1, e2, e3, e4⟩ := ht
        have hw := take_whole e2
        have := wh_app (byB digB) (c :: r) y 32 (by decide) hw
        rw [List.cons_append] at this
        rw [this, ← List.cons_append, List.take_left]
        rw [e2] at e3 e4
        rw [e1, e3, e4]
      · rw [if_neg hd] at ht ⊢
        have hsg : signF (c :: (r ++ 32 :: y)) = signF (c :: r) := by
          match r with
          | [] =>
            rw [List.nil_append, signF_two, signF_one]
            have : twoB c 32 = false := by simp [twoB]
            rw [this]; simp
          | b :: r' => rw [List.cons_append, signF_two, signF_two]
        rw [hsg]
        exact ht
/-- Joined tokens. -/
def joinB : List S31 → List UInt8
  | [] => []
  | [t] => t.f1.data.toList
  | t :: u :: r => t.f1.data.toList ++ 32 :: joinB (u :: r)
theorem skip_joinB : ∀ (l : List S31), (∀ t ∈ l, okT t = true) → skip false (joinB l) = 0
  | [], _ => rfl
  | [t], h => (whole_of _ _ _ (h t (by simp))).sk
  | t :: u :: r, h => by
    have hw := whole_of _ _ _ (h t (by simp))
    have hp := hw.pos
    have hs := hw.sk
    unfold joinB
    cases hx : t.f1.data.toList with
    | nil => rw [hx] at hp; simp at hp
    | cons c x =>
      rw [hx] at hs
      rw [List.cons_append]
      simp only [skip] at hs ⊢
      split at hs
      · omega
      · rename_i h1
        rw [if_neg h1]
        split at hs
        · omega
        · rename_i h2
          rw [if_neg h2]
/-- What joined tokens are lexed as: the tokens, wherever they stand. -/
theorem lex_joinB : ∀ (l : List S31) (f a : Nat), (∀ t ∈ l, okT t = true) → (joinB l).length ≤ f →
    ∃ x : List Tk, lexS f a (joinB l) = .ok x ∧ x.map (fun t => (t.1, t.2.1, t.2.2.1)) = l.map fun t => (t.f0, t.f1.data.toList, t.f2)
  | [], f, a, _, _ => ⟨[], by cases f <;> rfl, rfl⟩
  | [t], f, a, h, hf => by
    have hw := whole_of _ _ _ (h t (by simp))
    have hp := hw.pos
    have htok := hw.tok
    unfold joinB at hf ⊢
    obtain ⟨g, rfl⟩ : ∃ g, f = g + 1 := ⟨f - 1, by omega⟩
    cases hx : t.f1.data.toList with
    | nil => rw [hx] at hp; simp at hp
    | cons c r =>
      rw [hx] at htok
      refine ⟨[(t.f0, c :: r, t.f2, a)], ?_, by simp [hx]⟩
      rw [lexS, htok]
      simp only [if_true]
      have h1 : (c :: r).drop (c :: r).length = [] := List.drop_length
      rw [h1]
      cases g <;> rfl
  | t :: u :: r, f, a, h, hf => by
    have hw := whole_of _ _ _ (h t (by simp))
    have hp := hw.pos
    have htok := tok_app _ _ _ (joinB (u :: r)) hw
    have hk := skip_joinB (u :: r) (fun t ht => h t (List.mem_cons_of_mem _ ht))
    have ej : joinB (t :: u :: r) = t.f1.data.toList ++ 32 :: joinB (u :: r) := by rw [joinB]
    rw [ej] at hf ⊢
    rw [List.length_append, List.length_cons] at hf
    obtain ⟨g, rfl⟩ : ∃ g, f = g + 1 := ⟨f - 1, by omega⟩
    obtain ⟨x, hx, hm⟩ := lex_joinB (u :: r) g (a + t.f1.data.toList.length + 1) (fun t ht => h t (List.mem_cons_of_mem _ ht)) (by omega)
    refine ⟨(t.f0, t.f1.data.toList, t.f2, a) :: x, ?_, by rw [List.map_cons, hm]; rfl⟩
    generalize hz : t.f1.data.toList = z at *
    cases z with
    | nil => simp at hp
    | cons c y =>
      rw [List.cons_append] at htok ⊢
      rw [lexS, htok]
      simp only [if_true]
      rw [← List.cons_append, List.drop_left]
      have hs1 : skip false (32 :: joinB (u :: r)) = 1 := by
        simp only [skip]
        rw [if_pos (.inl rfl), hk]
      rw [hs1, List.drop_succ_cons, List.drop_zero, hx]
      rfl
end Go.Proofs.YtlcbdgkkkljfnaaDoor.P
end

section
/- The plain law of LexerJoins: the loops. -/
namespace Go.Proofs.YtlcbdgkkkljfnaaDoor.P
open Go Go.RowKit Go.Proofs Go.Proofs.YtlcbdgkkkljfnaaDoor.Lx
open Go.Proofs.YtlcbdgkkkljfnaaDoorW.PrintWords

theorem isum {i : Nat} (h : i ≤ 5000) : wrap64 ((i : Int) + 1) = ((i + 1 : Nat) : Int) := by rw [wrap64_small (by omega) (by omega)]; omega
theorem joinB_len : ∀ (l : List S31), (joinB l).length ≤ long l
  | [] => Nat.zero_le _
  | [t] => by simp only [joinB, long, size_list]; omega
  | t :: u :: r => by
    have := joinB_len (u :: r)
    rw [joinB, List.length_append, List.length_cons]
    simp only [long, size_list] at this ⊢
    omega
theorem long_filter : ∀ (l : List S31), long (l.filter okT) ≤ long l
  | [] => Nat.le_refl _
  | t :: r => by
    have := long_filter r
    rw [List.filter_cons]
    split <;> simp only [long] <;> omega
theorem long_len : ∀ (l : List S31), l.length ≤ long l
  | [] => Nat.le_refl _
  | t :: r => by have := long_len r; simp only [long, List.length_cons]; omega
theorem long_snoc : ∀ (l : List S31) (t : S31), long (l ++ [t]) = long l + (t.f1.size + 1)
  | [], t => by simp [long]
  | u :: r, t => by have := long_snoc r t; simp only [List.cons_append, long]; omega
theorem join_joinB : ∀ (l : List S31), joinF (l.map (·.f1)) ⟨#[32]⟩ = joinB l
  | [] => rfl
  | [t] => by
    unfold joinF joinB
    rw [List.map_cons, List.map_nil, List.map_cons, List.map_nil, Lib.join_one]
  | t :: u :: r => by
    have ih := join_joinB (u :: r)
    unfold joinF at ih ⊢
    rw [joinB, ← ih]
    simp only [List.map_cons, Lib.join_cons]
    unfold Lib.joinTail
    simp
theorem join_loop (l : List S32) (hl : l.length ≤ 1048576) (R : ByteArray) (hR : strings_Join.f (l.map (·.f1)) ⟨#[32]⟩ = some R) : ∀ (d i : Nat), i ≤ l.length → l.length = i + d →
    Ev (fun k => lexer_Join.l0 k ((l.take i).map (·.f1)) l (l.length : Int) (i : Int)) R := by
  intro d
  induction d with
  | zero =>
    intro i h1 h2
    refine Ev.step (fun k => lexer_Join.l0.eq_2 _ _ _ _ k) ?_
    refine Ev.no (by omega) ?_
    rw [List.take_of_length_le (by omega), hR]
    exact Ev.now _
  | succ d ih =>
    intro i h1 h2
    have hlt : i < l.length := by omega
    refine Ev.step (fun k => lexer_Join.l0.eq_2 _ _ _ _ k) ?_
    refine Ev.yes (by omega) (Ev.yes (by omega) (Ev.yes (by omega) (Ev.yes (by rw [List.length_map, List.length_take]; omega) ?_)))
    have h32 : rd_T32 l (i : Int) = l[i]'hlt := by
      unfold rd_T32
      rw [Int.toNat_natCast, List.getD_eq_getElem?_getD, List.getElem?_eq_getElem hlt]; rfl
    have := ih (i + 1) (by omega) (by omega)
    rw [List.take_add_one, List.getElem?_eq_getElem hlt, List.map_append] at this
    rw [h32, wrap64_small (by omega) (by omega)]
    exact this
theorem join_ev (l : List S31) (hl : long l ≤ 1048576) : Ev (fun k => lexer_Join.f k (l.map to32)) (strOf (joinB l)) := by
  have h1 := joinB_len l
  have h2 := long_len l
  have hm : (l.map to32).map (·.f1) = l.map (·.f1) := by rw [List.map_map]; rfl
  have hR : strings_Join.f ((l.map to32).map (·.f1)) ⟨#[32]⟩ = some (strOf (joinB l)) := by
    unfold strings_Join.f
    rw [hm, join_joinB, if_pos (by rw [List.length_map]; omega)]
  have := join_loop (l.map to32) (by rw [List.length_map]; omega) _ hR (l.map to32).length 0 (by omega) (by omega)
  unfold lexer_Join.f
  exact this

/-- The tokens that are read are those that were joined. -/
theorem same_loop (x : List Tk) (l : List S31) (hx : x.length ≤ 5000) (hm : x.map (fun t => (t.1, t.2.1, t.2.2.1)) = l.map fun t => (t.f0, t.f1.data.toList, t.f2)) : ∀ (d i : Nat), i ≤ x.length → x.length = i + d →
    Ev (fun k => helmsmanlaw11_LexerJoins.l1 k (l.map to32) (x.map tok32) (x.length : Int) (i : Int)) true := by
  have hlen : x.length = l.length := by have := congrArg List.length hm; simpa using this
  intro d
  induction d with
  | zero =>
    intro i h1 h2
    refine Ev.step (fun k => helmsmanlaw11_LexerJoins.l1.eq_2 _ _ _ _ k) ?_
    exact Ev.no (by omega) (Ev.bind alive_ev (Ev.now _))
  | succ d ih =>
    intro i h1 h2
    have hlt : i < x.length := by omega
    refine Ev.step (fun k => helmsmanlaw11_LexerJoins.l1.eq_2 _ _ _ _ k) ?_
    refine Ev.yes (by omega) (Ev.yes (by omega) (Ev.yes (by rw [List.length_map]; omega) (Ev.yes (by rw [List.length_map]; omega) ?_)))
    have h1' : rd_T32 (x.map tok32) (i : Int) = tok32 (x[i]'hlt) := by
      unfold rd_T32
      rw [Int.toNat_natCast, List.getD_eq_getElem?_getD, List.getElem?_map, List.getElem?_eq_getElem hlt]; rfl
    have h2' : rd_T32 (l.map to32) (i : Int) = to32 (l[i]'(by omega)) := by
      unfold rd_T32
      rw [Int.toNat_natCast, List.getD_eq_getElem?_getD, List.getElem?_map, List.getElem?_eq_getElem (by omega)]; rfl
    have hi := congrArg (·[i]?) hm
    simp only [List.getElem?_map, List.getElem?_eq_getElem hlt, List.getElem?_eq_getElem (show i < l.length by omega), Option.map_some, Option.some.injEq, Prod.mk.injEq] at hi
    obtain ⟨e1, e2, e3⟩ := hi
    rw [h1', h2']
    refine Ev.yes e1 (Ev.yes (by simp only [tok32, to32, toList_data, strOf_list]; exact e2) (Ev.yes e3 ?_))
    rw [isum (by omega)]
    exact ih (i + 1) (by omega) (by omega)

theorem joins_loop (l : List S31) (hl : long l ≤ 1048576) : ∀ (d i : Nat), i ≤ l.length → l.length = i + d →
    Ev (fun k => helmsmanlaw11_LexerJoins.l0 k (((l.take i).filter okT).map to32) (long (l.take i) : Int) l (l.length : Int) (i : Int)) true := by
  have hll := long_len l
  intro d
  induction d with
  | zero =>
    intro i h1 h2
    refine Ev.step (fun k => helmsmanlaw11_LexerJoins.l0.eq_2 _ _ _ _ _ k) ?_
    refine Ev.no (by omega) ?_
    rw [List.take_of_length_le (by omega)]
    by_cases hb : (long l : Int) > 4096
    · exact Ev.yes hb (Ev.bind alive_ev (Ev.now _))
    · refine Ev.no hb ?_
      have hf := long_filter l
      have hj := joinB_len (l.filter okT)
      have hall : ∀ t ∈ l.filter okT, okT t = true := fun t ht => (List.mem_filter.mp ht).2
      refine Ev.bind (join_ev (l.filter okT) (by omega)) ?_
      refine Ev.bind (lex_ev (strOf (joinB (l.filter okT))) (by rw [strOf_size]; omega)) ?_
      have hA : ∃ x : List Tk, lexA (joinB (l.filter okT)) = .ok x ∧ x.map (fun t => (t.1, t.2.1, t.2.2.1)) = (l.filter okT).map fun t => (t.f0, t.f1.data.toList, t.f2) := by
        unfold lexA
        rw [skip_joinB _ hall, List.drop_zero]
        exact lex_joinB _ _ _ hall (Nat.le_refl _)
      obtain ⟨x, hx, hm⟩ := hA
      have hxl : x.length = (l.filter okT).length := by have := congrArg List.length hm; simpa using this
      have hx5 := lexS_len _ _ _ _ hx
      rw [strOf_list, hx]
      simp only [out32, List.nil_append, List.length_map]
      refine Ev.yes trivial ?_
      refine Ev.step (fun k => helmsmanlaw11_LexerJoins.j1.eq_2 _ _ _ k) ?_
      refine Ev.no (by simp [hxl]) ?_
      have := same_loop x (l.filter okT) (by omega) hm x.length 0 (by omega) (by omega)
      rw [List.length_map]
      exact this
  | succ d ih =>
    intro i h1 h2
    have hlt : i < l.length := by omega
    refine Ev.step (fun k => helmsmanlaw11_LexerJoins.l0.eq_2 _ _ _ _ _ k) ?_
    refine Ev.yes (by omega) (Ev.yes (by omega) (Ev.yes (by omega) ?_))
    have h31 : rd_T31 l (i : Int) = l[i]'hlt := by
      unfold rd_T31
      rw [Int.toNat_natCast, List.getD_eq_getElem?_getD, List.getElem?_eq_getElem hlt]; rfl
    rw [h31]
    have hsn : l.take (i + 1) = l.take i ++ [l[i]'hlt] := by rw [List.take_add_one, List.getElem?_eq_getElem hlt]; rfl
    have IH := ih (i + 1) (by omega) (by omega)
    rw [hsn, long_snoc, List.filter_append, List.map_append] at IH
    have hbd : long (l.take i) + ((l[i]'hlt).f1.size + 1) ≤ 1048576 := by
      have hle : ∀ (a b : List S31), long (a ++ b) = long a + long b := by
        intro a b
        induction a with
        | nil => simp [long]
        | cons c a ih => simp only [List.cons_append, long, ih]; omega
      have := hle (l.take (i + 1)) (l.drop (i + 1))
      rw [List.take_append_drop, hsn, long_snoc] at this
      omega
    have hfl : (((l.take i).filter okT).map to32).length ≤ l.length := by
      rw [List.length_map]
      have := List.length_filter_le okT (l.take i)
      rw [List.length_take] at this
      omega
    have e1 : wrap64 ((long (l.take i) : Int) + wrap64 (((l[i]'hlt).f1.size : Int) + 1)) = ((long (l.take i) + ((l[i]'hlt).f1.size + 1) : Nat) : Int) := by
      rw [wrap64_small (x := ((l[i]'hlt).f1.size : Int) + 1) (by omega) (by omega), wrap64_small (by omega) (by omega)]; omega
    have e2 : wrap64 ((i : Int) + 1) = ((i + 1 : Nat) : Int) := by rw [wrap64_small (by omega) (by omega)]; omega
    rw [e1, e2]
    clear e1 e2
    refine Ev.bind (right_ev _ _ _ _) ?_
    by_cases hr : okT (l[i]'hlt) = true
    · rw [List.filter_cons, if_pos hr, List.filter_nil] at IH
      refine Ev.yes hr (Ev.yes (by omega) ?_)
      exact IH
    · rw [List.filter_cons, if_neg hr, List.filter_nil, List.map_nil, List.append_nil] at IH
      exact Ev.no hr IH
theorem LexerJoins (l : List S31) (hl : long l ≤ 1048576) : ∃ k, helmsmanlaw11_LexerJoins.f k l = some true := by
  apply Ev.rounds
  unfold helmsmanlaw11_LexerJoins.f
  have := joins_loop l hl l.length 0 (by omega) (by omega)
  exact this
end Go.Proofs.YtlcbdgkkkljfnaaDoor.P
end

section
/- From what an argument reads as to what the printed walks ask: rows of rows, structs. -/
namespace Go.Proofs.YtlcbdgkkkljfnaaDoor.Rd
open Go Go.RowKit Go.Proofs.YtlcbdgkkkljfnaaDoorW.PrintWords
variable {H : Type} {enc : TypeId × Value → H} {P : Program} {w : World} {base : Nat} {spare : Nat → Bool} {held : Bool}

theorem add_add' (a : Addr) (i j : Nat) : (a.add i).add j = a.add (i + j) := Go.Deep.add_add a i j

/-- A row: what its elements read as, one by one. -/
theorem rd_slice {α : Type} {d : Kd α} {t e : TypeId} {R : α → DataW H → Prop} (ht : P.underlying t = some (.slice e)) (hc : P.cellsOf e = d.sz)
    (hel : ∀ (fuel : Nat) (cs : List Value) (r : DataW H × List MemPlace), DataW.trod enc P w base spare held fuel e cs = some r → ∃ x, d.K w x cs ∧ R x r.1)
    {fuel : Nat} {cs : List Value} {r : DataW H × List MemPlace} (h : DataW.trod enc P w base spare held fuel t cs = some r) :
    ∃ (xs : List α) (A : Option Addr) (c : Nat), cs = [.slice A xs.length c] ∧ xs.length ≤ c ∧ d.C w A xs.length xs ∧
      ((r.1 = .nil ∧ xs = []) ∨ ∃ ys zs, r.1 = .slice ys zs ∧ ys.length = xs.length ∧ ∀ (i : Nat) x y, xs[i]? = some x → ys[i]? = some y → R x y) := by
  rcases Go.Deep.open_slice ht h with ⟨rfl, rfl⟩ | ⟨a, len, cap, m, n, D, Pl, rfl, hb, hl, hm, rfl, rfl, hi⟩
  · exact ⟨[], none, 0, rfl, Nat.le_refl _, Kd.C_nil _ _, .inl ⟨rfl, rfl⟩⟩
  · have hle : ∀ i, i < len → i < (if spare a.block then cap else len) := fun i h => by split <;> omega
    have hx : ∀ i, i < len → ∃ x cs', w.cells? base (a.add (i * P.cellsOf e)) (P.cellsOf e) = some cs' ∧ d.K w x cs' ∧ R x (D i) := fun i h => by
      obtain ⟨cs', hcs, htr⟩ := hi i (hle i h)
      obtain ⟨x, hK, hR⟩ := hel n cs' _ htr
      exact ⟨x, cs', hcs, hK, hR⟩
    obtain ⟨xs, hlen, hxs⟩ : ∃ xs : List α, xs.length = len ∧ ∀ i x, xs[i]? = some x → ∃ cs', w.cells? base (a.add (i * P.cellsOf e)) (P.cellsOf e) = some cs' ∧ d.K w x cs' ∧ R x (D i) := by
      clear hi h hm hl hle
      induction len with
      | zero => exact ⟨[], rfl, fun i x h => by simp at h⟩
      | succ k ih =>
        obtain ⟨xs, h1, h2⟩ := ih (fun i h => hx i (by omega))
        obtain ⟨x, hxk⟩ := hx k (by omega)
        refine ⟨xs ++ [x], by simp [h1], fun i y hy => ?_⟩
        rcases Nat.lt_or_ge i k with hlt | hge
        · rw [List.getElem?_append_left (by omega)] at hy; exact h2 i y hy
        · rw [List.getElem?_append_right (by omega)] at hy
          have : i - xs.length = 0 := by
            rcases Nat.eq_zero_or_pos (i - xs.length) with h | h
            · exact h
            · rw [List.getElem?_eq_none (by simp; omega)] at hy; cases hy
          obtain rfl : i = k := by omega
          rw [this] at hy
          simp at hy
          subst hy
          exact hxk
    refine ⟨xs, some a, cap, by rw [hlen], by omega, ?_, .inr ⟨_, _, rfl, by simp [hlen], ?_⟩⟩
    · refine ⟨rfl, by unfold maxLen at hm; omega, fun _ => ⟨a, rfl, fun j p hj => ?_⟩⟩
      obtain ⟨cs', hcs, hK, _⟩ := hxs j p hj
      obtain ⟨_, hl2, hcell⟩ := World.cells?_some hcs
      refine ⟨cs', by rw [hl2, hc], hK, fun i u hu => ?_⟩
      have hlt : i < P.cellsOf e := by rw [← hl2]; exact (List.getElem?_eq_some_iff.mp hu).1
      have := hcell i hlt
      rw [add_add', hc] at this
      rw [this]; exact hu
    · intro i x y hx hy
      obtain ⟨_, _, _, hR⟩ := hxs i x hx
      have : y = D i := by
        rw [List.getElem?_map] at hy
        have hi : i < len := by rw [← hlen]; exact (List.getElem?_eq_some_iff.mp hx).1
        rw [List.getElem?_range hi] at hy
        exact (Option.some.inj hy).symm
      rw [this]; exact hR
theorem rd_int {t : TypeId} {k : IntKind} {fuel : Nat} {cs : List Value} {r : DataW H × List MemPlace} (ht : P.underlying t = some (.int k)) (h : DataW.trod enc P w base spare held fuel t cs = some r) :
    ∃ x : Int, cs = [.int k x] ∧ r.1 = .lit (.int k x) ∧ (Lit.int k x).wf = true := by
  obtain ⟨x, hc, hr, hw⟩ := DataW.trod_int ht h
  exact ⟨x, hc, by rw [hr], hw⟩
theorem rd_string {t : TypeId} {fuel : Nat} {cs : List Value} {r : DataW H × List MemPlace} (ht : P.underlying t = some .string) (h : DataW.trod enc P w base spare held fuel t cs = some r) :
    ∃ x : ByteArray, cs = [.string x] ∧ r.1 = .lit (.string x.data.toList) := by
  obtain ⟨x, hc, hr, hw⟩ := DataW.trod_string ht h
  exact ⟨x, hc, by rw [hr]⟩
end Go.Proofs.YtlcbdgkkkljfnaaDoor.Rd
end

section
/- What a token, and a row of tokens, read as. -/
namespace Go.Proofs.YtlcbdgkkkljfnaaDoor.P
open Go Go.RowKit Go.Proofs.YtlcbdgkkkljfnaaDoorW.PrintWords Go.Proofs.YtlcbdgkkkljfnaaDoor.Rd
variable {H : Type} {enc : TypeId × Value → H} {w : World} {base : Nat} {spare : Nat → Bool} {held : Bool}

theorem cells31 : Tryd.prog.cellsOf 31 = 4 := by kernel_rfl
theorem cells3 : Tryd.prog.cellsOf 3 = 1 := by kernel_rfl
theorem cells9 : Tryd.prog.cellsOf 9 = 1 := by kernel_rfl
def Tok31 (x : S31) (d : DataW H) : Prop := d = .agg [.lit (.int .i64 x.f0), .lit (.string x.f1.data.toList), .lit (.int .i64 x.f2), .lit (.int .i64 x.f3)]
theorem rd31 (fuel : Nat) (cs : List Value) (r : DataW H × List MemPlace) (h : DataW.trod enc Tryd.prog w base spare held fuel 31 cs = some r) :
    ∃ x : S31, cs = [.int .i64 x.f0, .string x.f1, .int .i64 x.f2, .int .i64 x.f3] ∧ Tok31 x r.1 := by
  obtain ⟨xs, n, rfl, rfl, hl, hx, hf⟩ := DataW.trod_struct Tryd.underlying31 h
  rw [cells31] at hl
  match cs, hl with
  | [c0, c1, c2, c3], _ =>
    match xs, hx with
    | [y0, y1, y2, y3], _ =>
      have h0 : DataW.trod enc Tryd.prog w base spare held n 3 [c0] = some y0 := by
        have h : DataW.trod enc Tryd.prog w base spare held n 3 (List.take (Tryd.prog.cellsOf 3) (List.drop 0 [c0, c1, c2, c3])) = some y0 := hf 0 _ rfl
        rw [cells3] at h
        exact h
      have h1 : DataW.trod enc Tryd.prog w base spare held n 9 [c1] = some y1 := by
        have h : DataW.trod enc Tryd.prog w base spare held n 9 (List.take (Tryd.prog.cellsOf 9) (List.drop 1 [c0, c1, c2, c3])) = some y1 := hf 1 _ rfl
        rw [cells9] at h
        exact h
      have h2 : DataW.trod enc Tryd.prog w base spare held n 3 [c2] = some y2 := by
        have h : DataW.trod enc Tryd.prog w base spare held n 3 (List.take (Tryd.prog.cellsOf 3) (List.drop 2 [c0, c1, c2, c3])) = some y2 := hf 2 _ rfl
        rw [cells3] at h
        exact h
      have h3 : DataW.trod enc Tryd.prog w base spare held n 3 [c3] = some y3 := by
        have h : DataW.trod enc Tryd.prog w base spare held n 3 (List.take (Tryd.prog.cellsOf 3) (List.drop 3 [c0, c1, c2, c3])) = some y3 := hf 3 _ rfl
        rw [cells3] at h
        exact h
      obtain ⟨x0, e0, d0, _⟩ := rd_int Tryd.underlying3 h0
      obtain ⟨x1, e1, d1⟩ := rd_string Tryd.underlying9 h1
      obtain ⟨x2, e2, d2, _⟩ := rd_int Tryd.underlying3 h2
      obtain ⟨x3, e3, d3, _⟩ := rd_int Tryd.underlying3 h3
      simp only [List.cons.injEq, and_true] at e0 e1 e2 e3
      subst e0 e1 e2 e3
      exact ⟨⟨x0, x1, x2, x3⟩, rfl, by simp [Tok31, d0, d1, d2, d3]⟩
theorem rd27 {fuel : Nat} {cs : List Value} {r : DataW H × List MemPlace} (h : DataW.trod enc Tryd.prog w base spare held fuel 27 cs = some r) :
    ∃ (xs : List S31) (A : Option Addr) (c : Nat), cs = [.slice A xs.length c] ∧ xs.length ≤ c ∧ Kd.C k31 w A xs.length xs ∧
      ((r.1 = .nil ∧ xs = []) ∨ ∃ ys zs, r.1 = .slice ys zs ∧ ys.length = xs.length ∧ ∀ (i : Nat) x y, xs[i]? = some x → ys[i]? = some y → Tok31 x y) :=
  rd_slice Tryd.underlying27 (by rw [cells31]; rfl) (fun fuel cs r h => by
    obtain ⟨x, rfl, hx⟩ := rd31 fuel cs r h
    exact ⟨x, k31_mk w x, hx⟩) h
end Go.Proofs.YtlcbdgkkkljfnaaDoor.P
end

section
/- A row's tokens are no longer than what is read of it. -/
namespace Go.Proofs.YtlcbdgkkkljfnaaDoor.P
open Go Go.RowKit
variable {H : Type}
theorem long_bulk' : ∀ (xs : List S31) (ys : List (DataW H)), ys.length = xs.length → (∀ (i : Nat) x y, xs[i]? = some x → ys[i]? = some y → Tok31 x y) → long xs ≤ Rows.uptoBulkAll ys
  | [], _, _, _ => Nat.zero_le _
  | x :: xs, [], h, _ => by simp at h
  | x :: xs, y :: ys, h, hR => by
    have h0 := hR 0 x y rfl rfl
    have ih := long_bulk' xs ys (by simpa using h) (fun i a b ha hb => hR (i + 1) a b ha hb)
    unfold Tok31 at h0
    subst h0
    simp only [long, Rows.uptoBulkAll, Rows.uptoBulk]
    rw [size_list]
    omega
theorem long_bulk {xs : List S31} {d : DataW H} (hd : (d = .nil ∧ xs = []) ∨ ∃ ys zs, d = .slice ys zs ∧ ys.length = xs.length ∧ ∀ (i : Nat) x y, xs[i]? = some x → ys[i]? = some y → Tok31 x y)
    (h : Rows.uptoBulkAll ([d] ++ []) ≤ 1048576) : long xs ≤ 1048576 := by
  rcases hd with ⟨_, rfl⟩ | ⟨ys, zs, rfl, hl, hR⟩
  · exact Nat.zero_le _
  · have := long_bulk' xs ys hl hR
    simp only [List.append_nil, Rows.uptoBulkAll, Rows.uptoBulk] at h
    omega
end Go.Proofs.YtlcbdgkkkljfnaaDoor.P
end

section
namespace Go.Proofs.YtlcbdgkkkljfnaaDoor.lexerJoinsUpto
open Go.ChangeShapes Go.WideShapes Go.ChangeAt Go.RowKit
set_option linter.unusedVariables false

theorem reads (os : Os) {H : Type} (enc : TypeId × Value → H) : ∃ places, DataW.whole enc Tryd.prog ((laidWorld os).forCall (fun _ _ => 0) ⟨#[], #[.slice none 0 0], []⟩).memory Tryd.f4.params.toList Rows.lexerJoinsSpec.vars false (#[.slice none 0 0] : Array Value).toList 8 = some ([.nil], [], places) :=
  ⟨[], by kernel_rfl⟩

set_option maxRecDepth 100000 in
theorem lifted (os : Os) (started : os.Started) (H : Type) (enc : TypeId × Value → H) (F : Stop.Interp) :
    ReturnsInHanded {} Tryd.checked os 4 .any ((Rows.OpenSpec.upto Rows.lexerJoinsSpec).preRow enc Tryd.prog Tryd.f4 Rows.lexerJoinsUptoRow.domain false Rows.lexerJoinsUptoRow.laid) (((Rows.OpenSpec.upto Rows.lexerJoinsSpec).at F).post enc Tryd.prog Tryd.f4 false true false false) := by
  obtain ⟨places, hx⟩ := reads os enc
  refine returnsInHanded_of_row (C := Tryd.checked) (s := (Rows.OpenSpec.upto Rows.lexerJoinsSpec)) own started (by kernel_rfl) Tryd.func4
    (witness_row_atRef (enc := enc) (C := Tryd.checked) false (laidWorld os) #[.slice none 0 0] rfl (by kernel_rfl) (by kernel_rfl) (by kernel_rfl)
      (OpenSpec.preRow_of_cond 8 hx (by kernel_rfl) (fun k hk => by cases hk; kernel_rfl) (by kernel_rfl) (laid_met os _))) ?_
  intro W base args ds gs before hval0 hW _ hcond hsz0 hL _ _
  have hval : ∀ (j : Nat) t v, Tryd.f4.params[j]? = some t → args[j]? = some v → Value.okWide Tryd.prog W .any base t v := hval0
  have hW' := hW
  obtain ⟨p, q, hA0, hV, rfl, hfz, hnd⟩ := hW
  have hA : DataW.TrodAll enc Tryd.prog W 0 (fun _ => true) true Tryd.f4.params.toList args.toList ds p := hA0
  rw [Tryd.params4] at hA hval
  obtain ⟨v0, vs0, d0, ds0, p0, q0, hargs, rfl, rfl, h0, r0⟩ := trodAll_cons hA
  obtain ⟨rfl, rfl, rfl⟩ := trodAll_nil r0
  obtain rfl : args = #[v0] := by cases args; simp_all
  obtain ⟨rfl, rfl⟩ := trodVars_none hV
  have lt0 : ∀ x ∈ p0, x.block < W.heap.size := by obtain ⟨m, hm⟩ := h0; exact DataW.trod_lt m _ _ _ hm
  have hT : P.TabT W := tabs hL
  obtain ⟨a, len, cap, rfl⟩ := okWide_slice Tryd.underlying27 (hval 0 27 v0 rfl rfl)
  have h0' := h0
  obtain ⟨m, hm⟩ := h0'
  obtain ⟨xs, A, c, hcs, hc, hC, hd⟩ := P.rd27 hm
  replace hcs : [Value.slice a len cap] = [.slice A xs.length c] := hcs
  clear hm
  simp only [List.cons.injEq, Value.slice.injEq, and_true] at hcs
  obtain ⟨rfl, rfl, rfl⟩ := hcs
  have hb : P.long xs ≤ 1048576 := by
    have h := of_decide_eq_true (hcond _ rfl)
    exact P.long_bulk hd h
  obtain ⟨k, hk⟩ := P.LexerJoins xs hb
  refine (P.helmsmanlaw11_LexerJoins.calls k a cap xs true W hT hC hc hk).mono fun e W' ⟨he, bel⟩ => ?_
  subst he
  exact ⟨_, rfl, _, _, _, [], _, [], hW', trodAll_mk1 (shut_bool Tryd.underlying4 _), (trodAll_cons_mk (Below.trod laidOut (by kernel_rfl) (of_decide_eq_true (by kernel_rfl)) h0 bel lt0) trodAll_mk0), rfl, bel.frame _, fun h => by cases h⟩

theorem said : Rows.LexerJoinsUptoSaid :=
  OpenClaim.holds_of_cond 4 Tryd.f4 rfl rfl rfl rfl rfl rfl rfl ⟨rfl, rfl, rfl, rfl, rfl⟩ rfl rfl rfl rfl rfl (by kernel_rfl) Tryd.func4 (by kernel_rfl)
    (of_decide_eq_true (by kernel_rfl)) (by unfold Func.isWrapper; first | (rw [if_pos (by decide +kernel)]; kernel_rfl) | (rw [if_neg (by decide +kernel)]; exact ⟨rfl, rfl⟩))
    (fun os started H enc _ F => by rw [OpenClaim.pre_eq_preRow]; exact lifted os started H enc F)

theorem plain (f : FuncId) (fn : Func) (hf : Tryd.pinned.checked.prog.funcNamed Rows.lexerJoinsUptoRow.func = some f) (hfn : Tryd.pinned.checked.prog.funcs[f]? = some fn) :
    false = Tryd.pinned.checked.prog.looks [] ∧ ∀ (j : Nat) t, fn.params[j]? = some t → Tryd.pinned.checked.prog.wantsStandIn t = false := by
  obtain rfl : f = 4 := Option.some.inj ((show Tryd.prog.funcNamed Rows.lexerJoinsUptoRow.func = some 4 by kernel_rfl).symm.trans hf) |>.symm
  obtain rfl : fn = Tryd.f4 := (Option.some.inj (Tryd.func4.symm.trans hfn)).symm
  refine ⟨by kernel_rfl, fun j t ht => ?_⟩
  rw [Tryd.params4] at ht
  obtain rfl : t = 27 := by simpa using Array.mem_of_getElem? ht
  exact (show Tryd.prog.wantsStandIn 27 = false by kernel_rfl)
end Go.Proofs.YtlcbdgkkkljfnaaDoor.lexerJoinsUpto
namespace Go.Proofs.YtlcbdgkkkljfnaaDoor
theorem lexerJoinsUpto_holds : Rows.LexerJoinsUptoCardSaid :=
  Claim7.holds_tied_plain_at .later [] _ _ _ _ lexerJoinsUpto.said (fun _ h => by cases h) (by kernel_rfl) (fun _ h => by cases h) lexerJoinsUpto_row_tie rfl ⟨rfl, rfl⟩ (by kernel_rfl) rfl lexerJoinsUpto.plain (by kernel_rfl)
#print axioms lexerJoinsUpto_holds
end Go.Proofs.YtlcbdgkkkljfnaaDoor
end
