/- Texts of this claim, joined: Pxf7. -/
import Derived.Test.YtnnbbeloifhofaaDoorCTreeKindsUpto0
import Derived.Test.YtnnbbeloifhofaaDoorCTreeKindsUpto7
import Derived.Test.YtnnbbeloifhofaaDoorCTreeKindsUpto6
import Derived.Test.YtnnbbeloifhofaaDoorCTreeKindsUpto1
import Derived.Test.YtnnbbeloifhofaaDoorCTreeKindsUpto3
section
namespace Go.Proofs.YtnnbbeloifhofaaDoor.P
open Go.RowKit Go.Proofs.YtnnbbeloifhofaaDoorW.PrintWords Go.Proofs.YtnnbbeloifhofaaDoorW.PrintLast Go.Proofs.YtnnbbeloifhofaaDoorW.PrintMore
attribute [local go_sem] max2_int min2_int max_two min_two max_three min_three max_four min_four   -- for this text's walks alone
set_option linter.unusedVariables false
set_option linter.unusedSimpArgs false

attribute [local go_sem high] eqA56
/-! ### helmsmanlaw12_TreeKinds: function 7 -/
mutual
def helmsmanlaw12_TreeKinds.j0 : Nat → Bool → List (S72) → List (S56) → List (S69) → List (S29) → List (S72) → List (S56) → List (S69) → List (S29) → Option (Bool)
 | 0, _, _, _, _, _, _, _, _, _ => none
 | k + 1, x17, x482000, x482001, x482002, x482003, x483000, x483001, x483002, x483003 => if x17 = true then ((helmsmanlaw12_alive.f).bind fun t485 => (some t485)) else ((helmsmanref12_SameStmts.f k x482003 x483003).bind fun t486 => (if t486 = true then (if (x482000.length : Int) = (x483000.length : Int) then (if (x482001.length : Int) = (x483001.length : Int) then (helmsmanlaw12_TreeKinds.j1 k ((x482002.length : Int) == (x483002.length : Int)) x482000 x482001 x482002 x482003 x483000 x483001 x483002 x483003) else (helmsmanlaw12_TreeKinds.j1 k false x482000 x482001 x482002 x482003 x483000 x483001 x483002 x483003)) else (helmsmanlaw12_TreeKinds.j1 k false x482000 x482001 x482002 x482003 x483000 x483001 x483002 x483003)) else (helmsmanlaw12_TreeKinds.j1 k false x482000 x482001 x482002 x482003 x483000 x483001 x483002 x483003)))
def helmsmanlaw12_TreeKinds.j1 : Nat → Bool → List (S72) → List (S56) → List (S69) → List (S29) → List (S72) → List (S56) → List (S69) → List (S29) → Option (Bool)
 | 0, _, _, _, _, _, _, _, _, _ => none
 | k + 1, x5, x482000, x482001, x482002, x482003, x483000, x483001, x483002, x483003 => helmsmanlaw12_TreeKinds.l0 k x5 0 x482000 x482001 x482002 x482003 x483000 x483001 x483002 x483003
def helmsmanlaw12_TreeKinds.j3 : Nat → Bool → List (S72) → List (S56) → List (S69) → List (S29) → List (S72) → List (S56) → List (S69) → List (S29) → Option (Bool)
 | 0, _, _, _, _, _, _, _, _, _ => none
 | k + 1, x5, x482000, x482001, x482002, x482003, x483000, x483001, x483002, x483003 => helmsmanlaw12_TreeKinds.l1 k x5 0 x482000 x482001 x482002 x482003 x483000 x483001 x483002 x483003
def helmsmanlaw12_TreeKinds.j5 : Nat → Bool → List (S72) → List (S56) → List (S69) → List (S29) → List (S72) → List (S56) → List (S69) → List (S29) → Option (Bool)
 | 0, _, _, _, _, _, _, _, _, _ => none
 | k + 1, x5, x482000, x482001, x482002, x482003, x483000, x483001, x483002, x483003 => helmsmanlaw12_TreeKinds.l2 k x5 0 x482000 x482001 x482002 x482003 x483000 x483001 x483002 x483003
def helmsmanlaw12_TreeKinds.l2 : Nat → Bool → Int → List (S72) → List (S56) → List (S69) → List (S29) → List (S72) → List (S56) → List (S69) → List (S29) → Option (Bool)
 | 0, _, _, _, _, _, _, _, _, _, _ => none
 | k + 1, x5, x8, x482000, x482001, x482002, x482003, x483000, x483001, x483002, x483003 => if x5 = true then (helmsmanlaw12_TreeKinds.j7 k x5 x8 (decide (x8 < (x482000.length : Int))) x482000 x482001 x482002 x482003 x483000 x483001 x483002 x483003) else (helmsmanlaw12_TreeKinds.j7 k x5 x8 false x482000 x482001 x482002 x482003 x483000 x483001 x483002 x483003)
def helmsmanlaw12_TreeKinds.j7 : Nat → Bool → Int → Bool → List (S72) → List (S56) → List (S69) → List (S29) → List (S72) → List (S56) → List (S69) → List (S29) → Option (Bool)
 | 0, _, _, _, _, _, _, _, _, _, _, _ => none
 | k + 1, x5, x8, x117, x482000, x482001, x482002, x482003, x483000, x483001, x483002, x483003 => if x117 = true then (if 0 ≤ x8 then (if x8 < (x482000.length : Int) then (if x8 < (x483000.length : Int) then (if ((rd_T72 x482000 x8).f0).toList = ((rd_T72 x483000 x8).f0).toList then (helmsmanlaw12_TreeKinds.j8 k ((((rd_T72 x482000 x8).f1).length : Int) == (((rd_T72 x483000 x8).f1).length : Int)) x8 x482000 x482001 x482002 x482003 x483000 x483001 x483002 x483003) else (helmsmanlaw12_TreeKinds.j8 k false x8 x482000 x482001 x482002 x482003 x483000 x483001 x483002 x483003)) else (none)) else (none)) else (none)) else ((helmsmanlaw12_alive.f).bind fun t503 => (if t503 = true then ((helmsmanlaw12_Prog.f k x482000 x482001 x482002 x482003).bind fun bt504 => ((helmsmanlaw12_Prog.f k x483000 x483001 x483002 x483003).bind fun bt516 => ((tree_Same.f k bt504.1 bt504.2.1 bt504.2.2.1 bt504.2.2.2 bt516.1 bt516.2.1 bt516.2.2.1 bt516.2.2.2).bind fun t528 => (some (t528 == x5))))) else (some false)))
def helmsmanlaw12_TreeKinds.j8 : Nat → Bool → Int → List (S72) → List (S56) → List (S69) → List (S29) → List (S72) → List (S56) → List (S69) → List (S29) → Option (Bool)
 | 0, _, _, _, _, _, _, _, _, _, _ => none
 | k + 1, x5, x8, x482000, x482001, x482002, x482003, x483000, x483001, x483002, x483003 => helmsmanlaw12_TreeKinds.l3 k x5 x8 0 x482000 x482001 x482002 x482003 x483000 x483001 x483002 x483003
def helmsmanlaw12_TreeKinds.l3 : Nat → Bool → Int → Int → List (S72) → List (S56) → List (S69) → List (S29) → List (S72) → List (S56) → List (S69) → List (S29) → Option (Bool)
 | 0, _, _, _, _, _, _, _, _, _, _, _ => none
 | k + 1, x5, x8, x9, x482000, x482001, x482002, x482003, x483000, x483001, x483002, x483003 => if x5 = true then (if 0 ≤ x8 then (if x8 < (x482000.length : Int) then (if x9 < (((rd_T72 x482000 x8).f1).length : Int) then (if 0 ≤ x9 then (if x8 < (x483000.length : Int) then (if x9 < (((rd_T72 x483000 x8).f1).length : Int) then (helmsmanlaw12_TreeKinds.l3 k ((rdOf ByteArray.empty ((rd_T72 x482000 x8).f1) x9).toList == (rdOf ByteArray.empty ((rd_T72 x483000 x8).f1) x9).toList) x8 (wrap64 (x9 + 1)) x482000 x482001 x482002 x482003 x483000 x483001 x483002 x483003) else (none)) else (none)) else (none)) else (helmsmanlaw12_TreeKinds.l2 k x5 (wrap64 (x8 + 1)) x482000 x482001 x482002 x482003 x483000 x483001 x483002 x483003)) else (none)) else (none)) else (helmsmanlaw12_TreeKinds.l2 k x5 (wrap64 (x8 + 1)) x482000 x482001 x482002 x482003 x483000 x483001 x483002 x483003)
def helmsmanlaw12_TreeKinds.l1 : Nat → Bool → Int → List (S72) → List (S56) → List (S69) → List (S29) → List (S72) → List (S56) → List (S69) → List (S29) → Option (Bool)
 | 0, _, _, _, _, _, _, _, _, _, _ => none
 | k + 1, x5, x7, x482000, x482001, x482002, x482003, x483000, x483001, x483002, x483003 => if x5 = true then (if x7 < (x482002.length : Int) then (if 0 ≤ x7 then (if x7 < (x483002.length : Int) then (if ((rd_T69 x482002 x7).f0).toList = ((rd_T69 x483002 x7).f0).toList then ((helmsmanref12_SameStmts.f k ((rd_T69 x482002 x7).f1) ((rd_T69 x483002 x7).f1)).bind fun t493 => (helmsmanlaw12_TreeKinds.l1 k t493 (wrap64 (x7 + 1)) x482000 x482001 x482002 x482003 x483000 x483001 x483002 x483003)) else (helmsmanlaw12_TreeKinds.l1 k false (wrap64 (x7 + 1)) x482000 x482001 x482002 x482003 x483000 x483001 x483002 x483003)) else (none)) else (none)) else (helmsmanlaw12_TreeKinds.j5 k x5 x482000 x482001 x482002 x482003 x483000 x483001 x483002 x483003)) else (helmsmanlaw12_TreeKinds.j5 k x5 x482000 x482001 x482002 x482003 x483000 x483001 x483002 x483003)
def helmsmanlaw12_TreeKinds.l0 : Nat → Bool → Int → List (S72) → List (S56) → List (S69) → List (S29) → List (S72) → List (S56) → List (S69) → List (S29) → Option (Bool)
 | 0, _, _, _, _, _, _, _, _, _, _ => none
 | k + 1, x5, x6, x482000, x482001, x482002, x482003, x483000, x483001, x483002, x483003 => if x5 = true then (if x6 < (x482001.length : Int) then (if 0 ≤ x6 then (if x6 < (x483001.length : Int) then (helmsmanlaw12_TreeKinds.l0 k ((((rd_T56 x482001 x6).f0).toList) == (((rd_T56 x483001 x6).f0).toList) && ((((rd_T56 x482001 x6).f1).toList) == (((rd_T56 x483001 x6).f1).toList) && (((rd_T56 x482001 x6).f2) == ((rd_T56 x483001 x6).f2)))) (wrap64 (x6 + 1)) x482000 x482001 x482002 x482003 x483000 x483001 x483002 x483003) else (none)) else (none)) else (helmsmanlaw12_TreeKinds.j3 k x5 x482000 x482001 x482002 x482003 x483000 x483001 x483002 x483003)) else (helmsmanlaw12_TreeKinds.j3 k x5 x482000 x482001 x482002 x482003 x483000 x483001 x483002 x483003)
end
def helmsmanlaw12_TreeKinds.f (k : Nat) (l0_0 : List (S72)) (l0_1 : List (S56)) (l0_2 : List (S69)) (l0_3 : List (S29)) (l1_0 : List (S72)) (l1_1 : List (S56)) (l1_2 : List (S69)) (l1_3 : List (S29)) : Option (Bool) := (helmsmanref12_Sized.f k l0_0 l0_1 l0_2 l0_3).bind fun t483 => (if t483 > 300 then (helmsmanlaw12_TreeKinds.j0 k true l0_0 l0_1 l0_2 l0_3 l1_0 l1_1 l1_2 l1_3) else ((helmsmanref12_Sized.f k l1_0 l1_1 l1_2 l1_3).bind fun t484 => (helmsmanlaw12_TreeKinds.j0 k (decide (t484 > 300)) l0_0 l0_1 l0_2 l0_3 l1_0 l1_1 l1_2 l1_3)))
theorem helmsmanlaw12_TreeKinds.mono_l : ∀ k, (∀ y0 y1 y2 y3 y4 y5 y6 y7 y8, LeO (helmsmanlaw12_TreeKinds.j0 k y0 y1 y2 y3 y4 y5 y6 y7 y8) (helmsmanlaw12_TreeKinds.j0 (k + 1) y0 y1 y2 y3 y4 y5 y6 y7 y8)) ∧ (∀ y0 y1 y2 y3 y4 y5 y6 y7 y8, LeO (helmsmanlaw12_TreeKinds.j1 k y0 y1 y2 y3 y4 y5 y6 y7 y8) (helmsmanlaw12_TreeKinds.j1 (k + 1) y0 y1 y2 y3 y4 y5 y6 y7 y8)) ∧ (∀ y0 y1 y2 y3 y4 y5 y6 y7 y8, LeO (helmsmanlaw12_TreeKinds.j3 k y0 y1 y2 y3 y4 y5 y6 y7 y8) (helmsmanlaw12_TreeKinds.j3 (k + 1) y0 y1 y2 y3 y4 y5 y6 y7 y8)) ∧ (∀ y0 y1 y2 y3 y4 y5 y6 y7 y8, LeO (helmsmanlaw12_TreeKinds.j5 k y0 y1 y2 y3 y4 y5 y6 y7 y8) (helmsmanlaw12_TreeKinds.j5 (k + 1) y0 y1 y2 y3 y4 y5 y6 y7 y8)) ∧ (∀ y0 y1 y2 y3 y4 y5 y6 y7 y8 y9, LeO (helmsmanlaw12_TreeKinds.l2 k y0 y1 y2 y3 y4 y5 y6 y7 y8 y9) (helmsmanlaw12_TreeKinds.l2 (k + 1) y0 y1 y2 y3 y4 y5 y6 y7 y8 y9)) ∧ (∀ y0 y1 y2 y3 y4 y5 y6 y7 y8 y9 y10, LeO (helmsmanlaw12_TreeKinds.j7 k y0 y1 y2 y3 y4 y5 y6 y7 y8 y9 y10) (helmsmanlaw12_TreeKinds.j7 (k + 1) y0 y1 y2 y3 y4 y5 y6 y7 y8 y9 y10)) ∧ (∀ y0 y1 y2 y3 y4 y5 y6 y7 y8 y9, LeO (helmsmanlaw12_TreeKinds.j8 k y0 y1 y2 y3 y4 y5 y6 y7 y8 y9) (helmsmanlaw12_TreeKinds.j8 (k + 1) y0 y1 y2 y3 y4 y5 y6 y7 y8 y9)) ∧ (∀ y0 y1 y2 y3 y4 y5 y6 y7 y8 y9 y10, LeO (helmsmanlaw12_TreeKinds.l3 k y0 y1 y2 y3 y4 y5 y6 y7 y8 y9 y10) (helmsmanlaw12_TreeKinds.l3 (k + 1) y0 y1 y2 y3 y4 y5 y6 y7 y8 y9 y10)) ∧ (∀ y0 y1 y2 y3 y4 y5 y6 y7 y8 y9, LeO (helmsmanlaw12_TreeKinds.l1 k y0 y1 y2 y3 y4 y5 y6 y7 y8 y9) (helmsmanlaw12_TreeKinds.l1 (k + 1) y0 y1 y2 y3 y4 y5 y6 y7 y8 y9)) ∧ (∀ y0 y1 y2 y3 y4 y5 y6 y7 y8 y9, LeO (helmsmanlaw12_TreeKinds.l0 k y0 y1 y2 y3 y4 y5 y6 y7 y8 y9) (helmsmanlaw12_TreeKinds.l0 (k + 1) y0 y1 y2 y3 y4 y5 y6 y7 y8 y9))
 | 0 => ⟨fun _ _ _ _ _ _ _ _ _ r h => by simp [helmsmanlaw12_TreeKinds.j0] at h, fun _ _ _ _ _ _ _ _ _ r h => by simp [helmsmanlaw12_TreeKinds.j1] at h, fun _ _ _ _ _ _ _ _ _ r h => by simp [helmsmanlaw12_TreeKinds.j3] at h, fun _ _ _ _ _ _ _ _ _ r h => by simp [helmsmanlaw12_TreeKinds.j5] at h, fun _ _ _ _ _ _ _ _ _ _ r h => by simp [helmsmanlaw12_TreeKinds.l2] at h, fun _ _ _ _ _ _ _ _ _ _ _ r h => by simp [helmsmanlaw12_TreeKinds.j7] at h, fun _ _ _ _ _ _ _ _ _ _ r h => by simp [helmsmanlaw12_TreeKinds.j8] at h, fun _ _ _ _ _ _ _ _ _ _ _ r h => by simp [helmsmanlaw12_TreeKinds.l3] at h, fun _ _ _ _ _ _ _ _ _ _ r h => by simp [helmsmanlaw12_TreeKinds.l1] at h, fun _ _ _ _ _ _ _ _ _ _ r h => by simp [helmsmanlaw12_TreeKinds.l0] at h⟩
 | k + 1 => by
  obtain ⟨ih0, ih1, ih2, ih3, ih4, ih5, ih6, ih7, ih8, ih9⟩ := helmsmanlaw12_TreeKinds.mono_l k
  refine ⟨?_, ?_, ?_, ?_, ?_, ?_, ?_, ?_, ?_, ?_⟩
  ·intro y0 y1 y2 y3 y4 y5 y6 y7 y8
   unfold helmsmanlaw12_TreeKinds.j0
   repeat' first
   | (with_reducible exact ih0 _ _ _ _ _ _ _ _ _)
   | (with_reducible exact ih1 _ _ _ _ _ _ _ _ _)
   | (with_reducible exact ih2 _ _ _ _ _ _ _ _ _)
   | (with_reducible exact ih3 _ _ _ _ _ _ _ _ _)
   | (with_reducible exact ih4 _ _ _ _ _ _ _ _ _ _)
   | (with_reducible exact ih5 _ _ _ _ _ _ _ _ _ _ _)
   | (with_reducible exact ih6 _ _ _ _ _ _ _ _ _ _)
   | (with_reducible exact ih7 _ _ _ _ _ _ _ _ _ _ _)
   | (with_reducible exact ih8 _ _ _ _ _ _ _ _ _ _)
   | (with_reducible exact ih9 _ _ _ _ _ _ _ _ _ _)
   | (with_reducible exact helmsmanlaw12_Prog.mono _ _ _ _ _)
   | (with_reducible exact helmsmanref12_SameStmts.mono _ _ _)
   | (with_reducible exact helmsmanref12_Sized.mono _ _ _ _ _)
   | (with_reducible exact tree_Same.mono _ _ _ _ _ _ _ _ _)
   | (with_reducible exact LeO.refl _)
   | (with_reducible exact LeO.none _)
   | (with_reducible refine LeO.ite ?_ ?_)
   | (with_reducible refine LeO.bind ?_ (fun _ => ?_))
   | exact ih0 _ _ _ _ _ _ _ _ _
   | exact ih1 _ _ _ _ _ _ _ _ _
   | exact ih2 _ _ _ _ _ _ _ _ _
   | exact ih3 _ _ _ _ _ _ _ _ _
   | exact ih4 _ _ _ _ _ _ _ _ _ _
   | exact ih5 _ _ _ _ _ _ _ _ _ _ _
   | exact ih6 _ _ _ _ _ _ _ _ _ _
   | exact ih7 _ _ _ _ _ _ _ _ _ _ _
   | exact ih8 _ _ _ _ _ _ _ _ _ _
   | exact ih9 _ _ _ _ _ _ _ _ _ _
   | exact helmsmanlaw12_Prog.mono _ _ _ _ _
   | exact helmsmanref12_SameStmts.mono _ _ _
   | exact helmsmanref12_Sized.mono _ _ _ _ _
   | exact tree_Same.mono _ _ _ _ _ _ _ _ _
   | exact LeO.none _
   | refine LeO.ite ?_ ?_
   | refine LeO.bind ?_ (fun _ => ?_)
  ·intro y0 y1 y2 y3 y4 y5 y6 y7 y8
   unfold helmsmanlaw12_TreeKinds.j1
   repeat' first
   | (with_reducible exact ih0 _ _ _ _ _ _ _ _ _)
   | (with_reducible exact ih1 _ _ _ _ _ _ _ _ _)
   | (with_reducible exact ih2 _ _ _ _ _ _ _ _ _)
   | (with_reducible exact ih3 _ _ _ _ _ _ _ _ _)
   | (with_reducible exact ih4 _ _ _ _ _ _ _ _ _ _)
   | (with_reducible exact ih5 _ _ _ _ _ _ _ _ _ _ _)
   | (with_reducible exact ih6 _ _ _ _ _ _ _ _ _ _)
   | (with_reducible exact ih7 _ _ _ _ _ _ _ _ _ _ _)
   | (with_reducible exact ih8 _ _ _ _ _ _ _ _ _ _)
   | (with_reducible exact ih9 _ _ _ _ _ _ _ _ _ _)
   | (with_reducible exact helmsmanlaw12_Prog.mono _ _ _ _ _)
   | (with_reducible exact helmsmanref12_SameStmts.mono _ _ _)
   | (with_reducible exact helmsmanref12_Sized.mono _ _ _ _ _)
   | (with_reducible exact tree_Same.mono _ _ _ _ _ _ _ _ _)
   | (with_reducible exact LeO.refl _)
   | (with_reducible exact LeO.none _)
   | (with_reducible refine LeO.ite ?_ ?_)
   | (with_reducible refine LeO.bind ?_ (fun _ => ?_))
   | exact ih0 _ _ _ _ _ _ _ _ _
   | exact ih1 _ _ _ _ _ _ _ _ _
   | exact ih2 _ _ _ _ _ _ _ _ _
   | exact ih3 _ _ _ _ _ _ _ _ _
   | exact ih4 _ _ _ _ _ _ _ _ _ _
   | exact ih5 _ _ _ _ _ _ _ _ _ _ _
   | exact ih6 _ _ _ _ _ _ _ _ _ _
   | exact ih7 _ _ _ _ _ _ _ _ _ _ _
   | exact ih8 _ _ _ _ _ _ _ _ _ _
   | exact ih9 _ _ _ _ _ _ _ _ _ _
   | exact helmsmanlaw12_Prog.mono _ _ _ _ _
   | exact helmsmanref12_SameStmts.mono _ _ _
   | exact helmsmanref12_Sized.mono _ _ _ _ _
   | exact tree_Same.mono _ _ _ _ _ _ _ _ _
   | exact LeO.none _
   | refine LeO.ite ?_ ?_
   | refine LeO.bind ?_ (fun _ => ?_)
  ·intro y0 y1 y2 y3 y4 y5 y6 y7 y8
   unfold helmsmanlaw12_TreeKinds.j3
   repeat' first
   | (with_reducible exact ih0 _ _ _ _ _ _ _ _ _)
   | (with_reducible exact ih1 _ _ _ _ _ _ _ _ _)
   | (with_reducible exact ih2 _ _ _ _ _ _ _ _ _)
   | (with_reducible exact ih3 _ _ _ _ _ _ _ _ _)
   | (with_reducible exact ih4 _ _ _ _ _ _ _ _ _ _)
   | (with_reducible exact ih5 _ _ _ _ _ _ _ _ _ _ _)
   | (with_reducible exact ih6 _ _ _ _ _ _ _ _ _ _)
   | (with_reducible exact ih7 _ _ _ _ _ _ _ _ _ _ _)
   | (with_reducible exact ih8 _ _ _ _ _ _ _ _ _ _)
   | (with_reducible exact ih9 _ _ _ _ _ _ _ _ _ _)
   | (with_reducible exact helmsmanlaw12_Prog.mono _ _ _ _ _)
   | (with_reducible exact helmsmanref12_SameStmts.mono _ _ _)
   | (with_reducible exact helmsmanref12_Sized.mono _ _ _ _ _)
   | (with_reducible exact tree_Same.mono _ _ _ _ _ _ _ _ _)
   | (with_reducible exact LeO.refl _)
   | (with_reducible exact LeO.none _)
   | (with_reducible refine LeO.ite ?_ ?_)
   | (with_reducible refine LeO.bind ?_ (fun _ => ?_))
   | exact ih0 _ _ _ _ _ _ _ _ _
   | exact ih1 _ _ _ _ _ _ _ _ _
   | exact ih2 _ _ _ _ _ _ _ _ _
   | exact ih3 _ _ _ _ _ _ _ _ _
   | exact ih4 _ _ _ _ _ _ _ _ _ _
   | exact ih5 _ _ _ _ _ _ _ _ _ _ _
   | exact ih6 _ _ _ _ _ _ _ _ _ _
   | exact ih7 _ _ _ _ _ _ _ _ _ _ _
   | exact ih8 _ _ _ _ _ _ _ _ _ _
   | exact ih9 _ _ _ _ _ _ _ _ _ _
   | exact helmsmanlaw12_Prog.mono _ _ _ _ _
   | exact helmsmanref12_SameStmts.mono _ _ _
   | exact helmsmanref12_Sized.mono _ _ _ _ _
   | exact tree_Same.mono _ _ _ _ _ _ _ _ _
   | exact LeO.none _
   | refine LeO.ite ?_ ?_
   | refine LeO.bind ?_ (fun _ => ?_)
  ·intro y0 y1 y2 y3 y4 y5 y6 y7 y8
   unfold helmsmanlaw12_TreeKinds.j5
   repeat' first
   | (with_reducible exact ih0 _ _ _ _ _ _ _ _ _)
   | (with_reducible exact ih1 _ _ _ _ _ _ _ _ _)
   | (with_reducible exact ih2 _ _ _ _ _ _ _ _ _)
   | (with_reducible exact ih3 _ _ _ _ _ _ _ _ _)
   | (with_reducible exact ih4 _ _ _ _ _ _ _ _ _ _)
   | (with_reducible exact ih5 _ _ _ _ _ _ _ _ _ _ _)
   | (with_reducible exact ih6 _ _ _ _ _ _ _ _ _ _)
   | (with_reducible exact ih7 _ _ _ _ _ _ _ _ _ _ _)
   | (with_reducible exact ih8 _ _ _ _ _ _ _ _ _ _)
   | (with_reducible exact ih9 _ _ _ _ _ _ _ _ _ _)
   | (with_reducible exact helmsmanlaw12_Prog.mono _ _ _ _ _)
   | (with_reducible exact helmsmanref12_SameStmts.mono _ _ _)
   | (with_reducible exact helmsmanref12_Sized.mono _ _ _ _ _)
   | (with_reducible exact tree_Same.mono _ _ _ _ _ _ _ _ _)
   | (with_reducible exact LeO.refl _)
   | (with_reducible exact LeO.none _)
   | (with_reducible refine LeO.ite ?_ ?_)
   | (with_reducible refine LeO.bind ?_ (fun _ => ?_))
   | exact ih0 _ _ _ _ _ _ _ _ _
   | exact ih1 _ _ _ _ _ _ _ _ _
   | exact ih2 _ _ _ _ _ _ _ _ _
   | exact ih3 _ _ _ _ _ _ _ _ _
   | exact ih4 _ _ _ _ _ _ _ _ _ _
   | exact ih5 _ _ _ _ _ _ _ _ _ _ _
   | exact ih6 _ _ _ _ _ _ _ _ _ _
   | exact ih7 _ _ _ _ _ _ _ _ _ _ _
   | exact ih8 _ _ _ _ _ _ _ _ _ _
   | exact ih9 _ _ _ _ _ _ _ _ _ _
   | exact helmsmanlaw12_Prog.mono _ _ _ _ _
   | exact helmsmanref12_SameStmts.mono _ _ _
   | exact helmsmanref12_Sized.mono _ _ _ _ _
   | exact tree_Same.mono _ _ _ _ _ _ _ _ _
   | exact LeO.none _
   | refine LeO.ite ?_ ?_
   | refine LeO.bind ?_ (fun _ => ?_)
  ·intro y0 y1 y2 y3 y4 y5 y6 y7 y8 y9
   unfold helmsmanlaw12_TreeKinds.l2
   repeat' first
   | (with_reducible exact ih0 _ _ _ _ _ _ _ _ _)
   | (with_reducible exact ih1 _ _ _ _ _ _ _ _ _)
   | (with_reducible exact ih2 _ _ _ _ _ _ _ _ _)
   | (with_reducible exact ih3 _ _ _ _ _ _ _ _ _)
   | (with_reducible exact ih4 _ _ _ _ _ _ _ _ _ _)
   | (with_reducible exact ih5 _ _ _ _ _ _ _ _ _ _ _)
   | (with_reducible exact ih6 _ _ _ _ _ _ _ _ _ _)
   | (with_reducible exact ih7 _ _ _ _ _ _ _ _ _ _ _)
   | (with_reducible exact ih8 _ _ _ _ _ _ _ _ _ _)
   | (with_reducible exact ih9 _ _ _ _ _ _ _ _ _ _)
   | (with_reducible exact helmsmanlaw12_Prog.mono _ _ _ _ _)
   | (with_reducible exact helmsmanref12_SameStmts.mono _ _ _)
   | (with_reducible exact helmsmanref12_Sized.mono _ _ _ _ _)
   | (with_reducible exact tree_Same.mono _ _ _ _ _ _ _ _ _)
   | (with_reducible exact LeO.refl _)
   | (with_reducible exact LeO.none _)
   | (with_reducible refine LeO.ite ?_ ?_)
   | (with_reducible refine LeO.bind ?_ (fun _ => ?_))
   | exact ih0 _ _ _ _ _ _ _ _ _
   | exact ih1 _ _ _ _ _ _ _ _ _
   | exact ih2 _ _ _ _ _ _ _ _ _
   | exact ih3 _ _ _ _ _ _ _ _ _
   | exact ih4 _ _ _ _ _ _ _ _ _ _
   | exact ih5 _ _ _ _ _ _ _ _ _ _ _
   | exact ih6 _ _ _ _ _ _ _ _ _ _
   | exact ih7 _ _ _ _ _ _ _ _ _ _ _
   | exact ih8 _ _ _ _ _ _ _ _ _ _
   | exact ih9 _ _ _ _ _ _ _ _ _ _
   | exact helmsmanlaw12_Prog.mono _ _ _ _ _
   | exact helmsmanref12_SameStmts.mono _ _ _
   | exact helmsmanref12_Sized.mono _ _ _ _ _
   | exact tree_Same.mono _ _ _ _ _ _ _ _ _
   | exact LeO.none _
   | refine LeO.ite ?_ ?_
   | refine LeO.bind ?_ (fun _ => ?_)
  ·intro y0 y1 y2 y3 y4 y5 y6 y7 y8 y9 y10
   unfold helmsmanlaw12_TreeKinds.j7
   repeat' first
   | (with_reducible exact ih0 _ _ _ _ _ _ _ _ _)
   | (with_reducible exact ih1 _ _ _ _ _ _ _ _ _)
   | (with_reducible exact ih2 _ _ _ _ _ _ _ _ _)
   | (with_reducible exact ih3 _ _ _ _ _ _ _ _ _)
   | (with_reducible exact ih4 _ _ _ _ _ _ _ _ _ _)
   | (with_reducible exact ih5 _ _ _ _ _ _ _ _ _ _ _)
   | (with_reducible exact ih6 _ _ _ _ _ _ _ _ _ _)
   | (with_reducible exact ih7 _ _ _ _ _ _ _ _ _ _ _)
   | (with_reducible exact ih8 _ _ _ _ _ _ _ _ _ _)
   | (with_reducible exact ih9 _ _ _ _ _ _ _ _ _ _)
   | (with_reducible exact helmsmanlaw12_Prog.mono _ _ _ _ _)
   | (with_reducible exact helmsmanref12_SameStmts.mono _ _ _)
   | (with_reducible exact helmsmanref12_Sized.mono _ _ _ _ _)
   | (with_reducible exact tree_Same.mono _ _ _ _ _ _ _ _ _)
   | (with_reducible exact LeO.refl _)
   | (with_reducible exact LeO.none _)
   | (with_reducible refine LeO.ite ?_ ?_)
   | (with_reducible refine LeO.bind ?_ (fun _ => ?_))
   | exact ih0 _ _ _ _ _ _ _ _ _
   | exact ih1 _ _ _ _ _ _ _ _ _
   | exact ih2 _ _ _ _ _ _ _ _ _
   | exact ih3 _ _ _ _ _ _ _ _ _
   | exact ih4 _ _ _ _ _ _ _ _ _ _
   | exact ih5 _ _ _ _ _ _ _ _ _ _ _
   | exact ih6 _ _ _ _ _ _ _ _ _ _
   | exact ih7 _ _ _ _ _ _ _ _ _ _ _
   | exact ih8 _ _ _ _ _ _ _ _ _ _
   | exact ih9 _ _ _ _ _ _ _ _ _ _
   | exact helmsmanlaw12_Prog.mono _ _ _ _ _
   | exact helmsmanref12_SameStmts.mono _ _ _
   | exact helmsmanref12_Sized.mono _ _ _ _ _
   | exact tree_Same.mono _ _ _ _ _ _ _ _ _
   | exact LeO.none _
   | refine LeO.ite ?_ ?_
   | refine LeO.bind ?_ (fun _ => ?_)
  ·intro y0 y1 y2 y3 y4 y5 y6 y7 y8 y9
   unfold helmsmanlaw12_TreeKinds.j8
   repeat' first
   | (with_reducible exact ih0 _ _ _ _ _ _ _ _ _)
   | (with_reducible exact ih1 _ _ _ _ _ _ _ _ _)
   | (with_reducible exact ih2 _ _ _ _ _ _ _ _ _)
   | (with_reducible exact ih3 _ _ _ _ _ _ _ _ _)
   | (with_reducible exact ih4 _ _ _ _ _ _ _ _ _ _)
   | (with_reducible exact ih5 _ _ _ _ _ _ _ _ _ _ _)
   | (with_reducible exact ih6 _ _ _ _ _ _ _ _ _ _)
   | (with_reducible exact ih7 _ _ _ _ _ _ _ _ _ _ _)
   | (with_reducible exact ih8 _ _ _ _ _ _ _ _ _ _)
   | (with_reducible exact ih9 _ _ _ _ _ _ _ _ _ _)
   | (with_reducible exact helmsmanlaw12_Prog.mono _ _ _ _ _)
   | (with_reducible exact helmsmanref12_SameStmts.mono _ _ _)
   | (with_reducible exact helmsmanref12_Sized.mono _ _ _ _ _)
   | (with_reducible exact tree_Same.mono _ _ _ _ _ _ _ _ _)
   | (with_reducible exact LeO.refl _)
   | (with_reducible exact LeO.none _)
   | (with_reducible refine LeO.ite ?_ ?_)
   | (with_reducible refine LeO.bind ?_ (fun _ => ?_))
   | exact ih0 _ _ _ _ _ _ _ _ _
   | exact ih1 _ _ _ _ _ _ _ _ _
   | exact ih2 _ _ _ _ _ _ _ _ _
   | exact ih3 _ _ _ _ _ _ _ _ _
   | exact ih4 _ _ _ _ _ _ _ _ _ _
   | exact ih5 _ _ _ _ _ _ _ _ _ _ _
   | exact ih6 _ _ _ _ _ _ _ _ _ _
   | exact ih7 _ _ _ _ _ _ _ _ _ _ _
   | exact ih8 _ _ _ _ _ _ _ _ _ _
   | exact ih9 _ _ _ _ _ _ _ _ _ _
   | exact helmsmanlaw12_Prog.mono _ _ _ _ _
   | exact helmsmanref12_SameStmts.mono _ _ _
   | exact helmsmanref12_Sized.mono _ _ _ _ _
   | exact tree_Same.mono _ _ _ _ _ _ _ _ _
   | exact LeO.none _
   | refine LeO.ite ?_ ?_
   | refine LeO.bind ?_ (fun _ => ?_)
  ·intro y0 y1 y2 y3 y4 y5 y6 y7 y8 y9 y10
   unfold helmsmanlaw12_TreeKinds.l3
   repeat' first
   | (with_reducible exact ih0 _ _ _ _ _ _ _ _ _)
   | (with_reducible exact ih1 _ _ _ _ _ _ _ _ _)
   | (with_reducible exact ih2 _ _ _ _ _ _ _ _ _)
   | (with_reducible exact ih3 _ _ _ _ _ _ _ _ _)
   | (with_reducible exact ih4 _ _ _ _ _ _ _ _ _ _)
   | (with_reducible exact ih5 _ _ _ _ _ _ _ _ _ _ _)
   | (with_reducible exact ih6 _ _ _ _ _ _ _ _ _ _)
   | (with_reducible exact ih7 _ _ _ _ _ _ _ _ _ _ _)
   | (with_reducible exact ih8 _ _ _ _ _ _ _ _ _ _)
   | (with_reducible exact ih9 _ _ _ _ _ _ _ _ _ _)
   | (with_reducible exact helmsmanlaw12_Prog.mono _ _ _ _ _)
   | (with_reducible exact helmsmanref12_SameStmts.mono _ _ _)
   | (with_reducible exact helmsmanref12_Sized.mono _ _ _ _ _)
   | (with_reducible exact tree_Same.mono _ _ _ _ _ _ _ _ _)
   | (with_reducible exact LeO.refl _)
   | (with_reducible exact LeO.none _)
   | (with_reducible refine LeO.ite ?_ ?_)
   | (with_reducible refine LeO.bind ?_ (fun _ => ?_))
   | exact ih0 _ _ _ _ _ _ _ _ _
   | exact ih1 _ _ _ _ _ _ _ _ _
   | exact ih2 _ _ _ _ _ _ _ _ _
   | exact ih3 _ _ _ _ _ _ _ _ _
   | exact ih4 _ _ _ _ _ _ _ _ _ _
   | exact ih5 _ _ _ _ _ _ _ _ _ _ _
   | exact ih6 _ _ _ _ _ _ _ _ _ _
   | exact ih7 _ _ _ _ _ _ _ _ _ _ _
   | exact ih8 _ _ _ _ _ _ _ _ _ _
   | exact ih9 _ _ _ _ _ _ _ _ _ _
   | exact helmsmanlaw12_Prog.mono _ _ _ _ _
   | exact helmsmanref12_SameStmts.mono _ _ _
   | exact helmsmanref12_Sized.mono _ _ _ _ _
   | exact tree_Same.mono _ _ _ _ _ _ _ _ _
   | exact LeO.none _
   | refine LeO.ite ?_ ?_
   | refine LeO.bind ?_ (fun _ => ?_)
  ·intro y0 y1 y2 y3 y4 y5 y6 y7 y8 y9
   unfold helmsmanlaw12_TreeKinds.l1
   repeat' first
   | (with_reducible exact ih0 _ _ _ _ _ _ _ _ _)
   | (with_reducible exact ih1 _ _ _ _ _ _ _ _ _)
   | (with_reducible exact ih2 _ _ _ _ _ _ _ _ _)
   | (with_reducible exact ih3 _ _ _ _ _ _ _ _ _)
   | (with_reducible exact ih4 _ _ _ _ _ _ _ _ _ _)
   | (with_reducible exact ih5 _ _ _ _ _ _ _ _ _ _ _)
   | (with_reducible exact ih6 _ _ _ _ _ _ _ _ _ _)
   | (with_reducible exact ih7 _ _ _ _ _ _ _ _ _ _ _)
   | (with_reducible exact ih8 _ _ _ _ _ _ _ _ _ _)
   | (with_reducible exact ih9 _ _ _ _ _ _ _ _ _ _)
   | (with_reducible exact helmsmanlaw12_Prog.mono _ _ _ _ _)
   | (with_reducible exact helmsmanref12_SameStmts.mono _ _ _)
   | (with_reducible exact helmsmanref12_Sized.mono _ _ _ _ _)
   | (with_reducible exact tree_Same.mono _ _ _ _ _ _ _ _ _)
   | (with_reducible exact LeO.refl _)
   | (with_reducible exact LeO.none _)
   | (with_reducible refine LeO.ite ?_ ?_)
   | (with_reducible refine LeO.bind ?_ (fun _ => ?_))
   | exact ih0 _ _ _ _ _ _ _ _ _
   | exact ih1 _ _ _ _ _ _ _ _ _
   | exact ih2 _ _ _ _ _ _ _ _ _
   | exact ih3 _ _ _ _ _ _ _ _ _
   | exact ih4 _ _ _ _ _ _ _ _ _ _
   | exact ih5 _ _ _ _ _ _ _ _ _ _ _
   | exact ih6 _ _ _ _ _ _ _ _ _ _
   | exact ih7 _ _ _ _ _ _ _ _ _ _ _
   | exact ih8 _ _ _ _ _ _ _ _ _ _
   | exact ih9 _ _ _ _ _ _ _ _ _ _
   | exact helmsmanlaw12_Prog.mono _ _ _ _ _
   | exact helmsmanref12_SameStmts.mono _ _ _
   | exact helmsmanref12_Sized.mono _ _ _ _ _
   | exact tree_Same.mono _ _ _ _ _ _ _ _ _
   | exact LeO.none _
   | refine LeO.ite ?_ ?_
   | refine LeO.bind ?_ (fun _ => ?_)
  ·intro y0 y1 y2 y3 y4 y5 y6 y7 y8 y9
   unfold helmsmanlaw12_TreeKinds.l0
   repeat' first
   | (with_reducible exact ih0 _ _ _ _ _ _ _ _ _)
   | (with_reducible exact ih1 _ _ _ _ _ _ _ _ _)
   | (with_reducible exact ih2 _ _ _ _ _ _ _ _ _)
   | (with_reducible exact ih3 _ _ _ _ _ _ _ _ _)
   | (with_reducible exact ih4 _ _ _ _ _ _ _ _ _ _)
   | (with_reducible exact ih5 _ _ _ _ _ _ _ _ _ _ _)
   | (with_reducible exact ih6 _ _ _ _ _ _ _ _ _ _)
   | (with_reducible exact ih7 _ _ _ _ _ _ _ _ _ _ _)
   | (with_reducible exact ih8 _ _ _ _ _ _ _ _ _ _)
   | (with_reducible exact ih9 _ _ _ _ _ _ _ _ _ _)
   | (with_reducible exact helmsmanlaw12_Prog.mono _ _ _ _ _)
   | (with_reducible exact helmsmanref12_SameStmts.mono _ _ _)
   | (with_reducible exact helmsmanref12_Sized.mono _ _ _ _ _)
   | (with_reducible exact tree_Same.mono _ _ _ _ _ _ _ _ _)
   | (with_reducible exact LeO.refl _)
   | (with_reducible exact LeO.none _)
   | (with_reducible refine LeO.ite ?_ ?_)
   | (with_reducible refine LeO.bind ?_ (fun _ => ?_))
   | exact ih0 _ _ _ _ _ _ _ _ _
   | exact ih1 _ _ _ _ _ _ _ _ _
   | exact ih2 _ _ _ _ _ _ _ _ _
   | exact ih3 _ _ _ _ _ _ _ _ _
   | exact ih4 _ _ _ _ _ _ _ _ _ _
   | exact ih5 _ _ _ _ _ _ _ _ _ _ _
   | exact ih6 _ _ _ _ _ _ _ _ _ _
   | exact ih7 _ _ _ _ _ _ _ _ _ _ _
   | exact ih8 _ _ _ _ _ _ _ _ _ _
   | exact ih9 _ _ _ _ _ _ _ _ _ _
   | exact helmsmanlaw12_Prog.mono _ _ _ _ _
   | exact helmsmanref12_SameStmts.mono _ _ _
   | exact helmsmanref12_Sized.mono _ _ _ _ _
   | exact tree_Same.mono _ _ _ _ _ _ _ _ _
   | exact LeO.none _
   | refine LeO.ite ?_ ?_
   | refine LeO.bind ?_ (fun _ => ?_)
theorem helmsmanlaw12_TreeKinds.mono : ∀ a0 a1 a2 a3 a4 a5 a6 a7 k, LeO (helmsmanlaw12_TreeKinds.f k a0 a1 a2 a3 a4 a5 a6 a7) (helmsmanlaw12_TreeKinds.f (k + 1) a0 a1 a2 a3 a4 a5 a6 a7) := by
 intro a0 a1 a2 a3 a4 a5 a6 a7 k
 obtain ⟨ih0, ih1, ih2, ih3, ih4, ih5, ih6, ih7, ih8, ih9⟩ := helmsmanlaw12_TreeKinds.mono_l k
 unfold helmsmanlaw12_TreeKinds.f
 repeat' first
   | (with_reducible exact ih0 _ _ _ _ _ _ _ _ _)
   | (with_reducible exact ih1 _ _ _ _ _ _ _ _ _)
   | (with_reducible exact ih2 _ _ _ _ _ _ _ _ _)
   | (with_reducible exact ih3 _ _ _ _ _ _ _ _ _)
   | (with_reducible exact ih4 _ _ _ _ _ _ _ _ _ _)
   | (with_reducible exact ih5 _ _ _ _ _ _ _ _ _ _ _)
   | (with_reducible exact ih6 _ _ _ _ _ _ _ _ _ _)
   | (with_reducible exact ih7 _ _ _ _ _ _ _ _ _ _ _)
   | (with_reducible exact ih8 _ _ _ _ _ _ _ _ _ _)
   | (with_reducible exact ih9 _ _ _ _ _ _ _ _ _ _)
   | (with_reducible exact helmsmanlaw12_Prog.mono _ _ _ _ _)
   | (with_reducible exact helmsmanref12_SameStmts.mono _ _ _)
   | (with_reducible exact helmsmanref12_Sized.mono _ _ _ _ _)
   | (with_reducible exact tree_Same.mono _ _ _ _ _ _ _ _ _)
   | (with_reducible exact LeO.refl _)
   | (with_reducible exact LeO.none _)
   | (with_reducible refine LeO.ite ?_ ?_)
   | (with_reducible refine LeO.bind ?_ (fun _ => ?_))
   | exact ih0 _ _ _ _ _ _ _ _ _
   | exact ih1 _ _ _ _ _ _ _ _ _
   | exact ih2 _ _ _ _ _ _ _ _ _
   | exact ih3 _ _ _ _ _ _ _ _ _
   | exact ih4 _ _ _ _ _ _ _ _ _ _
   | exact ih5 _ _ _ _ _ _ _ _ _ _ _
   | exact ih6 _ _ _ _ _ _ _ _ _ _
   | exact ih7 _ _ _ _ _ _ _ _ _ _ _
   | exact ih8 _ _ _ _ _ _ _ _ _ _
   | exact ih9 _ _ _ _ _ _ _ _ _ _
   | exact helmsmanlaw12_Prog.mono _ _ _ _ _
   | exact helmsmanref12_SameStmts.mono _ _ _
   | exact helmsmanref12_Sized.mono _ _ _ _ _
   | exact tree_Same.mono _ _ _ _ _ _ _ _ _
   | exact LeO.none _
   | refine LeO.ite ?_ ?_
   | refine LeO.bind ?_ (fun _ => ?_)
def helmsmanlaw12_TreeKinds.T7 : Bool × List (List Nat × List Nat) := (true, [([], []), ([0], [0]), ([], []), ([1, 2], [1, 2]), ([3], [3]), ([], []), ([5], [5]), ([], []), ([6, 7], [6, 7]), ([8], [8]), ([4, 9], [4, 9]), ([10, 0, 1, 2, 3, 4, 5, 6, 7, 8, 9, 10], [10])])
def helmsmanlaw12_TreeKinds.B7 : List Nat := [0, 1, 0, 7, 15, 0, 32, 0, 224, 480, 1023, 2047]
theorem helmsmanlaw12_TreeKinds.tab7 : rtab .any (opsOf Tryd.f7 7) = helmsmanlaw12_TreeKinds.T7 := by kernel_rfl
theorem helmsmanlaw12_TreeKinds.bits7 : waitsOk helmsmanlaw12_TreeKinds.T7.2 helmsmanlaw12_TreeKinds.B7 = true := by kernel_rfl
def helmsmanlaw12_TreeKinds.T11 : Bool × List (List Nat × List Nat) := (true, [([], []), ([0], [0]), ([], []), ([1, 2], [1, 2]), ([3], [3]), ([4], [4]), ([], []), ([6], [6]), ([], []), ([7, 8], [7, 8]), ([9], [9]), ([10], [10]), ([5, 11], [5, 11]), ([12], [12]), ([13], [13]), ([14, 13], [13, 14]), ([13], [13]), ([15, 16, 13], [13, 15, 16]), ([17, 13], [13, 17]), ([18, 13], [13, 18]), ([13], [13]), ([20, 13], [13, 20]), ([13], [13]), ([21, 22, 13], [13, 21, 22]), ([23, 13], [13, 23]), ([24, 13], [13, 24]), ([19, 25, 13, 13], [13, 19, 25]), ([13, 26], [13, 26]), ([27, 26, 0, 1, 2, 3, 4, 5, 6, 7, 8, 9, 10, 11, 12, 13, 14, 15, 16, 17, 18, 19, 20, 21, 22, 23, 24, 25, 26, 27], [27])])
def helmsmanlaw12_TreeKinds.B11 : List Nat := [0, 1, 0, 7, 15, 31, 0, 64, 0, 448, 960, 1984, 4095, 8191, 16383, 32767, 16383, 131071, 262143, 524287, 16383, 1064959, 16383, 7356415, 15745023, 32522239, 67108863, 134217727, 268435455]
theorem helmsmanlaw12_TreeKinds.tab11 : rtab .any (opsOf Tryd.f7 11) = helmsmanlaw12_TreeKinds.T11 := by kernel_rfl
theorem helmsmanlaw12_TreeKinds.bits11 : waitsOk helmsmanlaw12_TreeKinds.T11.2 helmsmanlaw12_TreeKinds.B11 = true := by kernel_rfl
def helmsmanlaw12_TreeKinds.T15 : Bool × List (List Nat × List Nat) := (true, [([], []), ([0], [0]), ([], []), ([1, 2], [1, 2]), ([3], [3]), ([4], [4]), ([], []), ([6], [6]), ([], []), ([7, 8], [7, 8]), ([9], [9]), ([10], [10]), ([5, 11], [5, 11]), ([12], [12]), ([13], [13]), ([14, 13], [13, 14]), ([13], [13]), ([15, 16, 13], [13, 15, 16]), ([17, 13], [13, 17]), ([18, 13], [13, 18]), ([19, 13], [13, 19]), ([13], [13]), ([21, 13], [13, 21]), ([13], [13]), ([22, 23, 13], [13, 22, 23]), ([24, 13], [13, 24]), ([25, 13], [13, 25]), ([26, 13], [13, 26]), ([20, 27, 13], [13, 20, 27]), ([13, 28], [13, 28]), ([29, 13, 0, 1, 2, 3, 4, 5, 6, 7, 8, 9, 10, 11, 12, 13, 14, 15, 16, 17, 18, 19, 20, 21, 22, 23, 24, 25, 26, 27, 28, 29], [29])])
def helmsmanlaw12_TreeKinds.B15 : List Nat := [0, 1, 0, 7, 15, 31, 0, 64, 0, 448, 960, 1984, 4095, 8191, 16383, 32767, 16383, 131071, 262143, 524287, 1048575, 16383, 2113535, 16383, 14696447, 31473663, 65028095, 132136959, 268435455, 536870911, 1073741823]
theorem helmsmanlaw12_TreeKinds.tab15 : rtab .any (opsOf Tryd.f7 15) = helmsmanlaw12_TreeKinds.T15 := by kernel_rfl
theorem helmsmanlaw12_TreeKinds.bits15 : waitsOk helmsmanlaw12_TreeKinds.T15.2 helmsmanlaw12_TreeKinds.B15 = true := by kernel_rfl
def helmsmanlaw12_TreeKinds.T19 : Bool × List (List Nat × List Nat) := (true, [([], []), ([0], [0]), ([], []), ([1, 2], [1, 2]), ([3], [3]), ([4], [4]), ([], []), ([5, 6], [5, 6]), ([7], [7]), ([], []), ([9], [9]), ([], []), ([10, 11], [10, 11]), ([12], [12]), ([13], [13]), ([], []), ([14, 15], [14, 15]), ([16], [16]), ([8, 17], [8, 17]), ([18, 0, 1, 2, 3, 4, 5, 6, 7, 8, 9, 10, 11, 12, 13, 14, 15, 16, 17, 18], [18])])
def helmsmanlaw12_TreeKinds.B19 : List Nat := [0, 1, 0, 7, 15, 31, 0, 127, 255, 0, 512, 0, 3584, 7680, 15872, 0, 65024, 130560, 262143, 524287]
theorem helmsmanlaw12_TreeKinds.tab19 : rtab .any (opsOf Tryd.f7 19) = helmsmanlaw12_TreeKinds.T19 := by kernel_rfl
theorem helmsmanlaw12_TreeKinds.bits19 : waitsOk helmsmanlaw12_TreeKinds.T19.2 helmsmanlaw12_TreeKinds.B19 = true := by kernel_rfl
def helmsmanlaw12_TreeKinds.T20 : Bool × List (List Nat × List Nat) := (true, [([], []), ([0, 0], [0]), ([1], [1]), ([2, 1, 1], [1, 2]), ([1], [1]), ([4, 3, 1], [1, 4]), ([3, 5, 5, 1], [1, 3, 5]), ([1], [1]), ([6, 7, 1], [1, 6, 7]), ([1, 8], [1, 8]), ([9, 6, 0, 1, 2, 3, 4, 5, 6, 7, 8, 9], [9])])
def helmsmanlaw12_TreeKinds.B20 : List Nat := [0, 1, 3, 7, 3, 31, 63, 3, 255, 511, 1023]
theorem helmsmanlaw12_TreeKinds.tab20 : rtab .any (opsOf Tryd.f7 20) = helmsmanlaw12_TreeKinds.T20 := by kernel_rfl
theorem helmsmanlaw12_TreeKinds.bits20 : waitsOk helmsmanlaw12_TreeKinds.T20.2 helmsmanlaw12_TreeKinds.B20 = true := by kernel_rfl
set_option maxHeartbeats 8000000 in
set_option maxRecDepth 100000 in
theorem helmsmanlaw12_TreeKinds.calls (k : Nat) (A0_0 : Option Addr) (c0_0 : Nat) (l0_0 : List (S72)) (A0_1 : Option Addr) (c0_1 : Nat) (l0_1 : List (S56)) (A0_2 : Option Addr) (c0_2 : Nat) (l0_2 : List (S69)) (A0_3 : Option Addr) (c0_3 : Nat) (l0_3 : List (S29)) (A1_0 : Option Addr) (c1_0 : Nat) (l1_0 : List (S72)) (A1_1 : Option Addr) (c1_1 : Nat) (l1_1 : List (S56)) (A1_2 : Option Addr) (c1_2 : Nat) (l1_2 : List (S69)) (A1_3 : Option Addr) (c1_3 : Nat) (l1_3 : List (S29)) (r : Bool) (w : World) (hT : TabT w) (hr0_0 : Kd.C k72 w A0_0 l0_0.length l0_0) (hc0_0 : l0_0.length ≤ c0_0) (hr0_1 : Kd.C k56 w A0_1 l0_1.length l0_1) (hc0_1 : l0_1.length ≤ c0_1) (hr0_2 : Kd.C k69 w A0_2 l0_2.length l0_2) (hc0_2 : l0_2.length ≤ c0_2) (hr0_3 : Kd.C k29 w A0_3 l0_3.length l0_3) (hc0_3 : l0_3.length ≤ c0_3) (hr1_0 : Kd.C k72 w A1_0 l1_0.length l1_0) (hc1_0 : l1_0.length ≤ c1_0) (hr1_1 : Kd.C k56 w A1_1 l1_1.length l1_1) (hc1_1 : l1_1.length ≤ c1_1) (hr1_2 : Kd.C k69 w A1_2 l1_2.length l1_2) (hc1_2 : l1_2.length ≤ c1_2) (hr1_3 : Kd.C k29 w A1_3 l1_3.length l1_3) (hc1_3 : l1_3.length ≤ c1_3) (h : helmsmanlaw12_TreeKinds.f k l0_0 l0_1 l0_2 l0_3 l1_0 l1_1 l1_2 l1_3 = some r) :
  Calls Tryd.prog 7 #[.agg #[.slice A0_0 l0_0.length c0_0, .slice A0_1 l0_1.length c0_1, .slice A0_2 l0_2.length c0_2, .slice A0_3 l0_3.length c0_3], .agg #[.slice A1_0 l1_0.length c1_0, .slice A1_1 l1_1.length c1_1, .slice A1_2 l1_2.length c1_2, .slice A1_3 l1_3.length c1_3]] w fun e w' => e = .returned (.bool r) ∧ Below w.heap.size w w' := by
 have hu43 := Tryd.underlying43
 have hu56 := Tryd.underlying56
 have HR0_0 := Aside0.mk hr0_0
 have HC0_0 := Aside0.mk hc0_0
 clear hr0_0 hc0_0
 have HR0_1 := Aside0.mk hr0_1
 have HC0_1 := Aside0.mk hc0_1
 clear hr0_1 hc0_1
 have HR0_2 := Aside0.mk hr0_2
 have HC0_2 := Aside0.mk hc0_2
 clear hr0_2 hc0_2
 have HR0_3 := Aside0.mk hr0_3
 have HC0_3 := Aside0.mk hc0_3
 clear hr0_3 hc0_3
 have HR1_0 := Aside0.mk hr1_0
 have HC1_0 := Aside0.mk hc1_0
 clear hr1_0 hc1_0
 have HR1_1 := Aside0.mk hr1_1
 have HC1_1 := Aside0.mk hc1_1
 clear hr1_1 hc1_1
 have HR1_2 := Aside0.mk hr1_2
 have HC1_2 := Aside0.mk hc1_2
 clear hr1_2 hc1_2
 have HR1_3 := Aside0.mk hr1_3
 have HC1_3 := Aside0.mk hc1_3
 clear hr1_3 hc1_3
 have HB := Aside0.mk (Below.refl w.heap.size w)
 have H : ((helmsmanref12_Sized.f k l0_0 l0_1 l0_2 l0_3).bind fun t483 => (if t483 > 300 then (helmsmanlaw12_TreeKinds.j0 k true l0_0 l0_1 l0_2 l0_3 l1_0 l1_1 l1_2 l1_3) else ((helmsmanref12_Sized.f k l1_0 l1_1 l1_2 l1_3).bind fun t484 => (helmsmanlaw12_TreeKinds.j0 k (decide (t484 > 300)) l0_0 l0_1 l0_2 l0_3 l1_0 l1_1 l1_2 l1_3)))) = some r := h
 clear h
 have HC3 := Aside0.mk H
 clear H
 go_enter Tryd.func7, Tryd.ntmps7
 go_upto_region 1 with (first | ((with_reducible refine gate_dst (N := 2) rfl ?_); (try (refine gate_guard (by rfl) ?_; dsimp only)); refine box_event ?hg (N := 2) ?hd (cs := #[.slice A0_0 l0_0.length c0_0, .slice A0_1 l0_1.length c0_1, .slice A0_2 l0_2.length c0_2, .slice A0_3 l0_3.length c0_3]) (t := 43) ?hr ?_; (case hd => rfl); (case hg => rfl); (case hr => first | (go_simp; done) | (go_simp; rfl)); intro gb481 hg w4 hbox hb; have n0_ := Aside0.mk (below_step (by repeat (first | (with_reducible first | exact HB.out | apply below_alloc | apply pw_below_drewN | apply below_drew1) | exact HB.out)) hb); have n1_ := Aside0.mk (hbox); have n2_ := Aside0.mk ((by rw [hg]; exact (below_size (by repeat (first | (with_reducible first | exact HB.out | apply below_alloc | apply pw_below_drewN | apply below_drew1) | exact HB.out))) : w.heap.size ≤ gb481)); have n3_ := Aside0.mk ((by rw [hg]; exact (below_size (by repeat (first | (with_reducible first | exact HB.out | apply below_alloc | apply pw_below_drewN | apply below_drew1) | exact HB.out))) : w.heap.size ≤ gb481)); clear HB; have HB := n0_; have BK481 := n1_; have GW481 := n2_; have GE481 := n3_; clear n0_ n1_ n2_ n3_; clear hb hbox hg) | ((with_reducible refine gate_dst (N := 3) rfl ?_); (try (refine gate_guard (by rfl) ?_; dsimp only)); refine box_event ?hg (N := 3) ?hd (cs := #[.slice A1_0 l1_0.length c1_0, .slice A1_1 l1_1.length c1_1, .slice A1_2 l1_2.length c1_2, .slice A1_3 l1_3.length c1_3]) (t := 43) ?hr ?_; (case hd => rfl); (case hg => rfl); (case hr => first | (go_simp; done) | (go_simp; rfl)); intro gb482 hg w5 hbox hb; have n0_ := Aside0.mk (blk_below (g := gb481) (o := .cells #[.slice A0_0 l0_0.length c0_0, .slice A0_1 l0_1.length c0_1, .slice A0_2 l0_2.length c0_2, .slice A0_3 l0_3.length c0_3] 43 (0, 0)) (by (with_reducible repeat (first | refine blk_drewN ?_ _ | refine blk_drew ?_ | refine blk_alloc ?_ _)); exact BK481.out) hb); have n1_ := Aside0.mk (below_step (by repeat (first | (with_reducible first | exact HB.out | apply below_alloc | apply pw_below_drewN | apply below_drew1 | refine below_set ?_ GE481.out) | exact HB.out)) hb); have n2_ := Aside0.mk (hbox); have n3_ := Aside0.mk ((by rw [hg]; exact (below_size (by repeat (first | (with_reducible first | exact HB.out | apply below_alloc | apply pw_below_drewN | apply below_drew1 | refine below_set ?_ GE481.out) | exact HB.out))) : w.heap.size ≤ gb482)); have n4_ := Aside0.mk ((by rw [hg]; exact (below_size (by repeat (first | (with_reducible first | exact HB.out | apply below_alloc | apply pw_below_drewN | apply below_drew1 | refine below_set ?_ GE481.out) | exact HB.out))) : w.heap.size ≤ gb482)); have n5_ := Aside0.mk ((by rw [hg]; exact Nat.ne_of_lt (blk_lt (g := gb481) (o := .cells #[.slice A0_0 l0_0.length c0_0, .slice A0_1 l0_1.length c0_1, .slice A0_2 l0_2.length c0_2, .slice A0_3 l0_3.length c0_3] 43 (0, 0)) (by (with_reducible repeat (first | refine blk_drewN ?_ _ | refine blk_drew ?_ | refine blk_alloc ?_ _)); exact BK481.out)) : gb481 ≠ gb482)); have n6_ := Aside0.mk ((by rw [hg]; exact Nat.ne_of_gt (blk_lt (g := gb481) (o := .cells #[.slice A0_0 l0_0.length c0_0, .slice A0_1 l0_1.length c0_1, .slice A0_2 l0_2.length c0_2, .slice A0_3 l0_3.length c0_3] 43 (0, 0)) (by (with_reducible repeat (first | refine blk_drewN ?_ _ | refine blk_drew ?_ | refine blk_alloc ?_ _)); exact BK481.out)) : gb482 ≠ gb481)); clear BK481; clear HB; have BK481 := n0_; have HB := n1_; have BK482 := n2_; have GW482 := n3_; have GE482 := n4_; have NB481_482 := n5_; have NB482_481 := n6_; clear n0_ n1_ n2_ n3_ n4_ n5_ n6_; clear hb hbox hg))
 (try simp only [Act.put, List.setIfInBounds_toArray, List.set_cons_zero, List.set_cons_succ])
 go_cut [17] (fun v17 wc => ∃ (kq : Nat) (x17_2 : Bool), v17 = .bool x17_2 ∧ Aside0 (helmsmanlaw12_TreeKinds.j0 kq x17_2 l0_0 l0_1 l0_2 l0_3 l1_0 l1_1 l1_2 l1_3 = some r) ∧ Aside0 (kq ≤ k) ∧ Aside0 (wc.heap[gb481]? = some (.cells #[(.slice A0_0 l0_0.length c0_0), (.slice A0_1 l0_1.length c0_1), (.slice A0_2 l0_2.length c0_2), (.slice A0_3 l0_3.length c0_3)] 43 (0, 0))) ∧ Aside0 (wc.heap[gb482]? = some (.cells #[(.slice A1_0 l1_0.length c1_0), (.slice A1_1 l1_1.length c1_1), (.slice A1_2 l1_2.length c1_2), (.slice A1_3 l1_3.length c1_3)] 43 (0, 0))) ∧ Aside0 (Below w.heap.size w wc))
 case first => as_aux_lemma =>
  have H := HC3.out
  clear HC3
  replace H := Option.bind_eq_some_iff.mp H
  obtain ⟨t483, A60, H⟩ := H
  replace H : (if t483 > 300 then (helmsmanlaw12_TreeKinds.j0 k true l0_0 l0_1 l0_2 l0_3 l1_0 l1_1 l1_2 l1_3) else ((helmsmanref12_Sized.f k l1_0 l1_1 l1_2 l1_3).bind fun t484 => (helmsmanlaw12_TreeKinds.j0 k (decide (t484 > 300)) l0_0 l0_1 l0_2 l0_3 l1_0 l1_1 l1_2 l1_3))) = some r := H
  have A6 := Aside0.mk A60
  clear A60
  by_cases c7 : t483 > 300
  ·rw [if_pos c7] at H
   have c7b0 : decide (300 < t483) = true := decide_eq_true c7
   clear c7
   (first | rw [c7b0] | (simp only [i64_w, i32_w]; rw [c7b0]) | skip)
   have H' := Aside0.mk H
   clear H
   have hnb8 := NB481_482.out
   have hnc8 := NB482_481.out
   have hcz9_0 : w5.cell? ⟨gb481, 0, none⟩ = some (.slice A0_0 l0_0.length c0_0) := (blk_cell BK481.out 0).trans rfl
   have hcz9_1 : w5.cell? ⟨gb481, 1, none⟩ = some (.slice A0_1 l0_1.length c0_1) := (blk_cell BK481.out 1).trans rfl
   have hcz9_2 : w5.cell? ⟨gb481, 2, none⟩ = some (.slice A0_2 l0_2.length c0_2) := (blk_cell BK481.out 2).trans rfl
   have hcz9_3 : w5.cell? ⟨gb481, 3, none⟩ = some (.slice A0_3 l0_3.length c0_3) := (blk_cell BK481.out 3).trans rfl
   have hfz9_0 := blk_frozen BK481.out 0
   have hfz9_1 := blk_frozen BK481.out 1
   have hfz9_2 := blk_frozen BK481.out 2
   have hfz9_3 := blk_frozen BK481.out 3
   go_wp2_with (first | ((with_reducible refine gate_callee (f := 16) rfl ?_); refine goesL_ (some 11) rfl rfl Tryd.func16 (by kernel_rfl) rfl #[.agg #[.slice A0_0 l0_0.length c0_0, .slice A0_1 l0_1.length c0_1, .slice A0_2 l0_2.length c0_2, .slice A0_3 l0_3.length c0_3]] rfl (by (try simp only [List.map_toArray, List.map_cons, List.map_nil]); first | done | rfl | (simp only [List.length_drop, List.length_take]; rfl)) ?_; (with_reducible refine (helmsmanref12_Sized.calls k _ _ l0_0 _ _ l0_1 _ _ l0_2 _ _ l0_3 t483 _ ?side1 ?side2 ?side3 ?side4 ?side5 ?side6 ?side7 ?side8 A6.out).mono ?_); (case side1 => repeat (first | exact (Kd.C_below HR0_0.out HB.out) | (with_reducible refine Kd.C_alloc ?_ _) | (with_reducible refine Kd.C_drewN ?_ _) | (with_reducible refine Kd.C_drew ?_))); (case side2 => exact HC0_0.out); (case side3 => repeat (first | exact (Kd.C_below HR0_1.out HB.out) | (with_reducible refine Kd.C_alloc ?_ _) | (with_reducible refine Kd.C_drewN ?_ _) | (with_reducible refine Kd.C_drew ?_))); (case side4 => exact HC0_1.out); (case side5 => repeat (first | exact (Kd.C_below HR0_2.out HB.out) | (with_reducible refine Kd.C_alloc ?_ _) | (with_reducible refine Kd.C_drewN ?_ _) | (with_reducible refine Kd.C_drew ?_))); (case side6 => exact HC0_2.out); (case side7 => repeat (first | exact (Kd.C_below HR0_3.out HB.out) | (with_reducible refine Kd.C_alloc ?_ _) | (with_reducible refine Kd.C_drewN ?_ _) | (with_reducible refine Kd.C_drew ?_))); (case side8 => exact HC0_3.out); rintro e w10 ⟨rfl, hb⟩; refine ⟨_, rfl, ?_⟩; have n0_ := Aside0.mk (blk_below (g := gb481) (o := .cells #[.slice A0_0 l0_0.length c0_0, .slice A0_1 l0_1.length c0_1, .slice A0_2 l0_2.length c0_2, .slice A0_3 l0_3.length c0_3] 43 (0, 0)) (by (with_reducible repeat (first | refine blk_drewN ?_ _ | refine blk_drew ?_ | refine blk_alloc ?_ _)); exact BK481.out) hb); have n1_ := Aside0.mk (blk_below (g := gb482) (o := .cells #[.slice A1_0 l1_0.length c1_0, .slice A1_1 l1_1.length c1_1, .slice A1_2 l1_2.length c1_2, .slice A1_3 l1_3.length c1_3] 43 (0, 0)) (by (with_reducible repeat (first | refine blk_drewN ?_ _ | refine blk_drew ?_ | refine blk_alloc ?_ _)); exact BK482.out) hb); have n2_ := Aside0.mk (below_step (by repeat (first | (with_reducible first | exact HB.out | apply below_alloc | apply pw_below_drewN | apply below_drew1 | refine below_set ?_ GE481.out | refine below_set ?_ GE482.out) | exact HB.out)) hb); clear BK481; clear BK482; clear HB; have BK481 := n0_; have BK482 := n1_; have HB := n2_; clear n0_ n1_ n2_; (try clear hb); (try clear hb2); (try clear hk); (try clear hi)))
   go_meet
   case rel => exact ⟨_, (true), (by first | rfl | (simp; done) | (simp [*]; done)), H', ⟨by first | omega | exact Nat.le_refl _⟩, ⟨by (with_reducible repeat (first | refine blk_drewN ?_ _ | refine blk_drew ?_ | refine blk_alloc ?_ _)); exact BK481.out⟩, ⟨by (with_reducible repeat (first | refine blk_drewN ?_ _ | refine blk_drew ?_ | refine blk_alloc ?_ _)); exact BK482.out⟩, ⟨by repeat (first | (with_reducible first | exact HB.out | apply below_alloc | apply pw_below_drewN | apply below_drew1 | refine below_set ?_ GE481.out | refine below_set ?_ GE482.out) | exact HB.out)⟩⟩
  ·rw [if_neg c7] at H
   have c7b0 : decide (300 < t483) = false := decide_eq_false c7
   clear c7
   (first | rw [c7b0] | (simp only [i64_w, i32_w]; rw [c7b0]) | skip)
   replace H := Option.bind_eq_some_iff.mp H
   obtain ⟨t484, A110, H⟩ := H
   replace H : (helmsmanlaw12_TreeKinds.j0 k (decide (t484 > 300)) l0_0 l0_1 l0_2 l0_3 l1_0 l1_1 l1_2 l1_3) = some r := H
   have A11 := Aside0.mk A110
   clear A110
   have H' := Aside0.mk H
   clear H
   have hnb12 := NB481_482.out
   have hnc12 := NB482_481.out
   have hcz13_0 : w5.cell? ⟨gb481, 0, none⟩ = some (.slice A0_0 l0_0.length c0_0) := (blk_cell BK481.out 0).trans rfl
   have hcz13_1 : w5.cell? ⟨gb481, 1, none⟩ = some (.slice A0_1 l0_1.length c0_1) := (blk_cell BK481.out 1).trans rfl
   have hcz13_2 : w5.cell? ⟨gb481, 2, none⟩ = some (.slice A0_2 l0_2.length c0_2) := (blk_cell BK481.out 2).trans rfl
   have hcz13_3 : w5.cell? ⟨gb481, 3, none⟩ = some (.slice A0_3 l0_3.length c0_3) := (blk_cell BK481.out 3).trans rfl
   have hfz13_0 := blk_frozen BK481.out 0
   have hfz13_1 := blk_frozen BK481.out 1
   have hfz13_2 := blk_frozen BK481.out 2
   have hfz13_3 := blk_frozen BK481.out 3
   go_wp2_with (first | ((with_reducible refine gate_callee (f := 16) rfl ?_); refine goesL_ (some 11) rfl rfl Tryd.func16 (by kernel_rfl) rfl #[.agg #[.slice A0_0 l0_0.length c0_0, .slice A0_1 l0_1.length c0_1, .slice A0_2 l0_2.length c0_2, .slice A0_3 l0_3.length c0_3]] rfl (by (try simp only [List.map_toArray, List.map_cons, List.map_nil]); first | done | rfl | (simp only [List.length_drop, List.length_take]; rfl)) ?_; (with_reducible refine (helmsmanref12_Sized.calls k _ _ l0_0 _ _ l0_1 _ _ l0_2 _ _ l0_3 t483 _ ?side1 ?side2 ?side3 ?side4 ?side5 ?side6 ?side7 ?side8 A6.out).mono ?_); (case side1 => repeat (first | exact (Kd.C_below HR0_0.out HB.out) | (with_reducible refine Kd.C_alloc ?_ _) | (with_reducible refine Kd.C_drewN ?_ _) | (with_reducible refine Kd.C_drew ?_))); (case side2 => exact HC0_0.out); (case side3 => repeat (first | exact (Kd.C_below HR0_1.out HB.out) | (with_reducible refine Kd.C_alloc ?_ _) | (with_reducible refine Kd.C_drewN ?_ _) | (with_reducible refine Kd.C_drew ?_))); (case side4 => exact HC0_1.out); (case side5 => repeat (first | exact (Kd.C_below HR0_2.out HB.out) | (with_reducible refine Kd.C_alloc ?_ _) | (with_reducible refine Kd.C_drewN ?_ _) | (with_reducible refine Kd.C_drew ?_))); (case side6 => exact HC0_2.out); (case side7 => repeat (first | exact (Kd.C_below HR0_3.out HB.out) | (with_reducible refine Kd.C_alloc ?_ _) | (with_reducible refine Kd.C_drewN ?_ _) | (with_reducible refine Kd.C_drew ?_))); (case side8 => exact HC0_3.out); rintro e w14 ⟨rfl, hb⟩; refine ⟨_, rfl, ?_⟩; have n0_ := Aside0.mk (blk_below (g := gb481) (o := .cells #[.slice A0_0 l0_0.length c0_0, .slice A0_1 l0_1.length c0_1, .slice A0_2 l0_2.length c0_2, .slice A0_3 l0_3.length c0_3] 43 (0, 0)) (by (with_reducible repeat (first | refine blk_drewN ?_ _ | refine blk_drew ?_ | refine blk_alloc ?_ _)); exact BK481.out) hb); have n1_ := Aside0.mk (blk_below (g := gb482) (o := .cells #[.slice A1_0 l1_0.length c1_0, .slice A1_1 l1_1.length c1_1, .slice A1_2 l1_2.length c1_2, .slice A1_3 l1_3.length c1_3] 43 (0, 0)) (by (with_reducible repeat (first | refine blk_drewN ?_ _ | refine blk_drew ?_ | refine blk_alloc ?_ _)); exact BK482.out) hb); have n2_ := Aside0.mk (below_step (by repeat (first | (with_reducible first | exact HB.out | apply below_alloc | apply pw_below_drewN | apply below_drew1 | refine below_set ?_ GE481.out | refine below_set ?_ GE482.out) | exact HB.out)) hb); clear BK481; clear BK482; clear HB; have BK481 := n0_; have BK482 := n1_; have HB := n2_; clear n0_ n1_ n2_; (try clear hb); (try clear hb2); (try clear hk); (try clear hi); have hcz15_0 : w14.cell? ⟨gb482, 0, none⟩ = some (.slice A1_0 l1_0.length c1_0) := (blk_cell BK482.out 0).trans rfl; have hcz15_1 : w14.cell? ⟨gb482, 1, none⟩ = some (.slice A1_1 l1_1.length c1_1) := (blk_cell BK482.out 1).trans rfl; have hcz15_2 : w14.cell? ⟨gb482, 2, none⟩ = some (.slice A1_2 l1_2.length c1_2) := (blk_cell BK482.out 2).trans rfl; have hcz15_3 : w14.cell? ⟨gb482, 3, none⟩ = some (.slice A1_3 l1_3.length c1_3) := (blk_cell BK482.out 3).trans rfl; have hfz15_0 := blk_frozen BK482.out 0; have hfz15_1 := blk_frozen BK482.out 1; have hfz15_2 := blk_frozen BK482.out 2; have hfz15_3 := blk_frozen BK482.out 3) | (go_at_call 16; (with_reducible refine (helmsmanref12_Sized.calls k _ _ l1_0 _ _ l1_1 _ _ l1_2 _ _ l1_3 t484 _ ?side1 ?side2 ?side3 ?side4 ?side5 ?side6 ?side7 ?side8 A11.out).mono ?_); (case side1 => repeat (first | exact (Kd.C_below HR1_0.out HB.out) | (with_reducible refine Kd.C_alloc ?_ _) | (with_reducible refine Kd.C_drewN ?_ _) | (with_reducible refine Kd.C_drew ?_))); (case side2 => exact HC1_0.out); (case side3 => repeat (first | exact (Kd.C_below HR1_1.out HB.out) | (with_reducible refine Kd.C_alloc ?_ _) | (with_reducible refine Kd.C_drewN ?_ _) | (with_reducible refine Kd.C_drew ?_))); (case side4 => exact HC1_1.out); (case side5 => repeat (first | exact (Kd.C_below HR1_2.out HB.out) | (with_reducible refine Kd.C_alloc ?_ _) | (with_reducible refine Kd.C_drewN ?_ _) | (with_reducible refine Kd.C_drew ?_))); (case side6 => exact HC1_2.out); (case side7 => repeat (first | exact (Kd.C_below HR1_3.out HB.out) | (with_reducible refine Kd.C_alloc ?_ _) | (with_reducible refine Kd.C_drewN ?_ _) | (with_reducible refine Kd.C_drew ?_))); (case side8 => exact HC1_3.out); rintro e w16 ⟨rfl, hb⟩; have n0_ := Aside0.mk (blk_below (g := gb481) (o := .cells #[.slice A0_0 l0_0.length c0_0, .slice A0_1 l0_1.length c0_1, .slice A0_2 l0_2.length c0_2, .slice A0_3 l0_3.length c0_3] 43 (0, 0)) (by (with_reducible repeat (first | refine blk_drewN ?_ _ | refine blk_drew ?_ | refine blk_alloc ?_ _)); exact BK481.out) hb); have n1_ := Aside0.mk (blk_below (g := gb482) (o := .cells #[.slice A1_0 l1_0.length c1_0, .slice A1_1 l1_1.length c1_1, .slice A1_2 l1_2.length c1_2, .slice A1_3 l1_3.length c1_3] 43 (0, 0)) (by (with_reducible repeat (first | refine blk_drewN ?_ _ | refine blk_drew ?_ | refine blk_alloc ?_ _)); exact BK482.out) hb); have n2_ := Aside0.mk (below_step (by repeat (first | (with_reducible first | exact HB.out | apply below_alloc | apply pw_below_drewN | apply below_drew1 | refine below_set ?_ GE481.out | refine below_set ?_ GE482.out) | exact HB.out)) hb); clear BK481; clear BK482; clear HB; have BK481 := n0_; have BK482 := n1_; have HB := n2_; clear n0_ n1_ n2_; (try clear hb); (try clear hb2); (try clear hk); (try clear hi)))
   go_meet
   case rel => exact ⟨_, (decide (t484 > 300)), (by first | rfl | (simp; done) | (simp [*]; done)), H', ⟨by first | omega | exact Nat.le_refl _⟩, ⟨by (with_reducible repeat (first | refine blk_drewN ?_ _ | refine blk_drew ?_ | refine blk_alloc ?_ _)); exact BK481.out⟩, ⟨by (with_reducible repeat (first | refine blk_drewN ?_ _ | refine blk_drew ?_ | refine blk_alloc ?_ _)); exact BK482.out⟩, ⟨by repeat (first | (with_reducible first | exact HB.out | apply below_alloc | apply pw_below_drewN | apply below_drew1 | refine below_set ?_ GE481.out | refine below_set ?_ GE482.out) | exact HB.out)⟩⟩
 case rest => as_aux_lemma =>
  clear HC3
  (try clear c1); (try clear p2); (try clear c7); (try clear c7b0); (try clear c8); (try clear c12); (try clear c16); (try clear hcz13_0); (try clear hcz13_1); (try clear hcz13_2); (try clear hcz13_3); (try clear hcz15_0); (try clear hcz15_1); (try clear hcz15_2); (try clear hcz15_3); (try clear hcz9_0); (try clear hcz9_1); (try clear hcz9_2); (try clear hcz9_3); (try clear hfz13_0); (try clear hfz13_1); (try clear hfz13_2); (try clear hfz13_3); (try clear hfz15_0); (try clear hfz15_1); (try clear hfz15_2); (try clear hfz15_3); (try clear hfz9_0); (try clear hfz9_1); (try clear hfz9_2); (try clear hfz9_3)
  obtain ⟨kq, x17_2, rfl, HA, HJ2, BK481, BK482, HB⟩ := hcut
  cases kq with
  | zero => exact absurd HA.out (by simp [helmsmanlaw12_TreeKinds.j0])
  | succ kj2 =>
   have H := HA.out
   clear HA
   simp only [helmsmanlaw12_TreeKinds.j0] at H
   by_cases c17 : x17_2 = true
   ·subst c17
    have H1 : ((helmsmanlaw12_alive.f).bind fun t485 => (some t485)) = some r := by rw [if_pos rfl] at H; exact H
    clear H
    have H := H1
    clear H1
    replace H := Option.bind_eq_some_iff.mp H
    obtain ⟨t485, A180, H⟩ := H
    replace H : (some t485) = some r := H
    have A18 := Aside0.mk A180
    clear A180
    obtain rfl := Option.some.inj H
    go_wp2_with (first | ((with_reducible refine gate_callee (f := 10) rfl ?_); refine goesL_ (some 18) rfl rfl Tryd.func10 (by kernel_rfl) rfl #[] rfl (by (try simp only [List.map_toArray, List.map_cons, List.map_nil]); first | done | rfl | (simp only [List.length_drop, List.length_take]; rfl)) ?_; (with_reducible refine (helmsmanlaw12_alive.calls  t485 _ ?side1 A18.out).mono ?_); (case side1 => exact hT.later (by repeat (first | (with_reducible first | exact HB.out | apply below_alloc | apply pw_below_drewN | apply below_drew1 | refine below_set ?_ GE481.out | refine below_set ?_ GE482.out) | exact HB.out))); rintro e w19 ⟨rfl, hb⟩; refine ⟨_, rfl, ?_⟩; have n0_ := Aside0.mk (blk_below (g := gb481) (o := .cells #[.slice A0_0 l0_0.length c0_0, .slice A0_1 l0_1.length c0_1, .slice A0_2 l0_2.length c0_2, .slice A0_3 l0_3.length c0_3] 43 (0, 0)) (by (with_reducible repeat (first | refine blk_drewN ?_ _ | refine blk_drew ?_ | refine blk_alloc ?_ _)); exact BK481.out) hb); have n1_ := Aside0.mk (blk_below (g := gb482) (o := .cells #[.slice A1_0 l1_0.length c1_0, .slice A1_1 l1_1.length c1_1, .slice A1_2 l1_2.length c1_2, .slice A1_3 l1_3.length c1_3] 43 (0, 0)) (by (with_reducible repeat (first | refine blk_drewN ?_ _ | refine blk_drew ?_ | refine blk_alloc ?_ _)); exact BK482.out) hb); have n2_ := Aside0.mk (below_step (by repeat (first | (with_reducible first | exact HB.out | apply below_alloc | apply pw_below_drewN | apply below_drew1 | refine below_set ?_ GE481.out | refine below_set ?_ GE482.out) | exact HB.out)) hb); clear BK481; clear BK482; clear HB; have BK481 := n0_; have BK482 := n1_; have HB := n2_; clear n0_ n1_ n2_; (try clear hb); (try clear hb2); (try clear hk); (try clear hi)))
    go_ret
    exact ⟨by first | rfl | (simp [errW_none, errW_some] <;> rfl) | (simp [*, errW_none, errW_some] <;> rfl), by repeat (first | (with_reducible first | exact HB.out | apply below_alloc | apply pw_below_drewN | apply below_drew1 | refine below_set ?_ GE481.out | refine below_set ?_ GE482.out) | exact HB.out)⟩
   ·replace c17 := Bool.eq_false_iff.mpr c17
    subst c17
    have H1 : ((helmsmanref12_SameStmts.f kj2 l0_3 l1_3).bind fun t486 => (if t486 = true then (if (l0_0.length : Int) = (l1_0.length : Int) then (if (l0_1.length : Int) = (l1_1.length : Int) then (helmsmanlaw12_TreeKinds.j1 kj2 ((l0_2.length : Int) == (l1_2.length : Int)) l0_0 l0_1 l0_2 l0_3 l1_0 l1_1 l1_2 l1_3) else (helmsmanlaw12_TreeKinds.j1 kj2 false l0_0 l0_1 l0_2 l0_3 l1_0 l1_1 l1_2 l1_3)) else (helmsmanlaw12_TreeKinds.j1 kj2 false l0_0 l0_1 l0_2 l0_3 l1_0 l1_1 l1_2 l1_3)) else (helmsmanlaw12_TreeKinds.j1 kj2 false l0_0 l0_1 l0_2 l0_3 l1_0 l1_1 l1_2 l1_3))) = some r := by rw [if_neg (show ¬ (false = true) by decide)] at H; exact H
    clear H
    have H := H1
    clear H1
    have HC20 := Aside0.mk H
    clear H
    go_upto_region 3 with (fail)
    go_cut [5] (fun v5 wc => ∃ (kq : Nat) (x5_19 : Bool), v5 = .bool x5_19 ∧ Aside0 (helmsmanlaw12_TreeKinds.j1 kq x5_19 l0_0 l0_1 l0_2 l0_3 l1_0 l1_1 l1_2 l1_3 = some r) ∧ Aside0 (kq ≤ kj2) ∧ Aside0 (wc.heap[gb481]? = some (.cells #[(.slice A0_0 l0_0.length c0_0), (.slice A0_1 l0_1.length c0_1), (.slice A0_2 l0_2.length c0_2), (.slice A0_3 l0_3.length c0_3)] 43 (0, 0))) ∧ Aside0 (wc.heap[gb482]? = some (.cells #[(.slice A1_0 l1_0.length c1_0), (.slice A1_1 l1_1.length c1_1), (.slice A1_2 l1_2.length c1_2), (.slice A1_3 l1_3.length c1_3)] 43 (0, 0))) ∧ Aside0 (Below w.heap.size w wc))
    case first => as_aux_lemma =>
     have H := HC20.out
     clear HC20
     replace H := Option.bind_eq_some_iff.mp H
     obtain ⟨t486, A210, H⟩ := H
     replace H : (if t486 = true then (if (l0_0.length : Int) = (l1_0.length : Int) then (if (l0_1.length : Int) = (l1_1.length : Int) then (helmsmanlaw12_TreeKinds.j1 kj2 ((l0_2.length : Int) == (l1_2.length : Int)) l0_0 l0_1 l0_2 l0_3 l1_0 l1_1 l1_2 l1_3) else (helmsmanlaw12_TreeKinds.j1 kj2 false l0_0 l0_1 l0_2 l0_3 l1_0 l1_1 l1_2 l1_3)) else (helmsmanlaw12_TreeKinds.j1 kj2 false l0_0 l0_1 l0_2 l0_3 l1_0 l1_1 l1_2 l1_3)) else (helmsmanlaw12_TreeKinds.j1 kj2 false l0_0 l0_1 l0_2 l0_3 l1_0 l1_1 l1_2 l1_3)) = some r := H
     have A21 := Aside0.mk A210
     clear A210
     by_cases c22 : t486 = true
     ·subst c22
      have H1 : (if (l0_0.length : Int) = (l1_0.length : Int) then (if (l0_1.length : Int) = (l1_1.length : Int) then (helmsmanlaw12_TreeKinds.j1 kj2 ((l0_2.length : Int) == (l1_2.length : Int)) l0_0 l0_1 l0_2 l0_3 l1_0 l1_1 l1_2 l1_3) else (helmsmanlaw12_TreeKinds.j1 kj2 false l0_0 l0_1 l0_2 l0_3 l1_0 l1_1 l1_2 l1_3)) else (helmsmanlaw12_TreeKinds.j1 kj2 false l0_0 l0_1 l0_2 l0_3 l1_0 l1_1 l1_2 l1_3)) = some r := by rw [if_pos rfl] at H; exact H
      clear H
      have H := H1
      clear H1
      by_cases c23 : (l0_0.length : Int) = (l1_0.length : Int)
      ·rw [if_pos c23] at H
       have c23b0 : ((l0_0.length : Int) == (l1_0.length : Int)) = true := beq_iff_eq.mpr c23
       have c23b1 : ((l0_0.length : Int) != (l1_0.length : Int)) = false := bne_eq_false_iff_eq.mpr c23
       have c23b2 : (l0_0.length == l1_0.length) = true := by first | simpa using c23 | (simp at c23 ⊢; omega)
       clear c23
       (first | rw [c23b0] | (simp only [i64_w, i32_w]; rw [c23b0]) | skip)
       by_cases c24 : (l0_1.length : Int) = (l1_1.length : Int)
       ·rw [if_pos c24] at H
        have c24b0 : ((l0_1.length : Int) == (l1_1.length : Int)) = true := beq_iff_eq.mpr c24
        have c24b1 : ((l0_1.length : Int) != (l1_1.length : Int)) = false := bne_eq_false_iff_eq.mpr c24
        have c24b2 : (l0_1.length == l1_1.length) = true := by first | simpa using c24 | (simp at c24 ⊢; omega)
        clear c24
        have H' := Aside0.mk H
        clear H
        have hnb25 := NB481_482.out
        have hnc25 := NB482_481.out
        have hcz26_0 : wc.cell? ⟨gb481, 0, none⟩ = some (.slice A0_0 l0_0.length c0_0) := (blk_cell BK481.out 0).trans rfl
        have hcz26_1 : wc.cell? ⟨gb481, 1, none⟩ = some (.slice A0_1 l0_1.length c0_1) := (blk_cell BK481.out 1).trans rfl
        have hcz26_2 : wc.cell? ⟨gb481, 2, none⟩ = some (.slice A0_2 l0_2.length c0_2) := (blk_cell BK481.out 2).trans rfl
        have hcz26_3 : wc.cell? ⟨gb481, 3, none⟩ = some (.slice A0_3 l0_3.length c0_3) := (blk_cell BK481.out 3).trans rfl
        have hfz26_0 := blk_frozen BK481.out 0
        have hfz26_1 := blk_frozen BK481.out 1
        have hfz26_2 := blk_frozen BK481.out 2
        have hfz26_3 := blk_frozen BK481.out 3
        have hcz27_0 : wc.cell? ⟨gb482, 0, none⟩ = some (.slice A1_0 l1_0.length c1_0) := (blk_cell BK482.out 0).trans rfl
        have hcz27_1 : wc.cell? ⟨gb482, 1, none⟩ = some (.slice A1_1 l1_1.length c1_1) := (blk_cell BK482.out 1).trans rfl
        have hcz27_2 : wc.cell? ⟨gb482, 2, none⟩ = some (.slice A1_2 l1_2.length c1_2) := (blk_cell BK482.out 2).trans rfl
        have hcz27_3 : wc.cell? ⟨gb482, 3, none⟩ = some (.slice A1_3 l1_3.length c1_3) := (blk_cell BK482.out 3).trans rfl
        have hfz27_0 := blk_frozen BK482.out 0
        have hfz27_1 := blk_frozen BK482.out 1
        have hfz27_2 := blk_frozen BK482.out 2
        have hfz27_3 := blk_frozen BK482.out 3
        go_wp2_with (first | ((with_reducible refine gate_callee (f := 25) rfl ?_); refine goesL_ (some 23) rfl rfl Tryd.func25 (by kernel_rfl) rfl #[.slice A0_3 l0_3.length c0_3, .slice A1_3 l1_3.length c1_3] rfl (by (try simp only [List.map_toArray, List.map_cons, List.map_nil]); first | done | rfl | (simp only [List.length_drop, List.length_take]; rfl)) ?_; (with_reducible refine (helmsmanref12_SameStmts.calls kj2 _ _ l0_3 _ _ l1_3 true _ ?side1 ?side2 ?side3 ?side4 A21.out).mono ?_); (case side1 => repeat (first | exact (Kd.C_below HR0_3.out HB.out) | (with_reducible refine Kd.C_alloc ?_ _) | (with_reducible refine Kd.C_drewN ?_ _) | (with_reducible refine Kd.C_drew ?_))); (case side2 => exact HC0_3.out); (case side3 => repeat (first | exact (Kd.C_below HR1_3.out HB.out) | (with_reducible refine Kd.C_alloc ?_ _) | (with_reducible refine Kd.C_drewN ?_ _) | (with_reducible refine Kd.C_drew ?_))); (case side4 => exact HC1_3.out); rintro e w28 ⟨rfl, hb⟩; refine ⟨_, rfl, ?_⟩; have n0_ := Aside0.mk (blk_below (g := gb481) (o := .cells #[.slice A0_0 l0_0.length c0_0, .slice A0_1 l0_1.length c0_1, .slice A0_2 l0_2.length c0_2, .slice A0_3 l0_3.length c0_3] 43 (0, 0)) (by (with_reducible repeat (first | refine blk_drewN ?_ _ | refine blk_drew ?_ | refine blk_alloc ?_ _)); exact BK481.out) hb); have n1_ := Aside0.mk (blk_below (g := gb482) (o := .cells #[.slice A1_0 l1_0.length c1_0, .slice A1_1 l1_1.length c1_1, .slice A1_2 l1_2.length c1_2, .slice A1_3 l1_3.length c1_3] 43 (0, 0)) (by (with_reducible repeat (first | refine blk_drewN ?_ _ | refine blk_drew ?_ | refine blk_alloc ?_ _)); exact BK482.out) hb); have n2_ := Aside0.mk (below_step (by repeat (first | (with_reducible first | exact HB.out | apply below_alloc | apply pw_below_drewN | apply below_drew1 | refine below_set ?_ GE481.out | refine below_set ?_ GE482.out) | exact HB.out)) hb); clear BK481; clear BK482; clear HB; have BK481 := n0_; have BK482 := n1_; have HB := n2_; clear n0_ n1_ n2_; (try clear hb); (try clear hb2); (try clear hk); (try clear hi); have hcz29_0 : w28.cell? ⟨gb481, 0, none⟩ = some (.slice A0_0 l0_0.length c0_0) := (blk_cell BK481.out 0).trans rfl; have hcz29_1 : w28.cell? ⟨gb481, 1, none⟩ = some (.slice A0_1 l0_1.length c0_1) := (blk_cell BK481.out 1).trans rfl; have hcz29_2 : w28.cell? ⟨gb481, 2, none⟩ = some (.slice A0_2 l0_2.length c0_2) := (blk_cell BK481.out 2).trans rfl; have hcz29_3 : w28.cell? ⟨gb481, 3, none⟩ = some (.slice A0_3 l0_3.length c0_3) := (blk_cell BK481.out 3).trans rfl; have hfz29_0 := blk_frozen BK481.out 0; have hfz29_1 := blk_frozen BK481.out 1; have hfz29_2 := blk_frozen BK481.out 2; have hfz29_3 := blk_frozen BK481.out 3; have hcz30_0 : w28.cell? ⟨gb482, 0, none⟩ = some (.slice A1_0 l1_0.length c1_0) := (blk_cell BK482.out 0).trans rfl; have hcz30_1 : w28.cell? ⟨gb482, 1, none⟩ = some (.slice A1_1 l1_1.length c1_1) := (blk_cell BK482.out 1).trans rfl; have hcz30_2 : w28.cell? ⟨gb482, 2, none⟩ = some (.slice A1_2 l1_2.length c1_2) := (blk_cell BK482.out 2).trans rfl; have hcz30_3 : w28.cell? ⟨gb482, 3, none⟩ = some (.slice A1_3 l1_3.length c1_3) := (blk_cell BK482.out 3).trans rfl; have hfz30_0 := blk_frozen BK482.out 0; have hfz30_1 := blk_frozen BK482.out 1; have hfz30_2 := blk_frozen BK482.out 2; have hfz30_3 := blk_frozen BK482.out 3))
        go_meet
        case rel => exact ⟨_, (((l0_2.length : Int) == (l1_2.length : Int))), (by first | rfl | (simp; done) | (simp [*]; done)), H', ⟨by have := HJ2.out; first | omega | exact Nat.le_refl _⟩, ⟨by (with_reducible repeat (first | refine blk_drewN ?_ _ | refine blk_drew ?_ | refine blk_alloc ?_ _)); exact BK481.out⟩, ⟨by (with_reducible repeat (first | refine blk_drewN ?_ _ | refine blk_drew ?_ | refine blk_alloc ?_ _)); exact BK482.out⟩, ⟨by repeat (first | (with_reducible first | exact HB.out | apply below_alloc | apply pw_below_drewN | apply below_drew1 | refine below_set ?_ GE481.out | refine below_set ?_ GE482.out) | exact HB.out)⟩⟩
       ·rw [if_neg c24] at H
        have c24b0 : ((l0_1.length : Int) == (l1_1.length : Int)) = false := beq_eq_false_iff_ne.mpr c24
        have c24b1 : ((l0_1.length : Int) != (l1_1.length : Int)) = true := bne_iff_ne.mpr c24
        have c24b2 : (l0_1.length == l1_1.length) = false := by first | simpa using c24 | (simp at c24 ⊢; omega)
        have H' := Aside0.mk H
        clear H
        have hnb31 := NB481_482.out
        have hnc31 := NB482_481.out
        have hcz32_0 : wc.cell? ⟨gb481, 0, none⟩ = some (.slice A0_0 l0_0.length c0_0) := (blk_cell BK481.out 0).trans rfl
        have hcz32_1 : wc.cell? ⟨gb481, 1, none⟩ = some (.slice A0_1 l0_1.length c0_1) := (blk_cell BK481.out 1).trans rfl
        have hcz32_2 : wc.cell? ⟨gb481, 2, none⟩ = some (.slice A0_2 l0_2.length c0_2) := (blk_cell BK481.out 2).trans rfl
        have hcz32_3 : wc.cell? ⟨gb481, 3, none⟩ = some (.slice A0_3 l0_3.length c0_3) := (blk_cell BK481.out 3).trans rfl
        have hfz32_0 := blk_frozen BK481.out 0
        have hfz32_1 := blk_frozen BK481.out 1
        have hfz32_2 := blk_frozen BK481.out 2
        have hfz32_3 := blk_frozen BK481.out 3
        have hcz33_0 : wc.cell? ⟨gb482, 0, none⟩ = some (.slice A1_0 l1_0.length c1_0) := (blk_cell BK482.out 0).trans rfl
        have hcz33_1 : wc.cell? ⟨gb482, 1, none⟩ = some (.slice A1_1 l1_1.length c1_1) := (blk_cell BK482.out 1).trans rfl
        have hcz33_2 : wc.cell? ⟨gb482, 2, none⟩ = some (.slice A1_2 l1_2.length c1_2) := (blk_cell BK482.out 2).trans rfl
        have hcz33_3 : wc.cell? ⟨gb482, 3, none⟩ = some (.slice A1_3 l1_3.length c1_3) := (blk_cell BK482.out 3).trans rfl
        have hfz33_0 := blk_frozen BK482.out 0
        have hfz33_1 := blk_frozen BK482.out 1
        have hfz33_2 := blk_frozen BK482.out 2
        have hfz33_3 := blk_frozen BK482.out 3
        go_wp2_with (first | ((with_reducible refine gate_callee (f := 25) rfl ?_); refine goesL_ (some 23) rfl rfl Tryd.func25 (by kernel_rfl) rfl #[.slice A0_3 l0_3.length c0_3, .slice A1_3 l1_3.length c1_3] rfl (by (try simp only [List.map_toArray, List.map_cons, List.map_nil]); first | done | rfl | (simp only [List.length_drop, List.length_take]; rfl)) ?_; (with_reducible refine (helmsmanref12_SameStmts.calls kj2 _ _ l0_3 _ _ l1_3 true _ ?side1 ?side2 ?side3 ?side4 A21.out).mono ?_); (case side1 => repeat (first | exact (Kd.C_below HR0_3.out HB.out) | (with_reducible refine Kd.C_alloc ?_ _) | (with_reducible refine Kd.C_drewN ?_ _) | (with_reducible refine Kd.C_drew ?_))); (case side2 => exact HC0_3.out); (case side3 => repeat (first | exact (Kd.C_below HR1_3.out HB.out) | (with_reducible refine Kd.C_alloc ?_ _) | (with_reducible refine Kd.C_drewN ?_ _) | (with_reducible refine Kd.C_drew ?_))); (case side4 => exact HC1_3.out); rintro e w34 ⟨rfl, hb⟩; refine ⟨_, rfl, ?_⟩; have n0_ := Aside0.mk (blk_below (g := gb481) (o := .cells #[.slice A0_0 l0_0.length c0_0, .slice A0_1 l0_1.length c0_1, .slice A0_2 l0_2.length c0_2, .slice A0_3 l0_3.length c0_3] 43 (0, 0)) (by (with_reducible repeat (first | refine blk_drewN ?_ _ | refine blk_drew ?_ | refine blk_alloc ?_ _)); exact BK481.out) hb); have n1_ := Aside0.mk (blk_below (g := gb482) (o := .cells #[.slice A1_0 l1_0.length c1_0, .slice A1_1 l1_1.length c1_1, .slice A1_2 l1_2.length c1_2, .slice A1_3 l1_3.length c1_3] 43 (0, 0)) (by (with_reducible repeat (first | refine blk_drewN ?_ _ | refine blk_drew ?_ | refine blk_alloc ?_ _)); exact BK482.out) hb); have n2_ := Aside0.mk (below_step (by repeat (first | (with_reducible first | exact HB.out | apply below_alloc | apply pw_below_drewN | apply below_drew1 | refine below_set ?_ GE481.out | refine below_set ?_ GE482.out) | exact HB.out)) hb); clear BK481; clear BK482; clear HB; have BK481 := n0_; have BK482 := n1_; have HB := n2_; clear n0_ n1_ n2_; (try clear hb); (try clear hb2); (try clear hk); (try clear hi); have hcz35_0 : w34.cell? ⟨gb481, 0, none⟩ = some (.slice A0_0 l0_0.length c0_0) := (blk_cell BK481.out 0).trans rfl; have hcz35_1 : w34.cell? ⟨gb481, 1, none⟩ = some (.slice A0_1 l0_1.length c0_1) := (blk_cell BK481.out 1).trans rfl; have hcz35_2 : w34.cell? ⟨gb481, 2, none⟩ = some (.slice A0_2 l0_2.length c0_2) := (blk_cell BK481.out 2).trans rfl; have hcz35_3 : w34.cell? ⟨gb481, 3, none⟩ = some (.slice A0_3 l0_3.length c0_3) := (blk_cell BK481.out 3).trans rfl; have hfz35_0 := blk_frozen BK481.out 0; have hfz35_1 := blk_frozen BK481.out 1; have hfz35_2 := blk_frozen BK481.out 2; have hfz35_3 := blk_frozen BK481.out 3; have hcz36_0 : w34.cell? ⟨gb482, 0, none⟩ = some (.slice A1_0 l1_0.length c1_0) := (blk_cell BK482.out 0).trans rfl; have hcz36_1 : w34.cell? ⟨gb482, 1, none⟩ = some (.slice A1_1 l1_1.length c1_1) := (blk_cell BK482.out 1).trans rfl; have hcz36_2 : w34.cell? ⟨gb482, 2, none⟩ = some (.slice A1_2 l1_2.length c1_2) := (blk_cell BK482.out 2).trans rfl; have hcz36_3 : w34.cell? ⟨gb482, 3, none⟩ = some (.slice A1_3 l1_3.length c1_3) := (blk_cell BK482.out 3).trans rfl; have hfz36_0 := blk_frozen BK482.out 0; have hfz36_1 := blk_frozen BK482.out 1; have hfz36_2 := blk_frozen BK482.out 2; have hfz36_3 := blk_frozen BK482.out 3))
        go_meet
        case rel => exact ⟨_, (false), (by first | rfl | (simp; done) | (simp [*]; done)), H', ⟨by have := HJ2.out; first | omega | exact Nat.le_refl _⟩, ⟨by (with_reducible repeat (first | refine blk_drewN ?_ _ | refine blk_drew ?_ | refine blk_alloc ?_ _)); exact BK481.out⟩, ⟨by (with_reducible repeat (first | refine blk_drewN ?_ _ | refine blk_drew ?_ | refine blk_alloc ?_ _)); exact BK482.out⟩, ⟨by repeat (first | (with_reducible first | exact HB.out | apply below_alloc | apply pw_below_drewN | apply below_drew1 | refine below_set ?_ GE481.out | refine below_set ?_ GE482.out) | exact HB.out)⟩⟩
      ·rw [if_neg c23] at H
       have c23b0 : ((l0_0.length : Int) == (l1_0.length : Int)) = false := beq_eq_false_iff_ne.mpr c23
       have c23b1 : ((l0_0.length : Int) != (l1_0.length : Int)) = true := bne_iff_ne.mpr c23
       have c23b2 : (l0_0.length == l1_0.length) = false := by first | simpa using c23 | (simp at c23 ⊢; omega)
       (first | rw [c23b0] | (simp only [i64_w, i32_w]; rw [c23b0]) | skip)
       have H' := Aside0.mk H
       clear H
       have hnb37 := NB481_482.out
       have hnc37 := NB482_481.out
       have hcz38_0 : wc.cell? ⟨gb481, 0, none⟩ = some (.slice A0_0 l0_0.length c0_0) := (blk_cell BK481.out 0).trans rfl
       have hcz38_1 : wc.cell? ⟨gb481, 1, none⟩ = some (.slice A0_1 l0_1.length c0_1) := (blk_cell BK481.out 1).trans rfl
       have hcz38_2 : wc.cell? ⟨gb481, 2, none⟩ = some (.slice A0_2 l0_2.length c0_2) := (blk_cell BK481.out 2).trans rfl
       have hcz38_3 : wc.cell? ⟨gb481, 3, none⟩ = some (.slice A0_3 l0_3.length c0_3) := (blk_cell BK481.out 3).trans rfl
       have hfz38_0 := blk_frozen BK481.out 0
       have hfz38_1 := blk_frozen BK481.out 1
       have hfz38_2 := blk_frozen BK481.out 2
       have hfz38_3 := blk_frozen BK481.out 3
       have hcz39_0 : wc.cell? ⟨gb482, 0, none⟩ = some (.slice A1_0 l1_0.length c1_0) := (blk_cell BK482.out 0).trans rfl
       have hcz39_1 : wc.cell? ⟨gb482, 1, none⟩ = some (.slice A1_1 l1_1.length c1_1) := (blk_cell BK482.out 1).trans rfl
       have hcz39_2 : wc.cell? ⟨gb482, 2, none⟩ = some (.slice A1_2 l1_2.length c1_2) := (blk_cell BK482.out 2).trans rfl
       have hcz39_3 : wc.cell? ⟨gb482, 3, none⟩ = some (.slice A1_3 l1_3.length c1_3) := (blk_cell BK482.out 3).trans rfl
       have hfz39_0 := blk_frozen BK482.out 0
       have hfz39_1 := blk_frozen BK482.out 1
       have hfz39_2 := blk_frozen BK482.out 2
       have hfz39_3 := blk_frozen BK482.out 3
       go_wp2_with (first | ((with_reducible refine gate_callee (f := 25) rfl ?_); refine goesL_ (some 23) rfl rfl Tryd.func25 (by kernel_rfl) rfl #[.slice A0_3 l0_3.length c0_3, .slice A1_3 l1_3.length c1_3] rfl (by (try simp only [List.map_toArray, List.map_cons, List.map_nil]); first | done | rfl | (simp only [List.length_drop, List.length_take]; rfl)) ?_; (with_reducible refine (helmsmanref12_SameStmts.calls kj2 _ _ l0_3 _ _ l1_3 true _ ?side1 ?side2 ?side3 ?side4 A21.out).mono ?_); (case side1 => repeat (first | exact (Kd.C_below HR0_3.out HB.out) | (with_reducible refine Kd.C_alloc ?_ _) | (with_reducible refine Kd.C_drewN ?_ _) | (with_reducible refine Kd.C_drew ?_))); (case side2 => exact HC0_3.out); (case side3 => repeat (first | exact (Kd.C_below HR1_3.out HB.out) | (with_reducible refine Kd.C_alloc ?_ _) | (with_reducible refine Kd.C_drewN ?_ _) | (with_reducible refine Kd.C_drew ?_))); (case side4 => exact HC1_3.out); rintro e w40 ⟨rfl, hb⟩; refine ⟨_, rfl, ?_⟩; have n0_ := Aside0.mk (blk_below (g := gb481) (o := .cells #[.slice A0_0 l0_0.length c0_0, .slice A0_1 l0_1.length c0_1, .slice A0_2 l0_2.length c0_2, .slice A0_3 l0_3.length c0_3] 43 (0, 0)) (by (with_reducible repeat (first | refine blk_drewN ?_ _ | refine blk_drew ?_ | refine blk_alloc ?_ _)); exact BK481.out) hb); have n1_ := Aside0.mk (blk_below (g := gb482) (o := .cells #[.slice A1_0 l1_0.length c1_0, .slice A1_1 l1_1.length c1_1, .slice A1_2 l1_2.length c1_2, .slice A1_3 l1_3.length c1_3] 43 (0, 0)) (by (with_reducible repeat (first | refine blk_drewN ?_ _ | refine blk_drew ?_ | refine blk_alloc ?_ _)); exact BK482.out) hb); have n2_ := Aside0.mk (below_step (by repeat (first | (with_reducible first | exact HB.out | apply below_alloc | apply pw_below_drewN | apply below_drew1 | refine below_set ?_ GE481.out | refine below_set ?_ GE482.out) | exact HB.out)) hb); clear BK481; clear BK482; clear HB; have BK481 := n0_; have BK482 := n1_; have HB := n2_; clear n0_ n1_ n2_; (try clear hb); (try clear hb2); (try clear hk); (try clear hi); have hcz41_0 : w40.cell? ⟨gb481, 0, none⟩ = some (.slice A0_0 l0_0.length c0_0) := (blk_cell BK481.out 0).trans rfl; have hcz41_1 : w40.cell? ⟨gb481, 1, none⟩ = some (.slice A0_1 l0_1.length c0_1) := (blk_cell BK481.out 1).trans rfl; have hcz41_2 : w40.cell? ⟨gb481, 2, none⟩ = some (.slice A0_2 l0_2.length c0_2) := (blk_cell BK481.out 2).trans rfl; have hcz41_3 : w40.cell? ⟨gb481, 3, none⟩ = some (.slice A0_3 l0_3.length c0_3) := (blk_cell BK481.out 3).trans rfl; have hfz41_0 := blk_frozen BK481.out 0; have hfz41_1 := blk_frozen BK481.out 1; have hfz41_2 := blk_frozen BK481.out 2; have hfz41_3 := blk_frozen BK481.out 3; have hcz42_0 : w40.cell? ⟨gb482, 0, none⟩ = some (.slice A1_0 l1_0.length c1_0) := (blk_cell BK482.out 0).trans rfl; have hcz42_1 : w40.cell? ⟨gb482, 1, none⟩ = some (.slice A1_1 l1_1.length c1_1) := (blk_cell BK482.out 1).trans rfl; have hcz42_2 : w40.cell? ⟨gb482, 2, none⟩ = some (.slice A1_2 l1_2.length c1_2) := (blk_cell BK482.out 2).trans rfl; have hcz42_3 : w40.cell? ⟨gb482, 3, none⟩ = some (.slice A1_3 l1_3.length c1_3) := (blk_cell BK482.out 3).trans rfl; have hfz42_0 := blk_frozen BK482.out 0; have hfz42_1 := blk_frozen BK482.out 1; have hfz42_2 := blk_frozen BK482.out 2; have hfz42_3 := blk_frozen BK482.out 3))
       go_meet
       case rel => exact ⟨_, (false), (by first | rfl | (simp; done) | (simp [*]; done)), H', ⟨by have := HJ2.out; first | omega | exact Nat.le_refl _⟩, ⟨by (with_reducible repeat (first | refine blk_drewN ?_ _ | refine blk_drew ?_ | refine blk_alloc ?_ _)); exact BK481.out⟩, ⟨by (with_reducible repeat (first | refine blk_drewN ?_ _ | refine blk_drew ?_ | refine blk_alloc ?_ _)); exact BK482.out⟩, ⟨by repeat (first | (with_reducible first | exact HB.out | apply below_alloc | apply pw_below_drewN | apply below_drew1 | refine below_set ?_ GE481.out | refine below_set ?_ GE482.out) | exact HB.out)⟩⟩
     ·replace c22 := Bool.eq_false_iff.mpr c22
      subst c22
      have H1 : (helmsmanlaw12_TreeKinds.j1 kj2 false l0_0 l0_1 l0_2 l0_3 l1_0 l1_1 l1_2 l1_3) = some r := by rw [if_neg (show ¬ (false = true) by decide)] at H; exact H
      clear H
      have H := H1
      clear H1
      have H' := Aside0.mk H
      clear H
      have hnb43 := NB481_482.out
      have hnc43 := NB482_481.out
      have hcz44_0 : wc.cell? ⟨gb481, 0, none⟩ = some (.slice A0_0 l0_0.length c0_0) := (blk_cell BK481.out 0).trans rfl
      have hcz44_1 : wc.cell? ⟨gb481, 1, none⟩ = some (.slice A0_1 l0_1.length c0_1) := (blk_cell BK481.out 1).trans rfl
      have hcz44_2 : wc.cell? ⟨gb481, 2, none⟩ = some (.slice A0_2 l0_2.length c0_2) := (blk_cell BK481.out 2).trans rfl
      have hcz44_3 : wc.cell? ⟨gb481, 3, none⟩ = some (.slice A0_3 l0_3.length c0_3) := (blk_cell BK481.out 3).trans rfl
      have hfz44_0 := blk_frozen BK481.out 0
      have hfz44_1 := blk_frozen BK481.out 1
      have hfz44_2 := blk_frozen BK481.out 2
      have hfz44_3 := blk_frozen BK481.out 3
      have hcz45_0 : wc.cell? ⟨gb482, 0, none⟩ = some (.slice A1_0 l1_0.length c1_0) := (blk_cell BK482.out 0).trans rfl
      have hcz45_1 : wc.cell? ⟨gb482, 1, none⟩ = some (.slice A1_1 l1_1.length c1_1) := (blk_cell BK482.out 1).trans rfl
      have hcz45_2 : wc.cell? ⟨gb482, 2, none⟩ = some (.slice A1_2 l1_2.length c1_2) := (blk_cell BK482.out 2).trans rfl
      have hcz45_3 : wc.cell? ⟨gb482, 3, none⟩ = some (.slice A1_3 l1_3.length c1_3) := (blk_cell BK482.out 3).trans rfl
      have hfz45_0 := blk_frozen BK482.out 0
      have hfz45_1 := blk_frozen BK482.out 1
      have hfz45_2 := blk_frozen BK482.out 2
      have hfz45_3 := blk_frozen BK482.out 3
      go_wp2_with (first | ((with_reducible refine gate_callee (f := 25) rfl ?_); refine goesL_ (some 23) rfl rfl Tryd.func25 (by kernel_rfl) rfl #[.slice A0_3 l0_3.length c0_3, .slice A1_3 l1_3.length c1_3] rfl (by (try simp only [List.map_toArray, List.map_cons, List.map_nil]); first | done | rfl | (simp only [List.length_drop, List.length_take]; rfl)) ?_; (with_reducible refine (helmsmanref12_SameStmts.calls kj2 _ _ l0_3 _ _ l1_3 false _ ?side1 ?side2 ?side3 ?side4 A21.out).mono ?_); (case side1 => repeat (first | exact (Kd.C_below HR0_3.out HB.out) | (with_reducible refine Kd.C_alloc ?_ _) | (with_reducible refine Kd.C_drewN ?_ _) | (with_reducible refine Kd.C_drew ?_))); (case side2 => exact HC0_3.out); (case side3 => repeat (first | exact (Kd.C_below HR1_3.out HB.out) | (with_reducible refine Kd.C_alloc ?_ _) | (with_reducible refine Kd.C_drewN ?_ _) | (with_reducible refine Kd.C_drew ?_))); (case side4 => exact HC1_3.out); rintro e w46 ⟨rfl, hb⟩; refine ⟨_, rfl, ?_⟩; have n0_ := Aside0.mk (blk_below (g := gb481) (o := .cells #[.slice A0_0 l0_0.length c0_0, .slice A0_1 l0_1.length c0_1, .slice A0_2 l0_2.length c0_2, .slice A0_3 l0_3.length c0_3] 43 (0, 0)) (by (with_reducible repeat (first | refine blk_drewN ?_ _ | refine blk_drew ?_ | refine blk_alloc ?_ _)); exact BK481.out) hb); have n1_ := Aside0.mk (blk_below (g := gb482) (o := .cells #[.slice A1_0 l1_0.length c1_0, .slice A1_1 l1_1.length c1_1, .slice A1_2 l1_2.length c1_2, .slice A1_3 l1_3.length c1_3] 43 (0, 0)) (by (with_reducible repeat (first | refine blk_drewN ?_ _ | refine blk_drew ?_ | refine blk_alloc ?_ _)); exact BK482.out) hb); have n2_ := Aside0.mk (below_step (by repeat (first | (with_reducible first | exact HB.out | apply below_alloc | apply pw_below_drewN | apply below_drew1 | refine below_set ?_ GE481.out | refine below_set ?_ GE482.out) | exact HB.out)) hb); clear BK481; clear BK482; clear HB; have BK481 := n0_; have BK482 := n1_; have HB := n2_; clear n0_ n1_ n2_; (try clear hb); (try clear hb2); (try clear hk); (try clear hi)))
      go_meet
      case rel => exact ⟨_, (false), (by first | rfl | (simp; done) | (simp [*]; done)), H', ⟨by have := HJ2.out; first | omega | exact Nat.le_refl _⟩, ⟨by (with_reducible repeat (first | refine blk_drewN ?_ _ | refine blk_drew ?_ | refine blk_alloc ?_ _)); exact BK481.out⟩, ⟨by (with_reducible repeat (first | refine blk_drewN ?_ _ | refine blk_drew ?_ | refine blk_alloc ?_ _)); exact BK482.out⟩, ⟨by repeat (first | (with_reducible first | exact HB.out | apply below_alloc | apply pw_below_drewN | apply below_drew1 | refine below_set ?_ GE481.out | refine below_set ?_ GE482.out) | exact HB.out)⟩⟩
    case rest => as_aux_lemma =>
     clear HC20
     (try clear c1); (try clear c2); (try clear p2); (try clear c3); (try clear c4); (try clear c7); (try clear c7b0); (try clear c8); (try clear c10); (try clear c12); (try clear c16); (try clear c17); (try clear c22); (try clear c23); (try clear c23b0); (try clear c23b1); (try clear c23b2); (try clear c24); (try clear c24b0); (try clear c24b1); (try clear c24b2); (try clear c25); (try clear c31); (try clear c37); (try clear c43); (try clear hcz13_0); (try clear hcz13_1); (try clear hcz13_2); (try clear hcz13_3); (try clear hcz15_0); (try clear hcz15_1); (try clear hcz15_2); (try clear hcz15_3); (try clear hcz26_0); (try clear hcz26_1); (try clear hcz26_2); (try clear hcz26_3); (try clear hcz27_0); (try clear hcz27_1); (try clear hcz27_2); (try clear hcz27_3); (try clear hcz29_0); (try clear hcz29_1); (try clear hcz29_2); (try clear hcz29_3); (try clear hcz30_0); (try clear hcz30_1); (try clear hcz30_2); (try clear hcz30_3); (try clear hcz32_0); (try clear hcz32_1); (try clear hcz32_2); (try clear hcz32_3); (try clear hcz33_0); (try clear hcz33_1); (try clear hcz33_2); (try clear hcz33_3); (try clear hcz35_0); (try clear hcz35_1); (try clear hcz35_2); (try clear hcz35_3); (try clear hcz36_0); (try clear hcz36_1); (try clear hcz36_2); (try clear hcz36_3); (try clear hcz38_0); (try clear hcz38_1); (try clear hcz38_2); (try clear hcz38_3); (try clear hcz39_0); (try clear hcz39_1); (try clear hcz39_2); (try clear hcz39_3); (try clear hcz41_0); (try clear hcz41_1); (try clear hcz41_2); (try clear hcz41_3); (try clear hcz42_0); (try clear hcz42_1); (try clear hcz42_2); (try clear hcz42_3); (try clear hcz44_0); (try clear hcz44_1); (try clear hcz44_2); (try clear hcz44_3); (try clear hcz45_0); (try clear hcz45_1); (try clear hcz45_2); (try clear hcz45_3); (try clear hcz9_0); (try clear hcz9_1); (try clear hcz9_2); (try clear hcz9_3); (try clear hfz13_0); (try clear hfz13_1); (try clear hfz13_2); (try clear hfz13_3); (try clear hfz15_0); (try clear hfz15_1); (try clear hfz15_2); (try clear hfz15_3); (try clear hfz26_0); (try clear hfz26_1); (try clear hfz26_2); (try clear hfz26_3); (try clear hfz27_0); (try clear hfz27_1); (try clear hfz27_2); (try clear hfz27_3); (try clear hfz29_0); (try clear hfz29_1); (try clear hfz29_2); (try clear hfz29_3); (try clear hfz30_0); (try clear hfz30_1); (try clear hfz30_2); (try clear hfz30_3); (try clear hfz32_0); (try clear hfz32_1); (try clear hfz32_2); (try clear hfz32_3); (try clear hfz33_0); (try clear hfz33_1); (try clear hfz33_2); (try clear hfz33_3); (try clear hfz35_0); (try clear hfz35_1); (try clear hfz35_2); (try clear hfz35_3); (try clear hfz36_0); (try clear hfz36_1); (try clear hfz36_2); (try clear hfz36_3); (try clear hfz38_0); (try clear hfz38_1); (try clear hfz38_2); (try clear hfz38_3); (try clear hfz39_0); (try clear hfz39_1); (try clear hfz39_2); (try clear hfz39_3); (try clear hfz41_0); (try clear hfz41_1); (try clear hfz41_2); (try clear hfz41_3); (try clear hfz42_0); (try clear hfz42_1); (try clear hfz42_2); (try clear hfz42_3); (try clear hfz44_0); (try clear hfz44_1); (try clear hfz44_2); (try clear hfz44_3); (try clear hfz45_0); (try clear hfz45_1); (try clear hfz45_2); (try clear hfz45_3); (try clear hfz9_0); (try clear hfz9_1); (try clear hfz9_2); (try clear hfz9_3); (try clear p2)
     obtain ⟨kq, x5_19, rfl, HA, HJ19, BK481, BK482, HB⟩ := hcut
     cases kq with
     | zero => exact absurd HA.out (by simp [helmsmanlaw12_TreeKinds.j1])
     | succ kj19 =>
      have H := HA.out
      clear HA
      simp only [helmsmanlaw12_TreeKinds.j1] at H
      have HC47 := Aside0.mk H
      clear H
      go_upto_block 0 with (fail)
      go_cut [5] (fun v5 wc => ∃ (kq : Nat) (x5_46 : Bool), v5 = .bool x5_46 ∧ Aside0 (helmsmanlaw12_TreeKinds.j3 kq x5_46 l0_0 l0_1 l0_2 l0_3 l1_0 l1_1 l1_2 l1_3 = some r) ∧ Aside0 (kq ≤ kj19) ∧ Aside0 (wc.heap[gb481]? = some (.cells #[(.slice A0_0 l0_0.length c0_0), (.slice A0_1 l0_1.length c0_1), (.slice A0_2 l0_2.length c0_2), (.slice A0_3 l0_3.length c0_3)] 43 (0, 0))) ∧ Aside0 (wc.heap[gb482]? = some (.cells #[(.slice A1_0 l1_0.length c1_0), (.slice A1_1 l1_1.length c1_1), (.slice A1_2 l1_2.length c1_2), (.slice A1_3 l1_3.length c1_3)] 43 (0, 0))) ∧ Aside0 (Below w.heap.size w wc))
      case first => as_aux_lemma =>
       have H := HC47.out
       clear HC47
       have H' := Aside0.mk H
       clear H
       go_wp2
       (try simp only [Act.put, List.setIfInBounds_toArray, List.set_cons_succ, List.set_cons_zero])
       go_loopg [5, 6] kj19 (fun kq v5 v6 w' => ∃ (x5_3 : Bool) (x6_3 : Int), v5 = .bool x5_3 ∧ v6 = .int .i64 x6_3 ∧ Aside0 (helmsmanlaw12_TreeKinds.l0 kq x5_3 x6_3 l0_0 l0_1 l0_2 l0_3 l1_0 l1_1 l1_2 l1_3 = some r) ∧ Aside0 (kq ≤ kj19) ∧ Aside0 (w'.heap[gb481]? = some (.cells #[(.slice A0_0 l0_0.length c0_0), (.slice A0_1 l0_1.length c0_1), (.slice A0_2 l0_2.length c0_2), (.slice A0_3 l0_3.length c0_3)] 43 (0, 0))) ∧ Aside0 (w'.heap[gb482]? = some (.cells #[(.slice A1_0 l1_0.length c1_0), (.slice A1_1 l1_1.length c1_1), (.slice A1_2 l1_2.length c1_2), (.slice A1_3 l1_3.length c1_3)] 43 (0, 0))) ∧ Aside0 (Below w.heap.size w w'))
       case atStart => exact ⟨(x5_19), (0), (by first | rfl | (simp; done) | (simp [*]; done)), (by first | rfl | (simp; done) | (simp [*]; done)), H', ⟨Nat.le_refl _⟩, ⟨by (with_reducible repeat (first | refine blk_drewN ?_ _ | refine blk_drew ?_ | refine blk_alloc ?_ _)); exact BK481.out⟩, ⟨by (with_reducible repeat (first | refine blk_drewN ?_ _ | refine blk_drew ?_ | refine blk_alloc ?_ _)); exact BK482.out⟩, ⟨by repeat (first | (with_reducible first | exact HB.out | apply below_alloc | apply pw_below_drewN | apply below_drew1 | refine below_set ?_ GE481.out | refine below_set ?_ GE482.out) | exact HB.out)⟩⟩
       case round => as_aux_lemma =>
        clear H'
        (try clear c1); (try clear c2); (try clear p2); (try clear c3); (try clear c4); (try clear c7); (try clear c7b0); (try clear c8); (try clear c10); (try clear c12); (try clear c16); (try clear c17); (try clear c22); (try clear c23); (try clear c23b0); (try clear c23b1); (try clear c23b2); (try clear c24); (try clear c24b0); (try clear c24b1); (try clear c24b2); (try clear c25); (try clear c31); (try clear c37); (try clear c43); (try clear hcz13_0); (try clear hcz13_1); (try clear hcz13_2); (try clear hcz13_3); (try clear hcz15_0); (try clear hcz15_1); (try clear hcz15_2); (try clear hcz15_3); (try clear hcz26_0); (try clear hcz26_1); (try clear hcz26_2); (try clear hcz26_3); (try clear hcz27_0); (try clear hcz27_1); (try clear hcz27_2); (try clear hcz27_3); (try clear hcz29_0); (try clear hcz29_1); (try clear hcz29_2); (try clear hcz29_3); (try clear hcz30_0); (try clear hcz30_1); (try clear hcz30_2); (try clear hcz30_3); (try clear hcz32_0); (try clear hcz32_1); (try clear hcz32_2); (try clear hcz32_3); (try clear hcz33_0); (try clear hcz33_1); (try clear hcz33_2); (try clear hcz33_3); (try clear hcz35_0); (try clear hcz35_1); (try clear hcz35_2); (try clear hcz35_3); (try clear hcz36_0); (try clear hcz36_1); (try clear hcz36_2); (try clear hcz36_3); (try clear hcz38_0); (try clear hcz38_1); (try clear hcz38_2); (try clear hcz38_3); (try clear hcz39_0); (try clear hcz39_1); (try clear hcz39_2); (try clear hcz39_3); (try clear hcz41_0); (try clear hcz41_1); (try clear hcz41_2); (try clear hcz41_3); (try clear hcz42_0); (try clear hcz42_1); (try clear hcz42_2); (try clear hcz42_3); (try clear hcz44_0); (try clear hcz44_1); (try clear hcz44_2); (try clear hcz44_3); (try clear hcz45_0); (try clear hcz45_1); (try clear hcz45_2); (try clear hcz45_3); (try clear hcz9_0); (try clear hcz9_1); (try clear hcz9_2); (try clear hcz9_3); (try clear hfz13_0); (try clear hfz13_1); (try clear hfz13_2); (try clear hfz13_3); (try clear hfz15_0); (try clear hfz15_1); (try clear hfz15_2); (try clear hfz15_3); (try clear hfz26_0); (try clear hfz26_1); (try clear hfz26_2); (try clear hfz26_3); (try clear hfz27_0); (try clear hfz27_1); (try clear hfz27_2); (try clear hfz27_3); (try clear hfz29_0); (try clear hfz29_1); (try clear hfz29_2); (try clear hfz29_3); (try clear hfz30_0); (try clear hfz30_1); (try clear hfz30_2); (try clear hfz30_3); (try clear hfz32_0); (try clear hfz32_1); (try clear hfz32_2); (try clear hfz32_3); (try clear hfz33_0); (try clear hfz33_1); (try clear hfz33_2); (try clear hfz33_3); (try clear hfz35_0); (try clear hfz35_1); (try clear hfz35_2); (try clear hfz35_3); (try clear hfz36_0); (try clear hfz36_1); (try clear hfz36_2); (try clear hfz36_3); (try clear hfz38_0); (try clear hfz38_1); (try clear hfz38_2); (try clear hfz38_3); (try clear hfz39_0); (try clear hfz39_1); (try clear hfz39_2); (try clear hfz39_3); (try clear hfz41_0); (try clear hfz41_1); (try clear hfz41_2); (try clear hfz41_3); (try clear hfz42_0); (try clear hfz42_1); (try clear hfz42_2); (try clear hfz42_3); (try clear hfz44_0); (try clear hfz44_1); (try clear hfz44_2); (try clear hfz44_3); (try clear hfz45_0); (try clear hfz45_1); (try clear hfz45_2); (try clear hfz45_3); (try clear hfz9_0); (try clear hfz9_1); (try clear hfz9_2); (try clear hfz9_3); (try clear p2)
        obtain ⟨x5_3, x6_3, rfl, rfl, HA, HK3, BK481, BK482, HB⟩ := hrel
        cases gk with
        | zero => exact absurd HA.out (by simp [helmsmanlaw12_TreeKinds.l0])
        | succ k3 =>
         have H := HA.out
         clear HA
         simp only [helmsmanlaw12_TreeKinds.l0] at H
         by_cases c48 : x5_3 = true
         ·subst c48
          have H1 : (if x6_3 < (l0_1.length : Int) then (if 0 ≤ x6_3 then (if x6_3 < (l1_1.length : Int) then (helmsmanlaw12_TreeKinds.l0 k3 ((((rd_T56 l0_1 x6_3).f0).toList) == (((rd_T56 l1_1 x6_3).f0).toList) && ((((rd_T56 l0_1 x6_3).f1).toList) == (((rd_T56 l1_1 x6_3).f1).toList) && (((rd_T56 l0_1 x6_3).f2) == ((rd_T56 l1_1 x6_3).f2)))) (wrap64 (x6_3 + 1)) l0_0 l0_1 l0_2 l0_3 l1_0 l1_1 l1_2 l1_3) else (none)) else (none)) else (helmsmanlaw12_TreeKinds.j3 k3 true l0_0 l0_1 l0_2 l0_3 l1_0 l1_1 l1_2 l1_3)) = some r := by rw [if_pos rfl] at H; exact H
          clear H
          have H := H1
          clear H1
          by_cases c49 : x6_3 < (l0_1.length : Int)
          ·rw [if_pos c49] at H
           have c49b0 : decide (x6_3 < (l0_1.length : Int)) = true := decide_eq_true c49
           clear c49
           (first | rw [c49b0] | (simp only [i64_w, i32_w]; rw [c49b0]) | skip)
           by_cases c50 : 0 ≤ x6_3
           ·rw [if_pos c50] at H
            have c50b0 : decide (0 ≤ x6_3) = true := decide_eq_true c50
            clear c50
            by_cases c51 : x6_3 < (l1_1.length : Int)
            ·rw [if_pos c51] at H
             have c51b0 : decide (x6_3 < (l1_1.length : Int)) = true := decide_eq_true c51
             clear c51
             have H' := Aside0.mk H
             clear H
             have hnb52 := NB481_482.out
             have hnc52 := NB482_481.out
             have hcz53_0 : wr.cell? ⟨gb481, 0, none⟩ = some (.slice A0_0 l0_0.length c0_0) := (blk_cell BK481.out 0).trans rfl
             have hcz53_1 : wr.cell? ⟨gb481, 1, none⟩ = some (.slice A0_1 l0_1.length c0_1) := (blk_cell BK481.out 1).trans rfl
             have hcz53_2 : wr.cell? ⟨gb481, 2, none⟩ = some (.slice A0_2 l0_2.length c0_2) := (blk_cell BK481.out 2).trans rfl
             have hcz53_3 : wr.cell? ⟨gb481, 3, none⟩ = some (.slice A0_3 l0_3.length c0_3) := (blk_cell BK481.out 3).trans rfl
             have hfz53_0 := blk_frozen BK481.out 0
             have hfz53_1 := blk_frozen BK481.out 1
             have hfz53_2 := blk_frozen BK481.out 2
             have hfz53_3 := blk_frozen BK481.out 3
             try go_wp2
             have n0_ := Aside0.mk (blk_drew BK481.out)
             have n1_ := Aside0.mk (blk_drew BK482.out)
             have n2_ := Aside0.mk (below_drew1 HB.out)
             clear BK481
             clear BK482
             clear HB
             have BK481 := n0_
             have BK482 := n1_
             have HB := n2_
             clear n0_ n1_ n2_
             have p487 : 0 ≤ (x6_3 : Int) := of_decide_eq_true (by first | (with_reducible assumption) | assumption)
             have q487 : x6_3 < (l0_1.length : Int) := of_decide_eq_true (by first | (with_reducible assumption) | assumption)
             obtain ⟨ad487, e487, hx487_0, hx487_1, hx487_2⟩ := at_T56 HR0_1.out x6_3 p487 q487
             have hw487_2 := hx487_2
             have hw487_1 := hx487_1
             have hw487_0 := hx487_0
             cases e487
             replace hx487_0 := (HB.out.cell (World.block_lt_of_cell? w _ hx487_0)).trans hx487_0
             replace hx487_1 := (HB.out.cell (World.block_lt_of_cell? w _ hx487_1)).trans hx487_1
             replace hx487_2 := (HB.out.cell (World.block_lt_of_cell? w _ hx487_2)).trans hx487_2
             replace p487 := eq_true p487
             replace q487 := eq_true q487
             have p488 : 0 ≤ (x6_3 : Int) := of_decide_eq_true (by first | (with_reducible assumption) | assumption)
             have q488 : x6_3 < (l1_1.length : Int) := of_decide_eq_true (by first | (with_reducible assumption) | assumption)
             obtain ⟨ad488, e488, hx488_0, hx488_1, hx488_2⟩ := at_T56 HR1_1.out x6_3 p488 q488
             have hw488_2 := hx488_2
             have hw488_1 := hx488_1
             have hw488_0 := hx488_0
             cases e488
             replace hx488_0 := (HB.out.cell (World.block_lt_of_cell? w _ hx488_0)).trans hx488_0
             replace hx488_1 := (HB.out.cell (World.block_lt_of_cell? w _ hx488_1)).trans hx488_1
             replace hx488_2 := (HB.out.cell (World.block_lt_of_cell? w _ hx488_2)).trans hx488_2
             replace p488 := eq_true p488
             replace q488 := eq_true q488
             refine start_ (n := 12) (S := fun w' => w'.cell? ⟨gb481, 0, none⟩ = some (.slice A0_0 l0_0.length c0_0) ∧ w'.cell? ⟨gb481, 1, none⟩ = some (.slice (some ad487) l0_1.length c0_1) ∧ w'.cell? ⟨gb481, 2, none⟩ = some (.slice A0_2 l0_2.length c0_2) ∧ w'.cell? ⟨gb481, 3, none⟩ = some (.slice A0_3 l0_3.length c0_3) ∧ w'.cell? ⟨gb482, 0, none⟩ = some (.slice A1_0 l1_0.length c1_0) ∧ w'.cell? ⟨gb482, 1, none⟩ = some (.slice (some ad488) l1_1.length c1_1) ∧ w'.cell? ⟨gb482, 2, none⟩ = some (.slice A1_2 l1_2.length c1_2) ∧ w'.cell? ⟨gb482, 3, none⟩ = some (.slice A1_3 l1_3.length c1_3) ∧ w'.cell? (ad487.add ((x6_3).toNat * 3)) = some (.string ((rd_T56 l0_1 x6_3).f0)) ∧ w'.cell? ⟨(ad487.add ((x6_3).toNat * 3)).block, (ad487.add ((x6_3).toNat * 3)).off + 1, none⟩ = some (.string ((rd_T56 l0_1 x6_3).f1)) ∧ w'.cell? ⟨(ad487.add ((x6_3).toNat * 3)).block, (ad487.add ((x6_3).toNat * 3)).off + 2, none⟩ = some (.int .i64 ((rd_T56 l0_1 x6_3).f2)) ∧ w'.cell? (ad488.add ((x6_3).toNat * 3)) = some (.string ((rd_T56 l1_1 x6_3).f0)) ∧ w'.cell? ⟨(ad488.add ((x6_3).toNat * 3)).block, (ad488.add ((x6_3).toNat * 3)).off + 1, none⟩ = some (.string ((rd_T56 l1_1 x6_3).f1)) ∧ w'.cell? ⟨(ad488.add ((x6_3).toNat * 3)).block, (ad488.add ((x6_3).toNat * 3)).off + 2, none⟩ = some (.int .i64 ((rd_T56 l1_1 x6_3).f2))) (ds := []) (flg 12 0) (by kernel_rfl) rfl (by kernel_rfl) ⟨(blk_cell BK481.out 0).trans rfl, (blk_cell BK481.out 1).trans rfl, (blk_cell BK481.out 2).trans rfl, (blk_cell BK481.out 3).trans rfl, (blk_cell BK482.out 0).trans rfl, (blk_cell BK482.out 1).trans rfl, (blk_cell BK482.out 2).trans rfl, (blk_cell BK482.out 3).trans rfl, ((HB.out.cell (World.block_lt_of_cell? w _ hw487_0)).trans hw487_0), ((HB.out.cell (World.block_lt_of_cell? w _ hw487_1)).trans hw487_1), ((HB.out.cell (World.block_lt_of_cell? w _ hw487_2)).trans hw487_2), ((HB.out.cell (World.block_lt_of_cell? w _ hw488_0)).trans hw488_0), ((HB.out.cell (World.block_lt_of_cell? w _ hw488_1)).trans hw488_1), ((HB.out.cell (World.block_lt_of_cell? w _ hw488_2)).trans hw488_2)⟩ (fun hHeld => ?_); refine with_tabW helmsmanlaw12_TreeKinds.tab7 helmsmanlaw12_TreeKinds.bits7 (fun HT_ HW_ => ?_)
             generalize wr.drew = w54 at BK481 BK482 HB hx487_0 hx487_1 hx487_2 hx488_0 hx488_1 hx488_2 hHeld ⊢
             refine pure_ (i := 0) (N := some 61) (v := ?_) (a' := ?_) (flg 12 1) rfl rfl (any_of HT_.out (by kernel_rfl)) (fun _ _ _ h => h) (Or.inl ⟨by rfl, ?_⟩) ?_ ?_; rotate_left; intro w'; go_simp; with_reducible rfl; rotate_left; (simp only [Act.put, pA_, pB_, pC_, i64_w, i32_w]; rfl)
             refine pure_ (i := 2) (N := some 63) (v := ?_) (a' := ?_) (flg 12 5) rfl rfl (any_of HT_.out (by kernel_rfl)) (fun _ _ _ h => h) (Or.inl ⟨by rfl, ?_⟩) ?_ ?_; rotate_left; intro w'; go_simp; with_reducible rfl; rotate_left; (simp only [Act.put, pA_, pB_, pC_, i64_w, i32_w]; rfl)
             refine pure_ (i := 5) (N := some 66) (v := ?_) (a' := ?_) (flg 12 37) rfl rfl (any_of HT_.out (by kernel_rfl)) (fun _ _ _ h => h) (Or.inl ⟨by rfl, ?_⟩) ?_ ?_; rotate_left; intro w'; go_simp; with_reducible rfl; rotate_left; (simp only [Act.put, pA_, pB_, pC_, i64_w, i32_w]; rfl)
             refine pure_ (i := 7) (N := some 68) (v := ?_) (a' := ?_) (flg 12 165) rfl rfl (any_of HT_.out (by kernel_rfl)) (fun _ _ _ h => h) (Or.inl ⟨by rfl, ?_⟩) ?_ ?_; rotate_left; intro w'; go_simp; with_reducible rfl; rotate_left; (simp only [Act.put, pA_, pB_, pC_, i64_w, i32_w]; rfl)
             refine take_ (i := 1) (N := some 62) (v := ?_) (a' := ?_) (flg 12 167) rfl rfl (take_ofW HT_.out HW_.out (by kernel_rfl)) (fun _ _ _ h => h) (Or.inl ⟨by rfl, ?_⟩) hHeld ?_ ?_; rotate_left; rintro w' ⟨s0, s1, s2, s3, s4, s5, s6, s7, s8, s9, s10, s11, s12, s13⟩; go_simp; with_reducible rfl; rotate_left; (simp only [Act.put, pA_, pB_, pC_, i64_w, i32_w]; rfl)
             refine pure_ (i := 3) (N := some 64) (v := ?_) (a' := ?_) (flg 12 175) rfl rfl (any_of HT_.out (by kernel_rfl)) (fun _ _ _ h => h) (Or.inl ⟨by rfl, ?_⟩) ?_ ?_; rotate_left; intro w'; go_simp; with_reducible rfl; rotate_left; (simp only [Act.put, pA_, pB_, pC_, i64_w, i32_w]; rfl)
             refine take_ (i := 4) (N := some 65) (v := ?_) (a' := ?_) (flg 12 191) rfl rfl (take_ofW HT_.out HW_.out (by kernel_rfl)) (fun _ _ _ h => h) (Or.inl ⟨by rfl, ?_⟩) hHeld ?_ ?_; rotate_left; rintro w' ⟨s0, s1, s2, s3, s4, s5, s6, s7, s8, s9, s10, s11, s12, s13⟩; go_simp; with_reducible rfl; rotate_left; (simp only [Act.put, pA_, pB_, pC_, i64_w, i32_w]; rfl)
             refine take_ (i := 6) (N := some 67) (v := ?_) (a' := ?_) (flg 12 255) rfl rfl (take_ofW HT_.out HW_.out (by kernel_rfl)) (fun _ _ _ h => h) (Or.inl ⟨by rfl, ?_⟩) hHeld ?_ ?_; rotate_left; rintro w' ⟨s0, s1, s2, s3, s4, s5, s6, s7, s8, s9, s10, s11, s12, s13⟩; go_simp; with_reducible rfl; rotate_left; (simp only [Act.put, pA_, pB_, pC_, i64_w, i32_w]; rfl)
             refine pure_ (i := 8) (N := some 69) (v := ?_) (a' := ?_) (flg 12 511) rfl rfl (any_of HT_.out (by kernel_rfl)) (fun _ _ _ h => h) (Or.inl ⟨by rfl, ?_⟩) ?_ ?_; rotate_left; intro w'; go_simp; with_reducible rfl; rotate_left; (simp only [Act.put, pA_, pB_, pC_, i64_w, i32_w]; rfl)
             refine take_ (i := 9) (N := some 70) (v := ?_) (a' := ?_) (flg 12 1023) rfl rfl (take_ofW HT_.out HW_.out (by kernel_rfl)) (fun _ _ _ h => h) (Or.inl ⟨by rfl, ?_⟩) hHeld ?_ ?_; rotate_left; rintro w' ⟨s0, s1, s2, s3, s4, s5, s6, s7, s8, s9, s10, s11, s12, s13⟩; go_simp; with_reducible rfl; rotate_left; (simp only [Act.put, pA_, pB_, pC_, i64_w, i32_w]; rfl)
             refine pure_ (i := 10) (N := some 71) (v := ?_) (a' := ?_) (flg 12 2047) rfl rfl (any_of HT_.out (by kernel_rfl)) (fun _ _ _ h => h) (Or.inl ⟨by rfl, ?_⟩) ?_ ?_; rotate_left; intro w'; go_simp; with_reducible rfl; rotate_left; (simp only [Act.put, pA_, pB_, pC_, i64_w, i32_w]; rfl)
             refine pure_ (i := 11) (N := some 5) (v := ?_) (a' := ?_) (flg 12 4095) rfl rfl (any_of HT_.out (by kernel_rfl)) (fun _ _ _ h => h) (Or.inl ⟨by rfl, ?_⟩) ?_ ?_; rotate_left; intro w'; go_simp; with_reducible rfl; rotate_left; (simp only [Act.put, pA_, pB_, pC_, i64_w, i32_w]; rfl)
             refine done_ (done_of HT_.out (by kernel_rfl)) ?_
             try go_wp2
             go_roundg k3
             case measure => have := HJ2.out; have := HJ19.out; have := HK3.out; omega
             case rel => exact ⟨(((((rd_T56 l0_1 x6_3).f0).toList) == (((rd_T56 l1_1 x6_3).f0).toList) && ((((rd_T56 l0_1 x6_3).f1).toList) == (((rd_T56 l1_1 x6_3).f1).toList) && (((rd_T56 l0_1 x6_3).f2) == ((rd_T56 l1_1 x6_3).f2))))), (wrap64 (x6_3 + 1)), (by first | rfl | (simp; done) | (simp [*]; done)), (by first | rfl | (simp; done) | (simp [*]; done)), H', ⟨by have := HJ2.out; have := HJ19.out; have := HK3.out; omega⟩, ⟨by (with_reducible repeat (first | refine blk_drewN ?_ _ | refine blk_drew ?_ | refine blk_alloc ?_ _)); exact BK481.out⟩, ⟨by (with_reducible repeat (first | refine blk_drewN ?_ _ | refine blk_drew ?_ | refine blk_alloc ?_ _)); exact BK482.out⟩, ⟨by repeat (first | (with_reducible first | exact HB.out | apply below_alloc | apply pw_below_drewN | apply below_drew1 | refine below_set ?_ GE481.out | refine below_set ?_ GE482.out) | exact HB.out)⟩⟩
            ·rw [if_neg c51] at H
             exact absurd H (by simp)
           ·rw [if_neg c50] at H
            exact absurd H (by simp)
          ·rw [if_neg c49] at H
           have c49b0 : decide (x6_3 < (l0_1.length : Int)) = false := decide_eq_false c49
           clear c49
           (first | rw [c49b0] | (simp only [i64_w, i32_w]; rw [c49b0]) | skip)
           have H' := Aside0.mk H
           clear H
           have hnb55 := NB481_482.out
           have hnc55 := NB482_481.out
           have hcz56_0 : wr.cell? ⟨gb481, 0, none⟩ = some (.slice A0_0 l0_0.length c0_0) := (blk_cell BK481.out 0).trans rfl
           have hcz56_1 : wr.cell? ⟨gb481, 1, none⟩ = some (.slice A0_1 l0_1.length c0_1) := (blk_cell BK481.out 1).trans rfl
           have hcz56_2 : wr.cell? ⟨gb481, 2, none⟩ = some (.slice A0_2 l0_2.length c0_2) := (blk_cell BK481.out 2).trans rfl
           have hcz56_3 : wr.cell? ⟨gb481, 3, none⟩ = some (.slice A0_3 l0_3.length c0_3) := (blk_cell BK481.out 3).trans rfl
           have hfz56_0 := blk_frozen BK481.out 0
           have hfz56_1 := blk_frozen BK481.out 1
           have hfz56_2 := blk_frozen BK481.out 2
           have hfz56_3 := blk_frozen BK481.out 3
           go_wp2
           go_meet
           case rel => exact ⟨_, (true), (by first | rfl | (simp; done) | (simp [*]; done)), H', ⟨by have := HJ2.out; have := HJ19.out; have := HK3.out; first | omega | exact Nat.le_refl _⟩, ⟨by (with_reducible repeat (first | refine blk_drewN ?_ _ | refine blk_drew ?_ | refine blk_alloc ?_ _)); exact BK481.out⟩, ⟨by (with_reducible repeat (first | refine blk_drewN ?_ _ | refine blk_drew ?_ | refine blk_alloc ?_ _)); exact BK482.out⟩, ⟨by repeat (first | (with_reducible first | exact HB.out | apply below_alloc | apply pw_below_drewN | apply below_drew1 | refine below_set ?_ GE481.out | refine below_set ?_ GE482.out) | exact HB.out)⟩⟩
         ·replace c48 := Bool.eq_false_iff.mpr c48
          subst c48
          have H1 : (helmsmanlaw12_TreeKinds.j3 k3 false l0_0 l0_1 l0_2 l0_3 l1_0 l1_1 l1_2 l1_3) = some r := by rw [if_neg (show ¬ (false = true) by decide)] at H; exact H
          clear H
          have H := H1
          clear H1
          have H' := Aside0.mk H
          clear H
          go_wp2
          go_meet
          case rel => exact ⟨_, (false), (by first | rfl | (simp; done) | (simp [*]; done)), H', ⟨by have := HJ2.out; have := HJ19.out; have := HK3.out; first | omega | exact Nat.le_refl _⟩, ⟨by (with_reducible repeat (first | refine blk_drewN ?_ _ | refine blk_drew ?_ | refine blk_alloc ?_ _)); exact BK481.out⟩, ⟨by (with_reducible repeat (first | refine blk_drewN ?_ _ | refine blk_drew ?_ | refine blk_alloc ?_ _)); exact BK482.out⟩, ⟨by repeat (first | (with_reducible first | exact HB.out | apply below_alloc | apply pw_below_drewN | apply below_drew1 | refine below_set ?_ GE481.out | refine below_set ?_ GE482.out) | exact HB.out)⟩⟩
      case rest => as_aux_lemma =>
       clear HC47
       (try clear c1); (try clear c2); (try clear p2); (try clear c3); (try clear c4); (try clear p4); (try clear q4); (try clear hx4); (try clear c5); (try clear p6); (try clear c7); (try clear c7b0); (try clear c8); (try clear c10); (try clear c12); (try clear c16); (try clear c17); (try clear c22); (try clear c23); (try clear c23b0); (try clear c23b1); (try clear c23b2); (try clear c24); (try clear c24b0); (try clear c24b1); (try clear c24b2); (try clear c25); (try clear c31); (try clear c37); (try clear c43); (try clear c48); (try clear p48); (try clear q48); (try clear hx48); (try clear c49); (try clear c49b0); (try clear c50); (try clear c50b0); (try clear c51); (try clear c51b0); (try clear c52); (try clear c55); (try clear hcz13_0); (try clear hcz13_1); (try clear hcz13_2); (try clear hcz13_3); (try clear hcz15_0); (try clear hcz15_1); (try clear hcz15_2); (try clear hcz15_3); (try clear hcz26_0); (try clear hcz26_1); (try clear hcz26_2); (try clear hcz26_3); (try clear hcz27_0); (try clear hcz27_1); (try clear hcz27_2); (try clear hcz27_3); (try clear hcz29_0); (try clear hcz29_1); (try clear hcz29_2); (try clear hcz29_3); (try clear hcz30_0); (try clear hcz30_1); (try clear hcz30_2); (try clear hcz30_3); (try clear hcz32_0); (try clear hcz32_1); (try clear hcz32_2); (try clear hcz32_3); (try clear hcz33_0); (try clear hcz33_1); (try clear hcz33_2); (try clear hcz33_3); (try clear hcz35_0); (try clear hcz35_1); (try clear hcz35_2); (try clear hcz35_3); (try clear hcz36_0); (try clear hcz36_1); (try clear hcz36_2); (try clear hcz36_3); (try clear hcz38_0); (try clear hcz38_1); (try clear hcz38_2); (try clear hcz38_3); (try clear hcz39_0); (try clear hcz39_1); (try clear hcz39_2); (try clear hcz39_3); (try clear hcz41_0); (try clear hcz41_1); (try clear hcz41_2); (try clear hcz41_3); (try clear hcz42_0); (try clear hcz42_1); (try clear hcz42_2); (try clear hcz42_3); (try clear hcz44_0); (try clear hcz44_1); (try clear hcz44_2); (try clear hcz44_3); (try clear hcz45_0); (try clear hcz45_1); (try clear hcz45_2); (try clear hcz45_3); (try clear hcz53_0); (try clear hcz53_1); (try clear hcz53_2); (try clear hcz53_3); (try clear hcz56_0); (try clear hcz56_1); (try clear hcz56_2); (try clear hcz56_3); (try clear hcz9_0); (try clear hcz9_1); (try clear hcz9_2); (try clear hcz9_3); (try clear hfz13_0); (try clear hfz13_1); (try clear hfz13_2); (try clear hfz13_3); (try clear hfz15_0); (try clear hfz15_1); (try clear hfz15_2); (try clear hfz15_3); (try clear hfz26_0); (try clear hfz26_1); (try clear hfz26_2); (try clear hfz26_3); (try clear hfz27_0); (try clear hfz27_1); (try clear hfz27_2); (try clear hfz27_3); (try clear hfz29_0); (try clear hfz29_1); (try clear hfz29_2); (try clear hfz29_3); (try clear hfz30_0); (try clear hfz30_1); (try clear hfz30_2); (try clear hfz30_3); (try clear hfz32_0); (try clear hfz32_1); (try clear hfz32_2); (try clear hfz32_3); (try clear hfz33_0); (try clear hfz33_1); (try clear hfz33_2); (try clear hfz33_3); (try clear hfz35_0); (try clear hfz35_1); (try clear hfz35_2); (try clear hfz35_3); (try clear hfz36_0); (try clear hfz36_1); (try clear hfz36_2); (try clear hfz36_3); (try clear hfz38_0); (try clear hfz38_1); (try clear hfz38_2); (try clear hfz38_3); (try clear hfz39_0); (try clear hfz39_1); (try clear hfz39_2); (try clear hfz39_3); (try clear hfz41_0); (try clear hfz41_1); (try clear hfz41_2); (try clear hfz41_3); (try clear hfz42_0); (try clear hfz42_1); (try clear hfz42_2); (try clear hfz42_3); (try clear hfz44_0); (try clear hfz44_1); (try clear hfz44_2); (try clear hfz44_3); (try clear hfz45_0); (try clear hfz45_1); (try clear hfz45_2); (try clear hfz45_3); (try clear hfz53_0); (try clear hfz53_1); (try clear hfz53_2); (try clear hfz53_3); (try clear hfz56_0); (try clear hfz56_1); (try clear hfz56_2); (try clear hfz56_3); (try clear hfz9_0); (try clear hfz9_1); (try clear hfz9_2); (try clear hfz9_3); (try clear hx487_0); (try clear hx487_1); (try clear hx487_2); (try clear hx488_0); (try clear hx488_1); (try clear hx488_2); (try clear p2); (try clear p487); (try clear p488); (try clear q487); (try clear q488)
       obtain ⟨kq, x5_46, rfl, HA, HJ46, BK481, BK482, HB⟩ := hcut
       cases kq with
       | zero => exact absurd HA.out (by simp [helmsmanlaw12_TreeKinds.j3])
       | succ kj46 =>
        have H := HA.out
        clear HA
        simp only [helmsmanlaw12_TreeKinds.j3] at H
        have HC57 := Aside0.mk H
        clear H
        go_upto_block 2 with (fail)
        go_cut [5] (fun v5 wc => ∃ (kq : Nat) (x5_56 : Bool), v5 = .bool x5_56 ∧ Aside0 (helmsmanlaw12_TreeKinds.j5 kq x5_56 l0_0 l0_1 l0_2 l0_3 l1_0 l1_1 l1_2 l1_3 = some r) ∧ Aside0 (kq ≤ kj46) ∧ Aside0 (wc.heap[gb481]? = some (.cells #[(.slice A0_0 l0_0.length c0_0), (.slice A0_1 l0_1.length c0_1), (.slice A0_2 l0_2.length c0_2), (.slice A0_3 l0_3.length c0_3)] 43 (0, 0))) ∧ Aside0 (wc.heap[gb482]? = some (.cells #[(.slice A1_0 l1_0.length c1_0), (.slice A1_1 l1_1.length c1_1), (.slice A1_2 l1_2.length c1_2), (.slice A1_3 l1_3.length c1_3)] 43 (0, 0))) ∧ Aside0 (Below w.heap.size w wc))
        case first => as_aux_lemma =>
         have H := HC57.out
         clear HC57
         have H' := Aside0.mk H
         clear H
         go_wp2
         (try simp only [Act.put, List.setIfInBounds_toArray, List.set_cons_succ, List.set_cons_zero])
         go_loopg [5, 7] kj46 (fun kq v5 v7 w' => ∃ (x5_4 : Bool) (x7_4 : Int), v5 = .bool x5_4 ∧ v7 = .int .i64 x7_4 ∧ Aside0 (helmsmanlaw12_TreeKinds.l1 kq x5_4 x7_4 l0_0 l0_1 l0_2 l0_3 l1_0 l1_1 l1_2 l1_3 = some r) ∧ Aside0 (kq ≤ kj46) ∧ Aside0 (w'.heap[gb481]? = some (.cells #[(.slice A0_0 l0_0.length c0_0), (.slice A0_1 l0_1.length c0_1), (.slice A0_2 l0_2.length c0_2), (.slice A0_3 l0_3.length c0_3)] 43 (0, 0))) ∧ Aside0 (w'.heap[gb482]? = some (.cells #[(.slice A1_0 l1_0.length c1_0), (.slice A1_1 l1_1.length c1_1), (.slice A1_2 l1_2.length c1_2), (.slice A1_3 l1_3.length c1_3)] 43 (0, 0))) ∧ Aside0 (Below w.heap.size w w'))
         case atStart => exact ⟨(x5_46), (0), (by first | rfl | (simp; done) | (simp [*]; done)), (by first | rfl | (simp; done) | (simp [*]; done)), H', ⟨Nat.le_refl _⟩, ⟨by (with_reducible repeat (first | refine blk_drewN ?_ _ | refine blk_drew ?_ | refine blk_alloc ?_ _)); exact BK481.out⟩, ⟨by (with_reducible repeat (first | refine blk_drewN ?_ _ | refine blk_drew ?_ | refine blk_alloc ?_ _)); exact BK482.out⟩, ⟨by repeat (first | (with_reducible first | exact HB.out | apply below_alloc | apply pw_below_drewN | apply below_drew1 | refine below_set ?_ GE481.out | refine below_set ?_ GE482.out) | exact HB.out)⟩⟩
         case round => as_aux_lemma =>
          clear H'
          (try clear c1); (try clear c2); (try clear p2); (try clear c3); (try clear c4); (try clear p4); (try clear q4); (try clear hx4); (try clear c5); (try clear p6); (try clear c7); (try clear c7b0); (try clear c8); (try clear c10); (try clear c12); (try clear c16); (try clear c17); (try clear c22); (try clear c23); (try clear c23b0); (try clear c23b1); (try clear c23b2); (try clear c24); (try clear c24b0); (try clear c24b1); (try clear c24b2); (try clear c25); (try clear c31); (try clear c37); (try clear c43); (try clear c48); (try clear p48); (try clear q48); (try clear hx48); (try clear c49); (try clear c49b0); (try clear c50); (try clear c50b0); (try clear c51); (try clear c51b0); (try clear c52); (try clear c55); (try clear hcz13_0); (try clear hcz13_1); (try clear hcz13_2); (try clear hcz13_3); (try clear hcz15_0); (try clear hcz15_1); (try clear hcz15_2); (try clear hcz15_3); (try clear hcz26_0); (try clear hcz26_1); (try clear hcz26_2); (try clear hcz26_3); (try clear hcz27_0); (try clear hcz27_1); (try clear hcz27_2); (try clear hcz27_3); (try clear hcz29_0); (try clear hcz29_1); (try clear hcz29_2); (try clear hcz29_3); (try clear hcz30_0); (try clear hcz30_1); (try clear hcz30_2); (try clear hcz30_3); (try clear hcz32_0); (try clear hcz32_1); (try clear hcz32_2); (try clear hcz32_3); (try clear hcz33_0); (try clear hcz33_1); (try clear hcz33_2); (try clear hcz33_3); (try clear hcz35_0); (try clear hcz35_1); (try clear hcz35_2); (try clear hcz35_3); (try clear hcz36_0); (try clear hcz36_1); (try clear hcz36_2); (try clear hcz36_3); (try clear hcz38_0); (try clear hcz38_1); (try clear hcz38_2); (try clear hcz38_3); (try clear hcz39_0); (try clear hcz39_1); (try clear hcz39_2); (try clear hcz39_3); (try clear hcz41_0); (try clear hcz41_1); (try clear hcz41_2); (try clear hcz41_3); (try clear hcz42_0); (try clear hcz42_1); (try clear hcz42_2); (try clear hcz42_3); (try clear hcz44_0); (try clear hcz44_1); (try clear hcz44_2); (try clear hcz44_3); (try clear hcz45_0); (try clear hcz45_1); (try clear hcz45_2); (try clear hcz45_3); (try clear hcz53_0); (try clear hcz53_1); (try clear hcz53_2); (try clear hcz53_3); (try clear hcz56_0); (try clear hcz56_1); (try clear hcz56_2); (try clear hcz56_3); (try clear hcz9_0); (try clear hcz9_1); (try clear hcz9_2); (try clear hcz9_3); (try clear hfz13_0); (try clear hfz13_1); (try clear hfz13_2); (try clear hfz13_3); (try clear hfz15_0); (try clear hfz15_1); (try clear hfz15_2); (try clear hfz15_3); (try clear hfz26_0); (try clear hfz26_1); (try clear hfz26_2); (try clear hfz26_3); (try clear hfz27_0); (try clear hfz27_1); (try clear hfz27_2); (try clear hfz27_3); (try clear hfz29_0); (try clear hfz29_1); (try clear hfz29_2); (try clear hfz29_3); (try clear hfz30_0); (try clear hfz30_1); (try clear hfz30_2); (try clear hfz30_3); (try clear hfz32_0); (try clear hfz32_1); (try clear hfz32_2); (try clear hfz32_3); (try clear hfz33_0); (try clear hfz33_1); (try clear hfz33_2); (try clear hfz33_3); (try clear hfz35_0); (try clear hfz35_1); (try clear hfz35_2); (try clear hfz35_3); (try clear hfz36_0); (try clear hfz36_1); (try clear hfz36_2); (try clear hfz36_3); (try clear hfz38_0); (try clear hfz38_1); (try clear hfz38_2); (try clear hfz38_3); (try clear hfz39_0); (try clear hfz39_1); (try clear hfz39_2); (try clear hfz39_3); (try clear hfz41_0); (try clear hfz41_1); (try clear hfz41_2); (try clear hfz41_3); (try clear hfz42_0); (try clear hfz42_1); (try clear hfz42_2); (try clear hfz42_3); (try clear hfz44_0); (try clear hfz44_1); (try clear hfz44_2); (try clear hfz44_3); (try clear hfz45_0); (try clear hfz45_1); (try clear hfz45_2); (try clear hfz45_3); (try clear hfz53_0); (try clear hfz53_1); (try clear hfz53_2); (try clear hfz53_3); (try clear hfz56_0); (try clear hfz56_1); (try clear hfz56_2); (try clear hfz56_3); (try clear hfz9_0); (try clear hfz9_1); (try clear hfz9_2); (try clear hfz9_3); (try clear hx487_0); (try clear hx487_1); (try clear hx487_2); (try clear hx488_0); (try clear hx488_1); (try clear hx488_2); (try clear p2); (try clear p4); (try clear p48); (try clear p487); (try clear p488); (try clear p6); (try clear q4); (try clear q48); (try clear q487); (try clear q488)
          obtain ⟨x5_4, x7_4, rfl, rfl, HA, HK4, BK481, BK482, HB⟩ := hrel
          cases gk with
          | zero => exact absurd HA.out (by simp [helmsmanlaw12_TreeKinds.l1])
          | succ k4 =>
           have H := HA.out
           clear HA
           simp only [helmsmanlaw12_TreeKinds.l1] at H
           by_cases c58 : x5_4 = true
           ·subst c58
            have H1 : (if x7_4 < (l0_2.length : Int) then (if 0 ≤ x7_4 then (if x7_4 < (l1_2.length : Int) then (if ((rd_T69 l0_2 x7_4).f0).toList = ((rd_T69 l1_2 x7_4).f0).toList then ((helmsmanref12_SameStmts.f k4 ((rd_T69 l0_2 x7_4).f1) ((rd_T69 l1_2 x7_4).f1)).bind fun t493 => (helmsmanlaw12_TreeKinds.l1 k4 t493 (wrap64 (x7_4 + 1)) l0_0 l0_1 l0_2 l0_3 l1_0 l1_1 l1_2 l1_3)) else (helmsmanlaw12_TreeKinds.l1 k4 false (wrap64 (x7_4 + 1)) l0_0 l0_1 l0_2 l0_3 l1_0 l1_1 l1_2 l1_3)) else (none)) else (none)) else (helmsmanlaw12_TreeKinds.j5 k4 true l0_0 l0_1 l0_2 l0_3 l1_0 l1_1 l1_2 l1_3)) = some r := by rw [if_pos rfl] at H; exact H
            clear H
            have H := H1
            clear H1
            by_cases c59 : x7_4 < (l0_2.length : Int)
            ·rw [if_pos c59] at H
             have c59b0 : decide (x7_4 < (l0_2.length : Int)) = true := decide_eq_true c59
             clear c59
             (first | rw [c59b0] | (simp only [i64_w, i32_w]; rw [c59b0]) | skip)
             by_cases c60 : 0 ≤ x7_4
             ·rw [if_pos c60] at H
              have c60b0 : decide (0 ≤ x7_4) = true := decide_eq_true c60
              clear c60
              by_cases c61 : x7_4 < (l1_2.length : Int)
              ·rw [if_pos c61] at H
               have c61b0 : decide (x7_4 < (l1_2.length : Int)) = true := decide_eq_true c61
               clear c61
               by_cases c62 : ((rd_T69 l0_2 x7_4).f0).toList = ((rd_T69 l1_2 x7_4).f0).toList
               ·rw [if_pos c62] at H
                have c62b0 : (((rd_T69 l0_2 x7_4).f0).toList == ((rd_T69 l1_2 x7_4).f0).toList) = true := beq_iff_eq.mpr c62
                have c62b1 : (((rd_T69 l0_2 x7_4).f0).toList != ((rd_T69 l1_2 x7_4).f0).toList) = false := bne_eq_false_iff_eq.mpr c62
                clear c62
                replace H := Option.bind_eq_some_iff.mp H
                obtain ⟨t493, A630, H⟩ := H
                replace H : (helmsmanlaw12_TreeKinds.l1 k4 t493 (wrap64 (x7_4 + 1)) l0_0 l0_1 l0_2 l0_3 l1_0 l1_1 l1_2 l1_3) = some r := H
                have A63 := Aside0.mk A630
                clear A630
                have H' := Aside0.mk H
                clear H
                have hnb64 := NB481_482.out
                have hnc64 := NB482_481.out
                have hcz65_0 : wr.cell? ⟨gb481, 0, none⟩ = some (.slice A0_0 l0_0.length c0_0) := (blk_cell BK481.out 0).trans rfl
                have hcz65_1 : wr.cell? ⟨gb481, 1, none⟩ = some (.slice A0_1 l0_1.length c0_1) := (blk_cell BK481.out 1).trans rfl
                have hcz65_2 : wr.cell? ⟨gb481, 2, none⟩ = some (.slice A0_2 l0_2.length c0_2) := (blk_cell BK481.out 2).trans rfl
                have hcz65_3 : wr.cell? ⟨gb481, 3, none⟩ = some (.slice A0_3 l0_3.length c0_3) := (blk_cell BK481.out 3).trans rfl
                have hfz65_0 := blk_frozen BK481.out 0
                have hfz65_1 := blk_frozen BK481.out 1
                have hfz65_2 := blk_frozen BK481.out 2
                have hfz65_3 := blk_frozen BK481.out 3
                try go_wp2
                have n0_ := Aside0.mk (blk_drew BK481.out)
                have n1_ := Aside0.mk (blk_drew BK482.out)
                have n2_ := Aside0.mk (below_drew1 HB.out)
                clear BK481
                clear BK482
                clear HB
                have BK481 := n0_
                have BK482 := n1_
                have HB := n2_
                clear n0_ n1_ n2_
                have p489 : 0 ≤ (x7_4 : Int) := of_decide_eq_true (by first | (with_reducible assumption) | assumption)
                have q489 : x7_4 < (l0_2.length : Int) := of_decide_eq_true (by first | (with_reducible assumption) | assumption)
                obtain ⟨ad489, A489_1, c489_1, e489, hx489_0, hx489_1, hl489_1, hi489_1⟩ := at_T69 HR0_2.out x7_4 p489 q489
                have hw489_1 := hx489_1
                have hw489_0 := hx489_0
                cases e489
                replace hx489_0 := (HB.out.cell (World.block_lt_of_cell? w _ hx489_0)).trans hx489_0
                replace hx489_1 := (HB.out.cell (World.block_lt_of_cell? w _ hx489_1)).trans hx489_1
                have HR489_1 := Aside0.mk hi489_1
                have HC489_1 := Aside0.mk hl489_1
                clear hi489_1 hl489_1
                replace p489 := eq_true p489
                replace q489 := eq_true q489
                have p490 : 0 ≤ (x7_4 : Int) := of_decide_eq_true (by first | (with_reducible assumption) | assumption)
                have q490 : x7_4 < (l1_2.length : Int) := of_decide_eq_true (by first | (with_reducible assumption) | assumption)
                obtain ⟨ad490, A490_1, c490_1, e490, hx490_0, hx490_1, hl490_1, hi490_1⟩ := at_T69 HR1_2.out x7_4 p490 q490
                have hw490_1 := hx490_1
                have hw490_0 := hx490_0
                cases e490
                replace hx490_0 := (HB.out.cell (World.block_lt_of_cell? w _ hx490_0)).trans hx490_0
                replace hx490_1 := (HB.out.cell (World.block_lt_of_cell? w _ hx490_1)).trans hx490_1
                have HR490_1 := Aside0.mk hi490_1
                have HC490_1 := Aside0.mk hl490_1
                clear hi490_1 hl490_1
                replace p490 := eq_true p490
                replace q490 := eq_true q490
                have p491 : 0 ≤ (x7_4 : Int) := of_decide_eq_true (by first | (with_reducible assumption) | assumption)
                have q491 : x7_4 < (l0_2.length : Int) := of_decide_eq_true (by first | (with_reducible assumption) | assumption)
                obtain ⟨ad491, A491_1, c491_1, e491, hx491_0, hx491_1, hl491_1, hi491_1⟩ := at_T69 HR0_2.out x7_4 p491 q491
                have hw491_1 := hx491_1
                have hw491_0 := hx491_0
                obtain rfl : ad489 = ad491 := (by injection e491)
                replace hx491_0 := (HB.out.cell (World.block_lt_of_cell? w _ hx491_0)).trans hx491_0
                replace hx491_1 := (HB.out.cell (World.block_lt_of_cell? w _ hx491_1)).trans hx491_1
                have HR491_1 := Aside0.mk hi491_1
                have HC491_1 := Aside0.mk hl491_1
                clear hi491_1 hl491_1
                replace p491 := eq_true p491
                replace q491 := eq_true q491
                have ea_ := Option.some.inj (hx489_1.symm.trans hx491_1)
                injection ea_ with ea_ en_ ec_
                subst ea_
                subst ec_
                clear en_
                have p492 : 0 ≤ (x7_4 : Int) := of_decide_eq_true (by first | (with_reducible assumption) | assumption)
                have q492 : x7_4 < (l1_2.length : Int) := of_decide_eq_true (by first | (with_reducible assumption) | assumption)
                obtain ⟨ad492, A492_1, c492_1, e492, hx492_0, hx492_1, hl492_1, hi492_1⟩ := at_T69 HR1_2.out x7_4 p492 q492
                have hw492_1 := hx492_1
                have hw492_0 := hx492_0
                obtain rfl : ad490 = ad492 := (by injection e492)
                replace hx492_0 := (HB.out.cell (World.block_lt_of_cell? w _ hx492_0)).trans hx492_0
                replace hx492_1 := (HB.out.cell (World.block_lt_of_cell? w _ hx492_1)).trans hx492_1
                have HR492_1 := Aside0.mk hi492_1
                have HC492_1 := Aside0.mk hl492_1
                clear hi492_1 hl492_1
                replace p492 := eq_true p492
                replace q492 := eq_true q492
                have ea_ := Option.some.inj (hx490_1.symm.trans hx492_1)
                injection ea_ with ea_ en_ ec_
                subst ea_
                subst ec_
                clear en_
                refine start_ (n := 29) (S := fun w' => w'.cell? ⟨gb481, 0, none⟩ = some (.slice A0_0 l0_0.length c0_0) ∧ w'.cell? ⟨gb481, 1, none⟩ = some (.slice A0_1 l0_1.length c0_1) ∧ w'.cell? ⟨gb481, 2, none⟩ = some (.slice (some ad489) l0_2.length c0_2) ∧ w'.cell? ⟨gb481, 3, none⟩ = some (.slice A0_3 l0_3.length c0_3) ∧ w'.cell? ⟨gb482, 0, none⟩ = some (.slice A1_0 l1_0.length c1_0) ∧ w'.cell? ⟨gb482, 1, none⟩ = some (.slice A1_1 l1_1.length c1_1) ∧ w'.cell? ⟨gb482, 2, none⟩ = some (.slice (some ad490) l1_2.length c1_2) ∧ w'.cell? ⟨gb482, 3, none⟩ = some (.slice A1_3 l1_3.length c1_3) ∧ w'.cell? (ad489.add ((x7_4).toNat * 2)) = some (.string ((rd_T69 l0_2 x7_4).f0)) ∧ w'.cell? ⟨(ad489.add ((x7_4).toNat * 2)).block, (ad489.add ((x7_4).toNat * 2)).off + 1, none⟩ = some (.slice A489_1 ((rd_T69 l0_2 x7_4).f1).length c489_1) ∧ w'.cell? (ad490.add ((x7_4).toNat * 2)) = some (.string ((rd_T69 l1_2 x7_4).f0)) ∧ w'.cell? ⟨(ad490.add ((x7_4).toNat * 2)).block, (ad490.add ((x7_4).toNat * 2)).off + 1, none⟩ = some (.slice A490_1 ((rd_T69 l1_2 x7_4).f1).length c490_1) ∧ w'.cell? (ad489.add ((x7_4).toNat * 2)) = some (.string ((rd_T69 l0_2 x7_4).f0)) ∧ w'.cell? ⟨(ad489.add ((x7_4).toNat * 2)).block, (ad489.add ((x7_4).toNat * 2)).off + 1, none⟩ = some (.slice A489_1 ((rd_T69 l0_2 x7_4).f1).length c489_1) ∧ w'.cell? (ad490.add ((x7_4).toNat * 2)) = some (.string ((rd_T69 l1_2 x7_4).f0)) ∧ w'.cell? ⟨(ad490.add ((x7_4).toNat * 2)).block, (ad490.add ((x7_4).toNat * 2)).off + 1, none⟩ = some (.slice A490_1 ((rd_T69 l1_2 x7_4).f1).length c490_1)) (ds := []) (flg 29 0) (by kernel_rfl) rfl (by kernel_rfl) ⟨(blk_cell BK481.out 0).trans rfl, (blk_cell BK481.out 1).trans rfl, (blk_cell BK481.out 2).trans rfl, (blk_cell BK481.out 3).trans rfl, (blk_cell BK482.out 0).trans rfl, (blk_cell BK482.out 1).trans rfl, (blk_cell BK482.out 2).trans rfl, (blk_cell BK482.out 3).trans rfl, ((HB.out.cell (World.block_lt_of_cell? w _ hw489_0)).trans hw489_0), ((HB.out.cell (World.block_lt_of_cell? w _ hw489_1)).trans hw489_1), ((HB.out.cell (World.block_lt_of_cell? w _ hw490_0)).trans hw490_0), ((HB.out.cell (World.block_lt_of_cell? w _ hw490_1)).trans hw490_1), ((HB.out.cell (World.block_lt_of_cell? w _ hw491_0)).trans hw491_0), ((HB.out.cell (World.block_lt_of_cell? w _ hw491_1)).trans hw491_1), ((HB.out.cell (World.block_lt_of_cell? w _ hw492_0)).trans hw492_0), ((HB.out.cell (World.block_lt_of_cell? w _ hw492_1)).trans hw492_1)⟩ (fun hHeld => ?_); refine with_tabW helmsmanlaw12_TreeKinds.tab11 helmsmanlaw12_TreeKinds.bits11 (fun HT_ HW_ => ?_)
                generalize wr.drew = w66 at BK481 BK482 HB HR489_1 HR490_1 HR491_1 HR492_1 hx489_0 hx489_1 hx490_0 hx490_1 hx491_0 hx491_1 hx492_0 hx492_1 hHeld ⊢
                refine pure_ (i := 0) (N := some 82) (v := ?_) (a' := ?_) (flg 29 1) rfl rfl (any_of HT_.out (by kernel_rfl)) (fun _ _ _ h => h) (Or.inl ⟨by rfl, ?_⟩) ?_ ?_; rotate_left; intro w'; go_simp; with_reducible rfl; rotate_left; (simp only [Act.put, pA_, pB_, pC_, i64_w, i32_w]; rfl)
                refine pure_ (i := 2) (N := some 84) (v := ?_) (a' := ?_) (flg 29 5) rfl rfl (any_of HT_.out (by kernel_rfl)) (fun _ _ _ h => h) (Or.inl ⟨by rfl, ?_⟩) ?_ ?_; rotate_left; intro w'; go_simp; with_reducible rfl; rotate_left; (simp only [Act.put, pA_, pB_, pC_, i64_w, i32_w]; rfl)
                refine pure_ (i := 6) (N := some 88) (v := ?_) (a' := ?_) (flg 29 69) rfl rfl (any_of HT_.out (by kernel_rfl)) (fun _ _ _ h => h) (Or.inl ⟨by rfl, ?_⟩) ?_ ?_; rotate_left; intro w'; go_simp; with_reducible rfl; rotate_left; (simp only [Act.put, pA_, pB_, pC_, i64_w, i32_w]; rfl)
                refine pure_ (i := 8) (N := some 90) (v := ?_) (a' := ?_) (flg 29 325) rfl rfl (any_of HT_.out (by kernel_rfl)) (fun _ _ _ h => h) (Or.inl ⟨by rfl, ?_⟩) ?_ ?_; rotate_left; intro w'; go_simp; with_reducible rfl; rotate_left; (simp only [Act.put, pA_, pB_, pC_, i64_w, i32_w]; rfl)
                refine take_ (i := 1) (N := some 83) (v := ?_) (a' := ?_) (flg 29 327) rfl rfl (take_ofW HT_.out HW_.out (by kernel_rfl)) (fun _ _ _ h => h) (Or.inl ⟨by rfl, ?_⟩) hHeld ?_ ?_; rotate_left; rintro w' ⟨s0, s1, s2, s3, s4, s5, s6, s7, s8, s9, s10, s11, s12, s13, s14, s15⟩; go_simp; with_reducible rfl; rotate_left; (simp only [Act.put, pA_, pB_, pC_, i64_w, i32_w]; rfl)
                refine pure_ (i := 3) (N := some 85) (v := ?_) (a' := ?_) (flg 29 335) rfl rfl (any_of HT_.out (by kernel_rfl)) (fun _ _ _ h => h) (Or.inl ⟨by rfl, ?_⟩) ?_ ?_; rotate_left; intro w'; go_simp; with_reducible rfl; rotate_left; (simp only [Act.put, pA_, pB_, pC_, i64_w, i32_w]; rfl)
                refine pure_ (i := 4) (N := some 86) (v := ?_) (a' := ?_) (flg 29 351) rfl rfl (any_of HT_.out (by kernel_rfl)) (fun _ _ _ h => h) (Or.inl ⟨by rfl, ?_⟩) ?_ ?_; rotate_left; intro w'; go_simp; with_reducible rfl; rotate_left; (simp only [Act.put, pA_, pB_, pC_, i64_w, i32_w]; rfl)
                refine take_ (i := 5) (N := some 87) (v := ?_) (a' := ?_) (flg 29 383) rfl rfl (take_ofW HT_.out HW_.out (by kernel_rfl)) (fun _ _ _ h => h) (Or.inl ⟨by rfl, ?_⟩) hHeld ?_ ?_; rotate_left; rintro w' ⟨s0, s1, s2, s3, s4, s5, s6, s7, s8, s9, s10, s11, s12, s13, s14, s15⟩; go_simp; with_reducible rfl; rotate_left; (simp only [Act.put, pA_, pB_, pC_, i64_w, i32_w]; rfl)
                refine take_ (i := 7) (N := some 89) (v := ?_) (a' := ?_) (flg 29 511) rfl rfl (take_ofW HT_.out HW_.out (by kernel_rfl)) (fun _ _ _ h => h) (Or.inl ⟨by rfl, ?_⟩) hHeld ?_ ?_; rotate_left; rintro w' ⟨s0, s1, s2, s3, s4, s5, s6, s7, s8, s9, s10, s11, s12, s13, s14, s15⟩; go_simp; with_reducible rfl; rotate_left; (simp only [Act.put, pA_, pB_, pC_, i64_w, i32_w]; rfl)
                refine pure_ (i := 9) (N := some 91) (v := ?_) (a' := ?_) (flg 29 1023) rfl rfl (any_of HT_.out (by kernel_rfl)) (fun _ _ _ h => h) (Or.inl ⟨by rfl, ?_⟩) ?_ ?_; rotate_left; intro w'; go_simp; with_reducible rfl; rotate_left; (simp only [Act.put, pA_, pB_, pC_, i64_w, i32_w]; rfl)
                refine pure_ (i := 10) (N := some 92) (v := ?_) (a' := ?_) (flg 29 2047) rfl rfl (any_of HT_.out (by kernel_rfl)) (fun _ _ _ h => h) (Or.inl ⟨by rfl, ?_⟩) ?_ ?_; rotate_left; intro w'; go_simp; with_reducible rfl; rotate_left; (simp only [Act.put, pA_, pB_, pC_, i64_w, i32_w]; rfl)
                refine take_ (i := 11) (N := some 93) (v := ?_) (a' := ?_) (flg 29 4095) rfl rfl (take_ofW HT_.out HW_.out (by kernel_rfl)) (fun _ _ _ h => h) (Or.inl ⟨by rfl, ?_⟩) hHeld ?_ ?_; rotate_left; rintro w' ⟨s0, s1, s2, s3, s4, s5, s6, s7, s8, s9, s10, s11, s12, s13, s14, s15⟩; go_simp; with_reducible rfl; rotate_left; (simp only [Act.put, pA_, pB_, pC_, i64_w, i32_w]; rfl)
                refine pure_ (i := 12) (N := some 94) (v := ?_) (a' := ?_) (flg 29 8191) rfl rfl (any_of HT_.out (by kernel_rfl)) (fun _ _ _ h => h) (Or.inl ⟨by rfl, ?_⟩) ?_ ?_; rotate_left; intro w'; go_simp; with_reducible rfl; rotate_left; (simp only [Act.put, pA_, pB_, pC_, i64_w, i32_w]; rfl)
                refine pure_ (i := 13) (N := some 95) (v := ?_) (a' := ?_) (flg 29 16383) rfl rfl (any_of HT_.out (by kernel_rfl)) (fun _ _ _ h => h) (Or.inl ⟨by rfl, ?_⟩) ?_ ?_; rotate_left; intro w'; go_simp; with_reducible rfl; rotate_left; (simp only [Act.put, pA_, pB_, pC_, i64_w, i32_w]; rfl)
                refine pure_ (i := 14) (N := some 96) (v := ?_) (a' := ?_) (flg 29 32767) rfl rfl (any_of HT_.out (by kernel_rfl)) (fun _ _ _ h => h) (Or.inl ⟨by rfl, ?_⟩) ?_ ?_; rotate_left; intro w'; go_simp; with_reducible rfl; rotate_left; (simp only [Act.put, pA_, pB_, pC_, i64_w, i32_w]; rfl)
                refine pure_ (i := 16) (N := some 98) (v := ?_) (a' := ?_) (flg 29 98303) rfl rfl (any_of HT_.out (by kernel_rfl)) (fun _ _ _ h => h) (Or.inl ⟨by rfl, ?_⟩) ?_ ?_; rotate_left; intro w'; go_simp; with_reducible rfl; rotate_left; (simp only [Act.put, pA_, pB_, pC_, i64_w, i32_w]; rfl)
                refine pure_ (i := 20) (N := some 102) (v := ?_) (a' := ?_) (flg 29 1146879) rfl rfl (any_of HT_.out (by kernel_rfl)) (fun _ _ _ h => h) (Or.inl ⟨by rfl, ?_⟩) ?_ ?_; rotate_left; intro w'; go_simp; with_reducible rfl; rotate_left; (simp only [Act.put, pA_, pB_, pC_, i64_w, i32_w]; rfl)
                refine pure_ (i := 22) (N := some 104) (v := ?_) (a' := ?_) (flg 29 5341183) rfl rfl (any_of HT_.out (by kernel_rfl)) (fun _ _ _ h => h) (Or.inl ⟨by rfl, ?_⟩) ?_ ?_; rotate_left; intro w'; go_simp; with_reducible rfl; rotate_left; (simp only [Act.put, pA_, pB_, pC_, i64_w, i32_w]; rfl)
                refine take_ (i := 15) (N := some 97) (v := ?_) (a' := ?_) (flg 29 5373951) rfl rfl (take_ofW HT_.out HW_.out (by kernel_rfl)) (fun _ _ _ h => h) (Or.inl ⟨by rfl, ?_⟩) hHeld ?_ ?_; rotate_left; rintro w' ⟨s0, s1, s2, s3, s4, s5, s6, s7, s8, s9, s10, s11, s12, s13, s14, s15⟩; go_simp; with_reducible rfl; rotate_left; (simp only [Act.put, pA_, pB_, pC_, i64_w, i32_w]; rfl)
                refine pure_ (i := 17) (N := some 99) (v := ?_) (a' := ?_) (flg 29 5505023) rfl rfl (any_of HT_.out (by kernel_rfl)) (fun _ _ _ h => h) (Or.inl ⟨by rfl, ?_⟩) ?_ ?_; rotate_left; intro w'; go_simp; with_reducible rfl; rotate_left; (simp only [Act.put, pA_, pB_, pC_, i64_w, i32_w]; rfl)
                refine pure_ (i := 18) (N := some 100) (v := ?_) (a' := ?_) (flg 29 5767167) rfl rfl (any_of HT_.out (by kernel_rfl)) (fun _ _ _ h => h) (Or.inl ⟨by rfl, ?_⟩) ?_ ?_; rotate_left; intro w'; go_simp; with_reducible rfl; rotate_left; (simp only [Act.put, pA_, pB_, pC_, i64_w, i32_w]; rfl)
                refine take_ (i := 19) (N := some 101) (v := ?_) (a' := ?_) (flg 29 6291455) rfl rfl (take_ofW HT_.out HW_.out (by kernel_rfl)) (fun _ _ _ h => h) (Or.inl ⟨by rfl, ?_⟩) hHeld ?_ ?_; rotate_left; rintro w' ⟨s0, s1, s2, s3, s4, s5, s6, s7, s8, s9, s10, s11, s12, s13, s14, s15⟩; go_simp; with_reducible rfl; rotate_left; (simp only [Act.put, pA_, pB_, pC_, i64_w, i32_w]; rfl)
                refine take_ (i := 21) (N := some 103) (v := ?_) (a' := ?_) (flg 29 8388607) rfl rfl (take_ofW HT_.out HW_.out (by kernel_rfl)) (fun _ _ _ h => h) (Or.inl ⟨by rfl, ?_⟩) hHeld ?_ ?_; rotate_left; rintro w' ⟨s0, s1, s2, s3, s4, s5, s6, s7, s8, s9, s10, s11, s12, s13, s14, s15⟩; go_simp; with_reducible rfl; rotate_left; (simp only [Act.put, pA_, pB_, pC_, i64_w, i32_w]; rfl)
                refine pure_ (i := 23) (N := some 105) (v := ?_) (a' := ?_) (flg 29 16777215) rfl rfl (any_of HT_.out (by kernel_rfl)) (fun _ _ _ h => h) (Or.inl ⟨by rfl, ?_⟩) ?_ ?_; rotate_left; intro w'; go_simp; with_reducible rfl; rotate_left; (simp only [Act.put, pA_, pB_, pC_, i64_w, i32_w]; rfl)
                refine pure_ (i := 24) (N := some 106) (v := ?_) (a' := ?_) (flg 29 33554431) rfl rfl (any_of HT_.out (by kernel_rfl)) (fun _ _ _ h => h) (Or.inl ⟨by rfl, ?_⟩) ?_ ?_; rotate_left; intro w'; go_simp; with_reducible rfl; rotate_left; (simp only [Act.put, pA_, pB_, pC_, i64_w, i32_w]; rfl)
                refine take_ (i := 25) (N := some 107) (v := ?_) (a' := ?_) (flg 29 67108863) rfl rfl (take_ofW HT_.out HW_.out (by kernel_rfl)) (fun _ _ _ h => h) (Or.inl ⟨by rfl, ?_⟩) hHeld ?_ ?_; rotate_left; rintro w' ⟨s0, s1, s2, s3, s4, s5, s6, s7, s8, s9, s10, s11, s12, s13, s14, s15⟩; go_simp; with_reducible rfl; rotate_left; (simp only [Act.put, pA_, pB_, pC_, i64_w, i32_w]; rfl)
                refine one_ (i := 26) (N := some 108) (flg 29 134217727) rfl rfl (one_of HT_.out (by kernel_rfl)) (by decide) (fun K hK => ?_)
                refine goes_ Tryd.func25 (by kernel_rfl) rfl #[.slice A489_1 ((rd_T69 l0_2 x7_4).f1).length c489_1, .slice A490_1 ((rd_T69 l1_2 x7_4).f1).length c490_1] (by rfl) rfl rfl (by (try simp only [List.map_toArray, List.map_cons, List.map_nil]); first | done | rfl | (simp only [List.length_drop, List.length_take]; rfl)) ?_
                with_reducible refine (helmsmanref12_SameStmts.calls k4 _ _ ((rd_T69 l0_2 x7_4).f1) _ _ ((rd_T69 l1_2 x7_4).f1) t493 _ ?side1 ?side2 ?side3 ?side4 A63.out).mono ?_
                (case side1 => repeat (first | exact (Kd.C_below HR491_1.out HB.out) | (with_reducible refine Kd.C_alloc ?_ _) | (with_reducible refine Kd.C_drewN ?_ _) | (with_reducible refine Kd.C_drew ?_)))
                (case side2 => exact HC491_1.out)
                (case side3 => repeat (first | exact (Kd.C_below HR492_1.out HB.out) | (with_reducible refine Kd.C_alloc ?_ _) | (with_reducible refine Kd.C_drewN ?_ _) | (with_reducible refine Kd.C_drew ?_)))
                (case side4 => exact HC492_1.out)
                rintro e w67 ⟨rfl, hb⟩
                refine ⟨_, rfl, ?_⟩
                have n0_ := Aside0.mk (blk_below (g := gb481) (o := .cells #[.slice A0_0 l0_0.length c0_0, .slice A0_1 l0_1.length c0_1, .slice (some ad489) l0_2.length c0_2, .slice A0_3 l0_3.length c0_3] 43 (0, 0)) (by (with_reducible repeat (first | refine blk_drewN ?_ _ | refine blk_drew ?_ | refine blk_alloc ?_ _)); exact BK481.out) hb)
                have n1_ := Aside0.mk (blk_below (g := gb482) (o := .cells #[.slice A1_0 l1_0.length c1_0, .slice A1_1 l1_1.length c1_1, .slice (some ad490) l1_2.length c1_2, .slice A1_3 l1_3.length c1_3] 43 (0, 0)) (by (with_reducible repeat (first | refine blk_drewN ?_ _ | refine blk_drew ?_ | refine blk_alloc ?_ _)); exact BK482.out) hb)
                have n2_ := Aside0.mk (below_step (by repeat (first | (with_reducible first | exact HB.out | apply below_alloc | apply pw_below_drewN | apply below_drew1 | refine below_set ?_ GE481.out | refine below_set ?_ GE482.out) | exact HB.out)) hb)
                clear BK481
                clear BK482
                clear HB
                have BK481 := n0_
                have BK482 := n1_
                have HB := n2_
                clear n0_ n1_ n2_
                (try clear hb)
                (try clear hb2)
                (try clear hk)
                (try clear hi)
                refine hK.out _ _ ⟨(blk_cell BK481.out 0).trans rfl, (blk_cell BK481.out 1).trans rfl, (blk_cell BK481.out 2).trans rfl, (blk_cell BK481.out 3).trans rfl, (blk_cell BK482.out 0).trans rfl, (blk_cell BK482.out 1).trans rfl, (blk_cell BK482.out 2).trans rfl, (blk_cell BK482.out 3).trans rfl, ((HB.out.cell (World.block_lt_of_cell? w _ hw489_0)).trans hw489_0), ((HB.out.cell (World.block_lt_of_cell? w _ hw489_1)).trans hw489_1), ((HB.out.cell (World.block_lt_of_cell? w _ hw490_0)).trans hw490_0), ((HB.out.cell (World.block_lt_of_cell? w _ hw490_1)).trans hw490_1), ((HB.out.cell (World.block_lt_of_cell? w _ hw491_0)).trans hw491_0), ((HB.out.cell (World.block_lt_of_cell? w _ hw491_1)).trans hw491_1), ((HB.out.cell (World.block_lt_of_cell? w _ hw492_0)).trans hw492_0), ((HB.out.cell (World.block_lt_of_cell? w _ hw492_1)).trans hw492_1)⟩ (fun hHeld => ?_)
                clear hK K
                refine norm_ (a' := ?_) ?_ ?_
                rotate_left
                ·show Act.put _ (some 108) _ = _
                 simp only [Act.put, List.setIfInBounds_toArray, List.set_cons_zero, List.set_cons_succ, i64_w, i32_w]
                 rfl
                refine pure_ (i := 27) (N := some 109) (v := ?_) (a' := ?_) (flg 29 268435455) rfl rfl (any_of HT_.out (by kernel_rfl)) (fun _ _ _ h => h) (Or.inl ⟨by rfl, ?_⟩) ?_ ?_; rotate_left; intro w'; go_simp; with_reducible rfl; rotate_left; (simp only [Act.put, pA_, pB_, pC_, i64_w, i32_w]; rfl)
                refine pure_ (i := 28) (N := some 5) (v := ?_) (a' := ?_) (flg 29 536870911) rfl rfl (any_of HT_.out (by kernel_rfl)) (fun _ _ _ h => h) (Or.inl ⟨by rfl, ?_⟩) ?_ ?_; rotate_left; intro w'; go_simp; with_reducible rfl; rotate_left; (simp only [Act.put, pA_, pB_, pC_, i64_w, i32_w]; rfl)
                refine done_ (done_of HT_.out (by kernel_rfl)) ?_
                try go_wp2
                go_roundg k4
                case measure => have := HJ2.out; have := HJ19.out; have := HJ46.out; have := HK4.out; omega
                case rel => exact ⟨(t493), (wrap64 (x7_4 + 1)), (by first | rfl | (simp; done) | (simp [*]; done)), (by first | rfl | (simp; done) | (simp [*]; done)), H', ⟨by have := HJ2.out; have := HJ19.out; have := HJ46.out; have := HK4.out; omega⟩, ⟨by (with_reducible repeat (first | refine blk_drewN ?_ _ | refine blk_drew ?_ | refine blk_alloc ?_ _)); exact BK481.out⟩, ⟨by (with_reducible repeat (first | refine blk_drewN ?_ _ | refine blk_drew ?_ | refine blk_alloc ?_ _)); exact BK482.out⟩, ⟨by repeat (first | (with_reducible first | exact HB.out | apply below_alloc | apply pw_below_drewN | apply below_drew1 | refine below_set ?_ GE481.out | refine below_set ?_ GE482.out) | exact HB.out)⟩⟩
               ·rw [if_neg c62] at H
                have c62b0 : (((rd_T69 l0_2 x7_4).f0).toList == ((rd_T69 l1_2 x7_4).f0).toList) = false := beq_eq_false_iff_ne.mpr c62
                have c62b1 : (((rd_T69 l0_2 x7_4).f0).toList != ((rd_T69 l1_2 x7_4).f0).toList) = true := bne_iff_ne.mpr c62
                have H' := Aside0.mk H
                clear H
                have hnb68 := NB481_482.out
                have hnc68 := NB482_481.out
                have hcz69_0 : wr.cell? ⟨gb481, 0, none⟩ = some (.slice A0_0 l0_0.length c0_0) := (blk_cell BK481.out 0).trans rfl
                have hcz69_1 : wr.cell? ⟨gb481, 1, none⟩ = some (.slice A0_1 l0_1.length c0_1) := (blk_cell BK481.out 1).trans rfl
                have hcz69_2 : wr.cell? ⟨gb481, 2, none⟩ = some (.slice A0_2 l0_2.length c0_2) := (blk_cell BK481.out 2).trans rfl
                have hcz69_3 : wr.cell? ⟨gb481, 3, none⟩ = some (.slice A0_3 l0_3.length c0_3) := (blk_cell BK481.out 3).trans rfl
                have hfz69_0 := blk_frozen BK481.out 0
                have hfz69_1 := blk_frozen BK481.out 1
                have hfz69_2 := blk_frozen BK481.out 2
                have hfz69_3 := blk_frozen BK481.out 3
                try go_wp2
                have n0_ := Aside0.mk (blk_drew BK481.out)
                have n1_ := Aside0.mk (blk_drew BK482.out)
                have n2_ := Aside0.mk (below_drew1 HB.out)
                clear BK481
                clear BK482
                clear HB
                have BK481 := n0_
                have BK482 := n1_
                have HB := n2_
                clear n0_ n1_ n2_
                have p489 : 0 ≤ (x7_4 : Int) := of_decide_eq_true (by first | (with_reducible assumption) | assumption)
                have q489 : x7_4 < (l0_2.length : Int) := of_decide_eq_true (by first | (with_reducible assumption) | assumption)
                obtain ⟨ad489, A489_1, c489_1, e489, hx489_0, hx489_1, hl489_1, hi489_1⟩ := at_T69 HR0_2.out x7_4 p489 q489
                have hw489_1 := hx489_1
                have hw489_0 := hx489_0
                cases e489
                replace hx489_0 := (HB.out.cell (World.block_lt_of_cell? w _ hx489_0)).trans hx489_0
                replace hx489_1 := (HB.out.cell (World.block_lt_of_cell? w _ hx489_1)).trans hx489_1
                have HR489_1 := Aside0.mk hi489_1
                have HC489_1 := Aside0.mk hl489_1
                clear hi489_1 hl489_1
                replace p489 := eq_true p489
                replace q489 := eq_true q489
                have p490 : 0 ≤ (x7_4 : Int) := of_decide_eq_true (by first | (with_reducible assumption) | assumption)
                have q490 : x7_4 < (l1_2.length : Int) := of_decide_eq_true (by first | (with_reducible assumption) | assumption)
                obtain ⟨ad490, A490_1, c490_1, e490, hx490_0, hx490_1, hl490_1, hi490_1⟩ := at_T69 HR1_2.out x7_4 p490 q490
                have hw490_1 := hx490_1
                have hw490_0 := hx490_0
                cases e490
                replace hx490_0 := (HB.out.cell (World.block_lt_of_cell? w _ hx490_0)).trans hx490_0
                replace hx490_1 := (HB.out.cell (World.block_lt_of_cell? w _ hx490_1)).trans hx490_1
                have HR490_1 := Aside0.mk hi490_1
                have HC490_1 := Aside0.mk hl490_1
                clear hi490_1 hl490_1
                replace p490 := eq_true p490
                replace q490 := eq_true q490
                refine start_ (n := 29) (S := fun w' => w'.cell? ⟨gb481, 0, none⟩ = some (.slice A0_0 l0_0.length c0_0) ∧ w'.cell? ⟨gb481, 1, none⟩ = some (.slice A0_1 l0_1.length c0_1) ∧ w'.cell? ⟨gb481, 2, none⟩ = some (.slice (some ad489) l0_2.length c0_2) ∧ w'.cell? ⟨gb481, 3, none⟩ = some (.slice A0_3 l0_3.length c0_3) ∧ w'.cell? ⟨gb482, 0, none⟩ = some (.slice A1_0 l1_0.length c1_0) ∧ w'.cell? ⟨gb482, 1, none⟩ = some (.slice A1_1 l1_1.length c1_1) ∧ w'.cell? ⟨gb482, 2, none⟩ = some (.slice (some ad490) l1_2.length c1_2) ∧ w'.cell? ⟨gb482, 3, none⟩ = some (.slice A1_3 l1_3.length c1_3) ∧ w'.cell? (ad489.add ((x7_4).toNat * 2)) = some (.string ((rd_T69 l0_2 x7_4).f0)) ∧ w'.cell? ⟨(ad489.add ((x7_4).toNat * 2)).block, (ad489.add ((x7_4).toNat * 2)).off + 1, none⟩ = some (.slice A489_1 ((rd_T69 l0_2 x7_4).f1).length c489_1) ∧ w'.cell? (ad490.add ((x7_4).toNat * 2)) = some (.string ((rd_T69 l1_2 x7_4).f0)) ∧ w'.cell? ⟨(ad490.add ((x7_4).toNat * 2)).block, (ad490.add ((x7_4).toNat * 2)).off + 1, none⟩ = some (.slice A490_1 ((rd_T69 l1_2 x7_4).f1).length c490_1)) (ds := []) (flg 29 0) (by kernel_rfl) rfl (by kernel_rfl) ⟨(blk_cell BK481.out 0).trans rfl, (blk_cell BK481.out 1).trans rfl, (blk_cell BK481.out 2).trans rfl, (blk_cell BK481.out 3).trans rfl, (blk_cell BK482.out 0).trans rfl, (blk_cell BK482.out 1).trans rfl, (blk_cell BK482.out 2).trans rfl, (blk_cell BK482.out 3).trans rfl, ((HB.out.cell (World.block_lt_of_cell? w _ hw489_0)).trans hw489_0), ((HB.out.cell (World.block_lt_of_cell? w _ hw489_1)).trans hw489_1), ((HB.out.cell (World.block_lt_of_cell? w _ hw490_0)).trans hw490_0), ((HB.out.cell (World.block_lt_of_cell? w _ hw490_1)).trans hw490_1)⟩ (fun hHeld => ?_); refine with_tabW helmsmanlaw12_TreeKinds.tab11 helmsmanlaw12_TreeKinds.bits11 (fun HT_ HW_ => ?_)
                generalize wr.drew = w70 at BK481 BK482 HB HR489_1 HR490_1 hx489_0 hx489_1 hx490_0 hx490_1 hHeld ⊢
                refine pure_ (i := 0) (N := some 82) (v := ?_) (a' := ?_) (flg 29 1) rfl rfl (any_of HT_.out (by kernel_rfl)) (fun _ _ _ h => h) (Or.inl ⟨by rfl, ?_⟩) ?_ ?_; rotate_left; intro w'; go_simp; with_reducible rfl; rotate_left; (simp only [Act.put, pA_, pB_, pC_, i64_w, i32_w]; rfl)
                refine pure_ (i := 2) (N := some 84) (v := ?_) (a' := ?_) (flg 29 5) rfl rfl (any_of HT_.out (by kernel_rfl)) (fun _ _ _ h => h) (Or.inl ⟨by rfl, ?_⟩) ?_ ?_; rotate_left; intro w'; go_simp; with_reducible rfl; rotate_left; (simp only [Act.put, pA_, pB_, pC_, i64_w, i32_w]; rfl)
                refine pure_ (i := 6) (N := some 88) (v := ?_) (a' := ?_) (flg 29 69) rfl rfl (any_of HT_.out (by kernel_rfl)) (fun _ _ _ h => h) (Or.inl ⟨by rfl, ?_⟩) ?_ ?_; rotate_left; intro w'; go_simp; with_reducible rfl; rotate_left; (simp only [Act.put, pA_, pB_, pC_, i64_w, i32_w]; rfl)
                refine pure_ (i := 8) (N := some 90) (v := ?_) (a' := ?_) (flg 29 325) rfl rfl (any_of HT_.out (by kernel_rfl)) (fun _ _ _ h => h) (Or.inl ⟨by rfl, ?_⟩) ?_ ?_; rotate_left; intro w'; go_simp; with_reducible rfl; rotate_left; (simp only [Act.put, pA_, pB_, pC_, i64_w, i32_w]; rfl)
                refine take_ (i := 1) (N := some 83) (v := ?_) (a' := ?_) (flg 29 327) rfl rfl (take_ofW HT_.out HW_.out (by kernel_rfl)) (fun _ _ _ h => h) (Or.inl ⟨by rfl, ?_⟩) hHeld ?_ ?_; rotate_left; rintro w' ⟨s0, s1, s2, s3, s4, s5, s6, s7, s8, s9, s10, s11⟩; go_simp; with_reducible rfl; rotate_left; (simp only [Act.put, pA_, pB_, pC_, i64_w, i32_w]; rfl)
                refine pure_ (i := 3) (N := some 85) (v := ?_) (a' := ?_) (flg 29 335) rfl rfl (any_of HT_.out (by kernel_rfl)) (fun _ _ _ h => h) (Or.inl ⟨by rfl, ?_⟩) ?_ ?_; rotate_left; intro w'; go_simp; with_reducible rfl; rotate_left; (simp only [Act.put, pA_, pB_, pC_, i64_w, i32_w]; rfl)
                refine pure_ (i := 4) (N := some 86) (v := ?_) (a' := ?_) (flg 29 351) rfl rfl (any_of HT_.out (by kernel_rfl)) (fun _ _ _ h => h) (Or.inl ⟨by rfl, ?_⟩) ?_ ?_; rotate_left; intro w'; go_simp; with_reducible rfl; rotate_left; (simp only [Act.put, pA_, pB_, pC_, i64_w, i32_w]; rfl)
                refine take_ (i := 5) (N := some 87) (v := ?_) (a' := ?_) (flg 29 383) rfl rfl (take_ofW HT_.out HW_.out (by kernel_rfl)) (fun _ _ _ h => h) (Or.inl ⟨by rfl, ?_⟩) hHeld ?_ ?_; rotate_left; rintro w' ⟨s0, s1, s2, s3, s4, s5, s6, s7, s8, s9, s10, s11⟩; go_simp; with_reducible rfl; rotate_left; (simp only [Act.put, pA_, pB_, pC_, i64_w, i32_w]; rfl)
                refine take_ (i := 7) (N := some 89) (v := ?_) (a' := ?_) (flg 29 511) rfl rfl (take_ofW HT_.out HW_.out (by kernel_rfl)) (fun _ _ _ h => h) (Or.inl ⟨by rfl, ?_⟩) hHeld ?_ ?_; rotate_left; rintro w' ⟨s0, s1, s2, s3, s4, s5, s6, s7, s8, s9, s10, s11⟩; go_simp; with_reducible rfl; rotate_left; (simp only [Act.put, pA_, pB_, pC_, i64_w, i32_w]; rfl)
                refine pure_ (i := 9) (N := some 91) (v := ?_) (a' := ?_) (flg 29 1023) rfl rfl (any_of HT_.out (by kernel_rfl)) (fun _ _ _ h => h) (Or.inl ⟨by rfl, ?_⟩) ?_ ?_; rotate_left; intro w'; go_simp; with_reducible rfl; rotate_left; (simp only [Act.put, pA_, pB_, pC_, i64_w, i32_w]; rfl)
                refine pure_ (i := 10) (N := some 92) (v := ?_) (a' := ?_) (flg 29 2047) rfl rfl (any_of HT_.out (by kernel_rfl)) (fun _ _ _ h => h) (Or.inl ⟨by rfl, ?_⟩) ?_ ?_; rotate_left; intro w'; go_simp; with_reducible rfl; rotate_left; (simp only [Act.put, pA_, pB_, pC_, i64_w, i32_w]; rfl)
                refine take_ (i := 11) (N := some 93) (v := ?_) (a' := ?_) (flg 29 4095) rfl rfl (take_ofW HT_.out HW_.out (by kernel_rfl)) (fun _ _ _ h => h) (Or.inl ⟨by rfl, ?_⟩) hHeld ?_ ?_; rotate_left; rintro w' ⟨s0, s1, s2, s3, s4, s5, s6, s7, s8, s9, s10, s11⟩; go_simp; with_reducible rfl; rotate_left; (simp only [Act.put, pA_, pB_, pC_, i64_w, i32_w]; rfl)
                refine pure_ (i := 12) (N := some 94) (v := ?_) (a' := ?_) (flg 29 8191) rfl rfl (any_of HT_.out (by kernel_rfl)) (fun _ _ _ h => h) (Or.inl ⟨by rfl, ?_⟩) ?_ ?_; rotate_left; intro w'; go_simp; with_reducible rfl; rotate_left; (simp only [Act.put, pA_, pB_, pC_, i64_w, i32_w]; rfl)
                refine pure_ (i := 13) (N := some 95) (v := ?_) (a' := ?_) (flg 29 16383) rfl rfl (any_of HT_.out (by kernel_rfl)) (fun _ _ _ h => h) (Or.inl ⟨by rfl, ?_⟩) ?_ ?_; rotate_left; intro w'; go_simp; with_reducible rfl; rotate_left; (simp only [Act.put, pA_, pB_, pC_, i64_w, i32_w]; rfl)
                refine skp_ (a' := ?_) 14 96 (flg 29 32767) rfl rfl (any_of HT_.out (by kernel_rfl)) (fun _ _ _ h => h) (by rfl) ?_ ?_; rotate_left; (simp only [Act.put, pA_, pB_, pC_, i64_w, i32_w]; rfl)
                refine skp_ (a' := ?_) 15 97 (flg 29 65535) rfl rfl (any_of HT_.out (by kernel_rfl)) (fun _ _ _ h => h) (by rfl) ?_ ?_; rotate_left; (simp only [Act.put, pA_, pB_, pC_, i64_w, i32_w]; rfl)
                refine skp_ (a' := ?_) 16 98 (flg 29 131071) rfl rfl (any_of HT_.out (by kernel_rfl)) (fun _ _ _ h => h) (by rfl) ?_ ?_; rotate_left; (simp only [Act.put, pA_, pB_, pC_, i64_w, i32_w]; rfl)
                refine skp_ (a' := ?_) 17 99 (flg 29 262143) rfl rfl (any_of HT_.out (by kernel_rfl)) (fun _ _ _ h => h) (by rfl) ?_ ?_; rotate_left; (simp only [Act.put, pA_, pB_, pC_, i64_w, i32_w]; rfl)
                refine skp_ (a' := ?_) 18 100 (flg 29 524287) rfl rfl (any_of HT_.out (by kernel_rfl)) (fun _ _ _ h => h) (by rfl) ?_ ?_; rotate_left; (simp only [Act.put, pA_, pB_, pC_, i64_w, i32_w]; rfl)
                refine skp_ (a' := ?_) 19 101 (flg 29 1048575) rfl rfl (any_of HT_.out (by kernel_rfl)) (fun _ _ _ h => h) (by rfl) ?_ ?_; rotate_left; (simp only [Act.put, pA_, pB_, pC_, i64_w, i32_w]; rfl)
                refine skp_ (a' := ?_) 20 102 (flg 29 2097151) rfl rfl (any_of HT_.out (by kernel_rfl)) (fun _ _ _ h => h) (by rfl) ?_ ?_; rotate_left; (simp only [Act.put, pA_, pB_, pC_, i64_w, i32_w]; rfl)
                refine skp_ (a' := ?_) 21 103 (flg 29 4194303) rfl rfl (any_of HT_.out (by kernel_rfl)) (fun _ _ _ h => h) (by rfl) ?_ ?_; rotate_left; (simp only [Act.put, pA_, pB_, pC_, i64_w, i32_w]; rfl)
                refine skp_ (a' := ?_) 22 104 (flg 29 8388607) rfl rfl (any_of HT_.out (by kernel_rfl)) (fun _ _ _ h => h) (by rfl) ?_ ?_; rotate_left; (simp only [Act.put, pA_, pB_, pC_, i64_w, i32_w]; rfl)
                refine skp_ (a' := ?_) 23 105 (flg 29 16777215) rfl rfl (any_of HT_.out (by kernel_rfl)) (fun _ _ _ h => h) (by rfl) ?_ ?_; rotate_left; (simp only [Act.put, pA_, pB_, pC_, i64_w, i32_w]; rfl)
                refine skp_ (a' := ?_) 24 106 (flg 29 33554431) rfl rfl (any_of HT_.out (by kernel_rfl)) (fun _ _ _ h => h) (by rfl) ?_ ?_; rotate_left; (simp only [Act.put, pA_, pB_, pC_, i64_w, i32_w]; rfl)
                refine skp_ (a' := ?_) 25 107 (flg 29 67108863) rfl rfl (any_of HT_.out (by kernel_rfl)) (fun _ _ _ h => h) (by rfl) ?_ ?_; rotate_left; (simp only [Act.put, pA_, pB_, pC_, i64_w, i32_w]; rfl)
                refine skp_ (a' := ?_) 26 108 (flg 29 134217727) rfl rfl (any_of HT_.out (by kernel_rfl)) (fun _ _ _ h => h) (by rfl) ?_ ?_; rotate_left; (simp only [Act.put, pA_, pB_, pC_, i64_w, i32_w]; rfl)
                refine pure_ (i := 27) (N := some 109) (v := ?_) (a' := ?_) (flg 29 268435455) rfl rfl (any_of HT_.out (by kernel_rfl)) (fun _ _ _ h => h) (Or.inl ⟨by rfl, ?_⟩) ?_ ?_; rotate_left; intro w'; go_simp; with_reducible rfl; rotate_left; (simp only [Act.put, pA_, pB_, pC_, i64_w, i32_w]; rfl)
                refine pure_ (i := 28) (N := some 5) (v := ?_) (a' := ?_) (flg 29 536870911) rfl rfl (any_of HT_.out (by kernel_rfl)) (fun _ _ _ h => h) (Or.inl ⟨by rfl, ?_⟩) ?_ ?_; rotate_left; intro w'; go_simp; with_reducible rfl; rotate_left; (simp only [Act.put, pA_, pB_, pC_, i64_w, i32_w]; rfl)
                refine done_ (done_of HT_.out (by kernel_rfl)) ?_
                try go_wp2
                go_roundg k4
                case measure => have := HJ2.out; have := HJ19.out; have := HJ46.out; have := HK4.out; omega
                case rel => exact ⟨(false), (wrap64 (x7_4 + 1)), (by first | rfl | (simp; done) | (simp [*]; done)), (by first | rfl | (simp; done) | (simp [*]; done)), H', ⟨by have := HJ2.out; have := HJ19.out; have := HJ46.out; have := HK4.out; omega⟩, ⟨by (with_reducible repeat (first | refine blk_drewN ?_ _ | refine blk_drew ?_ | refine blk_alloc ?_ _)); exact BK481.out⟩, ⟨by (with_reducible repeat (first | refine blk_drewN ?_ _ | refine blk_drew ?_ | refine blk_alloc ?_ _)); exact BK482.out⟩, ⟨by repeat (first | (with_reducible first | exact HB.out | apply below_alloc | apply pw_below_drewN | apply below_drew1 | refine below_set ?_ GE481.out | refine below_set ?_ GE482.out) | exact HB.out)⟩⟩
              ·rw [if_neg c61] at H
               exact absurd H (by simp)
             ·rw [if_neg c60] at H
              exact absurd H (by simp)
            ·rw [if_neg c59] at H
             have c59b0 : decide (x7_4 < (l0_2.length : Int)) = false := decide_eq_false c59
             clear c59
             (first | rw [c59b0] | (simp only [i64_w, i32_w]; rw [c59b0]) | skip)
             have H' := Aside0.mk H
             clear H
             have hnb71 := NB481_482.out
             have hnc71 := NB482_481.out
             have hcz72_0 : wr.cell? ⟨gb481, 0, none⟩ = some (.slice A0_0 l0_0.length c0_0) := (blk_cell BK481.out 0).trans rfl
             have hcz72_1 : wr.cell? ⟨gb481, 1, none⟩ = some (.slice A0_1 l0_1.length c0_1) := (blk_cell BK481.out 1).trans rfl
             have hcz72_2 : wr.cell? ⟨gb481, 2, none⟩ = some (.slice A0_2 l0_2.length c0_2) := (blk_cell BK481.out 2).trans rfl
             have hcz72_3 : wr.cell? ⟨gb481, 3, none⟩ = some (.slice A0_3 l0_3.length c0_3) := (blk_cell BK481.out 3).trans rfl
             have hfz72_0 := blk_frozen BK481.out 0
             have hfz72_1 := blk_frozen BK481.out 1
             have hfz72_2 := blk_frozen BK481.out 2
             have hfz72_3 := blk_frozen BK481.out 3
             go_wp2
             go_meet
             case rel => exact ⟨_, (true), (by first | rfl | (simp; done) | (simp [*]; done)), H', ⟨by have := HJ2.out; have := HJ19.out; have := HJ46.out; have := HK4.out; first | omega | exact Nat.le_refl _⟩, ⟨by (with_reducible repeat (first | refine blk_drewN ?_ _ | refine blk_drew ?_ | refine blk_alloc ?_ _)); exact BK481.out⟩, ⟨by (with_reducible repeat (first | refine blk_drewN ?_ _ | refine blk_drew ?_ | refine blk_alloc ?_ _)); exact BK482.out⟩, ⟨by repeat (first | (with_reducible first | exact HB.out | apply below_alloc | apply pw_below_drewN | apply below_drew1 | refine below_set ?_ GE481.out | refine below_set ?_ GE482.out) | exact HB.out)⟩⟩
           ·replace c58 := Bool.eq_false_iff.mpr c58
            subst c58
            have H1 : (helmsmanlaw12_TreeKinds.j5 k4 false l0_0 l0_1 l0_2 l0_3 l1_0 l1_1 l1_2 l1_3) = some r := by rw [if_neg (show ¬ (false = true) by decide)] at H; exact H
            clear H
            have H := H1
            clear H1
            have H' := Aside0.mk H
            clear H
            go_wp2
            go_meet
            case rel => exact ⟨_, (false), (by first | rfl | (simp; done) | (simp [*]; done)), H', ⟨by have := HJ2.out; have := HJ19.out; have := HJ46.out; have := HK4.out; first | omega | exact Nat.le_refl _⟩, ⟨by (with_reducible repeat (first | refine blk_drewN ?_ _ | refine blk_drew ?_ | refine blk_alloc ?_ _)); exact BK481.out⟩, ⟨by (with_reducible repeat (first | refine blk_drewN ?_ _ | refine blk_drew ?_ | refine blk_alloc ?_ _)); exact BK482.out⟩, ⟨by repeat (first | (with_reducible first | exact HB.out | apply below_alloc | apply pw_below_drewN | apply below_drew1 | refine below_set ?_ GE481.out | refine below_set ?_ GE482.out) | exact HB.out)⟩⟩
        case rest => as_aux_lemma =>
         clear HC57
         (try clear c1); (try clear c2); (try clear p2); (try clear c4); (try clear p4); (try clear q4); (try clear hx4); (try clear c5); (try clear c6); (try clear p6); (try clear c7); (try clear c25); (try clear c48); (try clear p48); (try clear q48); (try clear hx48); (try clear c49); (try clear p49); (try clear q49); (try clear hx49); (try clear c58); (try clear c59); (try clear c59b0); (try clear c60); (try clear c61); (try clear c62); (try clear c62b0); (try clear c62b1); (try clear p64); (try clear c68); (try clear c71); (try clear hcz69_0); (try clear hcz69_1); (try clear hcz69_2); (try clear hcz69_3); (try clear hcz72_0); (try clear hcz72_1); (try clear hcz72_2); (try clear hcz72_3); (try clear hfz69_0); (try clear hfz69_1); (try clear hfz69_2); (try clear hfz69_3); (try clear hfz72_0); (try clear hfz72_1); (try clear hfz72_2); (try clear hfz72_3); (try clear hx489_0); (try clear hx489_1); (try clear hx490_0); (try clear hx490_1); (try clear hx491_0); (try clear hx491_1); (try clear hx492_0); (try clear hx492_1); (try clear p489); (try clear p490); (try clear p491); (try clear p492); (try clear q489); (try clear q490); (try clear q491); (try clear q492)
         obtain ⟨kq, x5_56, rfl, HA, HJ56, BK481, BK482, HB⟩ := hcut
         cases kq with
         | zero => exact absurd HA.out (by simp [helmsmanlaw12_TreeKinds.j5])
         | succ kj56 =>
          have H := HA.out
          clear HA
          simp only [helmsmanlaw12_TreeKinds.j5] at H
          have H' := Aside0.mk H
          clear H
          go_wp2
          (try simp only [Act.put, List.setIfInBounds_toArray, List.set_cons_succ, List.set_cons_zero])
          go_loopg [5, 8] kj56 (fun kq v5 v8 w' => ∃ (x5_5 : Bool) (x8_5 : Int), v5 = .bool x5_5 ∧ v8 = .int .i64 x8_5 ∧ Aside0 (helmsmanlaw12_TreeKinds.l2 kq x5_5 x8_5 l0_0 l0_1 l0_2 l0_3 l1_0 l1_1 l1_2 l1_3 = some r) ∧ Aside0 (kq ≤ kj56) ∧ Aside0 (w'.heap[gb481]? = some (.cells #[(.slice A0_0 l0_0.length c0_0), (.slice A0_1 l0_1.length c0_1), (.slice A0_2 l0_2.length c0_2), (.slice A0_3 l0_3.length c0_3)] 43 (0, 0))) ∧ Aside0 (w'.heap[gb482]? = some (.cells #[(.slice A1_0 l1_0.length c1_0), (.slice A1_1 l1_1.length c1_1), (.slice A1_2 l1_2.length c1_2), (.slice A1_3 l1_3.length c1_3)] 43 (0, 0))) ∧ Aside0 (Below w.heap.size w w'))
          case atStart => exact ⟨(x5_56), (0), (by first | rfl | (simp; done) | (simp [*]; done)), (by first | rfl | (simp; done) | (simp [*]; done)), H', ⟨Nat.le_refl _⟩, ⟨by (with_reducible repeat (first | refine blk_drewN ?_ _ | refine blk_drew ?_ | refine blk_alloc ?_ _)); exact BK481.out⟩, ⟨by (with_reducible repeat (first | refine blk_drewN ?_ _ | refine blk_drew ?_ | refine blk_alloc ?_ _)); exact BK482.out⟩, ⟨by repeat (first | (with_reducible first | exact HB.out | apply below_alloc | apply pw_below_drewN | apply below_drew1 | refine below_set ?_ GE481.out | refine below_set ?_ GE482.out) | exact HB.out)⟩⟩
          case round => as_aux_lemma =>
           clear H'
           (try clear c1); (try clear c2); (try clear p2); (try clear c4); (try clear p4); (try clear q4); (try clear hx4); (try clear c5); (try clear c6); (try clear p6); (try clear c7); (try clear c25); (try clear c48); (try clear p48); (try clear q48); (try clear hx48); (try clear c49); (try clear p49); (try clear q49); (try clear hx49); (try clear c58); (try clear c59); (try clear c59b0); (try clear c60); (try clear c61); (try clear c62); (try clear c62b0); (try clear c62b1); (try clear p64); (try clear c68); (try clear c71); (try clear hcz69_0); (try clear hcz69_1); (try clear hcz69_2); (try clear hcz69_3); (try clear hcz72_0); (try clear hcz72_1); (try clear hcz72_2); (try clear hcz72_3); (try clear hfz69_0); (try clear hfz69_1); (try clear hfz69_2); (try clear hfz69_3); (try clear hfz72_0); (try clear hfz72_1); (try clear hfz72_2); (try clear hfz72_3); (try clear hx489_0); (try clear hx489_1); (try clear hx490_0); (try clear hx490_1); (try clear hx491_0); (try clear hx491_1); (try clear hx492_0); (try clear hx492_1); (try clear p2); (try clear p4); (try clear p48); (try clear p489); (try clear p49); (try clear p490); (try clear p491); (try clear p492); (try clear p6); (try clear p64); (try clear q4); (try clear q48); (try clear q489); (try clear q49); (try clear q490); (try clear q491); (try clear q492)
           obtain ⟨x5_5, x8_5, rfl, rfl, HA, HK5, BK481, BK482, HB⟩ := hrel
           cases gk with
           | zero => exact absurd HA.out (by simp [helmsmanlaw12_TreeKinds.l2])
           | succ k5 =>
            have H := HA.out
            clear HA
            simp only [helmsmanlaw12_TreeKinds.l2] at H
            have HC73 := Aside0.mk H
            clear H
            go_upto_region 13 with (fail)
            go_cut [117] (fun v117 wc => ∃ (kq : Nat) (x117_72 : Bool), v117 = .bool x117_72 ∧ Aside0 (helmsmanlaw12_TreeKinds.j7 kq x5_5 x8_5 x117_72 l0_0 l0_1 l0_2 l0_3 l1_0 l1_1 l1_2 l1_3 = some r) ∧ Aside0 (kq ≤ k5) ∧ Aside0 (wc.heap[gb481]? = some (.cells #[(.slice A0_0 l0_0.length c0_0), (.slice A0_1 l0_1.length c0_1), (.slice A0_2 l0_2.length c0_2), (.slice A0_3 l0_3.length c0_3)] 43 (0, 0))) ∧ Aside0 (wc.heap[gb482]? = some (.cells #[(.slice A1_0 l1_0.length c1_0), (.slice A1_1 l1_1.length c1_1), (.slice A1_2 l1_2.length c1_2), (.slice A1_3 l1_3.length c1_3)] 43 (0, 0))) ∧ Aside0 (Below w.heap.size w wc))
            case first => as_aux_lemma =>
             have H := HC73.out
             clear HC73
             by_cases c74 : x5_5 = true
             ·subst c74
              have H1 : (helmsmanlaw12_TreeKinds.j7 k5 true x8_5 (decide (x8_5 < (l0_0.length : Int))) l0_0 l0_1 l0_2 l0_3 l1_0 l1_1 l1_2 l1_3) = some r := by rw [if_pos rfl] at H; exact H
              clear H
              have H := H1
              clear H1
              have H' := Aside0.mk H
              clear H
              have hnb75 := NB481_482.out
              have hnc75 := NB482_481.out
              have hcz76_0 : wr.cell? ⟨gb481, 0, none⟩ = some (.slice A0_0 l0_0.length c0_0) := (blk_cell BK481.out 0).trans rfl
              have hcz76_1 : wr.cell? ⟨gb481, 1, none⟩ = some (.slice A0_1 l0_1.length c0_1) := (blk_cell BK481.out 1).trans rfl
              have hcz76_2 : wr.cell? ⟨gb481, 2, none⟩ = some (.slice A0_2 l0_2.length c0_2) := (blk_cell BK481.out 2).trans rfl
              have hcz76_3 : wr.cell? ⟨gb481, 3, none⟩ = some (.slice A0_3 l0_3.length c0_3) := (blk_cell BK481.out 3).trans rfl
              have hfz76_0 := blk_frozen BK481.out 0
              have hfz76_1 := blk_frozen BK481.out 1
              have hfz76_2 := blk_frozen BK481.out 2
              have hfz76_3 := blk_frozen BK481.out 3
              go_wp2
              go_meet
              case rel => exact ⟨_, (decide (x8_5 < (l0_0.length : Int))), (by first | rfl | (simp; done) | (simp [*]; done)), H', ⟨by have := HJ2.out; have := HJ19.out; have := HJ46.out; have := HJ56.out; have := HK5.out; first | omega | exact Nat.le_refl _⟩, ⟨by (with_reducible repeat (first | refine blk_drewN ?_ _ | refine blk_drew ?_ | refine blk_alloc ?_ _)); exact BK481.out⟩, ⟨by (with_reducible repeat (first | refine blk_drewN ?_ _ | refine blk_drew ?_ | refine blk_alloc ?_ _)); exact BK482.out⟩, ⟨by repeat (first | (with_reducible first | exact HB.out | apply below_alloc | apply pw_below_drewN | apply below_drew1 | refine below_set ?_ GE481.out | refine below_set ?_ GE482.out) | exact HB.out)⟩⟩
             ·replace c74 := Bool.eq_false_iff.mpr c74
              subst c74
              have H1 : (helmsmanlaw12_TreeKinds.j7 k5 false x8_5 false l0_0 l0_1 l0_2 l0_3 l1_0 l1_1 l1_2 l1_3) = some r := by rw [if_neg (show ¬ (false = true) by decide)] at H; exact H
              clear H
              have H := H1
              clear H1
              have H' := Aside0.mk H
              clear H
              go_wp2
              go_meet
              case rel => exact ⟨_, (false), (by first | rfl | (simp; done) | (simp [*]; done)), H', ⟨by have := HJ2.out; have := HJ19.out; have := HJ46.out; have := HJ56.out; have := HK5.out; first | omega | exact Nat.le_refl _⟩, ⟨by (with_reducible repeat (first | refine blk_drewN ?_ _ | refine blk_drew ?_ | refine blk_alloc ?_ _)); exact BK481.out⟩, ⟨by (with_reducible repeat (first | refine blk_drewN ?_ _ | refine blk_drew ?_ | refine blk_alloc ?_ _)); exact BK482.out⟩, ⟨by repeat (first | (with_reducible first | exact HB.out | apply below_alloc | apply pw_below_drewN | apply below_drew1 | refine below_set ?_ GE481.out | refine below_set ?_ GE482.out) | exact HB.out)⟩⟩
            case rest => as_aux_lemma =>
             clear HC73
             (try clear c1); (try clear c2); (try clear p2); (try clear c4); (try clear p4); (try clear q4); (try clear hx4); (try clear c5); (try clear c6); (try clear p6); (try clear c7); (try clear c25); (try clear c48); (try clear p48); (try clear q48); (try clear hx48); (try clear c49); (try clear p49); (try clear q49); (try clear hx49); (try clear c58); (try clear c59); (try clear c59b0); (try clear c60); (try clear c61); (try clear c62); (try clear c62b0); (try clear c62b1); (try clear p64); (try clear c68); (try clear c71); (try clear c74); (try clear c75); (try clear hcz69_0); (try clear hcz69_1); (try clear hcz69_2); (try clear hcz69_3); (try clear hcz72_0); (try clear hcz72_1); (try clear hcz72_2); (try clear hcz72_3); (try clear hcz76_0); (try clear hcz76_1); (try clear hcz76_2); (try clear hcz76_3); (try clear hfz69_0); (try clear hfz69_1); (try clear hfz69_2); (try clear hfz69_3); (try clear hfz72_0); (try clear hfz72_1); (try clear hfz72_2); (try clear hfz72_3); (try clear hfz76_0); (try clear hfz76_1); (try clear hfz76_2); (try clear hfz76_3); (try clear hx489_0); (try clear hx489_1); (try clear hx490_0); (try clear hx490_1); (try clear hx491_0); (try clear hx491_1); (try clear hx492_0); (try clear hx492_1); (try clear p2); (try clear p4); (try clear p48); (try clear p489); (try clear p49); (try clear p490); (try clear p491); (try clear p492); (try clear p6); (try clear p64); (try clear q4); (try clear q48); (try clear q489); (try clear q49); (try clear q490); (try clear q491); (try clear q492)
             obtain ⟨kq, x117_72, rfl, HA, HJ72, BK481, BK482, HB⟩ := hcut
             cases kq with
             | zero => exact absurd HA.out (by simp [helmsmanlaw12_TreeKinds.j7])
             | succ kj72 =>
              have H := HA.out
              clear HA
              simp only [helmsmanlaw12_TreeKinds.j7] at H
              by_cases c77 : x117_72 = true
              ·subst c77
               have H1 : (if 0 ≤ x8_5 then (if x8_5 < (l0_0.length : Int) then (if x8_5 < (l1_0.length : Int) then (if ((rd_T72 l0_0 x8_5).f0).toList = ((rd_T72 l1_0 x8_5).f0).toList then (helmsmanlaw12_TreeKinds.j8 kj72 ((((rd_T72 l0_0 x8_5).f1).length : Int) == (((rd_T72 l1_0 x8_5).f1).length : Int)) x8_5 l0_0 l0_1 l0_2 l0_3 l1_0 l1_1 l1_2 l1_3) else (helmsmanlaw12_TreeKinds.j8 kj72 false x8_5 l0_0 l0_1 l0_2 l0_3 l1_0 l1_1 l1_2 l1_3)) else (none)) else (none)) else (none)) = some r := by rw [if_pos rfl] at H; exact H
               clear H
               have H := H1
               clear H1
               have HC78 := Aside0.mk H
               clear H
               go_upto_region 15 with (fail)
               go_cut [5] (fun v5 wc => ∃ (kq : Nat) (x5_77 : Bool), v5 = .bool x5_77 ∧ Aside0 (helmsmanlaw12_TreeKinds.j8 kq x5_77 x8_5 l0_0 l0_1 l0_2 l0_3 l1_0 l1_1 l1_2 l1_3 = some r) ∧ Aside0 (kq ≤ kj72) ∧ Aside0 (wc.heap[gb481]? = some (.cells #[(.slice A0_0 l0_0.length c0_0), (.slice A0_1 l0_1.length c0_1), (.slice A0_2 l0_2.length c0_2), (.slice A0_3 l0_3.length c0_3)] 43 (0, 0))) ∧ Aside0 (wc.heap[gb482]? = some (.cells #[(.slice A1_0 l1_0.length c1_0), (.slice A1_1 l1_1.length c1_1), (.slice A1_2 l1_2.length c1_2), (.slice A1_3 l1_3.length c1_3)] 43 (0, 0))) ∧ Aside0 (Below w.heap.size w wc))
               case first => as_aux_lemma =>
                have H := HC78.out
                clear HC78
                by_cases c79 : 0 ≤ x8_5
                ·rw [if_pos c79] at H
                 have c79b0 : decide (0 ≤ x8_5) = true := decide_eq_true c79
                 clear c79
                 (first | rw [c79b0] | (simp only [i64_w, i32_w]; rw [c79b0]) | skip)
                 by_cases c80 : x8_5 < (l0_0.length : Int)
                 ·rw [if_pos c80] at H
                  have c80b0 : decide (x8_5 < (l0_0.length : Int)) = true := decide_eq_true c80
                  clear c80
                  by_cases c81 : x8_5 < (l1_0.length : Int)
                  ·rw [if_pos c81] at H
                   have c81b0 : decide (x8_5 < (l1_0.length : Int)) = true := decide_eq_true c81
                   clear c81
                   by_cases c82 : ((rd_T72 l0_0 x8_5).f0).toList = ((rd_T72 l1_0 x8_5).f0).toList
                   ·rw [if_pos c82] at H
                    have c82b0 : (((rd_T72 l0_0 x8_5).f0).toList == ((rd_T72 l1_0 x8_5).f0).toList) = true := beq_iff_eq.mpr c82
                    have c82b1 : (((rd_T72 l0_0 x8_5).f0).toList != ((rd_T72 l1_0 x8_5).f0).toList) = false := bne_eq_false_iff_eq.mpr c82
                    clear c82
                    have H' := Aside0.mk H
                    clear H
                    try go_wp2
                    have n0_ := Aside0.mk (blk_drew BK481.out)
                    have n1_ := Aside0.mk (blk_drew BK482.out)
                    have n2_ := Aside0.mk (below_drew1 HB.out)
                    clear BK481
                    clear BK482
                    clear HB
                    have BK481 := n0_
                    have BK482 := n1_
                    have HB := n2_
                    clear n0_ n1_ n2_
                    have p494 : 0 ≤ (x8_5 : Int) := of_decide_eq_true (by first | (with_reducible assumption) | assumption)
                    have q494 : x8_5 < (l0_0.length : Int) := of_decide_eq_true (by first | (with_reducible assumption) | assumption)
                    obtain ⟨ad494, A494_1, c494_1, e494, hx494_0, hx494_1, hl494_1, hi494_1⟩ := at_T72 HR0_0.out x8_5 p494 q494
                    have hw494_1 := hx494_1
                    have hw494_0 := hx494_0
                    cases e494
                    replace hx494_0 := (HB.out.cell (World.block_lt_of_cell? w _ hx494_0)).trans hx494_0
                    replace hx494_1 := (HB.out.cell (World.block_lt_of_cell? w _ hx494_1)).trans hx494_1
                    have HR494_1 := Aside0.mk hi494_1
                    have HC494_1 := Aside0.mk hl494_1
                    clear hi494_1 hl494_1
                    replace p494 := eq_true p494
                    replace q494 := eq_true q494
                    have p495 : 0 ≤ (x8_5 : Int) := of_decide_eq_true (by first | (with_reducible assumption) | assumption)
                    have q495 : x8_5 < (l1_0.length : Int) := of_decide_eq_true (by first | (with_reducible assumption) | assumption)
                    obtain ⟨ad495, A495_1, c495_1, e495, hx495_0, hx495_1, hl495_1, hi495_1⟩ := at_T72 HR1_0.out x8_5 p495 q495
                    have hw495_1 := hx495_1
                    have hw495_0 := hx495_0
                    cases e495
                    replace hx495_0 := (HB.out.cell (World.block_lt_of_cell? w _ hx495_0)).trans hx495_0
                    replace hx495_1 := (HB.out.cell (World.block_lt_of_cell? w _ hx495_1)).trans hx495_1
                    have HR495_1 := Aside0.mk hi495_1
                    have HC495_1 := Aside0.mk hl495_1
                    clear hi495_1 hl495_1
                    replace p495 := eq_true p495
                    replace q495 := eq_true q495
                    have p496 : 0 ≤ (x8_5 : Int) := of_decide_eq_true (by first | (with_reducible assumption) | assumption)
                    have q496 : x8_5 < (l0_0.length : Int) := of_decide_eq_true (by first | (with_reducible assumption) | assumption)
                    obtain ⟨ad496, A496_1, c496_1, e496, hx496_0, hx496_1, hl496_1, hi496_1⟩ := at_T72 HR0_0.out x8_5 p496 q496
                    have hw496_1 := hx496_1
                    have hw496_0 := hx496_0
                    obtain rfl : ad494 = ad496 := (by injection e496)
                    replace hx496_0 := (HB.out.cell (World.block_lt_of_cell? w _ hx496_0)).trans hx496_0
                    replace hx496_1 := (HB.out.cell (World.block_lt_of_cell? w _ hx496_1)).trans hx496_1
                    have HR496_1 := Aside0.mk hi496_1
                    have HC496_1 := Aside0.mk hl496_1
                    clear hi496_1 hl496_1
                    replace p496 := eq_true p496
                    replace q496 := eq_true q496
                    have ea_ := Option.some.inj (hx494_1.symm.trans hx496_1)
                    injection ea_ with ea_ en_ ec_
                    subst ea_
                    subst ec_
                    clear en_
                    have p497 : 0 ≤ (x8_5 : Int) := of_decide_eq_true (by first | (with_reducible assumption) | assumption)
                    have q497 : x8_5 < (l1_0.length : Int) := of_decide_eq_true (by first | (with_reducible assumption) | assumption)
                    obtain ⟨ad497, A497_1, c497_1, e497, hx497_0, hx497_1, hl497_1, hi497_1⟩ := at_T72 HR1_0.out x8_5 p497 q497
                    have hw497_1 := hx497_1
                    have hw497_0 := hx497_0
                    obtain rfl : ad495 = ad497 := (by injection e497)
                    replace hx497_0 := (HB.out.cell (World.block_lt_of_cell? w _ hx497_0)).trans hx497_0
                    replace hx497_1 := (HB.out.cell (World.block_lt_of_cell? w _ hx497_1)).trans hx497_1
                    have HR497_1 := Aside0.mk hi497_1
                    have HC497_1 := Aside0.mk hl497_1
                    clear hi497_1 hl497_1
                    replace p497 := eq_true p497
                    replace q497 := eq_true q497
                    have ea_ := Option.some.inj (hx495_1.symm.trans hx497_1)
                    injection ea_ with ea_ en_ ec_
                    subst ea_
                    subst ec_
                    clear en_
                    refine start_ (n := 31) (S := fun w' => w'.cell? ⟨gb481, 0, none⟩ = some (.slice (some ad494) l0_0.length c0_0) ∧ w'.cell? ⟨gb481, 1, none⟩ = some (.slice A0_1 l0_1.length c0_1) ∧ w'.cell? ⟨gb481, 2, none⟩ = some (.slice A0_2 l0_2.length c0_2) ∧ w'.cell? ⟨gb481, 3, none⟩ = some (.slice A0_3 l0_3.length c0_3) ∧ w'.cell? ⟨gb482, 0, none⟩ = some (.slice (some ad495) l1_0.length c1_0) ∧ w'.cell? ⟨gb482, 1, none⟩ = some (.slice A1_1 l1_1.length c1_1) ∧ w'.cell? ⟨gb482, 2, none⟩ = some (.slice A1_2 l1_2.length c1_2) ∧ w'.cell? ⟨gb482, 3, none⟩ = some (.slice A1_3 l1_3.length c1_3) ∧ w'.cell? (ad494.add ((x8_5).toNat * 2)) = some (.string ((rd_T72 l0_0 x8_5).f0)) ∧ w'.cell? ⟨(ad494.add ((x8_5).toNat * 2)).block, (ad494.add ((x8_5).toNat * 2)).off + 1, none⟩ = some (.slice A494_1 ((rd_T72 l0_0 x8_5).f1).length c494_1) ∧ w'.cell? (ad495.add ((x8_5).toNat * 2)) = some (.string ((rd_T72 l1_0 x8_5).f0)) ∧ w'.cell? ⟨(ad495.add ((x8_5).toNat * 2)).block, (ad495.add ((x8_5).toNat * 2)).off + 1, none⟩ = some (.slice A495_1 ((rd_T72 l1_0 x8_5).f1).length c495_1) ∧ w'.cell? (ad494.add ((x8_5).toNat * 2)) = some (.string ((rd_T72 l0_0 x8_5).f0)) ∧ w'.cell? ⟨(ad494.add ((x8_5).toNat * 2)).block, (ad494.add ((x8_5).toNat * 2)).off + 1, none⟩ = some (.slice A494_1 ((rd_T72 l0_0 x8_5).f1).length c494_1) ∧ w'.cell? (ad495.add ((x8_5).toNat * 2)) = some (.string ((rd_T72 l1_0 x8_5).f0)) ∧ w'.cell? ⟨(ad495.add ((x8_5).toNat * 2)).block, (ad495.add ((x8_5).toNat * 2)).off + 1, none⟩ = some (.slice A495_1 ((rd_T72 l1_0 x8_5).f1).length c495_1)) (ds := []) (flg 31 0) (by kernel_rfl) rfl (by kernel_rfl) ⟨(blk_cell BK481.out 0).trans rfl, (blk_cell BK481.out 1).trans rfl, (blk_cell BK481.out 2).trans rfl, (blk_cell BK481.out 3).trans rfl, (blk_cell BK482.out 0).trans rfl, (blk_cell BK482.out 1).trans rfl, (blk_cell BK482.out 2).trans rfl, (blk_cell BK482.out 3).trans rfl, ((HB.out.cell (World.block_lt_of_cell? w _ hw494_0)).trans hw494_0), ((HB.out.cell (World.block_lt_of_cell? w _ hw494_1)).trans hw494_1), ((HB.out.cell (World.block_lt_of_cell? w _ hw495_0)).trans hw495_0), ((HB.out.cell (World.block_lt_of_cell? w _ hw495_1)).trans hw495_1), ((HB.out.cell (World.block_lt_of_cell? w _ hw496_0)).trans hw496_0), ((HB.out.cell (World.block_lt_of_cell? w _ hw496_1)).trans hw496_1), ((HB.out.cell (World.block_lt_of_cell? w _ hw497_0)).trans hw497_0), ((HB.out.cell (World.block_lt_of_cell? w _ hw497_1)).trans hw497_1)⟩ (fun hHeld => ?_); refine with_tabW helmsmanlaw12_TreeKinds.tab15 helmsmanlaw12_TreeKinds.bits15 (fun HT_ HW_ => ?_)
                    generalize wc.drew = w83 at BK481 BK482 HB HR494_1 HR495_1 HR496_1 HR497_1 hx494_0 hx494_1 hx495_0 hx495_1 hx496_0 hx496_1 hx497_0 hx497_1 hHeld ⊢
                    refine pure_ (i := 0) (N := some 120) (v := ?_) (a' := ?_) (flg 31 1) rfl rfl (any_of HT_.out (by kernel_rfl)) (fun _ _ _ h => h) (Or.inl ⟨by rfl, ?_⟩) ?_ ?_; rotate_left; intro w'; go_simp; with_reducible rfl; rotate_left; (simp only [Act.put, pA_, pB_, pC_, i64_w, i32_w]; rfl)
                    refine pure_ (i := 2) (N := some 122) (v := ?_) (a' := ?_) (flg 31 5) rfl rfl (any_of HT_.out (by kernel_rfl)) (fun _ _ _ h => h) (Or.inl ⟨by rfl, ?_⟩) ?_ ?_; rotate_left; intro w'; go_simp; with_reducible rfl; rotate_left; (simp only [Act.put, pA_, pB_, pC_, i64_w, i32_w]; rfl)
                    refine pure_ (i := 6) (N := some 126) (v := ?_) (a' := ?_) (flg 31 69) rfl rfl (any_of HT_.out (by kernel_rfl)) (fun _ _ _ h => h) (Or.inl ⟨by rfl, ?_⟩) ?_ ?_; rotate_left; intro w'; go_simp; with_reducible rfl; rotate_left; (simp only [Act.put, pA_, pB_, pC_, i64_w, i32_w]; rfl)
                    refine pure_ (i := 8) (N := some 128) (v := ?_) (a' := ?_) (flg 31 325) rfl rfl (any_of HT_.out (by kernel_rfl)) (fun _ _ _ h => h) (Or.inl ⟨by rfl, ?_⟩) ?_ ?_; rotate_left; intro w'; go_simp; with_reducible rfl; rotate_left; (simp only [Act.put, pA_, pB_, pC_, i64_w, i32_w]; rfl)
                    refine take_ (i := 1) (N := some 121) (v := ?_) (a' := ?_) (flg 31 327) rfl rfl (take_ofW HT_.out HW_.out (by kernel_rfl)) (fun _ _ _ h => h) (Or.inl ⟨by rfl, ?_⟩) hHeld ?_ ?_; rotate_left; rintro w' ⟨s0, s1, s2, s3, s4, s5, s6, s7, s8, s9, s10, s11, s12, s13, s14, s15⟩; go_simp; with_reducible rfl; rotate_left; (simp only [Act.put, pA_, pB_, pC_, i64_w, i32_w]; rfl)
                    refine pure_ (i := 3) (N := some 123) (v := ?_) (a' := ?_) (flg 31 335) rfl rfl (any_of HT_.out (by kernel_rfl)) (fun _ _ _ h => h) (Or.inl ⟨by rfl, ?_⟩) ?_ ?_; rotate_left; intro w'; go_simp; with_reducible rfl; rotate_left; (simp only [Act.put, pA_, pB_, pC_, i64_w, i32_w]; rfl)
                    refine pure_ (i := 4) (N := some 124) (v := ?_) (a' := ?_) (flg 31 351) rfl rfl (any_of HT_.out (by kernel_rfl)) (fun _ _ _ h => h) (Or.inl ⟨by rfl, ?_⟩) ?_ ?_; rotate_left; intro w'; go_simp; with_reducible rfl; rotate_left; (simp only [Act.put, pA_, pB_, pC_, i64_w, i32_w]; rfl)
                    refine take_ (i := 5) (N := some 125) (v := ?_) (a' := ?_) (flg 31 383) rfl rfl (take_ofW HT_.out HW_.out (by kernel_rfl)) (fun _ _ _ h => h) (Or.inl ⟨by rfl, ?_⟩) hHeld ?_ ?_; rotate_left; rintro w' ⟨s0, s1, s2, s3, s4, s5, s6, s7, s8, s9, s10, s11, s12, s13, s14, s15⟩; go_simp; with_reducible rfl; rotate_left; (simp only [Act.put, pA_, pB_, pC_, i64_w, i32_w]; rfl)
                    refine take_ (i := 7) (N := some 127) (v := ?_) (a' := ?_) (flg 31 511) rfl rfl (take_ofW HT_.out HW_.out (by kernel_rfl)) (fun _ _ _ h => h) (Or.inl ⟨by rfl, ?_⟩) hHeld ?_ ?_; rotate_left; rintro w' ⟨s0, s1, s2, s3, s4, s5, s6, s7, s8, s9, s10, s11, s12, s13, s14, s15⟩; go_simp; with_reducible rfl; rotate_left; (simp only [Act.put, pA_, pB_, pC_, i64_w, i32_w]; rfl)
                    refine pure_ (i := 9) (N := some 129) (v := ?_) (a' := ?_) (flg 31 1023) rfl rfl (any_of HT_.out (by kernel_rfl)) (fun _ _ _ h => h) (Or.inl ⟨by rfl, ?_⟩) ?_ ?_; rotate_left; intro w'; go_simp; with_reducible rfl; rotate_left; (simp only [Act.put, pA_, pB_, pC_, i64_w, i32_w]; rfl)
                    refine pure_ (i := 10) (N := some 130) (v := ?_) (a' := ?_) (flg 31 2047) rfl rfl (any_of HT_.out (by kernel_rfl)) (fun _ _ _ h => h) (Or.inl ⟨by rfl, ?_⟩) ?_ ?_; rotate_left; intro w'; go_simp; with_reducible rfl; rotate_left; (simp only [Act.put, pA_, pB_, pC_, i64_w, i32_w]; rfl)
                    refine take_ (i := 11) (N := some 131) (v := ?_) (a' := ?_) (flg 31 4095) rfl rfl (take_ofW HT_.out HW_.out (by kernel_rfl)) (fun _ _ _ h => h) (Or.inl ⟨by rfl, ?_⟩) hHeld ?_ ?_; rotate_left; rintro w' ⟨s0, s1, s2, s3, s4, s5, s6, s7, s8, s9, s10, s11, s12, s13, s14, s15⟩; go_simp; with_reducible rfl; rotate_left; (simp only [Act.put, pA_, pB_, pC_, i64_w, i32_w]; rfl)
                    refine pure_ (i := 12) (N := some 132) (v := ?_) (a' := ?_) (flg 31 8191) rfl rfl (any_of HT_.out (by kernel_rfl)) (fun _ _ _ h => h) (Or.inl ⟨by rfl, ?_⟩) ?_ ?_; rotate_left; intro w'; go_simp; with_reducible rfl; rotate_left; (simp only [Act.put, pA_, pB_, pC_, i64_w, i32_w]; rfl)
                    refine pure_ (i := 13) (N := some 133) (v := ?_) (a' := ?_) (flg 31 16383) rfl rfl (any_of HT_.out (by kernel_rfl)) (fun _ _ _ h => h) (Or.inl ⟨by rfl, ?_⟩) ?_ ?_; rotate_left; intro w'; go_simp; with_reducible rfl; rotate_left; (simp only [Act.put, pA_, pB_, pC_, i64_w, i32_w]; rfl)
                    refine pure_ (i := 14) (N := some 134) (v := ?_) (a' := ?_) (flg 31 32767) rfl rfl (any_of HT_.out (by kernel_rfl)) (fun _ _ _ h => h) (Or.inl ⟨by rfl, ?_⟩) ?_ ?_; rotate_left; intro w'; go_simp; with_reducible rfl; rotate_left; (simp only [Act.put, pA_, pB_, pC_, i64_w, i32_w]; rfl)
                    refine pure_ (i := 16) (N := some 136) (v := ?_) (a' := ?_) (flg 31 98303) rfl rfl (any_of HT_.out (by kernel_rfl)) (fun _ _ _ h => h) (Or.inl ⟨by rfl, ?_⟩) ?_ ?_; rotate_left; intro w'; go_simp; with_reducible rfl; rotate_left; (simp only [Act.put, pA_, pB_, pC_, i64_w, i32_w]; rfl)
                    refine pure_ (i := 21) (N := some 141) (v := ?_) (a' := ?_) (flg 31 2195455) rfl rfl (any_of HT_.out (by kernel_rfl)) (fun _ _ _ h => h) (Or.inl ⟨by rfl, ?_⟩) ?_ ?_; rotate_left; intro w'; go_simp; with_reducible rfl; rotate_left; (simp only [Act.put, pA_, pB_, pC_, i64_w, i32_w]; rfl)
                    refine pure_ (i := 23) (N := some 143) (v := ?_) (a' := ?_) (flg 31 10584063) rfl rfl (any_of HT_.out (by kernel_rfl)) (fun _ _ _ h => h) (Or.inl ⟨by rfl, ?_⟩) ?_ ?_; rotate_left; intro w'; go_simp; with_reducible rfl; rotate_left; (simp only [Act.put, pA_, pB_, pC_, i64_w, i32_w]; rfl)
                    refine take_ (i := 15) (N := some 135) (v := ?_) (a' := ?_) (flg 31 10616831) rfl rfl (take_ofW HT_.out HW_.out (by kernel_rfl)) (fun _ _ _ h => h) (Or.inl ⟨by rfl, ?_⟩) hHeld ?_ ?_; rotate_left; rintro w' ⟨s0, s1, s2, s3, s4, s5, s6, s7, s8, s9, s10, s11, s12, s13, s14, s15⟩; go_simp; with_reducible rfl; rotate_left; (simp only [Act.put, pA_, pB_, pC_, i64_w, i32_w]; rfl)
                    refine pure_ (i := 17) (N := some 137) (v := ?_) (a' := ?_) (flg 31 10747903) rfl rfl (any_of HT_.out (by kernel_rfl)) (fun _ _ _ h => h) (Or.inl ⟨by rfl, ?_⟩) ?_ ?_; rotate_left; intro w'; go_simp; with_reducible rfl; rotate_left; (simp only [Act.put, pA_, pB_, pC_, i64_w, i32_w]; rfl)
                    refine pure_ (i := 18) (N := some 138) (v := ?_) (a' := ?_) (flg 31 11010047) rfl rfl (any_of HT_.out (by kernel_rfl)) (fun _ _ _ h => h) (Or.inl ⟨by rfl, ?_⟩) ?_ ?_; rotate_left; intro w'; go_simp; with_reducible rfl; rotate_left; (simp only [Act.put, pA_, pB_, pC_, i64_w, i32_w]; rfl)
                    refine take_ (i := 19) (N := some 139) (v := ?_) (a' := ?_) (flg 31 11534335) rfl rfl (take_ofW HT_.out HW_.out (by kernel_rfl)) (fun _ _ _ h => h) (Or.inl ⟨by rfl, ?_⟩) hHeld ?_ ?_; rotate_left; rintro w' ⟨s0, s1, s2, s3, s4, s5, s6, s7, s8, s9, s10, s11, s12, s13, s14, s15⟩; go_simp; with_reducible rfl; rotate_left; (simp only [Act.put, pA_, pB_, pC_, i64_w, i32_w]; rfl)
                    refine pure_ (i := 20) (N := some 140) (v := ?_) (a' := ?_) (flg 31 12582911) rfl rfl (any_of HT_.out (by kernel_rfl)) (fun _ _ _ h => h) (Or.inl ⟨by rfl, ?_⟩) ?_ ?_; rotate_left; intro w'; go_simp; with_reducible rfl; rotate_left; (simp only [Act.put, pA_, pB_, pC_, i64_w, i32_w]; rfl)
                    refine take_ (i := 22) (N := some 142) (v := ?_) (a' := ?_) (flg 31 16777215) rfl rfl (take_ofW HT_.out HW_.out (by kernel_rfl)) (fun _ _ _ h => h) (Or.inl ⟨by rfl, ?_⟩) hHeld ?_ ?_; rotate_left; rintro w' ⟨s0, s1, s2, s3, s4, s5, s6, s7, s8, s9, s10, s11, s12, s13, s14, s15⟩; go_simp; with_reducible rfl; rotate_left; (simp only [Act.put, pA_, pB_, pC_, i64_w, i32_w]; rfl)
                    refine pure_ (i := 24) (N := some 144) (v := ?_) (a' := ?_) (flg 31 33554431) rfl rfl (any_of HT_.out (by kernel_rfl)) (fun _ _ _ h => h) (Or.inl ⟨by rfl, ?_⟩) ?_ ?_; rotate_left; intro w'; go_simp; with_reducible rfl; rotate_left; (simp only [Act.put, pA_, pB_, pC_, i64_w, i32_w]; rfl)
                    refine pure_ (i := 25) (N := some 145) (v := ?_) (a' := ?_) (flg 31 67108863) rfl rfl (any_of HT_.out (by kernel_rfl)) (fun _ _ _ h => h) (Or.inl ⟨by rfl, ?_⟩) ?_ ?_; rotate_left; intro w'; go_simp; with_reducible rfl; rotate_left; (simp only [Act.put, pA_, pB_, pC_, i64_w, i32_w]; rfl)
                    refine take_ (i := 26) (N := some 146) (v := ?_) (a' := ?_) (flg 31 134217727) rfl rfl (take_ofW HT_.out HW_.out (by kernel_rfl)) (fun _ _ _ h => h) (Or.inl ⟨by rfl, ?_⟩) hHeld ?_ ?_; rotate_left; rintro w' ⟨s0, s1, s2, s3, s4, s5, s6, s7, s8, s9, s10, s11, s12, s13, s14, s15⟩; go_simp; with_reducible rfl; rotate_left; (simp only [Act.put, pA_, pB_, pC_, i64_w, i32_w]; rfl)
                    refine pure_ (i := 27) (N := some 147) (v := ?_) (a' := ?_) (flg 31 268435455) rfl rfl (any_of HT_.out (by kernel_rfl)) (fun _ _ _ h => h) (Or.inl ⟨by rfl, ?_⟩) ?_ ?_; rotate_left; intro w'; go_simp; with_reducible rfl; rotate_left; (simp only [Act.put, pA_, pB_, pC_, i64_w, i32_w]; rfl)
                    refine pure_ (i := 28) (N := some 148) (v := ?_) (a' := ?_) (flg 31 536870911) rfl rfl (any_of HT_.out (by kernel_rfl)) (fun _ _ _ h => h) (Or.inl ⟨by rfl, ?_⟩) ?_ ?_; rotate_left; intro w'; go_simp; with_reducible rfl; rotate_left; (simp only [Act.put, pA_, pB_, pC_, i64_w, i32_w]; rfl)
                    refine pure_ (i := 29) (N := some 149) (v := ?_) (a' := ?_) (flg 31 1073741823) rfl rfl (any_of HT_.out (by kernel_rfl)) (fun _ _ _ h => h) (Or.inl ⟨by rfl, ?_⟩) ?_ ?_; rotate_left; intro w'; go_simp; with_reducible rfl; rotate_left; (simp only [Act.put, pA_, pB_, pC_, i64_w, i32_w]; rfl)
                    refine pure_ (i := 30) (N := some 5) (v := ?_) (a' := ?_) (flg 31 2147483647) rfl rfl (any_of HT_.out (by kernel_rfl)) (fun _ _ _ h => h) (Or.inl ⟨by rfl, ?_⟩) ?_ ?_; rotate_left; intro w'; go_simp; with_reducible rfl; rotate_left; (simp only [Act.put, pA_, pB_, pC_, i64_w, i32_w]; rfl)
                    refine done_ (done_of HT_.out (by kernel_rfl)) ?_
                    try go_wp2
                    go_meet
                    case rel => exact ⟨_, (((((rd_T72 l0_0 x8_5).f1).length : Int) == (((rd_T72 l1_0 x8_5).f1).length : Int))), (by first | rfl | (simp; done) | (simp [*]; done)), H', ⟨by have := HJ2.out; have := HJ19.out; have := HJ46.out; have := HJ56.out; have := HK5.out; have := HJ72.out; first | omega | exact Nat.le_refl _⟩, ⟨by (with_reducible repeat (first | refine blk_drewN ?_ _ | refine blk_drew ?_ | refine blk_alloc ?_ _)); exact BK481.out⟩, ⟨by (with_reducible repeat (first | refine blk_drewN ?_ _ | refine blk_drew ?_ | refine blk_alloc ?_ _)); exact BK482.out⟩, ⟨by repeat (first | (with_reducible first | exact HB.out | apply below_alloc | apply pw_below_drewN | apply below_drew1 | refine below_set ?_ GE481.out | refine below_set ?_ GE482.out) | exact HB.out)⟩⟩
                   ·rw [if_neg c82] at H
                    have c82b0 : (((rd_T72 l0_0 x8_5).f0).toList == ((rd_T72 l1_0 x8_5).f0).toList) = false := beq_eq_false_iff_ne.mpr c82
                    have c82b1 : (((rd_T72 l0_0 x8_5).f0).toList != ((rd_T72 l1_0 x8_5).f0).toList) = true := bne_iff_ne.mpr c82
                    have H' := Aside0.mk H
                    clear H
                    try go_wp2
                    have n0_ := Aside0.mk (blk_drew BK481.out)
                    have n1_ := Aside0.mk (blk_drew BK482.out)
                    have n2_ := Aside0.mk (below_drew1 HB.out)
                    clear BK481
                    clear BK482
                    clear HB
                    have BK481 := n0_
                    have BK482 := n1_
                    have HB := n2_
                    clear n0_ n1_ n2_
                    have p494 : 0 ≤ (x8_5 : Int) := of_decide_eq_true (by first | (with_reducible assumption) | assumption)
                    have q494 : x8_5 < (l0_0.length : Int) := of_decide_eq_true (by first | (with_reducible assumption) | assumption)
                    obtain ⟨ad494, A494_1, c494_1, e494, hx494_0, hx494_1, hl494_1, hi494_1⟩ := at_T72 HR0_0.out x8_5 p494 q494
                    have hw494_1 := hx494_1
                    have hw494_0 := hx494_0
                    cases e494
                    replace hx494_0 := (HB.out.cell (World.block_lt_of_cell? w _ hx494_0)).trans hx494_0
                    replace hx494_1 := (HB.out.cell (World.block_lt_of_cell? w _ hx494_1)).trans hx494_1
                    have HR494_1 := Aside0.mk hi494_1
                    have HC494_1 := Aside0.mk hl494_1
                    clear hi494_1 hl494_1
                    replace p494 := eq_true p494
                    replace q494 := eq_true q494
                    have p495 : 0 ≤ (x8_5 : Int) := of_decide_eq_true (by first | (with_reducible assumption) | assumption)
                    have q495 : x8_5 < (l1_0.length : Int) := of_decide_eq_true (by first | (with_reducible assumption) | assumption)
                    obtain ⟨ad495, A495_1, c495_1, e495, hx495_0, hx495_1, hl495_1, hi495_1⟩ := at_T72 HR1_0.out x8_5 p495 q495
                    have hw495_1 := hx495_1
                    have hw495_0 := hx495_0
                    cases e495
                    replace hx495_0 := (HB.out.cell (World.block_lt_of_cell? w _ hx495_0)).trans hx495_0
                    replace hx495_1 := (HB.out.cell (World.block_lt_of_cell? w _ hx495_1)).trans hx495_1
                    have HR495_1 := Aside0.mk hi495_1
                    have HC495_1 := Aside0.mk hl495_1
                    clear hi495_1 hl495_1
                    replace p495 := eq_true p495
                    replace q495 := eq_true q495
                    refine start_ (n := 31) (S := fun w' => w'.cell? ⟨gb481, 0, none⟩ = some (.slice (some ad494) l0_0.length c0_0) ∧ w'.cell? ⟨gb481, 1, none⟩ = some (.slice A0_1 l0_1.length c0_1) ∧ w'.cell? ⟨gb481, 2, none⟩ = some (.slice A0_2 l0_2.length c0_2) ∧ w'.cell? ⟨gb481, 3, none⟩ = some (.slice A0_3 l0_3.length c0_3) ∧ w'.cell? ⟨gb482, 0, none⟩ = some (.slice (some ad495) l1_0.length c1_0) ∧ w'.cell? ⟨gb482, 1, none⟩ = some (.slice A1_1 l1_1.length c1_1) ∧ w'.cell? ⟨gb482, 2, none⟩ = some (.slice A1_2 l1_2.length c1_2) ∧ w'.cell? ⟨gb482, 3, none⟩ = some (.slice A1_3 l1_3.length c1_3) ∧ w'.cell? (ad494.add ((x8_5).toNat * 2)) = some (.string ((rd_T72 l0_0 x8_5).f0)) ∧ w'.cell? ⟨(ad494.add ((x8_5).toNat * 2)).block, (ad494.add ((x8_5).toNat * 2)).off + 1, none⟩ = some (.slice A494_1 ((rd_T72 l0_0 x8_5).f1).length c494_1) ∧ w'.cell? (ad495.add ((x8_5).toNat * 2)) = some (.string ((rd_T72 l1_0 x8_5).f0)) ∧ w'.cell? ⟨(ad495.add ((x8_5).toNat * 2)).block, (ad495.add ((x8_5).toNat * 2)).off + 1, none⟩ = some (.slice A495_1 ((rd_T72 l1_0 x8_5).f1).length c495_1)) (ds := []) (flg 31 0) (by kernel_rfl) rfl (by kernel_rfl) ⟨(blk_cell BK481.out 0).trans rfl, (blk_cell BK481.out 1).trans rfl, (blk_cell BK481.out 2).trans rfl, (blk_cell BK481.out 3).trans rfl, (blk_cell BK482.out 0).trans rfl, (blk_cell BK482.out 1).trans rfl, (blk_cell BK482.out 2).trans rfl, (blk_cell BK482.out 3).trans rfl, ((HB.out.cell (World.block_lt_of_cell? w _ hw494_0)).trans hw494_0), ((HB.out.cell (World.block_lt_of_cell? w _ hw494_1)).trans hw494_1), ((HB.out.cell (World.block_lt_of_cell? w _ hw495_0)).trans hw495_0), ((HB.out.cell (World.block_lt_of_cell? w _ hw495_1)).trans hw495_1)⟩ (fun hHeld => ?_); refine with_tabW helmsmanlaw12_TreeKinds.tab15 helmsmanlaw12_TreeKinds.bits15 (fun HT_ HW_ => ?_)
                    generalize wc.drew = w84 at BK481 BK482 HB HR494_1 HR495_1 hx494_0 hx494_1 hx495_0 hx495_1 hHeld ⊢
                    refine pure_ (i := 0) (N := some 120) (v := ?_) (a' := ?_) (flg 31 1) rfl rfl (any_of HT_.out (by kernel_rfl)) (fun _ _ _ h => h) (Or.inl ⟨by rfl, ?_⟩) ?_ ?_; rotate_left; intro w'; go_simp; with_reducible rfl; rotate_left; (simp only [Act.put, pA_, pB_, pC_, i64_w, i32_w]; rfl)
                    refine pure_ (i := 2) (N := some 122) (v := ?_) (a' := ?_) (flg 31 5) rfl rfl (any_of HT_.out (by kernel_rfl)) (fun _ _ _ h => h) (Or.inl ⟨by rfl, ?_⟩) ?_ ?_; rotate_left; intro w'; go_simp; with_reducible rfl; rotate_left; (simp only [Act.put, pA_, pB_, pC_, i64_w, i32_w]; rfl)
                    refine pure_ (i := 6) (N := some 126) (v := ?_) (a' := ?_) (flg 31 69) rfl rfl (any_of HT_.out (by kernel_rfl)) (fun _ _ _ h => h) (Or.inl ⟨by rfl, ?_⟩) ?_ ?_; rotate_left; intro w'; go_simp; with_reducible rfl; rotate_left; (simp only [Act.put, pA_, pB_, pC_, i64_w, i32_w]; rfl)
                    refine pure_ (i := 8) (N := some 128) (v := ?_) (a' := ?_) (flg 31 325) rfl rfl (any_of HT_.out (by kernel_rfl)) (fun _ _ _ h => h) (Or.inl ⟨by rfl, ?_⟩) ?_ ?_; rotate_left; intro w'; go_simp; with_reducible rfl; rotate_left; (simp only [Act.put, pA_, pB_, pC_, i64_w, i32_w]; rfl)
                    refine take_ (i := 1) (N := some 121) (v := ?_) (a' := ?_) (flg 31 327) rfl rfl (take_ofW HT_.out HW_.out (by kernel_rfl)) (fun _ _ _ h => h) (Or.inl ⟨by rfl, ?_⟩) hHeld ?_ ?_; rotate_left; rintro w' ⟨s0, s1, s2, s3, s4, s5, s6, s7, s8, s9, s10, s11⟩; go_simp; with_reducible rfl; rotate_left; (simp only [Act.put, pA_, pB_, pC_, i64_w, i32_w]; rfl)
                    refine pure_ (i := 3) (N := some 123) (v := ?_) (a' := ?_) (flg 31 335) rfl rfl (any_of HT_.out (by kernel_rfl)) (fun _ _ _ h => h) (Or.inl ⟨by rfl, ?_⟩) ?_ ?_; rotate_left; intro w'; go_simp; with_reducible rfl; rotate_left; (simp only [Act.put, pA_, pB_, pC_, i64_w, i32_w]; rfl)
                    refine pure_ (i := 4) (N := some 124) (v := ?_) (a' := ?_) (flg 31 351) rfl rfl (any_of HT_.out (by kernel_rfl)) (fun _ _ _ h => h) (Or.inl ⟨by rfl, ?_⟩) ?_ ?_; rotate_left; intro w'; go_simp; with_reducible rfl; rotate_left; (simp only [Act.put, pA_, pB_, pC_, i64_w, i32_w]; rfl)
                    refine take_ (i := 5) (N := some 125) (v := ?_) (a' := ?_) (flg 31 383) rfl rfl (take_ofW HT_.out HW_.out (by kernel_rfl)) (fun _ _ _ h => h) (Or.inl ⟨by rfl, ?_⟩) hHeld ?_ ?_; rotate_left; rintro w' ⟨s0, s1, s2, s3, s4, s5, s6, s7, s8, s9, s10, s11⟩; go_simp; with_reducible rfl; rotate_left; (simp only [Act.put, pA_, pB_, pC_, i64_w, i32_w]; rfl)
                    refine take_ (i := 7) (N := some 127) (v := ?_) (a' := ?_) (flg 31 511) rfl rfl (take_ofW HT_.out HW_.out (by kernel_rfl)) (fun _ _ _ h => h) (Or.inl ⟨by rfl, ?_⟩) hHeld ?_ ?_; rotate_left; rintro w' ⟨s0, s1, s2, s3, s4, s5, s6, s7, s8, s9, s10, s11⟩; go_simp; with_reducible rfl; rotate_left; (simp only [Act.put, pA_, pB_, pC_, i64_w, i32_w]; rfl)
                    refine pure_ (i := 9) (N := some 129) (v := ?_) (a' := ?_) (flg 31 1023) rfl rfl (any_of HT_.out (by kernel_rfl)) (fun _ _ _ h => h) (Or.inl ⟨by rfl, ?_⟩) ?_ ?_; rotate_left; intro w'; go_simp; with_reducible rfl; rotate_left; (simp only [Act.put, pA_, pB_, pC_, i64_w, i32_w]; rfl)
                    refine pure_ (i := 10) (N := some 130) (v := ?_) (a' := ?_) (flg 31 2047) rfl rfl (any_of HT_.out (by kernel_rfl)) (fun _ _ _ h => h) (Or.inl ⟨by rfl, ?_⟩) ?_ ?_; rotate_left; intro w'; go_simp; with_reducible rfl; rotate_left; (simp only [Act.put, pA_, pB_, pC_, i64_w, i32_w]; rfl)
                    refine take_ (i := 11) (N := some 131) (v := ?_) (a' := ?_) (flg 31 4095) rfl rfl (take_ofW HT_.out HW_.out (by kernel_rfl)) (fun _ _ _ h => h) (Or.inl ⟨by rfl, ?_⟩) hHeld ?_ ?_; rotate_left; rintro w' ⟨s0, s1, s2, s3, s4, s5, s6, s7, s8, s9, s10, s11⟩; go_simp; with_reducible rfl; rotate_left; (simp only [Act.put, pA_, pB_, pC_, i64_w, i32_w]; rfl)
                    refine pure_ (i := 12) (N := some 132) (v := ?_) (a' := ?_) (flg 31 8191) rfl rfl (any_of HT_.out (by kernel_rfl)) (fun _ _ _ h => h) (Or.inl ⟨by rfl, ?_⟩) ?_ ?_; rotate_left; intro w'; go_simp; with_reducible rfl; rotate_left; (simp only [Act.put, pA_, pB_, pC_, i64_w, i32_w]; rfl)
                    refine pure_ (i := 13) (N := some 133) (v := ?_) (a' := ?_) (flg 31 16383) rfl rfl (any_of HT_.out (by kernel_rfl)) (fun _ _ _ h => h) (Or.inl ⟨by rfl, ?_⟩) ?_ ?_; rotate_left; intro w'; go_simp; with_reducible rfl; rotate_left; (simp only [Act.put, pA_, pB_, pC_, i64_w, i32_w]; rfl)
                    refine skp_ (a' := ?_) 14 134 (flg 31 32767) rfl rfl (any_of HT_.out (by kernel_rfl)) (fun _ _ _ h => h) (by rfl) ?_ ?_; rotate_left; (simp only [Act.put, pA_, pB_, pC_, i64_w, i32_w]; rfl)
                    refine skp_ (a' := ?_) 15 135 (flg 31 65535) rfl rfl (any_of HT_.out (by kernel_rfl)) (fun _ _ _ h => h) (by rfl) ?_ ?_; rotate_left; (simp only [Act.put, pA_, pB_, pC_, i64_w, i32_w]; rfl)
                    refine skp_ (a' := ?_) 16 136 (flg 31 131071) rfl rfl (any_of HT_.out (by kernel_rfl)) (fun _ _ _ h => h) (by rfl) ?_ ?_; rotate_left; (simp only [Act.put, pA_, pB_, pC_, i64_w, i32_w]; rfl)
                    refine skp_ (a' := ?_) 17 137 (flg 31 262143) rfl rfl (any_of HT_.out (by kernel_rfl)) (fun _ _ _ h => h) (by rfl) ?_ ?_; rotate_left; (simp only [Act.put, pA_, pB_, pC_, i64_w, i32_w]; rfl)
                    refine skp_ (a' := ?_) 18 138 (flg 31 524287) rfl rfl (any_of HT_.out (by kernel_rfl)) (fun _ _ _ h => h) (by rfl) ?_ ?_; rotate_left; (simp only [Act.put, pA_, pB_, pC_, i64_w, i32_w]; rfl)
                    refine skp_ (a' := ?_) 19 139 (flg 31 1048575) rfl rfl (any_of HT_.out (by kernel_rfl)) (fun _ _ _ h => h) (by rfl) ?_ ?_; rotate_left; (simp only [Act.put, pA_, pB_, pC_, i64_w, i32_w]; rfl)
                    refine skp_ (a' := ?_) 20 140 (flg 31 2097151) rfl rfl (any_of HT_.out (by kernel_rfl)) (fun _ _ _ h => h) (by rfl) ?_ ?_; rotate_left; (simp only [Act.put, pA_, pB_, pC_, i64_w, i32_w]; rfl)
                    refine skp_ (a' := ?_) 21 141 (flg 31 4194303) rfl rfl (any_of HT_.out (by kernel_rfl)) (fun _ _ _ h => h) (by rfl) ?_ ?_; rotate_left; (simp only [Act.put, pA_, pB_, pC_, i64_w, i32_w]; rfl)
                    refine skp_ (a' := ?_) 22 142 (flg 31 8388607) rfl rfl (any_of HT_.out (by kernel_rfl)) (fun _ _ _ h => h) (by rfl) ?_ ?_; rotate_left; (simp only [Act.put, pA_, pB_, pC_, i64_w, i32_w]; rfl)
                    refine skp_ (a' := ?_) 23 143 (flg 31 16777215) rfl rfl (any_of HT_.out (by kernel_rfl)) (fun _ _ _ h => h) (by rfl) ?_ ?_; rotate_left; (simp only [Act.put, pA_, pB_, pC_, i64_w, i32_w]; rfl)
                    refine skp_ (a' := ?_) 24 144 (flg 31 33554431) rfl rfl (any_of HT_.out (by kernel_rfl)) (fun _ _ _ h => h) (by rfl) ?_ ?_; rotate_left; (simp only [Act.put, pA_, pB_, pC_, i64_w, i32_w]; rfl)
                    refine skp_ (a' := ?_) 25 145 (flg 31 67108863) rfl rfl (any_of HT_.out (by kernel_rfl)) (fun _ _ _ h => h) (by rfl) ?_ ?_; rotate_left; (simp only [Act.put, pA_, pB_, pC_, i64_w, i32_w]; rfl)
                    refine skp_ (a' := ?_) 26 146 (flg 31 134217727) rfl rfl (any_of HT_.out (by kernel_rfl)) (fun _ _ _ h => h) (by rfl) ?_ ?_; rotate_left; (simp only [Act.put, pA_, pB_, pC_, i64_w, i32_w]; rfl)
                    refine skp_ (a' := ?_) 27 147 (flg 31 268435455) rfl rfl (any_of HT_.out (by kernel_rfl)) (fun _ _ _ h => h) (by rfl) ?_ ?_; rotate_left; (simp only [Act.put, pA_, pB_, pC_, i64_w, i32_w]; rfl)
                    refine skp_ (a' := ?_) 28 148 (flg 31 536870911) rfl rfl (any_of HT_.out (by kernel_rfl)) (fun _ _ _ h => h) (by rfl) ?_ ?_; rotate_left; (simp only [Act.put, pA_, pB_, pC_, i64_w, i32_w]; rfl)
                    refine pure_ (i := 29) (N := some 149) (v := ?_) (a' := ?_) (flg 31 1073741823) rfl rfl (any_of HT_.out (by kernel_rfl)) (fun _ _ _ h => h) (Or.inl ⟨by rfl, ?_⟩) ?_ ?_; rotate_left; intro w'; go_simp; with_reducible rfl; rotate_left; (simp only [Act.put, pA_, pB_, pC_, i64_w, i32_w]; rfl)
                    refine pure_ (i := 30) (N := some 5) (v := ?_) (a' := ?_) (flg 31 2147483647) rfl rfl (any_of HT_.out (by kernel_rfl)) (fun _ _ _ h => h) (Or.inl ⟨by rfl, ?_⟩) ?_ ?_; rotate_left; intro w'; go_simp; with_reducible rfl; rotate_left; (simp only [Act.put, pA_, pB_, pC_, i64_w, i32_w]; rfl)
                    refine done_ (done_of HT_.out (by kernel_rfl)) ?_
                    try go_wp2
                    go_meet
                    case rel => exact ⟨_, (false), (by first | rfl | (simp; done) | (simp [*]; done)), H', ⟨by have := HJ2.out; have := HJ19.out; have := HJ46.out; have := HJ56.out; have := HK5.out; have := HJ72.out; first | omega | exact Nat.le_refl _⟩, ⟨by (with_reducible repeat (first | refine blk_drewN ?_ _ | refine blk_drew ?_ | refine blk_alloc ?_ _)); exact BK481.out⟩, ⟨by (with_reducible repeat (first | refine blk_drewN ?_ _ | refine blk_drew ?_ | refine blk_alloc ?_ _)); exact BK482.out⟩, ⟨by repeat (first | (with_reducible first | exact HB.out | apply below_alloc | apply pw_below_drewN | apply below_drew1 | refine below_set ?_ GE481.out | refine below_set ?_ GE482.out) | exact HB.out)⟩⟩
                  ·rw [if_neg c81] at H
                   exact absurd H (by simp)
                 ·rw [if_neg c80] at H
                  exact absurd H (by simp)
                ·rw [if_neg c79] at H
                 exact absurd H (by simp)
               case rest => as_aux_lemma =>
                clear HC78
                (try clear c1); (try clear p2); (try clear c4); (try clear p4); (try clear q4); (try clear hx4); (try clear c7); (try clear c8); (try clear c49); (try clear p49); (try clear q49); (try clear hx49); (try clear c79); (try clear c79b0); (try clear c80); (try clear c80b0); (try clear c81); (try clear c81b0); (try clear c82); (try clear c82b0); (try clear c82b1); (try clear hx494_0); (try clear hx494_1); (try clear hx495_0); (try clear hx495_1); (try clear hx496_0); (try clear hx496_1); (try clear hx497_0); (try clear hx497_1); (try clear p494); (try clear p495); (try clear p496); (try clear p497); (try clear q494); (try clear q495); (try clear q496); (try clear q497)
                obtain ⟨kq, x5_77, rfl, HA, HJ77, BK481, BK482, HB⟩ := hcut
                cases kq with
                | zero => exact absurd HA.out (by simp [helmsmanlaw12_TreeKinds.j8])
                | succ kj77 =>
                 have H := HA.out
                 clear HA
                 simp only [helmsmanlaw12_TreeKinds.j8] at H
                 have H' := Aside0.mk H
                 clear H
                 go_wp2
                 (try simp only [Act.put, List.setIfInBounds_toArray, List.set_cons_succ, List.set_cons_zero])
                 go_loopg [5, 9] kj77 (fun kq v5 v9 w' => ∃ (x5_8 : Bool) (x9_8 : Int), v5 = .bool x5_8 ∧ v9 = .int .i64 x9_8 ∧ Aside0 (helmsmanlaw12_TreeKinds.l3 kq x5_8 x8_5 x9_8 l0_0 l0_1 l0_2 l0_3 l1_0 l1_1 l1_2 l1_3 = some r) ∧ Aside0 (kq ≤ kj77) ∧ Aside0 (w'.heap[gb481]? = some (.cells #[(.slice A0_0 l0_0.length c0_0), (.slice A0_1 l0_1.length c0_1), (.slice A0_2 l0_2.length c0_2), (.slice A0_3 l0_3.length c0_3)] 43 (0, 0))) ∧ Aside0 (w'.heap[gb482]? = some (.cells #[(.slice A1_0 l1_0.length c1_0), (.slice A1_1 l1_1.length c1_1), (.slice A1_2 l1_2.length c1_2), (.slice A1_3 l1_3.length c1_3)] 43 (0, 0))) ∧ Aside0 (Below w.heap.size w w'))
                 case atStart => exact ⟨(x5_77), (0), (by first | rfl | (simp; done) | (simp [*]; done)), (by first | rfl | (simp; done) | (simp [*]; done)), H', ⟨Nat.le_refl _⟩, ⟨by (with_reducible repeat (first | refine blk_drewN ?_ _ | refine blk_drew ?_ | refine blk_alloc ?_ _)); exact BK481.out⟩, ⟨by (with_reducible repeat (first | refine blk_drewN ?_ _ | refine blk_drew ?_ | refine blk_alloc ?_ _)); exact BK482.out⟩, ⟨by repeat (first | (with_reducible first | exact HB.out | apply below_alloc | apply pw_below_drewN | apply below_drew1 | refine below_set ?_ GE481.out | refine below_set ?_ GE482.out) | exact HB.out)⟩⟩
                 case round => as_aux_lemma =>
                  clear H'
                  (try clear c1); (try clear p2); (try clear c4); (try clear p4); (try clear q4); (try clear hx4); (try clear c7); (try clear c8); (try clear c49); (try clear p49); (try clear q49); (try clear hx49); (try clear c79); (try clear c79b0); (try clear c80); (try clear c80b0); (try clear c81); (try clear c81b0); (try clear c82); (try clear c82b0); (try clear c82b1); (try clear hx494_0); (try clear hx494_1); (try clear hx495_0); (try clear hx495_1); (try clear hx496_0); (try clear hx496_1); (try clear hx497_0); (try clear hx497_1); (try clear p2); (try clear p4); (try clear p49); (try clear p494); (try clear p495); (try clear p496); (try clear p497); (try clear q4); (try clear q49); (try clear q494); (try clear q495); (try clear q496); (try clear q497)
                  obtain ⟨x5_8, x9_8, rfl, rfl, HA, HK8, BK481, BK482, HB⟩ := hrel
                  cases gk with
                  | zero => exact absurd HA.out (by simp [helmsmanlaw12_TreeKinds.l3])
                  | succ k8 =>
                   have H := HA.out
                   clear HA
                   simp only [helmsmanlaw12_TreeKinds.l3] at H
                   by_cases c85 : x5_8 = true
                   ·subst c85
                    have H1 : (if 0 ≤ x8_5 then (if x8_5 < (l0_0.length : Int) then (if x9_8 < (((rd_T72 l0_0 x8_5).f1).length : Int) then (if 0 ≤ x9_8 then (if x8_5 < (l1_0.length : Int) then (if x9_8 < (((rd_T72 l1_0 x8_5).f1).length : Int) then (helmsmanlaw12_TreeKinds.l3 k8 ((rdOf ByteArray.empty ((rd_T72 l0_0 x8_5).f1) x9_8).toList == (rdOf ByteArray.empty ((rd_T72 l1_0 x8_5).f1) x9_8).toList) x8_5 (wrap64 (x9_8 + 1)) l0_0 l0_1 l0_2 l0_3 l1_0 l1_1 l1_2 l1_3) else (none)) else (none)) else (none)) else (helmsmanlaw12_TreeKinds.l2 k8 true (wrap64 (x8_5 + 1)) l0_0 l0_1 l0_2 l0_3 l1_0 l1_1 l1_2 l1_3)) else (none)) else (none)) = some r := by rw [if_pos rfl] at H; exact H
                    clear H
                    have H := H1
                    clear H1
                    by_cases c86 : 0 ≤ x8_5
                    ·rw [if_pos c86] at H
                     have c86b0 : decide (0 ≤ x8_5) = true := decide_eq_true c86
                     clear c86
                     by_cases c87 : x8_5 < (l0_0.length : Int)
                     ·rw [if_pos c87] at H
                      have c87b0 : decide (x8_5 < (l0_0.length : Int)) = true := decide_eq_true c87
                      clear c87
                      by_cases c88 : x9_8 < (((rd_T72 l0_0 x8_5).f1).length : Int)
                      ·rw [if_pos c88] at H
                       have c88b0 : decide (x9_8 < (((rd_T72 l0_0 x8_5).f1).length : Int)) = true := decide_eq_true c88
                       clear c88
                       by_cases c89 : 0 ≤ x9_8
                       ·rw [if_pos c89] at H
                        have c89b0 : decide (0 ≤ x9_8) = true := decide_eq_true c89
                        clear c89
                        by_cases c90 : x8_5 < (l1_0.length : Int)
                        ·rw [if_pos c90] at H
                         have c90b0 : decide (x8_5 < (l1_0.length : Int)) = true := decide_eq_true c90
                         clear c90
                         by_cases c91 : x9_8 < (((rd_T72 l1_0 x8_5).f1).length : Int)
                         ·rw [if_pos c91] at H
                          have c91b0 : decide (x9_8 < (((rd_T72 l1_0 x8_5).f1).length : Int)) = true := decide_eq_true c91
                          clear c91
                          have H' := Aside0.mk H
                          clear H
                          have hnb92 := NB481_482.out
                          have hnc92 := NB482_481.out
                          have hcz93_0 : wr.cell? ⟨gb481, 0, none⟩ = some (.slice A0_0 l0_0.length c0_0) := (blk_cell BK481.out 0).trans rfl
                          have hcz93_1 : wr.cell? ⟨gb481, 1, none⟩ = some (.slice A0_1 l0_1.length c0_1) := (blk_cell BK481.out 1).trans rfl
                          have hcz93_2 : wr.cell? ⟨gb481, 2, none⟩ = some (.slice A0_2 l0_2.length c0_2) := (blk_cell BK481.out 2).trans rfl
                          have hcz93_3 : wr.cell? ⟨gb481, 3, none⟩ = some (.slice A0_3 l0_3.length c0_3) := (blk_cell BK481.out 3).trans rfl
                          have hfz93_0 := blk_frozen BK481.out 0
                          have hfz93_1 := blk_frozen BK481.out 1
                          have hfz93_2 := blk_frozen BK481.out 2
                          have hfz93_3 := blk_frozen BK481.out 3
                          have p498 : 0 ≤ (x8_5 : Int) := of_decide_eq_true (by first | (with_reducible assumption) | assumption)
                          have q498 : x8_5 < (l0_0.length : Int) := of_decide_eq_true (by first | (with_reducible assumption) | assumption)
                          obtain ⟨ad498, A498_1, c498_1, e498, hx498_0, hx498_1, hl498_1, hi498_1⟩ := at_T72 HR0_0.out x8_5 p498 q498
                          cases e498
                          replace hx498_0 := (HB.out.cell (World.block_lt_of_cell? w _ hx498_0)).trans hx498_0
                          replace hx498_1 := (HB.out.cell (World.block_lt_of_cell? w _ hx498_1)).trans hx498_1
                          have HR498_1 := Aside0.mk hi498_1
                          have HC498_1 := Aside0.mk hl498_1
                          clear hi498_1 hl498_1
                          replace p498 := eq_true p498
                          replace q498 := eq_true q498
                          try go_wp2
                          have n0_ := Aside0.mk (blk_drew BK481.out)
                          have n1_ := Aside0.mk (blk_drew BK482.out)
                          have n2_ := Aside0.mk (below_drew1 HB.out)
                          clear BK481
                          clear BK482
                          clear HB
                          have BK481 := n0_
                          have BK482 := n1_
                          have HB := n2_
                          clear n0_ n1_ n2_
                          have p499 : 0 ≤ (x8_5 : Int) := of_decide_eq_true (by first | (with_reducible assumption) | assumption)
                          have q499 : x8_5 < (l0_0.length : Int) := of_decide_eq_true (by first | (with_reducible assumption) | assumption)
                          obtain ⟨ad499, A499_1, c499_1, e499, hx499_0, hx499_1, hl499_1, hi499_1⟩ := at_T72 HR0_0.out x8_5 p499 q499
                          have hw499_1 := hx499_1
                          have hw499_0 := hx499_0
                          obtain rfl : ad498 = ad499 := (by injection e499)
                          replace hx499_0 := (HB.out.cell (World.block_lt_of_cell? w _ hx499_0)).trans hx499_0
                          replace hx499_1 := (HB.out.cell (World.block_lt_of_cell? w _ hx499_1)).trans hx499_1
                          have HR499_1 := Aside0.mk hi499_1
                          have HC499_1 := Aside0.mk hl499_1
                          clear hi499_1 hl499_1
                          replace p499 := eq_true p499
                          replace q499 := eq_true q499
                          have p500 : 0 ≤ (x9_8 : Int) := of_decide_eq_true (by first | (with_reducible assumption) | assumption)
                          have q500 : x9_8 < (((rd_T72 l0_0 x8_5).f1).length : Int) := of_decide_eq_true (by first | (with_reducible assumption) | assumption)
                          obtain ⟨ad500, e500, hx500_0⟩ := Kd.at_string HR499_1.out x9_8 p500 q500
                          have hw500_0 := hx500_0
                          cases e500
                          replace hx500_0 := (HB.out.cell (World.block_lt_of_cell? w _ hx500_0)).trans hx500_0
                          replace p500 := eq_true p500
                          replace q500 := eq_true q500
                          have p501 : 0 ≤ (x8_5 : Int) := of_decide_eq_true (by first | (with_reducible assumption) | assumption)
                          have q501 : x8_5 < (l1_0.length : Int) := of_decide_eq_true (by first | (with_reducible assumption) | assumption)
                          obtain ⟨ad501, A501_1, c501_1, e501, hx501_0, hx501_1, hl501_1, hi501_1⟩ := at_T72 HR1_0.out x8_5 p501 q501
                          have hw501_1 := hx501_1
                          have hw501_0 := hx501_0
                          cases e501
                          replace hx501_0 := (HB.out.cell (World.block_lt_of_cell? w _ hx501_0)).trans hx501_0
                          replace hx501_1 := (HB.out.cell (World.block_lt_of_cell? w _ hx501_1)).trans hx501_1
                          have HR501_1 := Aside0.mk hi501_1
                          have HC501_1 := Aside0.mk hl501_1
                          clear hi501_1 hl501_1
                          replace p501 := eq_true p501
                          replace q501 := eq_true q501
                          have p502 : 0 ≤ (x9_8 : Int) := of_decide_eq_true (by first | (with_reducible assumption) | assumption)
                          have q502 : x9_8 < (((rd_T72 l1_0 x8_5).f1).length : Int) := of_decide_eq_true (by first | (with_reducible assumption) | assumption)
                          obtain ⟨ad502, e502, hx502_0⟩ := Kd.at_string HR501_1.out x9_8 p502 q502
                          have hw502_0 := hx502_0
                          cases e502
                          replace hx502_0 := (HB.out.cell (World.block_lt_of_cell? w _ hx502_0)).trans hx502_0
                          replace p502 := eq_true p502
                          replace q502 := eq_true q502
                          refine start_ (n := 20) (S := fun w' => w'.cell? ⟨gb481, 0, none⟩ = some (.slice (some ad498) l0_0.length c0_0) ∧ w'.cell? ⟨gb481, 1, none⟩ = some (.slice A0_1 l0_1.length c0_1) ∧ w'.cell? ⟨gb481, 2, none⟩ = some (.slice A0_2 l0_2.length c0_2) ∧ w'.cell? ⟨gb481, 3, none⟩ = some (.slice A0_3 l0_3.length c0_3) ∧ w'.cell? ⟨gb482, 0, none⟩ = some (.slice (some ad501) l1_0.length c1_0) ∧ w'.cell? ⟨gb482, 1, none⟩ = some (.slice A1_1 l1_1.length c1_1) ∧ w'.cell? ⟨gb482, 2, none⟩ = some (.slice A1_2 l1_2.length c1_2) ∧ w'.cell? ⟨gb482, 3, none⟩ = some (.slice A1_3 l1_3.length c1_3) ∧ w'.cell? (ad498.add ((x8_5).toNat * 2)) = some (.string ((rd_T72 l0_0 x8_5).f0)) ∧ w'.cell? ⟨(ad498.add ((x8_5).toNat * 2)).block, (ad498.add ((x8_5).toNat * 2)).off + 1, none⟩ = some (.slice (some ad500) ((rd_T72 l0_0 x8_5).f1).length c499_1) ∧ w'.cell? (ad500.add (x9_8).toNat) = some (.string (rdOf ByteArray.empty ((rd_T72 l0_0 x8_5).f1) x9_8)) ∧ w'.cell? (ad501.add ((x8_5).toNat * 2)) = some (.string ((rd_T72 l1_0 x8_5).f0)) ∧ w'.cell? ⟨(ad501.add ((x8_5).toNat * 2)).block, (ad501.add ((x8_5).toNat * 2)).off + 1, none⟩ = some (.slice (some ad502) ((rd_T72 l1_0 x8_5).f1).length c501_1) ∧ w'.cell? (ad502.add (x9_8).toNat) = some (.string (rdOf ByteArray.empty ((rd_T72 l1_0 x8_5).f1) x9_8))) (ds := []) (flg 20 0) (by kernel_rfl) rfl (by kernel_rfl) ⟨(blk_cell BK481.out 0).trans rfl, (blk_cell BK481.out 1).trans rfl, (blk_cell BK481.out 2).trans rfl, (blk_cell BK481.out 3).trans rfl, (blk_cell BK482.out 0).trans rfl, (blk_cell BK482.out 1).trans rfl, (blk_cell BK482.out 2).trans rfl, (blk_cell BK482.out 3).trans rfl, ((HB.out.cell (World.block_lt_of_cell? w _ hw499_0)).trans hw499_0), ((HB.out.cell (World.block_lt_of_cell? w _ hw499_1)).trans hw499_1), ((HB.out.cell (World.block_lt_of_cell? w _ hw500_0)).trans hw500_0), ((HB.out.cell (World.block_lt_of_cell? w _ hw501_0)).trans hw501_0), ((HB.out.cell (World.block_lt_of_cell? w _ hw501_1)).trans hw501_1), ((HB.out.cell (World.block_lt_of_cell? w _ hw502_0)).trans hw502_0)⟩ (fun hHeld => ?_); refine with_tabW helmsmanlaw12_TreeKinds.tab19 helmsmanlaw12_TreeKinds.bits19 (fun HT_ HW_ => ?_)
                          generalize wr.drew = w94 at BK481 BK482 HB HR499_1 HR501_1 hx499_0 hx499_1 hx500_0 hx501_0 hx501_1 hx502_0 hHeld ⊢
                          refine pure_ (i := 0) (N := some 164) (v := ?_) (a' := ?_) (flg 20 1) rfl rfl (any_of HT_.out (by kernel_rfl)) (fun _ _ _ h => h) (Or.inl ⟨by rfl, ?_⟩) ?_ ?_; rotate_left; intro w'; go_simp; with_reducible rfl; rotate_left; (simp only [Act.put, pA_, pB_, pC_, i64_w, i32_w]; rfl)
                          refine pure_ (i := 2) (N := some 166) (v := ?_) (a' := ?_) (flg 20 5) rfl rfl (any_of HT_.out (by kernel_rfl)) (fun _ _ _ h => h) (Or.inl ⟨by rfl, ?_⟩) ?_ ?_; rotate_left; intro w'; go_simp; with_reducible rfl; rotate_left; (simp only [Act.put, pA_, pB_, pC_, i64_w, i32_w]; rfl)
                          refine pure_ (i := 6) (N := some 170) (v := ?_) (a' := ?_) (flg 20 69) rfl rfl (any_of HT_.out (by kernel_rfl)) (fun _ _ _ h => h) (Or.inl ⟨by rfl, ?_⟩) ?_ ?_; rotate_left; intro w'; go_simp; with_reducible rfl; rotate_left; (simp only [Act.put, pA_, pB_, pC_, i64_w, i32_w]; rfl)
                          refine pure_ (i := 9) (N := some 173) (v := ?_) (a' := ?_) (flg 20 581) rfl rfl (any_of HT_.out (by kernel_rfl)) (fun _ _ _ h => h) (Or.inl ⟨by rfl, ?_⟩) ?_ ?_; rotate_left; intro w'; go_simp; with_reducible rfl; rotate_left; (simp only [Act.put, pA_, pB_, pC_, i64_w, i32_w]; rfl)
                          refine pure_ (i := 11) (N := some 175) (v := ?_) (a' := ?_) (flg 20 2629) rfl rfl (any_of HT_.out (by kernel_rfl)) (fun _ _ _ h => h) (Or.inl ⟨by rfl, ?_⟩) ?_ ?_; rotate_left; intro w'; go_simp; with_reducible rfl; rotate_left; (simp only [Act.put, pA_, pB_, pC_, i64_w, i32_w]; rfl)
                          refine pure_ (i := 15) (N := some 179) (v := ?_) (a' := ?_) (flg 20 35397) rfl rfl (any_of HT_.out (by kernel_rfl)) (fun _ _ _ h => h) (Or.inl ⟨by rfl, ?_⟩) ?_ ?_; rotate_left; intro w'; go_simp; with_reducible rfl; rotate_left; (simp only [Act.put, pA_, pB_, pC_, i64_w, i32_w]; rfl)
                          refine take_ (i := 1) (N := some 165) (v := ?_) (a' := ?_) (flg 20 35399) rfl rfl (take_ofW HT_.out HW_.out (by kernel_rfl)) (fun _ _ _ h => h) (Or.inl ⟨by rfl, ?_⟩) hHeld ?_ ?_; rotate_left; rintro w' ⟨s0, s1, s2, s3, s4, s5, s6, s7, s8, s9, s10, s11, s12, s13⟩; go_simp; with_reducible rfl; rotate_left; (simp only [Act.put, pA_, pB_, pC_, i64_w, i32_w]; rfl)
                          refine pure_ (i := 3) (N := some 167) (v := ?_) (a' := ?_) (flg 20 35407) rfl rfl (any_of HT_.out (by kernel_rfl)) (fun _ _ _ h => h) (Or.inl ⟨by rfl, ?_⟩) ?_ ?_; rotate_left; intro w'; go_simp; with_reducible rfl; rotate_left; (simp only [Act.put, pA_, pB_, pC_, i64_w, i32_w]; rfl)
                          refine pure_ (i := 4) (N := some 168) (v := ?_) (a' := ?_) (flg 20 35423) rfl rfl (any_of HT_.out (by kernel_rfl)) (fun _ _ _ h => h) (Or.inl ⟨by rfl, ?_⟩) ?_ ?_; rotate_left; intro w'; go_simp; with_reducible rfl; rotate_left; (simp only [Act.put, pA_, pB_, pC_, i64_w, i32_w]; rfl)
                          refine take_ (i := 5) (N := some 169) (v := ?_) (a' := ?_) (flg 20 35455) rfl rfl (take_ofW HT_.out HW_.out (by kernel_rfl)) (fun _ _ _ h => h) (Or.inl ⟨by rfl, ?_⟩) hHeld ?_ ?_; rotate_left; rintro w' ⟨s0, s1, s2, s3, s4, s5, s6, s7, s8, s9, s10, s11, s12, s13⟩; go_simp; with_reducible rfl; rotate_left; (simp only [Act.put, pA_, pB_, pC_, i64_w, i32_w]; rfl)
                          refine pure_ (i := 7) (N := some 171) (v := ?_) (a' := ?_) (flg 20 35583) rfl rfl (any_of HT_.out (by kernel_rfl)) (fun _ _ _ h => h) (Or.inl ⟨by rfl, ?_⟩) ?_ ?_; rotate_left; intro w'; go_simp; with_reducible rfl; rotate_left; (simp only [Act.put, pA_, pB_, pC_, i64_w, i32_w]; rfl)
                          refine take_ (i := 8) (N := some 172) (v := ?_) (a' := ?_) (flg 20 35839) rfl rfl (take_ofW HT_.out HW_.out (by kernel_rfl)) (fun _ _ _ h => h) (Or.inl ⟨by rfl, ?_⟩) hHeld ?_ ?_; rotate_left; rintro w' ⟨s0, s1, s2, s3, s4, s5, s6, s7, s8, s9, s10, s11, s12, s13⟩; go_simp; with_reducible rfl; rotate_left; (simp only [Act.put, pA_, pB_, pC_, i64_w, i32_w]; rfl)
                          refine take_ (i := 10) (N := some 174) (v := ?_) (a' := ?_) (flg 20 36863) rfl rfl (take_ofW HT_.out HW_.out (by kernel_rfl)) (fun _ _ _ h => h) (Or.inl ⟨by rfl, ?_⟩) hHeld ?_ ?_; rotate_left; rintro w' ⟨s0, s1, s2, s3, s4, s5, s6, s7, s8, s9, s10, s11, s12, s13⟩; go_simp; with_reducible rfl; rotate_left; (simp only [Act.put, pA_, pB_, pC_, i64_w, i32_w]; rfl)
                          refine pure_ (i := 12) (N := some 176) (v := ?_) (a' := ?_) (flg 20 40959) rfl rfl (any_of HT_.out (by kernel_rfl)) (fun _ _ _ h => h) (Or.inl ⟨by rfl, ?_⟩) ?_ ?_; rotate_left; intro w'; go_simp; with_reducible rfl; rotate_left; (simp only [Act.put, pA_, pB_, pC_, i64_w, i32_w]; rfl)
                          refine pure_ (i := 13) (N := some 177) (v := ?_) (a' := ?_) (flg 20 49151) rfl rfl (any_of HT_.out (by kernel_rfl)) (fun _ _ _ h => h) (Or.inl ⟨by rfl, ?_⟩) ?_ ?_; rotate_left; intro w'; go_simp; with_reducible rfl; rotate_left; (simp only [Act.put, pA_, pB_, pC_, i64_w, i32_w]; rfl)
                          refine take_ (i := 14) (N := some 178) (v := ?_) (a' := ?_) (flg 20 65535) rfl rfl (take_ofW HT_.out HW_.out (by kernel_rfl)) (fun _ _ _ h => h) (Or.inl ⟨by rfl, ?_⟩) hHeld ?_ ?_; rotate_left; rintro w' ⟨s0, s1, s2, s3, s4, s5, s6, s7, s8, s9, s10, s11, s12, s13⟩; go_simp; with_reducible rfl; rotate_left; (simp only [Act.put, pA_, pB_, pC_, i64_w, i32_w]; rfl)
                          refine pure_ (i := 16) (N := some 180) (v := ?_) (a' := ?_) (flg 20 131071) rfl rfl (any_of HT_.out (by kernel_rfl)) (fun _ _ _ h => h) (Or.inl ⟨by rfl, ?_⟩) ?_ ?_; rotate_left; intro w'; go_simp; with_reducible rfl; rotate_left; (simp only [Act.put, pA_, pB_, pC_, i64_w, i32_w]; rfl)
                          refine take_ (i := 17) (N := some 181) (v := ?_) (a' := ?_) (flg 20 262143) rfl rfl (take_ofW HT_.out HW_.out (by kernel_rfl)) (fun _ _ _ h => h) (Or.inl ⟨by rfl, ?_⟩) hHeld ?_ ?_; rotate_left; rintro w' ⟨s0, s1, s2, s3, s4, s5, s6, s7, s8, s9, s10, s11, s12, s13⟩; go_simp; with_reducible rfl; rotate_left; (simp only [Act.put, pA_, pB_, pC_, i64_w, i32_w]; rfl)
                          refine pure_ (i := 18) (N := some 182) (v := ?_) (a' := ?_) (flg 20 524287) rfl rfl (any_of HT_.out (by kernel_rfl)) (fun _ _ _ h => h) (Or.inl ⟨by rfl, ?_⟩) ?_ ?_; rotate_left; intro w'; go_simp; with_reducible rfl; rotate_left; (simp only [Act.put, pA_, pB_, pC_, i64_w, i32_w]; rfl)
                          refine pure_ (i := 19) (N := some 5) (v := ?_) (a' := ?_) (flg 20 1048575) rfl rfl (any_of HT_.out (by kernel_rfl)) (fun _ _ _ h => h) (Or.inl ⟨by rfl, ?_⟩) ?_ ?_; rotate_left; intro w'; go_simp; with_reducible rfl; rotate_left; (simp only [Act.put, pA_, pB_, pC_, i64_w, i32_w]; rfl)
                          refine done_ (done_of HT_.out (by kernel_rfl)) ?_
                          try go_wp2
                          go_roundg k8
                          case measure => have := HJ2.out; have := HJ19.out; have := HJ46.out; have := HJ56.out; have := HK5.out; have := HJ72.out; have := HJ77.out; have := HK8.out; omega
                          case rel => exact ⟨(((rdOf ByteArray.empty ((rd_T72 l0_0 x8_5).f1) x9_8).toList == (rdOf ByteArray.empty ((rd_T72 l1_0 x8_5).f1) x9_8).toList)), (wrap64 (x9_8 + 1)), (by first | rfl | (simp; done) | (simp [*]; done)), (by first | rfl | (simp; done) | (simp [*]; done)), H', ⟨by have := HJ2.out; have := HJ19.out; have := HJ46.out; have := HJ56.out; have := HK5.out; have := HJ72.out; have := HJ77.out; have := HK8.out; omega⟩, ⟨by (with_reducible repeat (first | refine blk_drewN ?_ _ | refine blk_drew ?_ | refine blk_alloc ?_ _)); exact BK481.out⟩, ⟨by (with_reducible repeat (first | refine blk_drewN ?_ _ | refine blk_drew ?_ | refine blk_alloc ?_ _)); exact BK482.out⟩, ⟨by repeat (first | (with_reducible first | exact HB.out | apply below_alloc | apply pw_below_drewN | apply below_drew1 | refine below_set ?_ GE481.out | refine below_set ?_ GE482.out) | exact HB.out)⟩⟩
                         ·rw [if_neg c91] at H
                          exact absurd H (by simp)
                        ·rw [if_neg c90] at H
                         exact absurd H (by simp)
                       ·rw [if_neg c89] at H
                        exact absurd H (by simp)
                      ·rw [if_neg c88] at H
                       have c88b0 : decide (x9_8 < (((rd_T72 l0_0 x8_5).f1).length : Int)) = false := decide_eq_false c88
                       clear c88
                       have H' := Aside0.mk H
                       clear H
                       have hnb95 := NB481_482.out
                       have hnc95 := NB482_481.out
                       have hcz96_0 : wr.cell? ⟨gb481, 0, none⟩ = some (.slice A0_0 l0_0.length c0_0) := (blk_cell BK481.out 0).trans rfl
                       have hcz96_1 : wr.cell? ⟨gb481, 1, none⟩ = some (.slice A0_1 l0_1.length c0_1) := (blk_cell BK481.out 1).trans rfl
                       have hcz96_2 : wr.cell? ⟨gb481, 2, none⟩ = some (.slice A0_2 l0_2.length c0_2) := (blk_cell BK481.out 2).trans rfl
                       have hcz96_3 : wr.cell? ⟨gb481, 3, none⟩ = some (.slice A0_3 l0_3.length c0_3) := (blk_cell BK481.out 3).trans rfl
                       have hfz96_0 := blk_frozen BK481.out 0
                       have hfz96_1 := blk_frozen BK481.out 1
                       have hfz96_2 := blk_frozen BK481.out 2
                       have hfz96_3 := blk_frozen BK481.out 3
                       have p498 : 0 ≤ (x8_5 : Int) := of_decide_eq_true (by first | (with_reducible assumption) | assumption)
                       have q498 : x8_5 < (l0_0.length : Int) := of_decide_eq_true (by first | (with_reducible assumption) | assumption)
                       obtain ⟨ad498, A498_1, c498_1, e498, hx498_0, hx498_1, hl498_1, hi498_1⟩ := at_T72 HR0_0.out x8_5 p498 q498
                       cases e498
                       replace hx498_0 := (HB.out.cell (World.block_lt_of_cell? w _ hx498_0)).trans hx498_0
                       replace hx498_1 := (HB.out.cell (World.block_lt_of_cell? w _ hx498_1)).trans hx498_1
                       have HR498_1 := Aside0.mk hi498_1
                       have HC498_1 := Aside0.mk hl498_1
                       clear hi498_1 hl498_1
                       replace p498 := eq_true p498
                       replace q498 := eq_true q498
                       go_wp2
                       go_roundg k8
                       case measure => have := HJ2.out; have := HJ19.out; have := HJ46.out; have := HJ56.out; have := HK5.out; have := HJ72.out; have := HJ77.out; have := HK8.out; omega
                       case rel => exact ⟨(true), (wrap64 (x8_5 + 1)), (by first | rfl | (simp; done) | (simp [*]; done)), (by first | rfl | (simp; done) | (simp [*]; done)), H', ⟨by have := HJ2.out; have := HJ19.out; have := HJ46.out; have := HJ56.out; have := HK5.out; have := HJ72.out; have := HJ77.out; have := HK8.out; omega⟩, ⟨by (with_reducible repeat (first | refine blk_drewN ?_ _ | refine blk_drew ?_ | refine blk_alloc ?_ _)); exact BK481.out⟩, ⟨by (with_reducible repeat (first | refine blk_drewN ?_ _ | refine blk_drew ?_ | refine blk_alloc ?_ _)); exact BK482.out⟩, ⟨by repeat (first | (with_reducible first | exact HB.out | apply below_alloc | apply pw_below_drewN | apply below_drew1 | refine below_set ?_ GE481.out | refine below_set ?_ GE482.out) | exact HB.out)⟩⟩
                     ·rw [if_neg c87] at H
                      exact absurd H (by simp)
                    ·rw [if_neg c86] at H
                     exact absurd H (by simp)
                   ·replace c85 := Bool.eq_false_iff.mpr c85
                    subst c85
                    have H1 : (helmsmanlaw12_TreeKinds.l2 k8 false (wrap64 (x8_5 + 1)) l0_0 l0_1 l0_2 l0_3 l1_0 l1_1 l1_2 l1_3) = some r := by rw [if_neg (show ¬ (false = true) by decide)] at H; exact H
                    clear H
                    have H := H1
                    clear H1
                    have H' := Aside0.mk H
                    clear H
                    go_wp2
                    go_roundg k8
                    case measure => have := HJ2.out; have := HJ19.out; have := HJ46.out; have := HJ56.out; have := HK5.out; have := HJ72.out; have := HJ77.out; have := HK8.out; omega
                    case rel => exact ⟨(false), (wrap64 (x8_5 + 1)), (by first | rfl | (simp; done) | (simp [*]; done)), (by first | rfl | (simp; done) | (simp [*]; done)), H', ⟨by have := HJ2.out; have := HJ19.out; have := HJ46.out; have := HJ56.out; have := HK5.out; have := HJ72.out; have := HJ77.out; have := HK8.out; omega⟩, ⟨by (with_reducible repeat (first | refine blk_drewN ?_ _ | refine blk_drew ?_ | refine blk_alloc ?_ _)); exact BK481.out⟩, ⟨by (with_reducible repeat (first | refine blk_drewN ?_ _ | refine blk_drew ?_ | refine blk_alloc ?_ _)); exact BK482.out⟩, ⟨by repeat (first | (with_reducible first | exact HB.out | apply below_alloc | apply pw_below_drewN | apply below_drew1 | refine below_set ?_ GE481.out | refine below_set ?_ GE482.out) | exact HB.out)⟩⟩
              ·replace c77 := Bool.eq_false_iff.mpr c77
               subst c77
               have H1 : ((helmsmanlaw12_alive.f).bind fun t503 => (if t503 = true then ((helmsmanlaw12_Prog.f kj72 l0_0 l0_1 l0_2 l0_3).bind fun bt504 => ((helmsmanlaw12_Prog.f kj72 l1_0 l1_1 l1_2 l1_3).bind fun bt516 => ((tree_Same.f kj72 bt504.1 bt504.2.1 bt504.2.2.1 bt504.2.2.2 bt516.1 bt516.2.1 bt516.2.2.1 bt516.2.2.2).bind fun t528 => (some (t528 == x5_5))))) else (some false))) = some r := by rw [if_neg (show ¬ (false = true) by decide)] at H; exact H
               clear H
               have H := H1
               clear H1
               replace H := Option.bind_eq_some_iff.mp H
               obtain ⟨t503, A970, H⟩ := H
               replace H : (if t503 = true then ((helmsmanlaw12_Prog.f kj72 l0_0 l0_1 l0_2 l0_3).bind fun bt504 => ((helmsmanlaw12_Prog.f kj72 l1_0 l1_1 l1_2 l1_3).bind fun bt516 => ((tree_Same.f kj72 bt504.1 bt504.2.1 bt504.2.2.1 bt504.2.2.2 bt516.1 bt516.2.1 bt516.2.2.1 bt516.2.2.2).bind fun t528 => (some (t528 == x5_5))))) else (some false)) = some r := H
               have A97 := Aside0.mk A970
               clear A970
               by_cases c98 : t503 = true
               ·subst c98
                have H1 : ((helmsmanlaw12_Prog.f kj72 l0_0 l0_1 l0_2 l0_3).bind fun bt504 => ((helmsmanlaw12_Prog.f kj72 l1_0 l1_1 l1_2 l1_3).bind fun bt516 => ((tree_Same.f kj72 bt504.1 bt504.2.1 bt504.2.2.1 bt504.2.2.2 bt516.1 bt516.2.1 bt516.2.2.1 bt516.2.2.2).bind fun t528 => (some (t528 == x5_5))))) = some r := by rw [if_pos rfl] at H; exact H
                clear H
                have H := H1
                clear H1
                replace H := Option.bind_eq_some_iff.mp H
                obtain ⟨⟨t504, t507, t510, t513⟩, A990, H⟩ := H
                replace H : ((helmsmanlaw12_Prog.f kj72 l1_0 l1_1 l1_2 l1_3).bind fun bt516 => ((tree_Same.f kj72 t504 t507 t510 t513 bt516.1 bt516.2.1 bt516.2.2.1 bt516.2.2.2).bind fun t528 => (some (t528 == x5_5)))) = some r := H
                have A99 := Aside0.mk A990
                clear A990
                replace H := Option.bind_eq_some_iff.mp H
                obtain ⟨⟨t516, t519, t522, t525⟩, A1000, H⟩ := H
                replace H : ((tree_Same.f kj72 t504 t507 t510 t513 t516 t519 t522 t525).bind fun t528 => (some (t528 == x5_5))) = some r := H
                have A100 := Aside0.mk A1000
                clear A1000
                replace H := Option.bind_eq_some_iff.mp H
                obtain ⟨t528, A1010, H⟩ := H
                replace H : (some (t528 == x5_5)) = some r := H
                have A101 := Aside0.mk A1010
                clear A1010
                obtain rfl := Option.some.inj H
                try go_wp2
                have n0_ := Aside0.mk (blk_drew BK481.out)
                have n1_ := Aside0.mk (blk_drew BK482.out)
                have n2_ := Aside0.mk (below_drew1 HB.out)
                clear BK481
                clear BK482
                clear HB
                have BK481 := n0_
                have BK482 := n1_
                have HB := n2_
                clear n0_ n1_ n2_
                refine start_ (n := 11) (S := fun w' => w'.cell? ⟨gb481, 0, none⟩ = some (.slice A0_0 l0_0.length c0_0) ∧ w'.cell? ⟨gb481, 1, none⟩ = some (.slice A0_1 l0_1.length c0_1) ∧ w'.cell? ⟨gb481, 2, none⟩ = some (.slice A0_2 l0_2.length c0_2) ∧ w'.cell? ⟨gb481, 3, none⟩ = some (.slice A0_3 l0_3.length c0_3) ∧ w'.cell? ⟨gb482, 0, none⟩ = some (.slice A1_0 l1_0.length c1_0) ∧ w'.cell? ⟨gb482, 1, none⟩ = some (.slice A1_1 l1_1.length c1_1) ∧ w'.cell? ⟨gb482, 2, none⟩ = some (.slice A1_2 l1_2.length c1_2) ∧ w'.cell? ⟨gb482, 3, none⟩ = some (.slice A1_3 l1_3.length c1_3)) (ds := []) (flg 11 0) (by kernel_rfl) rfl (by kernel_rfl) ⟨(blk_cell BK481.out 0).trans rfl, (blk_cell BK481.out 1).trans rfl, (blk_cell BK481.out 2).trans rfl, (blk_cell BK481.out 3).trans rfl, (blk_cell BK482.out 0).trans rfl, (blk_cell BK482.out 1).trans rfl, (blk_cell BK482.out 2).trans rfl, (blk_cell BK482.out 3).trans rfl⟩ (fun hHeld => ?_); refine with_tabW helmsmanlaw12_TreeKinds.tab20 helmsmanlaw12_TreeKinds.bits20 (fun HT_ HW_ => ?_)
                generalize wc.drew = w102 at BK481 BK482 HB hHeld ⊢
                refine one_ (i := 0) (N := some 183) (flg 11 1) rfl rfl (one_of HT_.out (by kernel_rfl)) (by decide) (fun K hK => ?_)
                refine goes_ Tryd.func10 (by kernel_rfl) rfl #[] (by rfl) rfl rfl (by (try simp only [List.map_toArray, List.map_cons, List.map_nil]); first | done | rfl | (simp only [List.length_drop, List.length_take]; rfl)) ?_
                with_reducible refine (helmsmanlaw12_alive.calls  true _ ?side1 A97.out).mono ?_
                (case side1 => exact hT.later (by repeat (first | (with_reducible first | exact HB.out | apply below_alloc | apply pw_below_drewN | apply below_drew1 | refine below_set ?_ GE481.out | refine below_set ?_ GE482.out) | exact HB.out)))
                rintro e w103 ⟨rfl, hb⟩
                refine ⟨_, rfl, ?_⟩
                have n0_ := Aside0.mk (blk_below (g := gb481) (o := .cells #[.slice A0_0 l0_0.length c0_0, .slice A0_1 l0_1.length c0_1, .slice A0_2 l0_2.length c0_2, .slice A0_3 l0_3.length c0_3] 43 (0, 0)) (by (with_reducible repeat (first | refine blk_drewN ?_ _ | refine blk_drew ?_ | refine blk_alloc ?_ _)); exact BK481.out) hb)
                have n1_ := Aside0.mk (blk_below (g := gb482) (o := .cells #[.slice A1_0 l1_0.length c1_0, .slice A1_1 l1_1.length c1_1, .slice A1_2 l1_2.length c1_2, .slice A1_3 l1_3.length c1_3] 43 (0, 0)) (by (with_reducible repeat (first | refine blk_drewN ?_ _ | refine blk_drew ?_ | refine blk_alloc ?_ _)); exact BK482.out) hb)
                have n2_ := Aside0.mk (below_step (by repeat (first | (with_reducible first | exact HB.out | apply below_alloc | apply pw_below_drewN | apply below_drew1 | refine below_set ?_ GE481.out | refine below_set ?_ GE482.out) | exact HB.out)) hb)
                clear BK481
                clear BK482
                clear HB
                have BK481 := n0_
                have BK482 := n1_
                have HB := n2_
                clear n0_ n1_ n2_
                (try clear hb)
                (try clear hb2)
                (try clear hk)
                (try clear hi)
                refine hK.out _ _ ⟨(blk_cell BK481.out 0).trans rfl, (blk_cell BK481.out 1).trans rfl, (blk_cell BK481.out 2).trans rfl, (blk_cell BK481.out 3).trans rfl, (blk_cell BK482.out 0).trans rfl, (blk_cell BK482.out 1).trans rfl, (blk_cell BK482.out 2).trans rfl, (blk_cell BK482.out 3).trans rfl⟩ (fun hHeld => ?_)
                clear hK K
                refine norm_ (a' := ?_) ?_ ?_
                rotate_left
                ·show Act.put _ (some 183) _ = _
                 simp only [Act.put, List.setIfInBounds_toArray, List.set_cons_zero, List.set_cons_succ, i64_w, i32_w]
                 rfl
                refine pure_ (i := 1) (N := some 184) (v := ?_) (a' := ?_) (flg 11 3) rfl rfl (any_of HT_.out (by kernel_rfl)) (fun _ _ _ h => h) (Or.inl ⟨by rfl, ?_⟩) ?_ ?_; rotate_left; intro w'; go_simp; with_reducible rfl; rotate_left; (simp only [Act.put, pA_, pB_, pC_, i64_w, i32_w]; rfl)
                refine pure_ (i := 7) (N := some 190) (v := ?_) (a' := ?_) (flg 11 131) rfl rfl (any_of HT_.out (by kernel_rfl)) (fun _ _ _ h => h) (Or.inl ⟨by rfl, ?_⟩) ?_ ?_; rotate_left; intro w'; go_simp; with_reducible rfl; rotate_left; (simp only [Act.put, pA_, pB_, pC_, i64_w, i32_w]; rfl)
                refine take_ (i := 2) (N := some 185) (v := ?_) (a' := ?_) (flg 11 135) rfl rfl (take_ofW HT_.out HW_.out (by kernel_rfl)) (fun _ _ _ h => h) (Or.inl ⟨by rfl, ?_⟩) hHeld ?_ ?_; rotate_left; rintro w' ⟨s0, s1, s2, s3, s4, s5, s6, s7⟩; go_simp; with_reducible rfl; rotate_left; (simp only [Act.put, pA_, pB_, pC_, i64_w, i32_w]; rfl)
                refine take_ (i := 4) (N := some 187) (v := ?_) (a' := ?_) (flg 11 151) rfl rfl (take_ofW HT_.out HW_.out (by kernel_rfl)) (fun _ _ _ h => h) (Or.inl ⟨by rfl, ?_⟩) hHeld ?_ ?_; rotate_left; rintro w' ⟨s0, s1, s2, s3, s4, s5, s6, s7⟩; go_simp; with_reducible rfl; rotate_left; (simp only [Act.put, pA_, pB_, pC_, i64_w, i32_w]; rfl)
                refine one_ (i := 3) (N := some 186) (flg 11 159) rfl rfl (one_of HT_.out (by kernel_rfl)) (by decide) (fun K hK => ?_)
                refine goes_ Tryd.func17 (by kernel_rfl) rfl #[.agg #[.slice A0_0 l0_0.length c0_0, .slice A0_1 l0_1.length c0_1, .slice A0_2 l0_2.length c0_2, .slice A0_3 l0_3.length c0_3]] (by rfl) rfl rfl (by (try simp only [List.map_toArray, List.map_cons, List.map_nil]); first | done | rfl | (simp only [List.length_drop, List.length_take]; rfl)) ?_
                with_reducible refine (helmsmanlaw12_Prog.calls kj72 (fun k_ => k_ < w.heap.size) _ _ l0_0 _ _ l0_1 _ _ l0_2 _ _ l0_3 t504 t507 t510 t513 _ ?side1 ?side2 ?side3 ?side4 ?side5 ?side6 ?side7 A99.out).mono ?_
                (case side1 => exact Kd.V_mk HC0_0.out (Kd.F_below (Kd.C_F k72_heap HR0_0.out) (by repeat (first | (with_reducible first | exact HB.out | apply below_alloc | apply pw_below_drewN | apply below_drew1 | refine below_set ?_ GE481.out | refine below_set ?_ GE482.out) | exact HB.out))))
                (case side2 => repeat (first | exact (Kd.C_below HR0_1.out HB.out) | (with_reducible refine Kd.C_alloc ?_ _) | (with_reducible refine Kd.C_drewN ?_ _) | (with_reducible refine Kd.C_drew ?_)))
                (case side3 => exact HC0_1.out)
                (case side4 => repeat (first | exact (Kd.C_below HR0_2.out HB.out) | (with_reducible refine Kd.C_alloc ?_ _) | (with_reducible refine Kd.C_drewN ?_ _) | (with_reducible refine Kd.C_drew ?_)))
                (case side5 => exact HC0_2.out)
                (case side6 => repeat (first | exact (Kd.C_below HR0_3.out HB.out) | (with_reducible refine Kd.C_alloc ?_ _) | (with_reducible refine Kd.C_drewN ?_ _) | (with_reducible refine Kd.C_drew ?_)))
                (case side7 => exact HC0_3.out)
                rintro e w104 ⟨v505, v508, v511, v514, rfl, ho0, ho1, ho2, ho3, hb⟩
                refine ⟨_, rfl, ?_⟩
                have n0_ := Aside0.mk (Kd.N_lower (Kd.N_mono (ok' := fun k_ => some k_ ≠ (v508 : Value).ownBlock ∧ some k_ ≠ (v511 : Value).ownBlock ∧ some k_ ≠ (v514 : Value).ownBlock ∧ k_ ≠ gb481 ∧ k_ ≠ gb482) ho0 (fun k_ hk_ => ⟨hk_.2.1, hk_.2.2.1, hk_.2.2.2, Or.elim hk_.1 (fun hs_ => fun e_ => Nat.not_le.2 hs_ (by rw [e_]; exact GW481.out)) (fun hn_ => (Kd.freshB (g := gb481) (o := .cells #[.slice A0_0 l0_0.length c0_0, .slice A0_1 l0_1.length c0_1, .slice A0_2 l0_2.length c0_2, .slice A0_3 l0_3.length c0_3] 43 (0, 0)) (by (with_reducible repeat (first | refine blk_drewN ?_ _ | refine blk_drew ?_ | refine blk_alloc ?_ _)); exact BK481.out) k_ hn_)), Or.elim hk_.1 (fun hs_ => fun e_ => Nat.not_le.2 hs_ (by rw [e_]; exact GW482.out)) (fun hn_ => (Kd.freshB (g := gb482) (o := .cells #[.slice A1_0 l1_0.length c1_0, .slice A1_1 l1_1.length c1_1, .slice A1_2 l1_2.length c1_2, .slice A1_3 l1_3.length c1_3] 43 (0, 0)) (by (with_reducible repeat (first | refine blk_drewN ?_ _ | refine blk_drew ?_ | refine blk_alloc ?_ _)); exact BK482.out) k_ hn_))⟩)) (below_size (by repeat (first | (with_reducible first | exact HB.out | apply below_alloc | apply pw_below_drewN | apply below_drew1 | refine below_set ?_ GE481.out | refine below_set ?_ GE482.out) | exact HB.out))))
                have n1_ := Aside0.mk (Kd.R_lower (Kd.R_mono (ok' := fun k_ => True) ho1 (fun _ hk_ => trivial)) (below_size (by repeat (first | (with_reducible first | exact HB.out | apply below_alloc | apply pw_below_drewN | apply below_drew1 | refine below_set ?_ GE481.out | refine below_set ?_ GE482.out) | exact HB.out))))
                have n2_ := Aside0.mk (Kd.N_lower (Kd.N_mono (ok' := fun k_ => some k_ ≠ (v505 : Value).ownBlock ∧ some k_ ≠ (v508 : Value).ownBlock ∧ some k_ ≠ (v514 : Value).ownBlock ∧ k_ ≠ gb481 ∧ k_ ≠ gb482) ho2 (fun k_ hk_ => ⟨hk_.2.1, hk_.2.2.1, hk_.2.2.2, Or.elim hk_.1 (fun hs_ => fun e_ => Nat.not_le.2 hs_ (by rw [e_]; exact GW481.out)) (fun hn_ => (Kd.freshB (g := gb481) (o := .cells #[.slice A0_0 l0_0.length c0_0, .slice A0_1 l0_1.length c0_1, .slice A0_2 l0_2.length c0_2, .slice A0_3 l0_3.length c0_3] 43 (0, 0)) (by (with_reducible repeat (first | refine blk_drewN ?_ _ | refine blk_drew ?_ | refine blk_alloc ?_ _)); exact BK481.out) k_ hn_)), Or.elim hk_.1 (fun hs_ => fun e_ => Nat.not_le.2 hs_ (by rw [e_]; exact GW482.out)) (fun hn_ => (Kd.freshB (g := gb482) (o := .cells #[.slice A1_0 l1_0.length c1_0, .slice A1_1 l1_1.length c1_1, .slice A1_2 l1_2.length c1_2, .slice A1_3 l1_3.length c1_3] 43 (0, 0)) (by (with_reducible repeat (first | refine blk_drewN ?_ _ | refine blk_drew ?_ | refine blk_alloc ?_ _)); exact BK482.out) k_ hn_))⟩)) (below_size (by repeat (first | (with_reducible first | exact HB.out | apply below_alloc | apply pw_below_drewN | apply below_drew1 | refine below_set ?_ GE481.out | refine below_set ?_ GE482.out) | exact HB.out))))
                have n3_ := Aside0.mk (Kd.N_lower (Kd.N_mono (ok' := fun k_ => some k_ ≠ (v505 : Value).ownBlock ∧ some k_ ≠ (v508 : Value).ownBlock ∧ some k_ ≠ (v511 : Value).ownBlock ∧ k_ ≠ gb481 ∧ k_ ≠ gb482) ho3 (fun k_ hk_ => ⟨hk_.2.1, hk_.2.2.1, hk_.2.2.2, Or.elim hk_.1 (fun hs_ => fun e_ => Nat.not_le.2 hs_ (by rw [e_]; exact GW481.out)) (fun hn_ => (Kd.freshB (g := gb481) (o := .cells #[.slice A0_0 l0_0.length c0_0, .slice A0_1 l0_1.length c0_1, .slice A0_2 l0_2.length c0_2, .slice A0_3 l0_3.length c0_3] 43 (0, 0)) (by (with_reducible repeat (first | refine blk_drewN ?_ _ | refine blk_drew ?_ | refine blk_alloc ?_ _)); exact BK481.out) k_ hn_)), Or.elim hk_.1 (fun hs_ => fun e_ => Nat.not_le.2 hs_ (by rw [e_]; exact GW482.out)) (fun hn_ => (Kd.freshB (g := gb482) (o := .cells #[.slice A1_0 l1_0.length c1_0, .slice A1_1 l1_1.length c1_1, .slice A1_2 l1_2.length c1_2, .slice A1_3 l1_3.length c1_3] 43 (0, 0)) (by (with_reducible repeat (first | refine blk_drewN ?_ _ | refine blk_drew ?_ | refine blk_alloc ?_ _)); exact BK482.out) k_ hn_))⟩)) (below_size (by repeat (first | (with_reducible first | exact HB.out | apply below_alloc | apply pw_below_drewN | apply below_drew1 | refine below_set ?_ GE481.out | refine below_set ?_ GE482.out) | exact HB.out))))
                have n4_ := Aside0.mk (blk_below (g := gb481) (o := .cells #[.slice A0_0 l0_0.length c0_0, .slice A0_1 l0_1.length c0_1, .slice A0_2 l0_2.length c0_2, .slice A0_3 l0_3.length c0_3] 43 (0, 0)) (by (with_reducible repeat (first | refine blk_drewN ?_ _ | refine blk_drew ?_ | refine blk_alloc ?_ _)); exact BK481.out) hb)
                have n5_ := Aside0.mk (blk_below (g := gb482) (o := .cells #[.slice A1_0 l1_0.length c1_0, .slice A1_1 l1_1.length c1_1, .slice A1_2 l1_2.length c1_2, .slice A1_3 l1_3.length c1_3] 43 (0, 0)) (by (with_reducible repeat (first | refine blk_drewN ?_ _ | refine blk_drew ?_ | refine blk_alloc ?_ _)); exact BK482.out) hb)
                have n6_ := Aside0.mk (below_step (by repeat (first | (with_reducible first | exact HB.out | apply below_alloc | apply pw_below_drewN | apply below_drew1 | refine below_set ?_ GE481.out | refine below_set ?_ GE482.out) | exact HB.out)) hb)
                clear BK481
                clear BK482
                clear HB
                have HO506 := n0_
                have HO509 := n1_
                have HO512 := n2_
                have HO515 := n3_
                have BK481 := n4_
                have BK482 := n5_
                have HB := n6_
                clear n0_ n1_ n2_ n3_ n4_ n5_ n6_
                (try clear hb)
                (try clear hb2)
                (try clear hk)
                (try clear hi)
                (try clear ho0)
                (try clear ho1)
                (try clear ho2)
                (try clear ho3)
                refine hK.out _ _ ⟨(blk_cell BK481.out 0).trans rfl, (blk_cell BK481.out 1).trans rfl, (blk_cell BK481.out 2).trans rfl, (blk_cell BK481.out 3).trans rfl, (blk_cell BK482.out 0).trans rfl, (blk_cell BK482.out 1).trans rfl, (blk_cell BK482.out 2).trans rfl, (blk_cell BK482.out 3).trans rfl⟩ (fun hHeld => ?_)
                clear hK K
                refine norm_ (a' := ?_) ?_ ?_
                rotate_left
                ·show Act.put _ (some 186) _ = _
                 simp only [Act.put, List.setIfInBounds_toArray, List.set_cons_zero, List.set_cons_succ, i64_w, i32_w]
                 rfl
                refine one_ (i := 5) (N := some 188) (flg 11 191) rfl rfl (one_of HT_.out (by kernel_rfl)) (by decide) (fun K hK => ?_)
                refine goes_ Tryd.func17 (by kernel_rfl) rfl #[.agg #[.slice A1_0 l1_0.length c1_0, .slice A1_1 l1_1.length c1_1, .slice A1_2 l1_2.length c1_2, .slice A1_3 l1_3.length c1_3]] (by rfl) rfl rfl (by (try simp only [List.map_toArray, List.map_cons, List.map_nil]); first | done | rfl | (simp only [List.length_drop, List.length_take]; rfl)) ?_
                with_reducible refine (helmsmanlaw12_Prog.calls kj72 (fun k_ => k_ < w.heap.size) _ _ l1_0 _ _ l1_1 _ _ l1_2 _ _ l1_3 t516 t519 t522 t525 _ ?side1 ?side2 ?side3 ?side4 ?side5 ?side6 ?side7 A100.out).mono ?_
                (case side1 => exact Kd.V_mk HC1_0.out (Kd.F_below (Kd.C_F k72_heap HR1_0.out) (by repeat (first | (with_reducible first | exact HB.out | apply below_alloc | apply pw_below_drewN | apply below_drew1 | refine below_set ?_ GE481.out | refine below_set ?_ GE482.out) | exact HB.out))))
                (case side2 => repeat (first | exact (Kd.C_below HR1_1.out HB.out) | (with_reducible refine Kd.C_alloc ?_ _) | (with_reducible refine Kd.C_drewN ?_ _) | (with_reducible refine Kd.C_drew ?_)))
                (case side3 => exact HC1_1.out)
                (case side4 => repeat (first | exact (Kd.C_below HR1_2.out HB.out) | (with_reducible refine Kd.C_alloc ?_ _) | (with_reducible refine Kd.C_drewN ?_ _) | (with_reducible refine Kd.C_drew ?_)))
                (case side5 => exact HC1_2.out)
                (case side6 => repeat (first | exact (Kd.C_below HR1_3.out HB.out) | (with_reducible refine Kd.C_alloc ?_ _) | (with_reducible refine Kd.C_drewN ?_ _) | (with_reducible refine Kd.C_drew ?_)))
                (case side7 => exact HC1_3.out)
                rintro e w105 ⟨v517, v520, v523, v526, rfl, ho0, ho1, ho2, ho3, hb⟩
                refine ⟨_, rfl, ?_⟩
                have n0_ := Aside0.mk (Kd.N_mono (Kd.N_told (Kd.N_told (Kd.N_told (Kd.N_told (Kd.N_old (by (with_reducible repeat (first | apply Kd.N_alloc | apply Kd.N_drewN | apply Kd.N_drew)); exact HO506.out) hb) (by first | exact Kd.N_base ho0 | exact Kd.N_base (Kd.R_N ho0) | exact Kd.N_base (Kd.R_N (Kd.R_bound ho0)))) (Kd.R_base ho1)) (by first | exact Kd.N_base ho2 | exact Kd.N_base (Kd.R_N ho2) | exact Kd.N_base (Kd.R_N (Kd.R_bound ho2)))) (by first | exact Kd.N_base ho3 | exact Kd.N_base (Kd.R_N ho3) | exact Kd.N_base (Kd.R_N (Kd.R_bound ho3)))) (fun _ h_ => h_.1))
                have n1_ := Aside0.mk (Kd.R_elder' (by (with_reducible repeat (first | apply Kd.R_alloc | apply Kd.R_drewN | apply Kd.R_drew)); exact HO509.out) (Kd.R_base ho1) hb)
                have n2_ := Aside0.mk (Kd.N_mono (Kd.N_told (Kd.N_told (Kd.N_told (Kd.N_told (Kd.N_old (by (with_reducible repeat (first | apply Kd.N_alloc | apply Kd.N_drewN | apply Kd.N_drew)); exact HO512.out) hb) (by first | exact Kd.N_base ho0 | exact Kd.N_base (Kd.R_N ho0) | exact Kd.N_base (Kd.R_N (Kd.R_bound ho0)))) (Kd.R_base ho1)) (by first | exact Kd.N_base ho2 | exact Kd.N_base (Kd.R_N ho2) | exact Kd.N_base (Kd.R_N (Kd.R_bound ho2)))) (by first | exact Kd.N_base ho3 | exact Kd.N_base (Kd.R_N ho3) | exact Kd.N_base (Kd.R_N (Kd.R_bound ho3)))) (fun _ h_ => h_.1))
                have n3_ := Aside0.mk (Kd.N_mono (Kd.N_told (Kd.N_told (Kd.N_told (Kd.N_told (Kd.N_old (by (with_reducible repeat (first | apply Kd.N_alloc | apply Kd.N_drewN | apply Kd.N_drew)); exact HO515.out) hb) (by first | exact Kd.N_base ho0 | exact Kd.N_base (Kd.R_N ho0) | exact Kd.N_base (Kd.R_N (Kd.R_bound ho0)))) (Kd.R_base ho1)) (by first | exact Kd.N_base ho2 | exact Kd.N_base (Kd.R_N ho2) | exact Kd.N_base (Kd.R_N (Kd.R_bound ho2)))) (by first | exact Kd.N_base ho3 | exact Kd.N_base (Kd.R_N ho3) | exact Kd.N_base (Kd.R_N (Kd.R_bound ho3)))) (fun _ h_ => h_.1))
                have n4_ := Aside0.mk (Kd.N_lower (Kd.N_mono (ok' := fun k_ => some k_ ≠ (v520 : Value).ownBlock ∧ some k_ ≠ (v523 : Value).ownBlock ∧ some k_ ≠ (v526 : Value).ownBlock ∧ some k_ ≠ (v505 : Value).ownBlock ∧ some k_ ≠ (v508 : Value).ownBlock ∧ some k_ ≠ (v511 : Value).ownBlock ∧ some k_ ≠ (v514 : Value).ownBlock ∧ k_ ≠ gb481 ∧ k_ ≠ gb482) ho0 (fun k_ hk_ => ⟨hk_.2.1, hk_.2.2.1, hk_.2.2.2, Or.elim hk_.1 (fun hs_ => fun e_ => Nat.not_le.2 hs_ (Kd.N_base HO506.out k_ e_.symm)) (fun hn_ => (Kd.fresh' (Kd.N_lt (by (with_reducible repeat (first | apply Kd.N_alloc | apply Kd.N_drewN | apply Kd.N_drew)); exact HO506.out)) k_ hn_)), Or.elim hk_.1 (fun hs_ => fun e_ => Nat.not_le.2 hs_ (Kd.R_base HO509.out k_ e_.symm)) (fun hn_ => (Kd.fresh' (Kd.R_lt (by (with_reducible repeat (first | apply Kd.R_alloc | apply Kd.R_drewN | apply Kd.R_drew)); exact HO509.out)) k_ hn_)), Or.elim hk_.1 (fun hs_ => fun e_ => Nat.not_le.2 hs_ (Kd.N_base HO512.out k_ e_.symm)) (fun hn_ => (Kd.fresh' (Kd.N_lt (by (with_reducible repeat (first | apply Kd.N_alloc | apply Kd.N_drewN | apply Kd.N_drew)); exact HO512.out)) k_ hn_)), Or.elim hk_.1 (fun hs_ => fun e_ => Nat.not_le.2 hs_ (Kd.N_base HO515.out k_ e_.symm)) (fun hn_ => (Kd.fresh' (Kd.N_lt (by (with_reducible repeat (first | apply Kd.N_alloc | apply Kd.N_drewN | apply Kd.N_drew)); exact HO515.out)) k_ hn_)), Or.elim hk_.1 (fun hs_ => fun e_ => Nat.not_le.2 hs_ (by rw [e_]; exact GW481.out)) (fun hn_ => (Kd.freshB (g := gb481) (o := .cells #[.slice A0_0 l0_0.length c0_0, .slice A0_1 l0_1.length c0_1, .slice A0_2 l0_2.length c0_2, .slice A0_3 l0_3.length c0_3] 43 (0, 0)) (by (with_reducible repeat (first | refine blk_drewN ?_ _ | refine blk_drew ?_ | refine blk_alloc ?_ _)); exact BK481.out) k_ hn_)), Or.elim hk_.1 (fun hs_ => fun e_ => Nat.not_le.2 hs_ (by rw [e_]; exact GW482.out)) (fun hn_ => (Kd.freshB (g := gb482) (o := .cells #[.slice A1_0 l1_0.length c1_0, .slice A1_1 l1_1.length c1_1, .slice A1_2 l1_2.length c1_2, .slice A1_3 l1_3.length c1_3] 43 (0, 0)) (by (with_reducible repeat (first | refine blk_drewN ?_ _ | refine blk_drew ?_ | refine blk_alloc ?_ _)); exact BK482.out) k_ hn_))⟩)) (below_size (by repeat (first | (with_reducible first | exact HB.out | apply below_alloc | apply pw_below_drewN | apply below_drew1 | refine below_set ?_ GE481.out | refine below_set ?_ GE482.out) | exact HB.out))))
                have n5_ := Aside0.mk (Kd.R_lower (Kd.R_new' (Kd.R_mono (ok' := fun k_ => True) ho1 (fun _ hk_ => trivial)) (Kd.R_lt (by (with_reducible repeat (first | apply Kd.R_alloc | apply Kd.R_drewN | apply Kd.R_drew)); exact HO509.out))) (below_size (by repeat (first | (with_reducible first | exact HB.out | apply below_alloc | apply pw_below_drewN | apply below_drew1 | refine below_set ?_ GE481.out | refine below_set ?_ GE482.out) | exact HB.out))))
                have n6_ := Aside0.mk (Kd.N_lower (Kd.N_mono (ok' := fun k_ => some k_ ≠ (v517 : Value).ownBlock ∧ some k_ ≠ (v520 : Value).ownBlock ∧ some k_ ≠ (v526 : Value).ownBlock ∧ some k_ ≠ (v505 : Value).ownBlock ∧ some k_ ≠ (v508 : Value).ownBlock ∧ some k_ ≠ (v511 : Value).ownBlock ∧ some k_ ≠ (v514 : Value).ownBlock ∧ k_ ≠ gb481 ∧ k_ ≠ gb482) ho2 (fun k_ hk_ => ⟨hk_.2.1, hk_.2.2.1, hk_.2.2.2, Or.elim hk_.1 (fun hs_ => fun e_ => Nat.not_le.2 hs_ (Kd.N_base HO506.out k_ e_.symm)) (fun hn_ => (Kd.fresh' (Kd.N_lt (by (with_reducible repeat (first | apply Kd.N_alloc | apply Kd.N_drewN | apply Kd.N_drew)); exact HO506.out)) k_ hn_)), Or.elim hk_.1 (fun hs_ => fun e_ => Nat.not_le.2 hs_ (Kd.R_base HO509.out k_ e_.symm)) (fun hn_ => (Kd.fresh' (Kd.R_lt (by (with_reducible repeat (first | apply Kd.R_alloc | apply Kd.R_drewN | apply Kd.R_drew)); exact HO509.out)) k_ hn_)), Or.elim hk_.1 (fun hs_ => fun e_ => Nat.not_le.2 hs_ (Kd.N_base HO512.out k_ e_.symm)) (fun hn_ => (Kd.fresh' (Kd.N_lt (by (with_reducible repeat (first | apply Kd.N_alloc | apply Kd.N_drewN | apply Kd.N_drew)); exact HO512.out)) k_ hn_)), Or.elim hk_.1 (fun hs_ => fun e_ => Nat.not_le.2 hs_ (Kd.N_base HO515.out k_ e_.symm)) (fun hn_ => (Kd.fresh' (Kd.N_lt (by (with_reducible repeat (first | apply Kd.N_alloc | apply Kd.N_drewN | apply Kd.N_drew)); exact HO515.out)) k_ hn_)), Or.elim hk_.1 (fun hs_ => fun e_ => Nat.not_le.2 hs_ (by rw [e_]; exact GW481.out)) (fun hn_ => (Kd.freshB (g := gb481) (o := .cells #[.slice A0_0 l0_0.length c0_0, .slice A0_1 l0_1.length c0_1, .slice A0_2 l0_2.length c0_2, .slice A0_3 l0_3.length c0_3] 43 (0, 0)) (by (with_reducible repeat (first | refine blk_drewN ?_ _ | refine blk_drew ?_ | refine blk_alloc ?_ _)); exact BK481.out) k_ hn_)), Or.elim hk_.1 (fun hs_ => fun e_ => Nat.not_le.2 hs_ (by rw [e_]; exact GW482.out)) (fun hn_ => (Kd.freshB (g := gb482) (o := .cells #[.slice A1_0 l1_0.length c1_0, .slice A1_1 l1_1.length c1_1, .slice A1_2 l1_2.length c1_2, .slice A1_3 l1_3.length c1_3] 43 (0, 0)) (by (with_reducible repeat (first | refine blk_drewN ?_ _ | refine blk_drew ?_ | refine blk_alloc ?_ _)); exact BK482.out) k_ hn_))⟩)) (below_size (by repeat (first | (with_reducible first | exact HB.out | apply below_alloc | apply pw_below_drewN | apply below_drew1 | refine below_set ?_ GE481.out | refine below_set ?_ GE482.out) | exact HB.out))))
                have n7_ := Aside0.mk (Kd.N_lower (Kd.N_mono (ok' := fun k_ => some k_ ≠ (v517 : Value).ownBlock ∧ some k_ ≠ (v520 : Value).ownBlock ∧ some k_ ≠ (v523 : Value).ownBlock ∧ some k_ ≠ (v505 : Value).ownBlock ∧ some k_ ≠ (v508 : Value).ownBlock ∧ some k_ ≠ (v511 : Value).ownBlock ∧ some k_ ≠ (v514 : Value).ownBlock ∧ k_ ≠ gb481 ∧ k_ ≠ gb482) ho3 (fun k_ hk_ => ⟨hk_.2.1, hk_.2.2.1, hk_.2.2.2, Or.elim hk_.1 (fun hs_ => fun e_ => Nat.not_le.2 hs_ (Kd.N_base HO506.out k_ e_.symm)) (fun hn_ => (Kd.fresh' (Kd.N_lt (by (with_reducible repeat (first | apply Kd.N_alloc | apply Kd.N_drewN | apply Kd.N_drew)); exact HO506.out)) k_ hn_)), Or.elim hk_.1 (fun hs_ => fun e_ => Nat.not_le.2 hs_ (Kd.R_base HO509.out k_ e_.symm)) (fun hn_ => (Kd.fresh' (Kd.R_lt (by (with_reducible repeat (first | apply Kd.R_alloc | apply Kd.R_drewN | apply Kd.R_drew)); exact HO509.out)) k_ hn_)), Or.elim hk_.1 (fun hs_ => fun e_ => Nat.not_le.2 hs_ (Kd.N_base HO512.out k_ e_.symm)) (fun hn_ => (Kd.fresh' (Kd.N_lt (by (with_reducible repeat (first | apply Kd.N_alloc | apply Kd.N_drewN | apply Kd.N_drew)); exact HO512.out)) k_ hn_)), Or.elim hk_.1 (fun hs_ => fun e_ => Nat.not_le.2 hs_ (Kd.N_base HO515.out k_ e_.symm)) (fun hn_ => (Kd.fresh' (Kd.N_lt (by (with_reducible repeat (first | apply Kd.N_alloc | apply Kd.N_drewN | apply Kd.N_drew)); exact HO515.out)) k_ hn_)), Or.elim hk_.1 (fun hs_ => fun e_ => Nat.not_le.2 hs_ (by rw [e_]; exact GW481.out)) (fun hn_ => (Kd.freshB (g := gb481) (o := .cells #[.slice A0_0 l0_0.length c0_0, .slice A0_1 l0_1.length c0_1, .slice A0_2 l0_2.length c0_2, .slice A0_3 l0_3.length c0_3] 43 (0, 0)) (by (with_reducible repeat (first | refine blk_drewN ?_ _ | refine blk_drew ?_ | refine blk_alloc ?_ _)); exact BK481.out) k_ hn_)), Or.elim hk_.1 (fun hs_ => fun e_ => Nat.not_le.2 hs_ (by rw [e_]; exact GW482.out)) (fun hn_ => (Kd.freshB (g := gb482) (o := .cells #[.slice A1_0 l1_0.length c1_0, .slice A1_1 l1_1.length c1_1, .slice A1_2 l1_2.length c1_2, .slice A1_3 l1_3.length c1_3] 43 (0, 0)) (by (with_reducible repeat (first | refine blk_drewN ?_ _ | refine blk_drew ?_ | refine blk_alloc ?_ _)); exact BK482.out) k_ hn_))⟩)) (below_size (by repeat (first | (with_reducible first | exact HB.out | apply below_alloc | apply pw_below_drewN | apply below_drew1 | refine below_set ?_ GE481.out | refine below_set ?_ GE482.out) | exact HB.out))))
                have n8_ := Aside0.mk (blk_below (g := gb481) (o := .cells #[.slice A0_0 l0_0.length c0_0, .slice A0_1 l0_1.length c0_1, .slice A0_2 l0_2.length c0_2, .slice A0_3 l0_3.length c0_3] 43 (0, 0)) (by (with_reducible repeat (first | refine blk_drewN ?_ _ | refine blk_drew ?_ | refine blk_alloc ?_ _)); exact BK481.out) hb)
                have n9_ := Aside0.mk (blk_below (g := gb482) (o := .cells #[.slice A1_0 l1_0.length c1_0, .slice A1_1 l1_1.length c1_1, .slice A1_2 l1_2.length c1_2, .slice A1_3 l1_3.length c1_3] 43 (0, 0)) (by (with_reducible repeat (first | refine blk_drewN ?_ _ | refine blk_drew ?_ | refine blk_alloc ?_ _)); exact BK482.out) hb)
                have n10_ := Aside0.mk (below_step (by repeat (first | (with_reducible first | exact HB.out | apply below_alloc | apply pw_below_drewN | apply below_drew1 | refine below_set ?_ GE481.out | refine below_set ?_ GE482.out) | exact HB.out)) hb)
                clear HO506
                clear HO509
                clear HO512
                clear HO515
                clear BK481
                clear BK482
                clear HB
                have HO506 := n0_
                have HO509 := n1_
                have HO512 := n2_
                have HO515 := n3_
                have HO518 := n4_
                have HO521 := n5_
                have HO524 := n6_
                have HO527 := n7_
                have BK481 := n8_
                have BK482 := n9_
                have HB := n10_
                clear n0_ n1_ n2_ n3_ n4_ n5_ n6_ n7_ n8_ n9_ n10_
                (try clear hb)
                (try clear hb2)
                (try clear hk)
                (try clear hi)
                (try clear ho0)
                (try clear ho1)
                (try clear ho2)
                (try clear ho3)
                obtain ⟨Ao106, co106, eo106⟩ := Kd.N_slice HO506.out
                (first | subst eo106 | (injection eo106 with f1_ f2_ f3_; have f4_ := f1_.symm; have f5_ := f3_.symm; clear f1_ f2_ f3_; subst f4_; subst f5_))
                obtain ⟨Ao107, co107, eo107⟩ := Kd.R_slice HO509.out
                (first | subst eo107 | (injection eo107 with f1_ f2_ f3_; have f4_ := f1_.symm; have f5_ := f3_.symm; clear f1_ f2_ f3_; subst f4_; subst f5_))
                obtain ⟨Ao108, co108, eo108⟩ := Kd.N_slice HO512.out
                (first | subst eo108 | (injection eo108 with f1_ f2_ f3_; have f4_ := f1_.symm; have f5_ := f3_.symm; clear f1_ f2_ f3_; subst f4_; subst f5_))
                obtain ⟨Ao109, co109, eo109⟩ := Kd.N_slice HO515.out
                (first | subst eo109 | (injection eo109 with f1_ f2_ f3_; have f4_ := f1_.symm; have f5_ := f3_.symm; clear f1_ f2_ f3_; subst f4_; subst f5_))
                obtain ⟨Ao110, co110, eo110⟩ := Kd.N_slice HO518.out
                (first | subst eo110 | (injection eo110 with f1_ f2_ f3_; have f4_ := f1_.symm; have f5_ := f3_.symm; clear f1_ f2_ f3_; subst f4_; subst f5_))
                obtain ⟨Ao111, co111, eo111⟩ := Kd.R_slice HO521.out
                (first | subst eo111 | (injection eo111 with f1_ f2_ f3_; have f4_ := f1_.symm; have f5_ := f3_.symm; clear f1_ f2_ f3_; subst f4_; subst f5_))
                obtain ⟨Ao112, co112, eo112⟩ := Kd.N_slice HO524.out
                (first | subst eo112 | (injection eo112 with f1_ f2_ f3_; have f4_ := f1_.symm; have f5_ := f3_.symm; clear f1_ f2_ f3_; subst f4_; subst f5_))
                obtain ⟨Ao113, co113, eo113⟩ := Kd.N_slice HO527.out
                (first | subst eo113 | (injection eo113 with f1_ f2_ f3_; have f4_ := f1_.symm; have f5_ := f3_.symm; clear f1_ f2_ f3_; subst f4_; subst f5_))
                refine hK.out _ _ ⟨(blk_cell BK481.out 0).trans rfl, (blk_cell BK481.out 1).trans rfl, (blk_cell BK481.out 2).trans rfl, (blk_cell BK481.out 3).trans rfl, (blk_cell BK482.out 0).trans rfl, (blk_cell BK482.out 1).trans rfl, (blk_cell BK482.out 2).trans rfl, (blk_cell BK482.out 3).trans rfl⟩ (fun hHeld => ?_)
                clear hK K
                refine norm_ (a' := ?_) ?_ ?_
                rotate_left
                ·show Act.put _ (some 188) _ = _
                 simp only [Act.put, List.setIfInBounds_toArray, List.set_cons_zero, List.set_cons_succ, i64_w, i32_w]
                 rfl
                refine one_ (i := 6) (N := some 189) (flg 11 255) rfl rfl (one_of HT_.out (by kernel_rfl)) (by decide) (fun K hK => ?_)
                refine goes_ Tryd.func28 (by kernel_rfl) rfl #[.agg #[.slice Ao106 t504.length co106, .slice Ao107 t507.length co107, .slice Ao108 t510.length co108, .slice Ao109 t513.length co109], .agg #[.slice Ao110 t516.length co110, .slice Ao111 t519.length co111, .slice Ao112 t522.length co112, .slice Ao113 t525.length co113]] (by rfl) rfl rfl (by (try simp only [List.map_toArray, List.map_cons, List.map_nil]); first | done | rfl | (simp only [List.length_drop, List.length_take]; rfl)) ?_
                with_reducible refine (tree_Same.calls kj72 _ _ t504 _ _ t507 _ _ t510 _ _ t513 _ _ t516 _ _ t519 _ _ t522 _ _ t525 t528 _ ?side1 ?side2 ?side3 ?side4 ?side5 ?side6 ?side7 ?side8 ?side9 ?side10 ?side11 ?side12 ?side13 ?side14 ?side15 ?side16 A101.out).mono ?_
                (case side1 => repeat (first | exact (Kd.N_reads' HO506.out).2.2 | (with_reducible refine Kd.C_alloc ?_ _) | (with_reducible refine Kd.C_drewN ?_ _) | (with_reducible refine Kd.C_drew ?_)))
                (case side2 => exact (Kd.N_reads' HO506.out).2.1)
                (case side3 => repeat (first | exact (Kd.R_reads' HO509.out).2.2 | (with_reducible refine Kd.C_alloc ?_ _) | (with_reducible refine Kd.C_drewN ?_ _) | (with_reducible refine Kd.C_drew ?_)))
                (case side4 => exact (Kd.R_reads' HO509.out).2.1)
                (case side5 => repeat (first | exact (Kd.N_reads' HO512.out).2.2 | (with_reducible refine Kd.C_alloc ?_ _) | (with_reducible refine Kd.C_drewN ?_ _) | (with_reducible refine Kd.C_drew ?_)))
                (case side6 => exact (Kd.N_reads' HO512.out).2.1)
                (case side7 => repeat (first | exact (Kd.N_reads' HO515.out).2.2 | (with_reducible refine Kd.C_alloc ?_ _) | (with_reducible refine Kd.C_drewN ?_ _) | (with_reducible refine Kd.C_drew ?_)))
                (case side8 => exact (Kd.N_reads' HO515.out).2.1)
                (case side9 => repeat (first | exact (Kd.N_reads' HO518.out).2.2 | (with_reducible refine Kd.C_alloc ?_ _) | (with_reducible refine Kd.C_drewN ?_ _) | (with_reducible refine Kd.C_drew ?_)))
                (case side10 => exact (Kd.N_reads' HO518.out).2.1)
                (case side11 => repeat (first | exact (Kd.R_reads' HO521.out).2.2 | (with_reducible refine Kd.C_alloc ?_ _) | (with_reducible refine Kd.C_drewN ?_ _) | (with_reducible refine Kd.C_drew ?_)))
                (case side12 => exact (Kd.R_reads' HO521.out).2.1)
                (case side13 => repeat (first | exact (Kd.N_reads' HO524.out).2.2 | (with_reducible refine Kd.C_alloc ?_ _) | (with_reducible refine Kd.C_drewN ?_ _) | (with_reducible refine Kd.C_drew ?_)))
                (case side14 => exact (Kd.N_reads' HO524.out).2.1)
                (case side15 => repeat (first | exact (Kd.N_reads' HO527.out).2.2 | (with_reducible refine Kd.C_alloc ?_ _) | (with_reducible refine Kd.C_drewN ?_ _) | (with_reducible refine Kd.C_drew ?_)))
                (case side16 => exact (Kd.N_reads' HO527.out).2.1)
                rintro e w114 ⟨rfl, hb⟩
                refine ⟨_, rfl, ?_⟩
                have n0_ := Aside0.mk (Kd.N_below (by (with_reducible repeat (first | apply Kd.N_alloc | apply Kd.N_drewN | apply Kd.N_drew)); exact HO506.out) hb)
                have n1_ := Aside0.mk (Kd.R_below (by (with_reducible repeat (first | apply Kd.R_alloc | apply Kd.R_drewN | apply Kd.R_drew)); exact HO509.out) hb)
                have n2_ := Aside0.mk (Kd.N_below (by (with_reducible repeat (first | apply Kd.N_alloc | apply Kd.N_drewN | apply Kd.N_drew)); exact HO512.out) hb)
                have n3_ := Aside0.mk (Kd.N_below (by (with_reducible repeat (first | apply Kd.N_alloc | apply Kd.N_drewN | apply Kd.N_drew)); exact HO515.out) hb)
                have n4_ := Aside0.mk (Kd.N_below (by (with_reducible repeat (first | apply Kd.N_alloc | apply Kd.N_drewN | apply Kd.N_drew)); exact HO518.out) hb)
                have n5_ := Aside0.mk (Kd.R_below (by (with_reducible repeat (first | apply Kd.R_alloc | apply Kd.R_drewN | apply Kd.R_drew)); exact HO521.out) hb)
                have n6_ := Aside0.mk (Kd.N_below (by (with_reducible repeat (first | apply Kd.N_alloc | apply Kd.N_drewN | apply Kd.N_drew)); exact HO524.out) hb)
                have n7_ := Aside0.mk (Kd.N_below (by (with_reducible repeat (first | apply Kd.N_alloc | apply Kd.N_drewN | apply Kd.N_drew)); exact HO527.out) hb)
                have n8_ := Aside0.mk (blk_below (g := gb481) (o := .cells #[.slice A0_0 l0_0.length c0_0, .slice A0_1 l0_1.length c0_1, .slice A0_2 l0_2.length c0_2, .slice A0_3 l0_3.length c0_3] 43 (0, 0)) (by (with_reducible repeat (first | refine blk_drewN ?_ _ | refine blk_drew ?_ | refine blk_alloc ?_ _)); exact BK481.out) hb)
                have n9_ := Aside0.mk (blk_below (g := gb482) (o := .cells #[.slice A1_0 l1_0.length c1_0, .slice A1_1 l1_1.length c1_1, .slice A1_2 l1_2.length c1_2, .slice A1_3 l1_3.length c1_3] 43 (0, 0)) (by (with_reducible repeat (first | refine blk_drewN ?_ _ | refine blk_drew ?_ | refine blk_alloc ?_ _)); exact BK482.out) hb)
                have n10_ := Aside0.mk (below_step (by repeat (first | (with_reducible first | exact HB.out | apply below_alloc | apply pw_below_drewN | apply below_drew1 | refine below_set ?_ GE481.out | refine below_set ?_ GE482.out) | exact HB.out)) hb)
                clear HO506
                clear HO509
                clear HO512
                clear HO515
                clear HO518
                clear HO521
                clear HO524
                clear HO527
                clear BK481
                clear BK482
                clear HB
                have HO506 := n0_
                have HO509 := n1_
                have HO512 := n2_
                have HO515 := n3_
                have HO518 := n4_
                have HO521 := n5_
                have HO524 := n6_
                have HO527 := n7_
                have BK481 := n8_
                have BK482 := n9_
                have HB := n10_
                clear n0_ n1_ n2_ n3_ n4_ n5_ n6_ n7_ n8_ n9_ n10_
                (try clear hb)
                (try clear hb2)
                (try clear hk)
                (try clear hi)
                refine hK.out _ _ ⟨(blk_cell BK481.out 0).trans rfl, (blk_cell BK481.out 1).trans rfl, (blk_cell BK481.out 2).trans rfl, (blk_cell BK481.out 3).trans rfl, (blk_cell BK482.out 0).trans rfl, (blk_cell BK482.out 1).trans rfl, (blk_cell BK482.out 2).trans rfl, (blk_cell BK482.out 3).trans rfl⟩ (fun hHeld => ?_)
                clear hK K
                refine norm_ (a' := ?_) ?_ ?_
                rotate_left
                ·show Act.put _ (some 189) _ = _
                 simp only [Act.put, List.setIfInBounds_toArray, List.set_cons_zero, List.set_cons_succ, i64_w, i32_w]
                 rfl
                refine pure_ (i := 8) (N := some 191) (v := ?_) (a' := ?_) (flg 11 511) rfl rfl (any_of HT_.out (by kernel_rfl)) (fun _ _ _ h => h) (Or.inl ⟨by rfl, ?_⟩) ?_ ?_; rotate_left; intro w'; go_simp; with_reducible rfl; rotate_left; (simp only [Act.put, pA_, pB_, pC_, i64_w, i32_w]; rfl)
                refine pure_ (i := 9) (N := some 192) (v := ?_) (a' := ?_) (flg 11 1023) rfl rfl (any_of HT_.out (by kernel_rfl)) (fun _ _ _ h => h) (Or.inl ⟨by rfl, ?_⟩) ?_ ?_; rotate_left; intro w'; go_simp; with_reducible rfl; rotate_left; (simp only [Act.put, pA_, pB_, pC_, i64_w, i32_w]; rfl)
                refine pure_ (i := 10) (N := some 4) (v := ?_) (a' := ?_) (flg 11 2047) rfl rfl (any_of HT_.out (by kernel_rfl)) (fun _ _ _ h => h) (Or.inl ⟨by rfl, ?_⟩) ?_ ?_; rotate_left; intro w'; go_simp; with_reducible rfl; rotate_left; (simp only [Act.put, pA_, pB_, pC_, i64_w, i32_w]; rfl)
                refine done_ (done_of HT_.out (by kernel_rfl)) ?_
                try go_wp2
                go_ret
                exact ⟨by first | rfl | (simp [errW_none, errW_some] <;> rfl) | (simp [*, errW_none, errW_some] <;> rfl), by repeat (first | (with_reducible first | exact HB.out | apply below_alloc | apply pw_below_drewN | apply below_drew1 | refine below_set ?_ GE481.out | refine below_set ?_ GE482.out) | exact HB.out)⟩
               ·replace c98 := Bool.eq_false_iff.mpr c98
                subst c98
                have H1 : (some false) = some r := by rw [if_neg (show ¬ (false = true) by decide)] at H; exact H
                clear H
                have H := H1
                clear H1
                obtain rfl := Option.some.inj H
                try go_wp2
                have n0_ := Aside0.mk (blk_drew BK481.out)
                have n1_ := Aside0.mk (blk_drew BK482.out)
                have n2_ := Aside0.mk (below_drew1 HB.out)
                clear BK481
                clear BK482
                clear HB
                have BK481 := n0_
                have BK482 := n1_
                have HB := n2_
                clear n0_ n1_ n2_
                refine start_ (n := 11) (S := fun w' => True) (ds := []) (flg 11 0) (by kernel_rfl) rfl (by kernel_rfl) trivial (fun hHeld => ?_); refine with_tabW helmsmanlaw12_TreeKinds.tab20 helmsmanlaw12_TreeKinds.bits20 (fun HT_ HW_ => ?_)
                generalize wc.drew = w115 at BK481 BK482 HB hHeld ⊢
                refine one_ (i := 0) (N := some 183) (flg 11 1) rfl rfl (one_of HT_.out (by kernel_rfl)) (by decide) (fun K hK => ?_)
                refine goes_ Tryd.func10 (by kernel_rfl) rfl #[] (by rfl) rfl rfl (by (try simp only [List.map_toArray, List.map_cons, List.map_nil]); first | done | rfl | (simp only [List.length_drop, List.length_take]; rfl)) ?_
                with_reducible refine (helmsmanlaw12_alive.calls  false _ ?side1 A97.out).mono ?_
                (case side1 => exact hT.later (by repeat (first | (with_reducible first | exact HB.out | apply below_alloc | apply pw_below_drewN | apply below_drew1 | refine below_set ?_ GE481.out | refine below_set ?_ GE482.out) | exact HB.out)))
                rintro e w116 ⟨rfl, hb⟩
                refine ⟨_, rfl, ?_⟩
                have n0_ := Aside0.mk (blk_below (g := gb481) (o := .cells #[.slice A0_0 l0_0.length c0_0, .slice A0_1 l0_1.length c0_1, .slice A0_2 l0_2.length c0_2, .slice A0_3 l0_3.length c0_3] 43 (0, 0)) (by (with_reducible repeat (first | refine blk_drewN ?_ _ | refine blk_drew ?_ | refine blk_alloc ?_ _)); exact BK481.out) hb)
                have n1_ := Aside0.mk (blk_below (g := gb482) (o := .cells #[.slice A1_0 l1_0.length c1_0, .slice A1_1 l1_1.length c1_1, .slice A1_2 l1_2.length c1_2, .slice A1_3 l1_3.length c1_3] 43 (0, 0)) (by (with_reducible repeat (first | refine blk_drewN ?_ _ | refine blk_drew ?_ | refine blk_alloc ?_ _)); exact BK482.out) hb)
                have n2_ := Aside0.mk (below_step (by repeat (first | (with_reducible first | exact HB.out | apply below_alloc | apply pw_below_drewN | apply below_drew1 | refine below_set ?_ GE481.out | refine below_set ?_ GE482.out) | exact HB.out)) hb)
                clear BK481
                clear BK482
                clear HB
                have BK481 := n0_
                have BK482 := n1_
                have HB := n2_
                clear n0_ n1_ n2_
                (try clear hb)
                (try clear hb2)
                (try clear hk)
                (try clear hi)
                refine hK.out _ _ trivial (fun hHeld => ?_)
                clear hK K
                refine norm_ (a' := ?_) ?_ ?_
                rotate_left
                ·show Act.put _ (some 183) _ = _
                 simp only [Act.put, List.setIfInBounds_toArray, List.set_cons_zero, List.set_cons_succ, i64_w, i32_w]
                 rfl
                refine pure_ (i := 1) (N := some 184) (v := ?_) (a' := ?_) (flg 11 3) rfl rfl (any_of HT_.out (by kernel_rfl)) (fun _ _ _ h => h) (Or.inl ⟨by rfl, ?_⟩) ?_ ?_; rotate_left; intro w'; go_simp; with_reducible rfl; rotate_left; (simp only [Act.put, pA_, pB_, pC_, i64_w, i32_w]; rfl)
                refine skp_ (a' := ?_) 2 185 (flg 11 7) rfl rfl (any_of HT_.out (by kernel_rfl)) (fun _ _ _ h => h) (by rfl) ?_ ?_; rotate_left; (simp only [Act.put, pA_, pB_, pC_, i64_w, i32_w]; rfl)
                refine skp_ (a' := ?_) 3 186 (flg 11 15) rfl rfl (any_of HT_.out (by kernel_rfl)) (fun _ _ _ h => h) (by rfl) ?_ ?_; rotate_left; (simp only [Act.put, pA_, pB_, pC_, i64_w, i32_w]; rfl)
                refine skp_ (a' := ?_) 4 187 (flg 11 31) rfl rfl (any_of HT_.out (by kernel_rfl)) (fun _ _ _ h => h) (by rfl) ?_ ?_; rotate_left; (simp only [Act.put, pA_, pB_, pC_, i64_w, i32_w]; rfl)
                refine skp_ (a' := ?_) 5 188 (flg 11 63) rfl rfl (any_of HT_.out (by kernel_rfl)) (fun _ _ _ h => h) (by rfl) ?_ ?_; rotate_left; (simp only [Act.put, pA_, pB_, pC_, i64_w, i32_w]; rfl)
                refine skp_ (a' := ?_) 6 189 (flg 11 127) rfl rfl (any_of HT_.out (by kernel_rfl)) (fun _ _ _ h => h) (by rfl) ?_ ?_; rotate_left; (simp only [Act.put, pA_, pB_, pC_, i64_w, i32_w]; rfl)
                refine skp_ (a' := ?_) 7 190 (flg 11 255) rfl rfl (any_of HT_.out (by kernel_rfl)) (fun _ _ _ h => h) (by rfl) ?_ ?_; rotate_left; (simp only [Act.put, pA_, pB_, pC_, i64_w, i32_w]; rfl)
                refine skp_ (a' := ?_) 8 191 (flg 11 511) rfl rfl (any_of HT_.out (by kernel_rfl)) (fun _ _ _ h => h) (by rfl) ?_ ?_; rotate_left; (simp only [Act.put, pA_, pB_, pC_, i64_w, i32_w]; rfl)
                refine pure_ (i := 9) (N := some 192) (v := ?_) (a' := ?_) (flg 11 1023) rfl rfl (any_of HT_.out (by kernel_rfl)) (fun _ _ _ h => h) (Or.inl ⟨by rfl, ?_⟩) ?_ ?_; rotate_left; intro w'; go_simp; with_reducible rfl; rotate_left; (simp only [Act.put, pA_, pB_, pC_, i64_w, i32_w]; rfl)
                refine pure_ (i := 10) (N := some 4) (v := ?_) (a' := ?_) (flg 11 2047) rfl rfl (any_of HT_.out (by kernel_rfl)) (fun _ _ _ h => h) (Or.inl ⟨by rfl, ?_⟩) ?_ ?_; rotate_left; intro w'; go_simp; with_reducible rfl; rotate_left; (simp only [Act.put, pA_, pB_, pC_, i64_w, i32_w]; rfl)
                refine done_ (done_of HT_.out (by kernel_rfl)) ?_
                try go_wp2
                go_ret
                exact ⟨by first | rfl | (simp [errW_none, errW_some] <;> rfl) | (simp [*, errW_none, errW_some] <;> rfl), by repeat (first | (with_reducible first | exact HB.out | apply below_alloc | apply pw_below_drewN | apply below_drew1 | refine below_set ?_ GE481.out | refine below_set ?_ GE482.out) | exact HB.out)⟩

end Go.Proofs.YtnnbbeloifhofaaDoor.P
end
