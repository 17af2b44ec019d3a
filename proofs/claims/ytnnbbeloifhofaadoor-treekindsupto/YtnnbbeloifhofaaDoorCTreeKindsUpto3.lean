/- Texts of this claim, joined: Pxr47500j, Pxf46, Pxf51500, Pxf28, TrSame, Pxf11. -/
import Derived.Test.YtnnbbeloifhofaaDoorCTreeKindsUpto0
import Derived.Test.YtnnbbeloifhofaaDoorCTreeKindsUpto2
import Derived.Test.YtnnbbeloifhofaaDoorCTreeKindsUpto1
section
namespace Go.Proofs.YtnnbbeloifhofaaDoor.P
open Go.RowKit Go.Proofs.YtnnbbeloifhofaaDoorW.PrintWords Go.Proofs.YtnnbbeloifhofaaDoorW.PrintLast Go.Proofs.YtnnbbeloifhofaaDoorW.PrintMore
attribute [local go_sem] max2_int min2_int max_two min_two max_three min_three max_four min_four   -- for this text's walks alone
set_option linter.unusedVariables false
set_option linter.unusedSimpArgs false

theorem tree_Stmt_at_tree_sameStmt_ring.all (k : Nat) : tree_Stmt_at_tree_sameStmt.Stmt k ∧ tree_sameStmt.Stmt k := by
  induction k using Nat.strongRecOn with
  | _ k ih =>
  exact ⟨tree_Stmt_at_tree_sameStmt.step k (fun m_ h_ => (ih m_ h_).1) (fun m_ h_ => (ih m_ h_).2), tree_sameStmt.step k (fun m_ h_ => (ih m_ h_).1) (fun m_ h_ => (ih m_ h_).2)⟩
theorem tree_Stmt_at_tree_sameStmt.calls (k : Nat) : tree_Stmt_at_tree_sameStmt.Stmt k := (tree_Stmt_at_tree_sameStmt_ring.all k).1
theorem tree_sameStmt.calls (k : Nat) : tree_sameStmt.Stmt k := (tree_Stmt_at_tree_sameStmt_ring.all k).2

end Go.Proofs.YtnnbbeloifhofaaDoor.P
end

section
namespace Go.Proofs.YtnnbbeloifhofaaDoor.P
open Go.RowKit Go.Proofs.YtnnbbeloifhofaaDoorW.PrintWords Go.Proofs.YtnnbbeloifhofaaDoorW.PrintLast Go.Proofs.YtnnbbeloifhofaaDoorW.PrintMore
attribute [local go_sem] max2_int min2_int max_two min_two max_three min_three max_four min_four   -- for this text's walks alone
set_option linter.unusedVariables false
set_option linter.unusedSimpArgs false

/-! ### tree_Same_2: function 46 -/
def tree_Same_2.f (k : Nat) (a0_0 : ByteArray) (l0_1 : List (S76)) (a1_0 : ByteArray) (l1_1 : List (S76)) : Option (Bool) := if a0_0.toList = a1_0.toList then ((tree_Stmt_at_tree_sameStmt.f k l0_1 l1_1).bind fun t370 => (some t370)) else (some false)
theorem tree_Same_2.mono : ∀ a0 a1 a2 a3 k, LeO (tree_Same_2.f k a0 a1 a2 a3) (tree_Same_2.f (k + 1) a0 a1 a2 a3) := by
  intro a0 a1 a2 a3 k
  unfold tree_Same_2.f
  repeat' first
      | (with_reducible exact tree_Stmt_at_tree_sameStmt.mono _ _ _)
      | (with_reducible exact LeO.refl _)
      | (with_reducible exact LeO.none _)
      | (with_reducible refine LeO.ite ?_ ?_)
      | (with_reducible refine LeO.bind ?_ (fun _ => ?_))
      | exact tree_Stmt_at_tree_sameStmt.mono _ _ _
      | exact LeO.none _
      | refine LeO.ite ?_ ?_
      | refine LeO.bind ?_ (fun _ => ?_)
set_option maxHeartbeats 8000000 in
set_option maxRecDepth 100000 in
theorem tree_Same_2.calls (k : Nat) (a0_0 : ByteArray) (A0_1 : Option Addr) (c0_1 : Nat) (l0_1 : List (S76)) (a1_0 : ByteArray) (A1_1 : Option Addr) (c1_1 : Nat) (l1_1 : List (S76)) (r : Bool) (w : World) (hr0_1 : Kd.C k76 w A0_1 l0_1.length l0_1) (hc0_1 : l0_1.length ≤ c0_1) (hr1_1 : Kd.C k76 w A1_1 l1_1.length l1_1) (hc1_1 : l1_1.length ≤ c1_1) (h : tree_Same_2.f k a0_0 l0_1 a1_0 l1_1 = some r) :
    Calls Tryd.prog 46 #[.agg #[.string a0_0, .slice A0_1 l0_1.length c0_1], .agg #[.string a1_0, .slice A1_1 l1_1.length c1_1]] w fun e w' => e = .returned (.bool r) ∧ Below w.heap.size w w' := by
  have hu66 := Tryd.underlying66
  have HR0_1 := Aside0.mk hr0_1
  have HC0_1 := Aside0.mk hc0_1
  clear hr0_1 hc0_1
  have HR1_1 := Aside0.mk hr1_1
  have HC1_1 := Aside0.mk hc1_1
  clear hr1_1 hc1_1
  have HB := Aside0.mk (Below.refl w.heap.size w)
  have H : (if a0_0.toList = a1_0.toList then ((tree_Stmt_at_tree_sameStmt.f k l0_1 l1_1).bind fun t370 => (some t370)) else (some false)) = some r := h
  clear h
  by_cases c3 : a0_0.toList = a1_0.toList
  · rw [if_pos c3] at H
    have c3b0 : (a0_0.toList == a1_0.toList) = true := beq_iff_eq.mpr c3
    have c3b1 : (a0_0.toList != a1_0.toList) = false := bne_eq_false_iff_eq.mpr c3
    clear c3
    replace H := Option.bind_eq_some_iff.mp H
    obtain ⟨t370, A40, H⟩ := H
    replace H : (some t370) = some r := H
    have A4 := Aside0.mk A40
    clear A40
    obtain rfl := Option.some.inj H
    go_enter Tryd.func46, Tryd.ntmps46
    go_wp2_with (first | ((with_reducible refine gate_dst (N := 2) rfl ?_); refine box_event ?hg (N := 2) ?hd (cs := #[.string a0_0, .slice A0_1 l0_1.length c0_1]) (t := 66) ?hr ?_; (case hd => rfl); (case hg => rfl); (case hr => first | (go_simp; done) | (go_simp; rfl)); intro gb368 hg w5 hbox hb; have n0_ := Aside0.mk (below_step (by repeat (first | (with_reducible first | exact HB.out | apply below_alloc | apply pw_below_drewN | apply below_drew1) | exact HB.out)) hb); have n1_ := Aside0.mk (hbox); have n2_ := Aside0.mk ((by rw [hg]; exact (below_size (by repeat (first | (with_reducible first | exact HB.out | apply below_alloc | apply pw_below_drewN | apply below_drew1) | exact HB.out))) : w.heap.size ≤ gb368)); have n3_ := Aside0.mk ((by rw [hg]; exact (below_size (by repeat (first | (with_reducible first | exact HB.out | apply below_alloc | apply pw_below_drewN | apply below_drew1) | exact HB.out))) : w.heap.size ≤ gb368)); clear HB; have HB := n0_; have BK368 := n1_; have GW368 := n2_; have GE368 := n3_; clear n0_ n1_ n2_ n3_; clear hb hbox hg) | ((with_reducible refine gate_dst (N := 3) rfl ?_); refine box_event ?hg (N := 3) ?hd (cs := #[.string a1_0, .slice A1_1 l1_1.length c1_1]) (t := 66) ?hr ?_; (case hd => rfl); (case hg => rfl); (case hr => first | (go_simp; done) | (go_simp; rfl)); intro gb369 hg w6 hbox hb; have n0_ := Aside0.mk (blk_below (g := gb368) (o := .cells #[.string a0_0, .slice A0_1 l0_1.length c0_1] 66 (0, 0)) (by (with_reducible repeat (first | refine blk_drewN ?_ _ | refine blk_drew ?_ | refine blk_alloc ?_ _)); exact BK368.out) hb); have n1_ := Aside0.mk (below_step (by repeat (first | (with_reducible first | exact HB.out | apply below_alloc | apply pw_below_drewN | apply below_drew1 | refine below_set ?_ GE368.out) | exact HB.out)) hb); have n2_ := Aside0.mk (hbox); have n3_ := Aside0.mk ((by rw [hg]; exact (below_size (by repeat (first | (with_reducible first | exact HB.out | apply below_alloc | apply pw_below_drewN | apply below_drew1 | refine below_set ?_ GE368.out) | exact HB.out))) : w.heap.size ≤ gb369)); have n4_ := Aside0.mk ((by rw [hg]; exact (below_size (by repeat (first | (with_reducible first | exact HB.out | apply below_alloc | apply pw_below_drewN | apply below_drew1 | refine below_set ?_ GE368.out) | exact HB.out))) : w.heap.size ≤ gb369)); have n5_ := Aside0.mk ((by rw [hg]; exact Nat.ne_of_lt (blk_lt (g := gb368) (o := .cells #[.string a0_0, .slice A0_1 l0_1.length c0_1] 66 (0, 0)) (by (with_reducible repeat (first | refine blk_drewN ?_ _ | refine blk_drew ?_ | refine blk_alloc ?_ _)); exact BK368.out)) : gb368 ≠ gb369)); have n6_ := Aside0.mk ((by rw [hg]; exact Nat.ne_of_gt (blk_lt (g := gb368) (o := .cells #[.string a0_0, .slice A0_1 l0_1.length c0_1] 66 (0, 0)) (by (with_reducible repeat (first | refine blk_drewN ?_ _ | refine blk_drew ?_ | refine blk_alloc ?_ _)); exact BK368.out)) : gb369 ≠ gb368)); clear BK368; clear HB; have BK368 := n0_; have HB := n1_; have BK369 := n2_; have GW369 := n3_; have GE369 := n4_; have NB368_369 := n5_; have NB369_368 := n6_; clear n0_ n1_ n2_ n3_ n4_ n5_ n6_; clear hb hbox hg; have hnb7 := NB368_369.out; have hnc7 := NB369_368.out; have hcz8_0 : w6.cell? ⟨gb368, 0, none⟩ = some (.string a0_0) := (blk_cell BK368.out 0).trans rfl; have hcz8_1 : w6.cell? ⟨gb368, 1, none⟩ = some (.slice A0_1 l0_1.length c0_1) := (blk_cell BK368.out 1).trans rfl; have hfz8_0 := blk_frozen BK368.out 0; have hfz8_1 := blk_frozen BK368.out 1; have hcz9_0 : w6.cell? ⟨gb369, 0, none⟩ = some (.string a1_0) := (blk_cell BK369.out 0).trans rfl; have hcz9_1 : w6.cell? ⟨gb369, 1, none⟩ = some (.slice A1_1 l1_1.length c1_1) := (blk_cell BK369.out 1).trans rfl; have hfz9_0 := blk_frozen BK369.out 0; have hfz9_1 := blk_frozen BK369.out 1) | (go_at_call 47; (with_reducible refine (tree_Stmt_at_tree_sameStmt.calls k _ _ l0_1 _ _ l1_1 t370 _ ?side1 ?side2 ?side3 ?side4 A4.out).mono ?_); (case side1 => repeat (first | exact (Kd.C_below HR0_1.out HB.out) | (with_reducible refine Kd.C_alloc ?_ _) | (with_reducible refine Kd.C_drewN ?_ _) | (with_reducible refine Kd.C_drew ?_))); (case side2 => exact HC0_1.out); (case side3 => repeat (first | exact (Kd.C_below HR1_1.out HB.out) | (with_reducible refine Kd.C_alloc ?_ _) | (with_reducible refine Kd.C_drewN ?_ _) | (with_reducible refine Kd.C_drew ?_))); (case side4 => exact HC1_1.out); rintro e w10 ⟨rfl, hb⟩; have n0_ := Aside0.mk (blk_below (g := gb368) (o := .cells #[.string a0_0, .slice A0_1 l0_1.length c0_1] 66 (0, 0)) (by (with_reducible repeat (first | refine blk_drewN ?_ _ | refine blk_drew ?_ | refine blk_alloc ?_ _)); exact BK368.out) hb); have n1_ := Aside0.mk (blk_below (g := gb369) (o := .cells #[.string a1_0, .slice A1_1 l1_1.length c1_1] 66 (0, 0)) (by (with_reducible repeat (first | refine blk_drewN ?_ _ | refine blk_drew ?_ | refine blk_alloc ?_ _)); exact BK369.out) hb); have n2_ := Aside0.mk (below_step (by repeat (first | (with_reducible first | exact HB.out | apply below_alloc | apply pw_below_drewN | apply below_drew1 | refine below_set ?_ GE368.out | refine below_set ?_ GE369.out) | exact HB.out)) hb); clear BK368; clear BK369; clear HB; have BK368 := n0_; have BK369 := n1_; have HB := n2_; clear n0_ n1_ n2_; (try clear hb); (try clear hb2); (try clear hk); (try clear hi)))
    go_ret
    exact ⟨by first | rfl | (simp [errW_none, errW_some] <;> rfl) | (simp [*, errW_none, errW_some] <;> rfl), by repeat (first | (with_reducible first | exact HB.out | apply below_alloc | apply pw_below_drewN | apply below_drew1 | refine below_set ?_ GE368.out | refine below_set ?_ GE369.out) | exact HB.out)⟩
  · rw [if_neg c3] at H
    have c3b0 : (a0_0.toList == a1_0.toList) = false := beq_eq_false_iff_ne.mpr c3
    have c3b1 : (a0_0.toList != a1_0.toList) = true := bne_iff_ne.mpr c3
    obtain rfl := Option.some.inj H
    go_enter Tryd.func46, Tryd.ntmps46
    go_wp2_with (first | ((with_reducible refine gate_dst (N := 2) rfl ?_); refine box_event ?hg (N := 2) ?hd (cs := #[.string a0_0, .slice A0_1 l0_1.length c0_1]) (t := 66) ?hr ?_; (case hd => rfl); (case hg => rfl); (case hr => first | (go_simp; done) | (go_simp; rfl)); intro gb368 hg w11 hbox hb; have n0_ := Aside0.mk (below_step (by repeat (first | (with_reducible first | exact HB.out | apply below_alloc | apply pw_below_drewN | apply below_drew1) | exact HB.out)) hb); have n1_ := Aside0.mk (hbox); have n2_ := Aside0.mk ((by rw [hg]; exact (below_size (by repeat (first | (with_reducible first | exact HB.out | apply below_alloc | apply pw_below_drewN | apply below_drew1) | exact HB.out))) : w.heap.size ≤ gb368)); have n3_ := Aside0.mk ((by rw [hg]; exact (below_size (by repeat (first | (with_reducible first | exact HB.out | apply below_alloc | apply pw_below_drewN | apply below_drew1) | exact HB.out))) : w.heap.size ≤ gb368)); clear HB; have HB := n0_; have BK368 := n1_; have GW368 := n2_; have GE368 := n3_; clear n0_ n1_ n2_ n3_; clear hb hbox hg) | ((with_reducible refine gate_dst (N := 3) rfl ?_); refine box_event ?hg (N := 3) ?hd (cs := #[.string a1_0, .slice A1_1 l1_1.length c1_1]) (t := 66) ?hr ?_; (case hd => rfl); (case hg => rfl); (case hr => first | (go_simp; done) | (go_simp; rfl)); intro gb369 hg w12 hbox hb; have n0_ := Aside0.mk (blk_below (g := gb368) (o := .cells #[.string a0_0, .slice A0_1 l0_1.length c0_1] 66 (0, 0)) (by (with_reducible repeat (first | refine blk_drewN ?_ _ | refine blk_drew ?_ | refine blk_alloc ?_ _)); exact BK368.out) hb); have n1_ := Aside0.mk (below_step (by repeat (first | (with_reducible first | exact HB.out | apply below_alloc | apply pw_below_drewN | apply below_drew1 | refine below_set ?_ GE368.out) | exact HB.out)) hb); have n2_ := Aside0.mk (hbox); have n3_ := Aside0.mk ((by rw [hg]; exact (below_size (by repeat (first | (with_reducible first | exact HB.out | apply below_alloc | apply pw_below_drewN | apply below_drew1 | refine below_set ?_ GE368.out) | exact HB.out))) : w.heap.size ≤ gb369)); have n4_ := Aside0.mk ((by rw [hg]; exact (below_size (by repeat (first | (with_reducible first | exact HB.out | apply below_alloc | apply pw_below_drewN | apply below_drew1 | refine below_set ?_ GE368.out) | exact HB.out))) : w.heap.size ≤ gb369)); have n5_ := Aside0.mk ((by rw [hg]; exact Nat.ne_of_lt (blk_lt (g := gb368) (o := .cells #[.string a0_0, .slice A0_1 l0_1.length c0_1] 66 (0, 0)) (by (with_reducible repeat (first | refine blk_drewN ?_ _ | refine blk_drew ?_ | refine blk_alloc ?_ _)); exact BK368.out)) : gb368 ≠ gb369)); have n6_ := Aside0.mk ((by rw [hg]; exact Nat.ne_of_gt (blk_lt (g := gb368) (o := .cells #[.string a0_0, .slice A0_1 l0_1.length c0_1] 66 (0, 0)) (by (with_reducible repeat (first | refine blk_drewN ?_ _ | refine blk_drew ?_ | refine blk_alloc ?_ _)); exact BK368.out)) : gb369 ≠ gb368)); clear BK368; clear HB; have BK368 := n0_; have HB := n1_; have BK369 := n2_; have GW369 := n3_; have GE369 := n4_; have NB368_369 := n5_; have NB369_368 := n6_; clear n0_ n1_ n2_ n3_ n4_ n5_ n6_; clear hb hbox hg; have hnb13 := NB368_369.out; have hnc13 := NB369_368.out; have hcz14_0 : w12.cell? ⟨gb368, 0, none⟩ = some (.string a0_0) := (blk_cell BK368.out 0).trans rfl; have hcz14_1 : w12.cell? ⟨gb368, 1, none⟩ = some (.slice A0_1 l0_1.length c0_1) := (blk_cell BK368.out 1).trans rfl; have hfz14_0 := blk_frozen BK368.out 0; have hfz14_1 := blk_frozen BK368.out 1; have hcz15_0 : w12.cell? ⟨gb369, 0, none⟩ = some (.string a1_0) := (blk_cell BK369.out 0).trans rfl; have hcz15_1 : w12.cell? ⟨gb369, 1, none⟩ = some (.slice A1_1 l1_1.length c1_1) := (blk_cell BK369.out 1).trans rfl; have hfz15_0 := blk_frozen BK369.out 0; have hfz15_1 := blk_frozen BK369.out 1))
    go_ret
    exact ⟨by first | rfl | (simp [errW_none, errW_some] <;> rfl) | (simp [*, errW_none, errW_some] <;> rfl), by repeat (first | (with_reducible first | exact HB.out | apply below_alloc | apply pw_below_drewN | apply below_drew1 | refine below_set ?_ GE368.out | refine below_set ?_ GE369.out) | exact HB.out)⟩

end Go.Proofs.YtnnbbeloifhofaaDoor.P
end

section
namespace Go.Proofs.YtnnbbeloifhofaaDoor.P
open Go.RowKit Go.Proofs.YtnnbbeloifhofaaDoorW.PrintWords Go.Proofs.YtnnbbeloifhofaaDoorW.PrintLast Go.Proofs.YtnnbbeloifhofaaDoorW.PrintMore
attribute [local go_sem] max2_int min2_int max_two min_two max_three min_three max_four min_four   -- for this text's walks alone
set_option linter.unusedVariables false
set_option linter.unusedSimpArgs false

/-! ### tree_Proc_at_tree_Same_2: function 51 -/
def tree_Proc_at_tree_Same_2.l0 : Nat → List (S66) → List (S66) → Int → Int → Option (Bool)
  | 0, _, _, _, _ => none
  | k + 1, x1, x15, x16, x17 => if x17 < x16 then (if 0 ≤ x17 then (if x17 < (x15.length : Int) then (if x17 < (x1.length : Int) then ((tree_Same_2.f k ((rd_T66 x15 x17).f0) ((rd_T66 x15 x17).f1) ((rd_T66 x1 x17).f0) ((rd_T66 x1 x17).f1)).bind fun t375 => (if t375 = true then (tree_Proc_at_tree_Same_2.l0 k x1 x15 x16 (wrap64 (x17 + 1))) else (some false))) else (none)) else (none)) else (none)) else (some true)
def tree_Proc_at_tree_Same_2.f (k : Nat) (l0 : List (S66)) (l1 : List (S66))  : Option (Bool) := if (l0.length : Int) = (l1.length : Int) then (tree_Proc_at_tree_Same_2.l0 k l1 l0 (l0.length : Int) 0) else (some false)
theorem tree_Proc_at_tree_Same_2.mono_l : ∀ k, (∀ y0 y1 y2 y3, LeO (tree_Proc_at_tree_Same_2.l0 k y0 y1 y2 y3) (tree_Proc_at_tree_Same_2.l0 (k + 1) y0 y1 y2 y3))
  | 0 => fun _ _ _ _ r h => by simp [tree_Proc_at_tree_Same_2.l0] at h
  | k + 1 => by
    have ih0 := tree_Proc_at_tree_Same_2.mono_l k
    · intro y0 y1 y2 y3
      unfold tree_Proc_at_tree_Same_2.l0
      repeat' first
      | (with_reducible exact ih0 _ _ _ _)
      | (with_reducible exact tree_Same_2.mono _ _ _ _ _)
      | (with_reducible exact LeO.refl _)
      | (with_reducible exact LeO.none _)
      | (with_reducible refine LeO.ite ?_ ?_)
      | (with_reducible refine LeO.bind ?_ (fun _ => ?_))
      | exact ih0 _ _ _ _
      | exact tree_Same_2.mono _ _ _ _ _
      | exact LeO.none _
      | refine LeO.ite ?_ ?_
      | refine LeO.bind ?_ (fun _ => ?_)
theorem tree_Proc_at_tree_Same_2.mono : ∀ a0 a1 k, LeO (tree_Proc_at_tree_Same_2.f k a0 a1) (tree_Proc_at_tree_Same_2.f (k + 1) a0 a1) := by
  intro a0 a1 k
  have ih0 := tree_Proc_at_tree_Same_2.mono_l k
  unfold tree_Proc_at_tree_Same_2.f
  repeat' first
      | (with_reducible exact ih0 _ _ _ _)
      | (with_reducible exact tree_Same_2.mono _ _ _ _ _)
      | (with_reducible exact LeO.refl _)
      | (with_reducible exact LeO.none _)
      | (with_reducible refine LeO.ite ?_ ?_)
      | (with_reducible refine LeO.bind ?_ (fun _ => ?_))
      | exact ih0 _ _ _ _
      | exact tree_Same_2.mono _ _ _ _ _
      | exact LeO.none _
      | refine LeO.ite ?_ ?_
      | refine LeO.bind ?_ (fun _ => ?_)
set_option maxHeartbeats 8000000 in
set_option maxRecDepth 100000 in
theorem tree_Proc_at_tree_Same_2.calls (k : Nat) (A0 : Option Addr) (c0 : Nat) (l0 : List (S66)) (A1 : Option Addr) (c1 : Nat) (l1 : List (S66))  (r : Bool) (w : World) (hr0 : Kd.C k66 w A0 l0.length l0) (hc0 : l0.length ≤ c0) (hr1 : Kd.C k66 w A1 l1.length l1) (hc1 : l1.length ≤ c1) (h : tree_Proc_at_tree_Same_2.f k l0 l1 = some r) :
    Calls Tryd.prog 51 #[.slice A0 l0.length c0, .slice A1 l1.length c1, .func (.func 46) #[] #[]] w fun e w' => e = .returned (.bool r) ∧ Below w.heap.size w w' := by
  have hu66 := Tryd.underlying66
  have HR0 := Aside0.mk hr0
  have HC0 := Aside0.mk hc0
  clear hr0 hc0
  have HR1 := Aside0.mk hr1
  have HC1 := Aside0.mk hc1
  clear hr1 hc1
  have HB := Aside0.mk (Below.refl w.heap.size w)
  have H : (if (l0.length : Int) = (l1.length : Int) then (tree_Proc_at_tree_Same_2.l0 k l1 l0 (l0.length : Int) 0) else (some false)) = some r := h
  clear h
  by_cases c4 : (l0.length : Int) = (l1.length : Int)
  · rw [if_pos c4] at H
    have c4b0 : ((l0.length : Int) == (l1.length : Int)) = true := beq_iff_eq.mpr c4
    have c4b1 : ((l0.length : Int) != (l1.length : Int)) = false := bne_eq_false_iff_eq.mpr c4
    have c4b2 : (l0.length == l1.length) = true := by first | simpa using c4 | (simp at c4 ⊢; omega)
    clear c4
    have H' := Aside0.mk H
    clear H
    go_enter Tryd.func51, Tryd.ntmps51
    go_wp2
    (try simp only [Act.put, List.setIfInBounds_toArray, List.set_cons_succ, List.set_cons_zero])
    go_loopg [17] k (fun kq v17 w' => ∃ (x17_1 : Int), v17 = .int .i64 x17_1 ∧ Aside0 (tree_Proc_at_tree_Same_2.l0 kq l1 l0 (l0.length : Int) x17_1 = some r) ∧ Aside0 (kq ≤ k) ∧ Aside0 (Below w.heap.size w w'))
    case atStart => exact ⟨(0), (by first | rfl | (simp; done) | (simp [*]; done)), H', ⟨Nat.le_refl _⟩, ⟨by repeat (first | (with_reducible first | exact HB.out | apply below_alloc | apply pw_below_drewN | apply below_drew1) | exact HB.out)⟩⟩
    case round =>
      clear H'
      try clear c1
      try clear p2
      try clear c4
      try clear c4b0
      try clear c4b1
      try clear c4b2
      obtain ⟨x17_1, rfl, HA, HK1, HB⟩ := hrel
      cases gk with
      | zero => exact absurd HA.out (by simp [tree_Proc_at_tree_Same_2.l0])
      | succ k1 =>
        have H := HA.out
        clear HA
        simp only [tree_Proc_at_tree_Same_2.l0] at H
        by_cases c5 : x17_1 < (l0.length : Int)
        · rw [if_pos c5] at H
          have c5b0 : decide (x17_1 < (l0.length : Int)) = true := decide_eq_true c5
          clear c5
          by_cases c6 : 0 ≤ x17_1
          · rw [if_pos c6] at H
            have c6b0 : decide (0 ≤ x17_1) = true := decide_eq_true c6
            clear c6
            by_cases c7 : x17_1 < (l0.length : Int)
            · rw [if_pos c7] at H
              have c7b0 : decide (x17_1 < (l0.length : Int)) = true := decide_eq_true c7
              clear c7
              by_cases c8 : x17_1 < (l1.length : Int)
              · rw [if_pos c8] at H
                have c8b0 : decide (x17_1 < (l1.length : Int)) = true := decide_eq_true c8
                clear c8
                replace H := Option.bind_eq_some_iff.mp H
                obtain ⟨t375, A90, H⟩ := H
                replace H : (if t375 = true then (tree_Proc_at_tree_Same_2.l0 k1 l1 l0 (l0.length : Int) (wrap64 (x17_1 + 1))) else (some false)) = some r := H
                have A9 := Aside0.mk A90
                clear A90
                by_cases c10 : t375 = true
                · subst c10
                  have H1 : (tree_Proc_at_tree_Same_2.l0 k1 l1 l0 (l0.length : Int) (wrap64 (x17_1 + 1))) = some r := by rw [if_pos rfl] at H; exact H
                  clear H
                  have H := H1
                  clear H1
                  have H' := Aside0.mk H
                  clear H
                  have p371 : 0 ≤ (x17_1 : Int) := of_decide_eq_true (by first | (with_reducible assumption) | assumption)
                  have q371 : x17_1 < (l0.length : Int) := of_decide_eq_true (by first | (with_reducible assumption) | assumption)
                  obtain ⟨ad371, A371_1, c371_1, e371, hx371_0, hx371_1, hl371_1, hi371_1⟩ := at_T66 HR0.out x17_1 p371 q371
                  cases e371
                  replace hx371_0 := (HB.out.cell (World.block_lt_of_cell? w _ hx371_0)).trans hx371_0
                  replace hx371_1 := (HB.out.cell (World.block_lt_of_cell? w _ hx371_1)).trans hx371_1
                  have HR371_1 := Aside0.mk hi371_1
                  have HC371_1 := Aside0.mk hl371_1
                  clear hi371_1 hl371_1
                  replace p371 := eq_true p371
                  replace q371 := eq_true q371
                  go_wp2_with (first | ((with_reducible refine gate_dst (N := 8) rfl ?_); refine box_event ?hg (N := 8) ?hd (cs := #[.string (⟨#[]⟩ : ByteArray), .slice none 0 0]) (t := 66) ?hr ?_; (case hd => rfl); (case hg => rfl); (case hr => first | (go_simp; done) | (go_simp; rfl)); intro gb372 hg w11 hbox hb; have n0_ := Aside0.mk (below_step (by repeat (first | (with_reducible first | exact HB.out | apply below_alloc | apply pw_below_drewN | apply below_drew1) | exact HB.out)) hb); have n1_ := Aside0.mk (hbox); have n2_ := Aside0.mk ((by rw [hg]; exact (below_size (by repeat (first | (with_reducible first | exact HB.out | apply below_alloc | apply pw_below_drewN | apply below_drew1) | exact HB.out))) : w.heap.size ≤ gb372)); have n3_ := Aside0.mk ((by rw [hg]; exact (below_size (by repeat (first | (with_reducible first | exact HB.out | apply below_alloc | apply pw_below_drewN | apply below_drew1) | exact HB.out))) : w.heap.size ≤ gb372)); clear HB; have HB := n0_; have BK372 := n1_; have GW372 := n2_; have GE372 := n3_; clear n0_ n1_ n2_ n3_; clear hb hbox hg; have hcz12_0 : w11.cell? ⟨gb372, 0, none⟩ = some (.string (⟨#[]⟩ : ByteArray)) := (blk_cell BK372.out 0).trans rfl; have hcz12_1 : w11.cell? ⟨gb372, 1, none⟩ = some (.slice none 0 0) := (blk_cell BK372.out 1).trans rfl; have hfz12_0 := blk_frozen BK372.out 0; have hfz12_1 := blk_frozen BK372.out 1; have p373 : 0 ≤ (x17_1 : Int) := of_decide_eq_true (by first | (with_reducible assumption) | assumption); have q373 : x17_1 < (l1.length : Int) := of_decide_eq_true (by first | (with_reducible assumption) | assumption); obtain ⟨ad373, A373_1, c373_1, e373, hx373_0, hx373_1, hl373_1, hi373_1⟩ := at_T66 HR1.out x17_1 p373 q373; cases e373; have hn373_0 : ad373.block ≠ gb372 := Nat.ne_of_lt (Nat.lt_of_lt_of_le (by have := World.block_lt_of_cell? _ _ hx373_0; first | rwa [add_block] at this | exact this) GW372.out); have hn373_1 : ad373.block ≠ gb372 := Nat.ne_of_lt (Nat.lt_of_lt_of_le (by have := World.block_lt_of_cell? _ _ hx373_0; first | rwa [add_block] at this | exact this) GW372.out); replace hx373_0 := (HB.out.cell (World.block_lt_of_cell? w _ hx373_0)).trans hx373_0; replace hx373_1 := (HB.out.cell (World.block_lt_of_cell? w _ hx373_1)).trans hx373_1; have HR373_1 := Aside0.mk hi373_1; have HC373_1 := Aside0.mk hl373_1; clear hi373_1 hl373_1; replace hx373_0 := (cell_far (p := ⟨gb372, 0, none⟩) (by first | (rw [add_block]; exact hn373_0) | (show (Addr.add _ _).block ≠ _; rw [add_block]; exact hn373_0) | exact hn373_0) (.string ((rd_T66 l0 x17_1).f0))).trans hx373_0; replace hx373_1 := (cell_far (p := ⟨gb372, 0, none⟩) (by first | (rw [add_block]; exact hn373_0) | (show (Addr.add _ _).block ≠ _; rw [add_block]; exact hn373_0) | exact hn373_0) (.string ((rd_T66 l0 x17_1).f0))).trans hx373_1; replace hx373_0 := (cell_far (p := ⟨gb372, 1, none⟩) (by first | (rw [add_block]; exact hn373_1) | (show (Addr.add _ _).block ≠ _; rw [add_block]; exact hn373_1) | exact hn373_1) (.slice A371_1 ((rd_T66 l0 x17_1).f1).length c371_1)).trans hx373_0; replace hx373_1 := (cell_far (p := ⟨gb372, 1, none⟩) (by first | (rw [add_block]; exact hn373_1) | (show (Addr.add _ _).block ≠ _; rw [add_block]; exact hn373_1) | exact hn373_1) (.slice A371_1 ((rd_T66 l0 x17_1).f1).length c371_1)).trans hx373_1; clear hn373_0; clear hn373_1; replace p373 := eq_true p373; replace q373 := eq_true q373) | ((with_reducible refine gate_dst (N := 9) rfl ?_); refine box_event ?hg (N := 9) ?hd (cs := #[.string (⟨#[]⟩ : ByteArray), .slice none 0 0]) (t := 66) ?hr ?_; (case hd => rfl); (case hg => rfl); (case hr => first | (go_simp; done) | (go_simp; rfl)); intro gb374 hg w13 hbox hb; have n0_ := Aside0.mk (blk_below (g := gb372) (o := .cells #[.string ((rd_T66 l0 x17_1).f0), .slice A371_1 ((rd_T66 l0 x17_1).f1).length c371_1] 66 (0, 0)) (by (with_reducible repeat (first | refine blk_drewN ?_ _ | refine blk_drew ?_ | refine blk_alloc ?_ _)); refine blk_put (cs := #[.string ((rd_T66 l0 x17_1).f0), .slice none 0 0]) ?_ 1 _ rfl; (with_reducible repeat (first | refine blk_drewN ?_ _ | refine blk_drew ?_ | refine blk_alloc ?_ _)); refine blk_put (cs := #[.string (⟨#[]⟩ : ByteArray), .slice none 0 0]) ?_ 0 _ rfl; (with_reducible repeat (first | refine blk_drewN ?_ _ | refine blk_drew ?_ | refine blk_alloc ?_ _)); exact BK372.out) hb); have n1_ := Aside0.mk (below_step (by repeat (first | (with_reducible first | exact HB.out | apply below_alloc | apply pw_below_drewN | apply below_drew1 | refine below_set ?_ GE372.out) | exact HB.out)) hb); have n2_ := Aside0.mk (hbox); have n3_ := Aside0.mk ((by rw [hg]; exact (below_size (by repeat (first | (with_reducible first | exact HB.out | apply below_alloc | apply pw_below_drewN | apply below_drew1 | refine below_set ?_ GE372.out) | exact HB.out))) : w.heap.size ≤ gb374)); have n4_ := Aside0.mk ((by rw [hg]; exact (below_size (by repeat (first | (with_reducible first | exact HB.out | apply below_alloc | apply pw_below_drewN | apply below_drew1 | refine below_set ?_ GE372.out) | exact HB.out))) : w.heap.size ≤ gb374)); have n5_ := Aside0.mk ((by rw [hg]; exact Nat.ne_of_lt (blk_lt (g := gb372) (o := .cells #[.string ((rd_T66 l0 x17_1).f0), .slice A371_1 ((rd_T66 l0 x17_1).f1).length c371_1] 66 (0, 0)) (by (with_reducible repeat (first | refine blk_drewN ?_ _ | refine blk_drew ?_ | refine blk_alloc ?_ _)); refine blk_put (cs := #[.string ((rd_T66 l0 x17_1).f0), .slice none 0 0]) ?_ 1 _ rfl; (with_reducible repeat (first | refine blk_drewN ?_ _ | refine blk_drew ?_ | refine blk_alloc ?_ _)); refine blk_put (cs := #[.string (⟨#[]⟩ : ByteArray), .slice none 0 0]) ?_ 0 _ rfl; (with_reducible repeat (first | refine blk_drewN ?_ _ | refine blk_drew ?_ | refine blk_alloc ?_ _)); exact BK372.out)) : gb372 ≠ gb374)); have n6_ := Aside0.mk ((by rw [hg]; exact Nat.ne_of_gt (blk_lt (g := gb372) (o := .cells #[.string ((rd_T66 l0 x17_1).f0), .slice A371_1 ((rd_T66 l0 x17_1).f1).length c371_1] 66 (0, 0)) (by (with_reducible repeat (first | refine blk_drewN ?_ _ | refine blk_drew ?_ | refine blk_alloc ?_ _)); refine blk_put (cs := #[.string ((rd_T66 l0 x17_1).f0), .slice none 0 0]) ?_ 1 _ rfl; (with_reducible repeat (first | refine blk_drewN ?_ _ | refine blk_drew ?_ | refine blk_alloc ?_ _)); refine blk_put (cs := #[.string (⟨#[]⟩ : ByteArray), .slice none 0 0]) ?_ 0 _ rfl; (with_reducible repeat (first | refine blk_drewN ?_ _ | refine blk_drew ?_ | refine blk_alloc ?_ _)); exact BK372.out)) : gb374 ≠ gb372)); clear BK372; clear HB; have BK372 := n0_; have HB := n1_; have BK374 := n2_; have GW374 := n3_; have GE374 := n4_; have NB372_374 := n5_; have NB374_372 := n6_; clear n0_ n1_ n2_ n3_ n4_ n5_ n6_; clear hb hbox hg; have hnb14 := NB374_372.out; have hnc14 := NB372_374.out; have hcz15_0 : w13.cell? ⟨gb374, 0, none⟩ = some (.string (⟨#[]⟩ : ByteArray)) := (blk_cell BK374.out 0).trans rfl; have hcz15_1 : w13.cell? ⟨gb374, 1, none⟩ = some (.slice none 0 0) := (blk_cell BK374.out 1).trans rfl; have hfz15_0 := blk_frozen BK374.out 0; have hfz15_1 := blk_frozen BK374.out 1; have hcz16_0 : w13.cell? ⟨gb372, 0, none⟩ = some (.string ((rd_T66 l0 x17_1).f0)) := (blk_cell BK372.out 0).trans rfl; have hcz16_1 : w13.cell? ⟨gb372, 1, none⟩ = some (.slice A371_1 ((rd_T66 l0 x17_1).f1).length c371_1) := (blk_cell BK372.out 1).trans rfl; have hfz16_0 := blk_frozen BK372.out 0; have hfz16_1 := blk_frozen BK372.out 1) | ((with_reducible refine (tree_Same_2.calls k1 ((rd_T66 l0 x17_1).f0) _ _ ((rd_T66 l0 x17_1).f1) ((rd_T66 l1 x17_1).f0) _ _ ((rd_T66 l1 x17_1).f1) true _ ?side1 ?side2 ?side3 ?side4 A9.out).mono ?_); (case side1 => exact Kd.C_below HR371_1.out (by repeat (first | (with_reducible first | exact HB.out | apply below_alloc | apply pw_below_drewN | apply below_drew1 | refine below_set ?_ GE372.out | refine below_set ?_ GE374.out) | exact HB.out))); (case side2 => exact HC371_1.out); (case side3 => exact Kd.C_below HR373_1.out (by repeat (first | (with_reducible first | exact HB.out | apply below_alloc | apply pw_below_drewN | apply below_drew1 | refine below_set ?_ GE372.out | refine below_set ?_ GE374.out) | exact HB.out))); (case side4 => exact HC373_1.out); rintro e w17 ⟨rfl, hb⟩; have n0_ := Aside0.mk (blk_below (g := gb372) (o := .cells #[.string ((rd_T66 l0 x17_1).f0), .slice A371_1 ((rd_T66 l0 x17_1).f1).length c371_1] 66 (0, 0)) (by (with_reducible repeat (first | refine blk_drewN ?_ _ | refine blk_drew ?_ | refine blk_alloc ?_ _)); refine blk_far ?_ NB372_374.out _; (with_reducible repeat (first | refine blk_drewN ?_ _ | refine blk_drew ?_ | refine blk_alloc ?_ _)); refine blk_far ?_ NB372_374.out _; (with_reducible repeat (first | refine blk_drewN ?_ _ | refine blk_drew ?_ | refine blk_alloc ?_ _)); exact BK372.out) hb); have n1_ := Aside0.mk (blk_below (g := gb374) (o := .cells #[.string ((rd_T66 l1 x17_1).f0), .slice A373_1 ((rd_T66 l1 x17_1).f1).length c373_1] 66 (0, 0)) (by (with_reducible repeat (first | refine blk_drewN ?_ _ | refine blk_drew ?_ | refine blk_alloc ?_ _)); refine blk_put (cs := #[.string ((rd_T66 l1 x17_1).f0), .slice none 0 0]) ?_ 1 _ rfl; (with_reducible repeat (first | refine blk_drewN ?_ _ | refine blk_drew ?_ | refine blk_alloc ?_ _)); refine blk_put (cs := #[.string (⟨#[]⟩ : ByteArray), .slice none 0 0]) ?_ 0 _ rfl; (with_reducible repeat (first | refine blk_drewN ?_ _ | refine blk_drew ?_ | refine blk_alloc ?_ _)); exact BK374.out) hb); have n2_ := Aside0.mk (below_step (by repeat (first | (with_reducible first | exact HB.out | apply below_alloc | apply pw_below_drewN | apply below_drew1 | refine below_set ?_ GE372.out | refine below_set ?_ GE374.out) | exact HB.out)) hb); clear BK372; clear BK374; clear HB; have BK372 := n0_; have BK374 := n1_; have HB := n2_; clear n0_ n1_ n2_; (try clear hb); (try clear hb2); (try clear hk); (try clear hi)))
                  go_roundg k1
                  case measure => have := HK1.out; omega
                  case rel => exact ⟨(wrap64 (x17_1 + 1)), (by first | rfl | (simp; done) | (simp [*]; done)), H', ⟨by have := HK1.out; omega⟩, ⟨by repeat (first | (with_reducible first | exact HB.out | apply below_alloc | apply pw_below_drewN | apply below_drew1 | refine below_set ?_ GE372.out | refine below_set ?_ GE374.out) | exact HB.out)⟩⟩
                · replace c10 := Bool.eq_false_iff.mpr c10
                  subst c10
                  have H1 : (some false) = some r := by rw [if_neg (show ¬ (false = true) by decide)] at H; exact H
                  clear H
                  have H := H1
                  clear H1
                  obtain rfl := Option.some.inj H
                  have p371 : 0 ≤ (x17_1 : Int) := of_decide_eq_true (by first | (with_reducible assumption) | assumption)
                  have q371 : x17_1 < (l0.length : Int) := of_decide_eq_true (by first | (with_reducible assumption) | assumption)
                  obtain ⟨ad371, A371_1, c371_1, e371, hx371_0, hx371_1, hl371_1, hi371_1⟩ := at_T66 HR0.out x17_1 p371 q371
                  cases e371
                  replace hx371_0 := (HB.out.cell (World.block_lt_of_cell? w _ hx371_0)).trans hx371_0
                  replace hx371_1 := (HB.out.cell (World.block_lt_of_cell? w _ hx371_1)).trans hx371_1
                  have HR371_1 := Aside0.mk hi371_1
                  have HC371_1 := Aside0.mk hl371_1
                  clear hi371_1 hl371_1
                  replace p371 := eq_true p371
                  replace q371 := eq_true q371
                  go_wp2_with (first | ((with_reducible refine gate_dst (N := 8) rfl ?_); refine box_event ?hg (N := 8) ?hd (cs := #[.string (⟨#[]⟩ : ByteArray), .slice none 0 0]) (t := 66) ?hr ?_; (case hd => rfl); (case hg => rfl); (case hr => first | (go_simp; done) | (go_simp; rfl)); intro gb372 hg w18 hbox hb; have n0_ := Aside0.mk (below_step (by repeat (first | (with_reducible first | exact HB.out | apply below_alloc | apply pw_below_drewN | apply below_drew1) | exact HB.out)) hb); have n1_ := Aside0.mk (hbox); have n2_ := Aside0.mk ((by rw [hg]; exact (below_size (by repeat (first | (with_reducible first | exact HB.out | apply below_alloc | apply pw_below_drewN | apply below_drew1) | exact HB.out))) : w.heap.size ≤ gb372)); have n3_ := Aside0.mk ((by rw [hg]; exact (below_size (by repeat (first | (with_reducible first | exact HB.out | apply below_alloc | apply pw_below_drewN | apply below_drew1) | exact HB.out))) : w.heap.size ≤ gb372)); clear HB; have HB := n0_; have BK372 := n1_; have GW372 := n2_; have GE372 := n3_; clear n0_ n1_ n2_ n3_; clear hb hbox hg; have hcz19_0 : w18.cell? ⟨gb372, 0, none⟩ = some (.string (⟨#[]⟩ : ByteArray)) := (blk_cell BK372.out 0).trans rfl; have hcz19_1 : w18.cell? ⟨gb372, 1, none⟩ = some (.slice none 0 0) := (blk_cell BK372.out 1).trans rfl; have hfz19_0 := blk_frozen BK372.out 0; have hfz19_1 := blk_frozen BK372.out 1; have p373 : 0 ≤ (x17_1 : Int) := of_decide_eq_true (by first | (with_reducible assumption) | assumption); have q373 : x17_1 < (l1.length : Int) := of_decide_eq_true (by first | (with_reducible assumption) | assumption); obtain ⟨ad373, A373_1, c373_1, e373, hx373_0, hx373_1, hl373_1, hi373_1⟩ := at_T66 HR1.out x17_1 p373 q373; cases e373; have hn373_0 : ad373.block ≠ gb372 := Nat.ne_of_lt (Nat.lt_of_lt_of_le (by have := World.block_lt_of_cell? _ _ hx373_0; first | rwa [add_block] at this | exact this) GW372.out); have hn373_1 : ad373.block ≠ gb372 := Nat.ne_of_lt (Nat.lt_of_lt_of_le (by have := World.block_lt_of_cell? _ _ hx373_0; first | rwa [add_block] at this | exact this) GW372.out); replace hx373_0 := (HB.out.cell (World.block_lt_of_cell? w _ hx373_0)).trans hx373_0; replace hx373_1 := (HB.out.cell (World.block_lt_of_cell? w _ hx373_1)).trans hx373_1; have HR373_1 := Aside0.mk hi373_1; have HC373_1 := Aside0.mk hl373_1; clear hi373_1 hl373_1; replace hx373_0 := (cell_far (p := ⟨gb372, 0, none⟩) (by first | (rw [add_block]; exact hn373_0) | (show (Addr.add _ _).block ≠ _; rw [add_block]; exact hn373_0) | exact hn373_0) (.string ((rd_T66 l0 x17_1).f0))).trans hx373_0; replace hx373_1 := (cell_far (p := ⟨gb372, 0, none⟩) (by first | (rw [add_block]; exact hn373_0) | (show (Addr.add _ _).block ≠ _; rw [add_block]; exact hn373_0) | exact hn373_0) (.string ((rd_T66 l0 x17_1).f0))).trans hx373_1; replace hx373_0 := (cell_far (p := ⟨gb372, 1, none⟩) (by first | (rw [add_block]; exact hn373_1) | (show (Addr.add _ _).block ≠ _; rw [add_block]; exact hn373_1) | exact hn373_1) (.slice A371_1 ((rd_T66 l0 x17_1).f1).length c371_1)).trans hx373_0; replace hx373_1 := (cell_far (p := ⟨gb372, 1, none⟩) (by first | (rw [add_block]; exact hn373_1) | (show (Addr.add _ _).block ≠ _; rw [add_block]; exact hn373_1) | exact hn373_1) (.slice A371_1 ((rd_T66 l0 x17_1).f1).length c371_1)).trans hx373_1; clear hn373_0; clear hn373_1; replace p373 := eq_true p373; replace q373 := eq_true q373) | ((with_reducible refine gate_dst (N := 9) rfl ?_); refine box_event ?hg (N := 9) ?hd (cs := #[.string (⟨#[]⟩ : ByteArray), .slice none 0 0]) (t := 66) ?hr ?_; (case hd => rfl); (case hg => rfl); (case hr => first | (go_simp; done) | (go_simp; rfl)); intro gb374 hg w20 hbox hb; have n0_ := Aside0.mk (blk_below (g := gb372) (o := .cells #[.string ((rd_T66 l0 x17_1).f0), .slice A371_1 ((rd_T66 l0 x17_1).f1).length c371_1] 66 (0, 0)) (by (with_reducible repeat (first | refine blk_drewN ?_ _ | refine blk_drew ?_ | refine blk_alloc ?_ _)); refine blk_put (cs := #[.string ((rd_T66 l0 x17_1).f0), .slice none 0 0]) ?_ 1 _ rfl; (with_reducible repeat (first | refine blk_drewN ?_ _ | refine blk_drew ?_ | refine blk_alloc ?_ _)); refine blk_put (cs := #[.string (⟨#[]⟩ : ByteArray), .slice none 0 0]) ?_ 0 _ rfl; (with_reducible repeat (first | refine blk_drewN ?_ _ | refine blk_drew ?_ | refine blk_alloc ?_ _)); exact BK372.out) hb); have n1_ := Aside0.mk (below_step (by repeat (first | (with_reducible first | exact HB.out | apply below_alloc | apply pw_below_drewN | apply below_drew1 | refine below_set ?_ GE372.out) | exact HB.out)) hb); have n2_ := Aside0.mk (hbox); have n3_ := Aside0.mk ((by rw [hg]; exact (below_size (by repeat (first | (with_reducible first | exact HB.out | apply below_alloc | apply pw_below_drewN | apply below_drew1 | refine below_set ?_ GE372.out) | exact HB.out))) : w.heap.size ≤ gb374)); have n4_ := Aside0.mk ((by rw [hg]; exact (below_size (by repeat (first | (with_reducible first | exact HB.out | apply below_alloc | apply pw_below_drewN | apply below_drew1 | refine below_set ?_ GE372.out) | exact HB.out))) : w.heap.size ≤ gb374)); have n5_ := Aside0.mk ((by rw [hg]; exact Nat.ne_of_lt (blk_lt (g := gb372) (o := .cells #[.string ((rd_T66 l0 x17_1).f0), .slice A371_1 ((rd_T66 l0 x17_1).f1).length c371_1] 66 (0, 0)) (by (with_reducible repeat (first | refine blk_drewN ?_ _ | refine blk_drew ?_ | refine blk_alloc ?_ _)); refine blk_put (cs := #[.string ((rd_T66 l0 x17_1).f0), .slice none 0 0]) ?_ 1 _ rfl; (with_reducible repeat (first | refine blk_drewN ?_ _ | refine blk_drew ?_ | refine blk_alloc ?_ _)); refine blk_put (cs := #[.string (⟨#[]⟩ : ByteArray), .slice none 0 0]) ?_ 0 _ rfl; (with_reducible repeat (first | refine blk_drewN ?_ _ | refine blk_drew ?_ | refine blk_alloc ?_ _)); exact BK372.out)) : gb372 ≠ gb374)); have n6_ := Aside0.mk ((by rw [hg]; exact Nat.ne_of_gt (blk_lt (g := gb372) (o := .cells #[.string ((rd_T66 l0 x17_1).f0), .slice A371_1 ((rd_T66 l0 x17_1).f1).length c371_1] 66 (0, 0)) (by (with_reducible repeat (first | refine blk_drewN ?_ _ | refine blk_drew ?_ | refine blk_alloc ?_ _)); refine blk_put (cs := #[.string ((rd_T66 l0 x17_1).f0), .slice none 0 0]) ?_ 1 _ rfl; (with_reducible repeat (first | refine blk_drewN ?_ _ | refine blk_drew ?_ | refine blk_alloc ?_ _)); refine blk_put (cs := #[.string (⟨#[]⟩ : ByteArray), .slice none 0 0]) ?_ 0 _ rfl; (with_reducible repeat (first | refine blk_drewN ?_ _ | refine blk_drew ?_ | refine blk_alloc ?_ _)); exact BK372.out)) : gb374 ≠ gb372)); clear BK372; clear HB; have BK372 := n0_; have HB := n1_; have BK374 := n2_; have GW374 := n3_; have GE374 := n4_; have NB372_374 := n5_; have NB374_372 := n6_; clear n0_ n1_ n2_ n3_ n4_ n5_ n6_; clear hb hbox hg; have hnb21 := NB374_372.out; have hnc21 := NB372_374.out; have hcz22_0 : w20.cell? ⟨gb374, 0, none⟩ = some (.string (⟨#[]⟩ : ByteArray)) := (blk_cell BK374.out 0).trans rfl; have hcz22_1 : w20.cell? ⟨gb374, 1, none⟩ = some (.slice none 0 0) := (blk_cell BK374.out 1).trans rfl; have hfz22_0 := blk_frozen BK374.out 0; have hfz22_1 := blk_frozen BK374.out 1; have hcz23_0 : w20.cell? ⟨gb372, 0, none⟩ = some (.string ((rd_T66 l0 x17_1).f0)) := (blk_cell BK372.out 0).trans rfl; have hcz23_1 : w20.cell? ⟨gb372, 1, none⟩ = some (.slice A371_1 ((rd_T66 l0 x17_1).f1).length c371_1) := (blk_cell BK372.out 1).trans rfl; have hfz23_0 := blk_frozen BK372.out 0; have hfz23_1 := blk_frozen BK372.out 1) | ((with_reducible refine (tree_Same_2.calls k1 ((rd_T66 l0 x17_1).f0) _ _ ((rd_T66 l0 x17_1).f1) ((rd_T66 l1 x17_1).f0) _ _ ((rd_T66 l1 x17_1).f1) false _ ?side1 ?side2 ?side3 ?side4 A9.out).mono ?_); (case side1 => exact Kd.C_below HR371_1.out (by repeat (first | (with_reducible first | exact HB.out | apply below_alloc | apply pw_below_drewN | apply below_drew1 | refine below_set ?_ GE372.out | refine below_set ?_ GE374.out) | exact HB.out))); (case side2 => exact HC371_1.out); (case side3 => exact Kd.C_below HR373_1.out (by repeat (first | (with_reducible first | exact HB.out | apply below_alloc | apply pw_below_drewN | apply below_drew1 | refine below_set ?_ GE372.out | refine below_set ?_ GE374.out) | exact HB.out))); (case side4 => exact HC373_1.out); rintro e w24 ⟨rfl, hb⟩; have n0_ := Aside0.mk (blk_below (g := gb372) (o := .cells #[.string ((rd_T66 l0 x17_1).f0), .slice A371_1 ((rd_T66 l0 x17_1).f1).length c371_1] 66 (0, 0)) (by (with_reducible repeat (first | refine blk_drewN ?_ _ | refine blk_drew ?_ | refine blk_alloc ?_ _)); refine blk_far ?_ NB372_374.out _; (with_reducible repeat (first | refine blk_drewN ?_ _ | refine blk_drew ?_ | refine blk_alloc ?_ _)); refine blk_far ?_ NB372_374.out _; (with_reducible repeat (first | refine blk_drewN ?_ _ | refine blk_drew ?_ | refine blk_alloc ?_ _)); exact BK372.out) hb); have n1_ := Aside0.mk (blk_below (g := gb374) (o := .cells #[.string ((rd_T66 l1 x17_1).f0), .slice A373_1 ((rd_T66 l1 x17_1).f1).length c373_1] 66 (0, 0)) (by (with_reducible repeat (first | refine blk_drewN ?_ _ | refine blk_drew ?_ | refine blk_alloc ?_ _)); refine blk_put (cs := #[.string ((rd_T66 l1 x17_1).f0), .slice none 0 0]) ?_ 1 _ rfl; (with_reducible repeat (first | refine blk_drewN ?_ _ | refine blk_drew ?_ | refine blk_alloc ?_ _)); refine blk_put (cs := #[.string (⟨#[]⟩ : ByteArray), .slice none 0 0]) ?_ 0 _ rfl; (with_reducible repeat (first | refine blk_drewN ?_ _ | refine blk_drew ?_ | refine blk_alloc ?_ _)); exact BK374.out) hb); have n2_ := Aside0.mk (below_step (by repeat (first | (with_reducible first | exact HB.out | apply below_alloc | apply pw_below_drewN | apply below_drew1 | refine below_set ?_ GE372.out | refine below_set ?_ GE374.out) | exact HB.out)) hb); clear BK372; clear BK374; clear HB; have BK372 := n0_; have BK374 := n1_; have HB := n2_; clear n0_ n1_ n2_; (try clear hb); (try clear hb2); (try clear hk); (try clear hi)))
                  go_ret
                  exact ⟨by first | rfl | (simp [errW_none, errW_some] <;> rfl) | (simp [*, errW_none, errW_some] <;> rfl), by repeat (first | (with_reducible first | exact HB.out | apply below_alloc | apply pw_below_drewN | apply below_drew1 | refine below_set ?_ GE372.out | refine below_set ?_ GE374.out) | exact HB.out)⟩
              · rw [if_neg c8] at H
                exact absurd H (by simp)
            · rw [if_neg c7] at H
              exact absurd H (by simp)
          · rw [if_neg c6] at H
            exact absurd H (by simp)
        · rw [if_neg c5] at H
          have c5b0 : decide (x17_1 < (l0.length : Int)) = false := decide_eq_false c5
          clear c5
          obtain rfl := Option.some.inj H
          go_wp2
          go_ret
          exact ⟨by first | rfl | (simp [errW_none, errW_some] <;> rfl) | (simp [*, errW_none, errW_some] <;> rfl), by repeat (first | (with_reducible first | exact HB.out | apply below_alloc | apply pw_below_drewN | apply below_drew1) | exact HB.out)⟩
  · rw [if_neg c4] at H
    have c4b0 : ((l0.length : Int) == (l1.length : Int)) = false := beq_eq_false_iff_ne.mpr c4
    have c4b1 : ((l0.length : Int) != (l1.length : Int)) = true := bne_iff_ne.mpr c4
    have c4b2 : (l0.length == l1.length) = false := by first | simpa using c4 | (simp at c4 ⊢; omega)
    obtain rfl := Option.some.inj H
    go_enter Tryd.func51, Tryd.ntmps51
    go_wp2
    go_ret
    exact ⟨by first | rfl | (simp [errW_none, errW_some] <;> rfl) | (simp [*, errW_none, errW_some] <;> rfl), by repeat (first | (with_reducible first | exact HB.out | apply below_alloc | apply pw_below_drewN | apply below_drew1) | exact HB.out)⟩

end Go.Proofs.YtnnbbeloifhofaaDoor.P
end

section
namespace Go.Proofs.YtnnbbeloifhofaaDoor.P
open Go.RowKit Go.Proofs.YtnnbbeloifhofaaDoorW.PrintWords Go.Proofs.YtnnbbeloifhofaaDoorW.PrintLast Go.Proofs.YtnnbbeloifhofaaDoorW.PrintMore
attribute [local go_sem] max2_int min2_int max_two min_two max_three min_three max_four min_four   -- for this text's walks alone
set_option linter.unusedVariables false
set_option linter.unusedSimpArgs false

/-! ### tree_Same: function 28 -/
def tree_Same.f (k : Nat) (l0_0 : List (S79)) (l0_1 : List (S80)) (l0_2 : List (S66)) (l0_3 : List (S76)) (l1_0 : List (S79)) (l1_1 : List (S80)) (l1_2 : List (S66)) (l1_3 : List (S76)) : Option (Bool) := (tree_Enum_at_tree_Same_1.f k l0_0 l1_0).bind fun t378 => (if t378 = true then ((tree_Var.f k l0_1 l1_1).bind fun t379 => (if t379 = true then ((tree_Proc_at_tree_Same_2.f k l0_2 l1_2).bind fun t380 => (if t380 = true then ((tree_Stmt_at_tree_sameStmt.f k l0_3 l1_3).bind fun t381 => (some t381)) else (some false))) else (some false))) else (some false))
theorem tree_Same.mono : ∀ a0 a1 a2 a3 a4 a5 a6 a7 k, LeO (tree_Same.f k a0 a1 a2 a3 a4 a5 a6 a7) (tree_Same.f (k + 1) a0 a1 a2 a3 a4 a5 a6 a7) := by
  intro a0 a1 a2 a3 a4 a5 a6 a7 k
  unfold tree_Same.f
  repeat' first
      | (with_reducible exact tree_Enum_at_tree_Same_1.mono _ _ _)
      | (with_reducible exact tree_Proc_at_tree_Same_2.mono _ _ _)
      | (with_reducible exact tree_Stmt_at_tree_sameStmt.mono _ _ _)
      | (with_reducible exact tree_Var.mono _ _ _)
      | (with_reducible exact LeO.refl _)
      | (with_reducible exact LeO.none _)
      | (with_reducible refine LeO.ite ?_ ?_)
      | (with_reducible refine LeO.bind ?_ (fun _ => ?_))
      | exact tree_Enum_at_tree_Same_1.mono _ _ _
      | exact tree_Proc_at_tree_Same_2.mono _ _ _
      | exact tree_Stmt_at_tree_sameStmt.mono _ _ _
      | exact tree_Var.mono _ _ _
      | exact LeO.none _
      | refine LeO.ite ?_ ?_
      | refine LeO.bind ?_ (fun _ => ?_)
set_option maxHeartbeats 8000000 in
set_option maxRecDepth 100000 in
theorem tree_Same.calls (k : Nat) (A0_0 : Option Addr) (c0_0 : Nat) (l0_0 : List (S79)) (A0_1 : Option Addr) (c0_1 : Nat) (l0_1 : List (S80)) (A0_2 : Option Addr) (c0_2 : Nat) (l0_2 : List (S66)) (A0_3 : Option Addr) (c0_3 : Nat) (l0_3 : List (S76)) (A1_0 : Option Addr) (c1_0 : Nat) (l1_0 : List (S79)) (A1_1 : Option Addr) (c1_1 : Nat) (l1_1 : List (S80)) (A1_2 : Option Addr) (c1_2 : Nat) (l1_2 : List (S66)) (A1_3 : Option Addr) (c1_3 : Nat) (l1_3 : List (S76)) (r : Bool) (w : World) (hr0_0 : Kd.C k79 w A0_0 l0_0.length l0_0) (hc0_0 : l0_0.length ≤ c0_0) (hr0_1 : Kd.C k80 w A0_1 l0_1.length l0_1) (hc0_1 : l0_1.length ≤ c0_1) (hr0_2 : Kd.C k66 w A0_2 l0_2.length l0_2) (hc0_2 : l0_2.length ≤ c0_2) (hr0_3 : Kd.C k76 w A0_3 l0_3.length l0_3) (hc0_3 : l0_3.length ≤ c0_3) (hr1_0 : Kd.C k79 w A1_0 l1_0.length l1_0) (hc1_0 : l1_0.length ≤ c1_0) (hr1_1 : Kd.C k80 w A1_1 l1_1.length l1_1) (hc1_1 : l1_1.length ≤ c1_1) (hr1_2 : Kd.C k66 w A1_2 l1_2.length l1_2) (hc1_2 : l1_2.length ≤ c1_2) (hr1_3 : Kd.C k76 w A1_3 l1_3.length l1_3) (hc1_3 : l1_3.length ≤ c1_3) (h : tree_Same.f k l0_0 l0_1 l0_2 l0_3 l1_0 l1_1 l1_2 l1_3 = some r) :
    Calls Tryd.prog 28 #[.agg #[.slice A0_0 l0_0.length c0_0, .slice A0_1 l0_1.length c0_1, .slice A0_2 l0_2.length c0_2, .slice A0_3 l0_3.length c0_3], .agg #[.slice A1_0 l1_0.length c1_0, .slice A1_1 l1_1.length c1_1, .slice A1_2 l1_2.length c1_2, .slice A1_3 l1_3.length c1_3]] w fun e w' => e = .returned (.bool r) ∧ Below w.heap.size w w' := by
  have hu50 := Tryd.underlying50
  have HR0_0 := Aside0.mk hr0_0
  have HC0_0 := Aside0.mk hc0_0
  clear hr0_0 hc0_0
  have HR0_1 := Aside0.mk hr0_1
  have HC0_1 := Aside0.mk hc0_1
  clear hr0_1 hc0_1
  have HR0_2 := Aside0.mk hr0_2
  have HC0_2 := Aside0.mk hc0_2
  clear hr0_2 hc0_2
  have HR0_3 := Aside0.mk hr0_3
  have HC0_3 := Aside0.mk hc0_3
  clear hr0_3 hc0_3
  have HR1_0 := Aside0.mk hr1_0
  have HC1_0 := Aside0.mk hc1_0
  clear hr1_0 hc1_0
  have HR1_1 := Aside0.mk hr1_1
  have HC1_1 := Aside0.mk hc1_1
  clear hr1_1 hc1_1
  have HR1_2 := Aside0.mk hr1_2
  have HC1_2 := Aside0.mk hc1_2
  clear hr1_2 hc1_2
  have HR1_3 := Aside0.mk hr1_3
  have HC1_3 := Aside0.mk hc1_3
  clear hr1_3 hc1_3
  have HB := Aside0.mk (Below.refl w.heap.size w)
  have H : ((tree_Enum_at_tree_Same_1.f k l0_0 l1_0).bind fun t378 => (if t378 = true then ((tree_Var.f k l0_1 l1_1).bind fun t379 => (if t379 = true then ((tree_Proc_at_tree_Same_2.f k l0_2 l1_2).bind fun t380 => (if t380 = true then ((tree_Stmt_at_tree_sameStmt.f k l0_3 l1_3).bind fun t381 => (some t381)) else (some false))) else (some false))) else (some false))) = some r := h
  clear h
  replace H := Option.bind_eq_some_iff.mp H
  obtain ⟨t378, A30, H⟩ := H
  replace H : (if t378 = true then ((tree_Var.f k l0_1 l1_1).bind fun t379 => (if t379 = true then ((tree_Proc_at_tree_Same_2.f k l0_2 l1_2).bind fun t380 => (if t380 = true then ((tree_Stmt_at_tree_sameStmt.f k l0_3 l1_3).bind fun t381 => (some t381)) else (some false))) else (some false))) else (some false)) = some r := H
  have A3 := Aside0.mk A30
  clear A30
  by_cases c4 : t378 = true
  · subst c4
    have H1 : ((tree_Var.f k l0_1 l1_1).bind fun t379 => (if t379 = true then ((tree_Proc_at_tree_Same_2.f k l0_2 l1_2).bind fun t380 => (if t380 = true then ((tree_Stmt_at_tree_sameStmt.f k l0_3 l1_3).bind fun t381 => (some t381)) else (some false))) else (some false))) = some r := by rw [if_pos rfl] at H; exact H
    clear H
    have H := H1
    clear H1
    replace H := Option.bind_eq_some_iff.mp H
    obtain ⟨t379, A50, H⟩ := H
    replace H : (if t379 = true then ((tree_Proc_at_tree_Same_2.f k l0_2 l1_2).bind fun t380 => (if t380 = true then ((tree_Stmt_at_tree_sameStmt.f k l0_3 l1_3).bind fun t381 => (some t381)) else (some false))) else (some false)) = some r := H
    have A5 := Aside0.mk A50
    clear A50
    by_cases c6 : t379 = true
    · subst c6
      have H1 : ((tree_Proc_at_tree_Same_2.f k l0_2 l1_2).bind fun t380 => (if t380 = true then ((tree_Stmt_at_tree_sameStmt.f k l0_3 l1_3).bind fun t381 => (some t381)) else (some false))) = some r := by rw [if_pos rfl] at H; exact H
      clear H
      have H := H1
      clear H1
      replace H := Option.bind_eq_some_iff.mp H
      obtain ⟨t380, A70, H⟩ := H
      replace H : (if t380 = true then ((tree_Stmt_at_tree_sameStmt.f k l0_3 l1_3).bind fun t381 => (some t381)) else (some false)) = some r := H
      have A7 := Aside0.mk A70
      clear A70
      by_cases c8 : t380 = true
      · subst c8
        have H1 : ((tree_Stmt_at_tree_sameStmt.f k l0_3 l1_3).bind fun t381 => (some t381)) = some r := by rw [if_pos rfl] at H; exact H
        clear H
        have H := H1
        clear H1
        replace H := Option.bind_eq_some_iff.mp H
        obtain ⟨t381, A90, H⟩ := H
        replace H : (some t381) = some r := H
        have A9 := Aside0.mk A90
        clear A90
        obtain rfl := Option.some.inj H
        go_enter Tryd.func28, Tryd.ntmps28
        go_wp2_with (first | ((with_reducible refine gate_dst (N := 2) rfl ?_); refine box_event ?hg (N := 2) ?hd (cs := #[.slice A0_0 l0_0.length c0_0, .slice A0_1 l0_1.length c0_1, .slice A0_2 l0_2.length c0_2, .slice A0_3 l0_3.length c0_3]) (t := 50) ?hr ?_; (case hd => rfl); (case hg => rfl); (case hr => first | (go_simp; done) | (go_simp; rfl)); intro gb376 hg w10 hbox hb; have n0_ := Aside0.mk (below_step (by repeat (first | (with_reducible first | exact HB.out | apply below_alloc | apply pw_below_drewN | apply below_drew1) | exact HB.out)) hb); have n1_ := Aside0.mk (hbox); have n2_ := Aside0.mk ((by rw [hg]; exact (below_size (by repeat (first | (with_reducible first | exact HB.out | apply below_alloc | apply pw_below_drewN | apply below_drew1) | exact HB.out))) : w.heap.size ≤ gb376)); have n3_ := Aside0.mk ((by rw [hg]; exact (below_size (by repeat (first | (with_reducible first | exact HB.out | apply below_alloc | apply pw_below_drewN | apply below_drew1) | exact HB.out))) : w.heap.size ≤ gb376)); clear HB; have HB := n0_; have BK376 := n1_; have GW376 := n2_; have GE376 := n3_; clear n0_ n1_ n2_ n3_; clear hb hbox hg) | ((with_reducible refine gate_dst (N := 3) rfl ?_); refine box_event ?hg (N := 3) ?hd (cs := #[.slice A1_0 l1_0.length c1_0, .slice A1_1 l1_1.length c1_1, .slice A1_2 l1_2.length c1_2, .slice A1_3 l1_3.length c1_3]) (t := 50) ?hr ?_; (case hd => rfl); (case hg => rfl); (case hr => first | (go_simp; done) | (go_simp; rfl)); intro gb377 hg w11 hbox hb; have n0_ := Aside0.mk (blk_below (g := gb376) (o := .cells #[.slice A0_0 l0_0.length c0_0, .slice A0_1 l0_1.length c0_1, .slice A0_2 l0_2.length c0_2, .slice A0_3 l0_3.length c0_3] 50 (0, 0)) (by (with_reducible repeat (first | refine blk_drewN ?_ _ | refine blk_drew ?_ | refine blk_alloc ?_ _)); exact BK376.out) hb); have n1_ := Aside0.mk (below_step (by repeat (first | (with_reducible first | exact HB.out | apply below_alloc | apply pw_below_drewN | apply below_drew1 | refine below_set ?_ GE376.out) | exact HB.out)) hb); have n2_ := Aside0.mk (hbox); have n3_ := Aside0.mk ((by rw [hg]; exact (below_size (by repeat (first | (with_reducible first | exact HB.out | apply below_alloc | apply pw_below_drewN | apply below_drew1 | refine below_set ?_ GE376.out) | exact HB.out))) : w.heap.size ≤ gb377)); have n4_ := Aside0.mk ((by rw [hg]; exact (below_size (by repeat (first | (with_reducible first | exact HB.out | apply below_alloc | apply pw_below_drewN | apply below_drew1 | refine below_set ?_ GE376.out) | exact HB.out))) : w.heap.size ≤ gb377)); have n5_ := Aside0.mk ((by rw [hg]; exact Nat.ne_of_lt (blk_lt (g := gb376) (o := .cells #[.slice A0_0 l0_0.length c0_0, .slice A0_1 l0_1.length c0_1, .slice A0_2 l0_2.length c0_2, .slice A0_3 l0_3.length c0_3] 50 (0, 0)) (by (with_reducible repeat (first | refine blk_drewN ?_ _ | refine blk_drew ?_ | refine blk_alloc ?_ _)); exact BK376.out)) : gb376 ≠ gb377)); have n6_ := Aside0.mk ((by rw [hg]; exact Nat.ne_of_gt (blk_lt (g := gb376) (o := .cells #[.slice A0_0 l0_0.length c0_0, .slice A0_1 l0_1.length c0_1, .slice A0_2 l0_2.length c0_2, .slice A0_3 l0_3.length c0_3] 50 (0, 0)) (by (with_reducible repeat (first | refine blk_drewN ?_ _ | refine blk_drew ?_ | refine blk_alloc ?_ _)); exact BK376.out)) : gb377 ≠ gb376)); clear BK376; clear HB; have BK376 := n0_; have HB := n1_; have BK377 := n2_; have GW377 := n3_; have GE377 := n4_; have NB376_377 := n5_; have NB377_376 := n6_; clear n0_ n1_ n2_ n3_ n4_ n5_ n6_; clear hb hbox hg; have hnb12 := NB376_377.out; have hnc12 := NB377_376.out; have hcz13_0 : w11.cell? ⟨gb376, 0, none⟩ = some (.slice A0_0 l0_0.length c0_0) := (blk_cell BK376.out 0).trans rfl; have hcz13_1 : w11.cell? ⟨gb376, 1, none⟩ = some (.slice A0_1 l0_1.length c0_1) := (blk_cell BK376.out 1).trans rfl; have hcz13_2 : w11.cell? ⟨gb376, 2, none⟩ = some (.slice A0_2 l0_2.length c0_2) := (blk_cell BK376.out 2).trans rfl; have hcz13_3 : w11.cell? ⟨gb376, 3, none⟩ = some (.slice A0_3 l0_3.length c0_3) := (blk_cell BK376.out 3).trans rfl; have hfz13_0 := blk_frozen BK376.out 0; have hfz13_1 := blk_frozen BK376.out 1; have hfz13_2 := blk_frozen BK376.out 2; have hfz13_3 := blk_frozen BK376.out 3; have hcz14_0 : w11.cell? ⟨gb377, 0, none⟩ = some (.slice A1_0 l1_0.length c1_0) := (blk_cell BK377.out 0).trans rfl; have hcz14_1 : w11.cell? ⟨gb377, 1, none⟩ = some (.slice A1_1 l1_1.length c1_1) := (blk_cell BK377.out 1).trans rfl; have hcz14_2 : w11.cell? ⟨gb377, 2, none⟩ = some (.slice A1_2 l1_2.length c1_2) := (blk_cell BK377.out 2).trans rfl; have hcz14_3 : w11.cell? ⟨gb377, 3, none⟩ = some (.slice A1_3 l1_3.length c1_3) := (blk_cell BK377.out 3).trans rfl; have hfz14_0 := blk_frozen BK377.out 0; have hfz14_1 := blk_frozen BK377.out 1; have hfz14_2 := blk_frozen BK377.out 2; have hfz14_3 := blk_frozen BK377.out 3) | ((with_reducible refine gate_callee (f := 49) rfl ?_); refine goesL_ (some 12) rfl rfl Tryd.func49 (by kernel_rfl) rfl #[.slice A0_0 l0_0.length c0_0, .slice A1_0 l1_0.length c1_0, .func (.func 44) #[] #[]] rfl (by (try simp only [List.map_toArray, List.map_cons, List.map_nil]); first | done | rfl | (simp only [List.length_drop, List.length_take]; rfl)) ?_; (with_reducible refine (tree_Enum_at_tree_Same_1.calls k _ _ l0_0 _ _ l1_0 true _ ?side1 ?side2 ?side3 ?side4 A3.out).mono ?_); (case side1 => repeat (first | exact (Kd.C_below HR0_0.out HB.out) | (with_reducible refine Kd.C_alloc ?_ _) | (with_reducible refine Kd.C_drewN ?_ _) | (with_reducible refine Kd.C_drew ?_))); (case side2 => exact HC0_0.out); (case side3 => repeat (first | exact (Kd.C_below HR1_0.out HB.out) | (with_reducible refine Kd.C_alloc ?_ _) | (with_reducible refine Kd.C_drewN ?_ _) | (with_reducible refine Kd.C_drew ?_))); (case side4 => exact HC1_0.out); rintro e w15 ⟨rfl, hb⟩; refine ⟨_, rfl, ?_⟩; have n0_ := Aside0.mk (blk_below (g := gb376) (o := .cells #[.slice A0_0 l0_0.length c0_0, .slice A0_1 l0_1.length c0_1, .slice A0_2 l0_2.length c0_2, .slice A0_3 l0_3.length c0_3] 50 (0, 0)) (by (with_reducible repeat (first | refine blk_drewN ?_ _ | refine blk_drew ?_ | refine blk_alloc ?_ _)); exact BK376.out) hb); have n1_ := Aside0.mk (blk_below (g := gb377) (o := .cells #[.slice A1_0 l1_0.length c1_0, .slice A1_1 l1_1.length c1_1, .slice A1_2 l1_2.length c1_2, .slice A1_3 l1_3.length c1_3] 50 (0, 0)) (by (with_reducible repeat (first | refine blk_drewN ?_ _ | refine blk_drew ?_ | refine blk_alloc ?_ _)); exact BK377.out) hb); have n2_ := Aside0.mk (below_step (by repeat (first | (with_reducible first | exact HB.out | apply below_alloc | apply pw_below_drewN | apply below_drew1 | refine below_set ?_ GE376.out | refine below_set ?_ GE377.out) | exact HB.out)) hb); clear BK376; clear BK377; clear HB; have BK376 := n0_; have BK377 := n1_; have HB := n2_; clear n0_ n1_ n2_; (try clear hb); (try clear hb2); (try clear hk); (try clear hi); have hcz16_0 : w15.cell? ⟨gb376, 0, none⟩ = some (.slice A0_0 l0_0.length c0_0) := (blk_cell BK376.out 0).trans rfl; have hcz16_1 : w15.cell? ⟨gb376, 1, none⟩ = some (.slice A0_1 l0_1.length c0_1) := (blk_cell BK376.out 1).trans rfl; have hcz16_2 : w15.cell? ⟨gb376, 2, none⟩ = some (.slice A0_2 l0_2.length c0_2) := (blk_cell BK376.out 2).trans rfl; have hcz16_3 : w15.cell? ⟨gb376, 3, none⟩ = some (.slice A0_3 l0_3.length c0_3) := (blk_cell BK376.out 3).trans rfl; have hfz16_0 := blk_frozen BK376.out 0; have hfz16_1 := blk_frozen BK376.out 1; have hfz16_2 := blk_frozen BK376.out 2; have hfz16_3 := blk_frozen BK376.out 3; have hcz17_0 : w15.cell? ⟨gb377, 0, none⟩ = some (.slice A1_0 l1_0.length c1_0) := (blk_cell BK377.out 0).trans rfl; have hcz17_1 : w15.cell? ⟨gb377, 1, none⟩ = some (.slice A1_1 l1_1.length c1_1) := (blk_cell BK377.out 1).trans rfl; have hcz17_2 : w15.cell? ⟨gb377, 2, none⟩ = some (.slice A1_2 l1_2.length c1_2) := (blk_cell BK377.out 2).trans rfl; have hcz17_3 : w15.cell? ⟨gb377, 3, none⟩ = some (.slice A1_3 l1_3.length c1_3) := (blk_cell BK377.out 3).trans rfl; have hfz17_0 := blk_frozen BK377.out 0; have hfz17_1 := blk_frozen BK377.out 1; have hfz17_2 := blk_frozen BK377.out 2; have hfz17_3 := blk_frozen BK377.out 3) | (go_at_call 50; (with_reducible refine (tree_Var.calls k _ _ l0_1 _ _ l1_1 true _ ?side1 ?side2 ?side3 ?side4 A5.out).mono ?_); (case side1 => repeat (first | exact (Kd.C_below HR0_1.out HB.out) | (with_reducible refine Kd.C_alloc ?_ _) | (with_reducible refine Kd.C_drewN ?_ _) | (with_reducible refine Kd.C_drew ?_))); (case side2 => exact HC0_1.out); (case side3 => repeat (first | exact (Kd.C_below HR1_1.out HB.out) | (with_reducible refine Kd.C_alloc ?_ _) | (with_reducible refine Kd.C_drewN ?_ _) | (with_reducible refine Kd.C_drew ?_))); (case side4 => exact HC1_1.out); rintro e w' ⟨rfl, ⟨nd, rfl⟩⟩) | (go_at_call 51; (with_reducible refine (tree_Proc_at_tree_Same_2.calls k _ _ l0_2 _ _ l1_2 true _ ?side1 ?side2 ?side3 ?side4 A7.out).mono ?_); (case side1 => repeat (first | exact (Kd.C_below HR0_2.out (by repeat (first | (with_reducible first | exact HB.out | apply below_alloc | apply pw_below_drewN | apply below_drew1 | refine below_set ?_ GE376.out | refine below_set ?_ GE377.out) | exact HB.out))) | (with_reducible refine Kd.C_alloc ?_ _) | (with_reducible refine Kd.C_drewN ?_ _) | (with_reducible refine Kd.C_drew ?_))); (case side2 => exact HC0_2.out); (case side3 => repeat (first | exact (Kd.C_below HR1_2.out (by repeat (first | (with_reducible first | exact HB.out | apply below_alloc | apply pw_below_drewN | apply below_drew1 | refine below_set ?_ GE376.out | refine below_set ?_ GE377.out) | exact HB.out))) | (with_reducible refine Kd.C_alloc ?_ _) | (with_reducible refine Kd.C_drewN ?_ _) | (with_reducible refine Kd.C_drew ?_))); (case side4 => exact HC1_2.out); rintro e w18 ⟨rfl, hb⟩; have n0_ := Aside0.mk (blk_below (g := gb376) (o := .cells #[.slice A0_0 l0_0.length c0_0, .slice A0_1 l0_1.length c0_1, .slice A0_2 l0_2.length c0_2, .slice A0_3 l0_3.length c0_3] 50 (0, 0)) (by (with_reducible repeat (first | refine blk_drewN ?_ _ | refine blk_drew ?_ | refine blk_alloc ?_ _)); exact BK376.out) hb); have n1_ := Aside0.mk (blk_below (g := gb377) (o := .cells #[.slice A1_0 l1_0.length c1_0, .slice A1_1 l1_1.length c1_1, .slice A1_2 l1_2.length c1_2, .slice A1_3 l1_3.length c1_3] 50 (0, 0)) (by (with_reducible repeat (first | refine blk_drewN ?_ _ | refine blk_drew ?_ | refine blk_alloc ?_ _)); exact BK377.out) hb); have n2_ := Aside0.mk (below_step (by repeat (first | (with_reducible first | exact HB.out | apply below_alloc | apply pw_below_drewN | apply below_drew1 | refine below_set ?_ GE376.out | refine below_set ?_ GE377.out) | exact HB.out)) hb); clear BK376; clear BK377; clear HB; have BK376 := n0_; have BK377 := n1_; have HB := n2_; clear n0_ n1_ n2_; (try clear hb); (try clear hb2); (try clear hk); (try clear hi); have hcz19_0 : w18.cell? ⟨gb376, 0, none⟩ = some (.slice A0_0 l0_0.length c0_0) := (blk_cell BK376.out 0).trans rfl; have hcz19_1 : w18.cell? ⟨gb376, 1, none⟩ = some (.slice A0_1 l0_1.length c0_1) := (blk_cell BK376.out 1).trans rfl; have hcz19_2 : w18.cell? ⟨gb376, 2, none⟩ = some (.slice A0_2 l0_2.length c0_2) := (blk_cell BK376.out 2).trans rfl; have hcz19_3 : w18.cell? ⟨gb376, 3, none⟩ = some (.slice A0_3 l0_3.length c0_3) := (blk_cell BK376.out 3).trans rfl; have hfz19_0 := blk_frozen BK376.out 0; have hfz19_1 := blk_frozen BK376.out 1; have hfz19_2 := blk_frozen BK376.out 2; have hfz19_3 := blk_frozen BK376.out 3; have hcz20_0 : w18.cell? ⟨gb377, 0, none⟩ = some (.slice A1_0 l1_0.length c1_0) := (blk_cell BK377.out 0).trans rfl; have hcz20_1 : w18.cell? ⟨gb377, 1, none⟩ = some (.slice A1_1 l1_1.length c1_1) := (blk_cell BK377.out 1).trans rfl; have hcz20_2 : w18.cell? ⟨gb377, 2, none⟩ = some (.slice A1_2 l1_2.length c1_2) := (blk_cell BK377.out 2).trans rfl; have hcz20_3 : w18.cell? ⟨gb377, 3, none⟩ = some (.slice A1_3 l1_3.length c1_3) := (blk_cell BK377.out 3).trans rfl; have hfz20_0 := blk_frozen BK377.out 0; have hfz20_1 := blk_frozen BK377.out 1; have hfz20_2 := blk_frozen BK377.out 2; have hfz20_3 := blk_frozen BK377.out 3) | (go_at_call 47; (with_reducible refine (tree_Stmt_at_tree_sameStmt.calls k _ _ l0_3 _ _ l1_3 t381 _ ?side1 ?side2 ?side3 ?side4 A9.out).mono ?_); (case side1 => repeat (first | exact (Kd.C_below HR0_3.out HB.out) | (with_reducible refine Kd.C_alloc ?_ _) | (with_reducible refine Kd.C_drewN ?_ _) | (with_reducible refine Kd.C_drew ?_))); (case side2 => exact HC0_3.out); (case side3 => repeat (first | exact (Kd.C_below HR1_3.out HB.out) | (with_reducible refine Kd.C_alloc ?_ _) | (with_reducible refine Kd.C_drewN ?_ _) | (with_reducible refine Kd.C_drew ?_))); (case side4 => exact HC1_3.out); rintro e w21 ⟨rfl, hb⟩; have n0_ := Aside0.mk (blk_below (g := gb376) (o := .cells #[.slice A0_0 l0_0.length c0_0, .slice A0_1 l0_1.length c0_1, .slice A0_2 l0_2.length c0_2, .slice A0_3 l0_3.length c0_3] 50 (0, 0)) (by (with_reducible repeat (first | refine blk_drewN ?_ _ | refine blk_drew ?_ | refine blk_alloc ?_ _)); exact BK376.out) hb); have n1_ := Aside0.mk (blk_below (g := gb377) (o := .cells #[.slice A1_0 l1_0.length c1_0, .slice A1_1 l1_1.length c1_1, .slice A1_2 l1_2.length c1_2, .slice A1_3 l1_3.length c1_3] 50 (0, 0)) (by (with_reducible repeat (first | refine blk_drewN ?_ _ | refine blk_drew ?_ | refine blk_alloc ?_ _)); exact BK377.out) hb); have n2_ := Aside0.mk (below_step (by repeat (first | (with_reducible first | exact HB.out | apply below_alloc | apply pw_below_drewN | apply below_drew1 | refine below_set ?_ GE376.out | refine below_set ?_ GE377.out) | exact HB.out)) hb); clear BK376; clear BK377; clear HB; have BK376 := n0_; have BK377 := n1_; have HB := n2_; clear n0_ n1_ n2_; (try clear hb); (try clear hb2); (try clear hk); (try clear hi)))
        go_ret
        exact ⟨by first | rfl | (simp [errW_none, errW_some] <;> rfl) | (simp [*, errW_none, errW_some] <;> rfl), by repeat (first | (with_reducible first | exact HB.out | apply below_alloc | apply pw_below_drewN | apply below_drew1 | refine below_set ?_ GE376.out | refine below_set ?_ GE377.out) | exact HB.out)⟩
      · replace c8 := Bool.eq_false_iff.mpr c8
        subst c8
        have H1 : (some false) = some r := by rw [if_neg (show ¬ (false = true) by decide)] at H; exact H
        clear H
        have H := H1
        clear H1
        obtain rfl := Option.some.inj H
        go_enter Tryd.func28, Tryd.ntmps28
        go_wp2_with (first | ((with_reducible refine gate_dst (N := 2) rfl ?_); refine box_event ?hg (N := 2) ?hd (cs := #[.slice A0_0 l0_0.length c0_0, .slice A0_1 l0_1.length c0_1, .slice A0_2 l0_2.length c0_2, .slice A0_3 l0_3.length c0_3]) (t := 50) ?hr ?_; (case hd => rfl); (case hg => rfl); (case hr => first | (go_simp; done) | (go_simp; rfl)); intro gb376 hg w22 hbox hb; have n0_ := Aside0.mk (below_step (by repeat (first | (with_reducible first | exact HB.out | apply below_alloc | apply pw_below_drewN | apply below_drew1) | exact HB.out)) hb); have n1_ := Aside0.mk (hbox); have n2_ := Aside0.mk ((by rw [hg]; exact (below_size (by repeat (first | (with_reducible first | exact HB.out | apply below_alloc | apply pw_below_drewN | apply below_drew1) | exact HB.out))) : w.heap.size ≤ gb376)); have n3_ := Aside0.mk ((by rw [hg]; exact (below_size (by repeat (first | (with_reducible first | exact HB.out | apply below_alloc | apply pw_below_drewN | apply below_drew1) | exact HB.out))) : w.heap.size ≤ gb376)); clear HB; have HB := n0_; have BK376 := n1_; have GW376 := n2_; have GE376 := n3_; clear n0_ n1_ n2_ n3_; clear hb hbox hg) | ((with_reducible refine gate_dst (N := 3) rfl ?_); refine box_event ?hg (N := 3) ?hd (cs := #[.slice A1_0 l1_0.length c1_0, .slice A1_1 l1_1.length c1_1, .slice A1_2 l1_2.length c1_2, .slice A1_3 l1_3.length c1_3]) (t := 50) ?hr ?_; (case hd => rfl); (case hg => rfl); (case hr => first | (go_simp; done) | (go_simp; rfl)); intro gb377 hg w23 hbox hb; have n0_ := Aside0.mk (blk_below (g := gb376) (o := .cells #[.slice A0_0 l0_0.length c0_0, .slice A0_1 l0_1.length c0_1, .slice A0_2 l0_2.length c0_2, .slice A0_3 l0_3.length c0_3] 50 (0, 0)) (by (with_reducible repeat (first | refine blk_drewN ?_ _ | refine blk_drew ?_ | refine blk_alloc ?_ _)); exact BK376.out) hb); have n1_ := Aside0.mk (below_step (by repeat (first | (with_reducible first | exact HB.out | apply below_alloc | apply pw_below_drewN | apply below_drew1 | refine below_set ?_ GE376.out) | exact HB.out)) hb); have n2_ := Aside0.mk (hbox); have n3_ := Aside0.mk ((by rw [hg]; exact (below_size (by repeat (first | (with_reducible first | exact HB.out | apply below_alloc | apply pw_below_drewN | apply below_drew1 | refine below_set ?_ GE376.out) | exact HB.out))) : w.heap.size ≤ gb377)); have n4_ := Aside0.mk ((by rw [hg]; exact (below_size (by repeat (first | (with_reducible first | exact HB.out | apply below_alloc | apply pw_below_drewN | apply below_drew1 | refine below_set ?_ GE376.out) | exact HB.out))) : w.heap.size ≤ gb377)); have n5_ := Aside0.mk ((by rw [hg]; exact Nat.ne_of_lt (blk_lt (g := gb376) (o := .cells #[.slice A0_0 l0_0.length c0_0, .slice A0_1 l0_1.length c0_1, .slice A0_2 l0_2.length c0_2, .slice A0_3 l0_3.length c0_3] 50 (0, 0)) (by (with_reducible repeat (first | refine blk_drewN ?_ _ | refine blk_drew ?_ | refine blk_alloc ?_ _)); exact BK376.out)) : gb376 ≠ gb377)); have n6_ := Aside0.mk ((by rw [hg]; exact Nat.ne_of_gt (blk_lt (g := gb376) (o := .cells #[.slice A0_0 l0_0.length c0_0, .slice A0_1 l0_1.length c0_1, .slice A0_2 l0_2.length c0_2, .slice A0_3 l0_3.length c0_3] 50 (0, 0)) (by (with_reducible repeat (first | refine blk_drewN ?_ _ | refine blk_drew ?_ | refine blk_alloc ?_ _)); exact BK376.out)) : gb377 ≠ gb376)); clear BK376; clear HB; have BK376 := n0_; have HB := n1_; have BK377 := n2_; have GW377 := n3_; have GE377 := n4_; have NB376_377 := n5_; have NB377_376 := n6_; clear n0_ n1_ n2_ n3_ n4_ n5_ n6_; clear hb hbox hg; have hnb24 := NB376_377.out; have hnc24 := NB377_376.out; have hcz25_0 : w23.cell? ⟨gb376, 0, none⟩ = some (.slice A0_0 l0_0.length c0_0) := (blk_cell BK376.out 0).trans rfl; have hcz25_1 : w23.cell? ⟨gb376, 1, none⟩ = some (.slice A0_1 l0_1.length c0_1) := (blk_cell BK376.out 1).trans rfl; have hcz25_2 : w23.cell? ⟨gb376, 2, none⟩ = some (.slice A0_2 l0_2.length c0_2) := (blk_cell BK376.out 2).trans rfl; have hcz25_3 : w23.cell? ⟨gb376, 3, none⟩ = some (.slice A0_3 l0_3.length c0_3) := (blk_cell BK376.out 3).trans rfl; have hfz25_0 := blk_frozen BK376.out 0; have hfz25_1 := blk_frozen BK376.out 1; have hfz25_2 := blk_frozen BK376.out 2; have hfz25_3 := blk_frozen BK376.out 3; have hcz26_0 : w23.cell? ⟨gb377, 0, none⟩ = some (.slice A1_0 l1_0.length c1_0) := (blk_cell BK377.out 0).trans rfl; have hcz26_1 : w23.cell? ⟨gb377, 1, none⟩ = some (.slice A1_1 l1_1.length c1_1) := (blk_cell BK377.out 1).trans rfl; have hcz26_2 : w23.cell? ⟨gb377, 2, none⟩ = some (.slice A1_2 l1_2.length c1_2) := (blk_cell BK377.out 2).trans rfl; have hcz26_3 : w23.cell? ⟨gb377, 3, none⟩ = some (.slice A1_3 l1_3.length c1_3) := (blk_cell BK377.out 3).trans rfl; have hfz26_0 := blk_frozen BK377.out 0; have hfz26_1 := blk_frozen BK377.out 1; have hfz26_2 := blk_frozen BK377.out 2; have hfz26_3 := blk_frozen BK377.out 3) | ((with_reducible refine gate_callee (f := 49) rfl ?_); refine goesL_ (some 12) rfl rfl Tryd.func49 (by kernel_rfl) rfl #[.slice A0_0 l0_0.length c0_0, .slice A1_0 l1_0.length c1_0, .func (.func 44) #[] #[]] rfl (by (try simp only [List.map_toArray, List.map_cons, List.map_nil]); first | done | rfl | (simp only [List.length_drop, List.length_take]; rfl)) ?_; (with_reducible refine (tree_Enum_at_tree_Same_1.calls k _ _ l0_0 _ _ l1_0 true _ ?side1 ?side2 ?side3 ?side4 A3.out).mono ?_); (case side1 => repeat (first | exact (Kd.C_below HR0_0.out HB.out) | (with_reducible refine Kd.C_alloc ?_ _) | (with_reducible refine Kd.C_drewN ?_ _) | (with_reducible refine Kd.C_drew ?_))); (case side2 => exact HC0_0.out); (case side3 => repeat (first | exact (Kd.C_below HR1_0.out HB.out) | (with_reducible refine Kd.C_alloc ?_ _) | (with_reducible refine Kd.C_drewN ?_ _) | (with_reducible refine Kd.C_drew ?_))); (case side4 => exact HC1_0.out); rintro e w27 ⟨rfl, hb⟩; refine ⟨_, rfl, ?_⟩; have n0_ := Aside0.mk (blk_below (g := gb376) (o := .cells #[.slice A0_0 l0_0.length c0_0, .slice A0_1 l0_1.length c0_1, .slice A0_2 l0_2.length c0_2, .slice A0_3 l0_3.length c0_3] 50 (0, 0)) (by (with_reducible repeat (first | refine blk_drewN ?_ _ | refine blk_drew ?_ | refine blk_alloc ?_ _)); exact BK376.out) hb); have n1_ := Aside0.mk (blk_below (g := gb377) (o := .cells #[.slice A1_0 l1_0.length c1_0, .slice A1_1 l1_1.length c1_1, .slice A1_2 l1_2.length c1_2, .slice A1_3 l1_3.length c1_3] 50 (0, 0)) (by (with_reducible repeat (first | refine blk_drewN ?_ _ | refine blk_drew ?_ | refine blk_alloc ?_ _)); exact BK377.out) hb); have n2_ := Aside0.mk (below_step (by repeat (first | (with_reducible first | exact HB.out | apply below_alloc | apply pw_below_drewN | apply below_drew1 | refine below_set ?_ GE376.out | refine below_set ?_ GE377.out) | exact HB.out)) hb); clear BK376; clear BK377; clear HB; have BK376 := n0_; have BK377 := n1_; have HB := n2_; clear n0_ n1_ n2_; (try clear hb); (try clear hb2); (try clear hk); (try clear hi); have hcz28_0 : w27.cell? ⟨gb376, 0, none⟩ = some (.slice A0_0 l0_0.length c0_0) := (blk_cell BK376.out 0).trans rfl; have hcz28_1 : w27.cell? ⟨gb376, 1, none⟩ = some (.slice A0_1 l0_1.length c0_1) := (blk_cell BK376.out 1).trans rfl; have hcz28_2 : w27.cell? ⟨gb376, 2, none⟩ = some (.slice A0_2 l0_2.length c0_2) := (blk_cell BK376.out 2).trans rfl; have hcz28_3 : w27.cell? ⟨gb376, 3, none⟩ = some (.slice A0_3 l0_3.length c0_3) := (blk_cell BK376.out 3).trans rfl; have hfz28_0 := blk_frozen BK376.out 0; have hfz28_1 := blk_frozen BK376.out 1; have hfz28_2 := blk_frozen BK376.out 2; have hfz28_3 := blk_frozen BK376.out 3; have hcz29_0 : w27.cell? ⟨gb377, 0, none⟩ = some (.slice A1_0 l1_0.length c1_0) := (blk_cell BK377.out 0).trans rfl; have hcz29_1 : w27.cell? ⟨gb377, 1, none⟩ = some (.slice A1_1 l1_1.length c1_1) := (blk_cell BK377.out 1).trans rfl; have hcz29_2 : w27.cell? ⟨gb377, 2, none⟩ = some (.slice A1_2 l1_2.length c1_2) := (blk_cell BK377.out 2).trans rfl; have hcz29_3 : w27.cell? ⟨gb377, 3, none⟩ = some (.slice A1_3 l1_3.length c1_3) := (blk_cell BK377.out 3).trans rfl; have hfz29_0 := blk_frozen BK377.out 0; have hfz29_1 := blk_frozen BK377.out 1; have hfz29_2 := blk_frozen BK377.out 2; have hfz29_3 := blk_frozen BK377.out 3) | (go_at_call 50; (with_reducible refine (tree_Var.calls k _ _ l0_1 _ _ l1_1 true _ ?side1 ?side2 ?side3 ?side4 A5.out).mono ?_); (case side1 => repeat (first | exact (Kd.C_below HR0_1.out HB.out) | (with_reducible refine Kd.C_alloc ?_ _) | (with_reducible refine Kd.C_drewN ?_ _) | (with_reducible refine Kd.C_drew ?_))); (case side2 => exact HC0_1.out); (case side3 => repeat (first | exact (Kd.C_below HR1_1.out HB.out) | (with_reducible refine Kd.C_alloc ?_ _) | (with_reducible refine Kd.C_drewN ?_ _) | (with_reducible refine Kd.C_drew ?_))); (case side4 => exact HC1_1.out); rintro e w' ⟨rfl, ⟨nd, rfl⟩⟩) | (go_at_call 51; (with_reducible refine (tree_Proc_at_tree_Same_2.calls k _ _ l0_2 _ _ l1_2 false _ ?side1 ?side2 ?side3 ?side4 A7.out).mono ?_); (case side1 => repeat (first | exact (Kd.C_below HR0_2.out (by repeat (first | (with_reducible first | exact HB.out | apply below_alloc | apply pw_below_drewN | apply below_drew1 | refine below_set ?_ GE376.out | refine below_set ?_ GE377.out) | exact HB.out))) | (with_reducible refine Kd.C_alloc ?_ _) | (with_reducible refine Kd.C_drewN ?_ _) | (with_reducible refine Kd.C_drew ?_))); (case side2 => exact HC0_2.out); (case side3 => repeat (first | exact (Kd.C_below HR1_2.out (by repeat (first | (with_reducible first | exact HB.out | apply below_alloc | apply pw_below_drewN | apply below_drew1 | refine below_set ?_ GE376.out | refine below_set ?_ GE377.out) | exact HB.out))) | (with_reducible refine Kd.C_alloc ?_ _) | (with_reducible refine Kd.C_drewN ?_ _) | (with_reducible refine Kd.C_drew ?_))); (case side4 => exact HC1_2.out); rintro e w30 ⟨rfl, hb⟩; have n0_ := Aside0.mk (blk_below (g := gb376) (o := .cells #[.slice A0_0 l0_0.length c0_0, .slice A0_1 l0_1.length c0_1, .slice A0_2 l0_2.length c0_2, .slice A0_3 l0_3.length c0_3] 50 (0, 0)) (by (with_reducible repeat (first | refine blk_drewN ?_ _ | refine blk_drew ?_ | refine blk_alloc ?_ _)); exact BK376.out) hb); have n1_ := Aside0.mk (blk_below (g := gb377) (o := .cells #[.slice A1_0 l1_0.length c1_0, .slice A1_1 l1_1.length c1_1, .slice A1_2 l1_2.length c1_2, .slice A1_3 l1_3.length c1_3] 50 (0, 0)) (by (with_reducible repeat (first | refine blk_drewN ?_ _ | refine blk_drew ?_ | refine blk_alloc ?_ _)); exact BK377.out) hb); have n2_ := Aside0.mk (below_step (by repeat (first | (with_reducible first | exact HB.out | apply below_alloc | apply pw_below_drewN | apply below_drew1 | refine below_set ?_ GE376.out | refine below_set ?_ GE377.out) | exact HB.out)) hb); clear BK376; clear BK377; clear HB; have BK376 := n0_; have BK377 := n1_; have HB := n2_; clear n0_ n1_ n2_; (try clear hb); (try clear hb2); (try clear hk); (try clear hi)))
        go_ret
        exact ⟨by first | rfl | (simp [errW_none, errW_some] <;> rfl) | (simp [*, errW_none, errW_some] <;> rfl), by repeat (first | (with_reducible first | exact HB.out | apply below_alloc | apply pw_below_drewN | apply below_drew1 | refine below_set ?_ GE376.out | refine below_set ?_ GE377.out) | exact HB.out)⟩
    · replace c6 := Bool.eq_false_iff.mpr c6
      subst c6
      have H1 : (some false) = some r := by rw [if_neg (show ¬ (false = true) by decide)] at H; exact H
      clear H
      have H := H1
      clear H1
      obtain rfl := Option.some.inj H
      go_enter Tryd.func28, Tryd.ntmps28
      go_wp2_with (first | ((with_reducible refine gate_dst (N := 2) rfl ?_); refine box_event ?hg (N := 2) ?hd (cs := #[.slice A0_0 l0_0.length c0_0, .slice A0_1 l0_1.length c0_1, .slice A0_2 l0_2.length c0_2, .slice A0_3 l0_3.length c0_3]) (t := 50) ?hr ?_; (case hd => rfl); (case hg => rfl); (case hr => first | (go_simp; done) | (go_simp; rfl)); intro gb376 hg w31 hbox hb; have n0_ := Aside0.mk (below_step (by repeat (first | (with_reducible first | exact HB.out | apply below_alloc | apply pw_below_drewN | apply below_drew1) | exact HB.out)) hb); have n1_ := Aside0.mk (hbox); have n2_ := Aside0.mk ((by rw [hg]; exact (below_size (by repeat (first | (with_reducible first | exact HB.out | apply below_alloc | apply pw_below_drewN | apply below_drew1) | exact HB.out))) : w.heap.size ≤ gb376)); have n3_ := Aside0.mk ((by rw [hg]; exact (below_size (by repeat (first | (with_reducible first | exact HB.out | apply below_alloc | apply pw_below_drewN | apply below_drew1) | exact HB.out))) : w.heap.size ≤ gb376)); clear HB; have HB := n0_; have BK376 := n1_; have GW376 := n2_; have GE376 := n3_; clear n0_ n1_ n2_ n3_; clear hb hbox hg) | ((with_reducible refine gate_dst (N := 3) rfl ?_); refine box_event ?hg (N := 3) ?hd (cs := #[.slice A1_0 l1_0.length c1_0, .slice A1_1 l1_1.length c1_1, .slice A1_2 l1_2.length c1_2, .slice A1_3 l1_3.length c1_3]) (t := 50) ?hr ?_; (case hd => rfl); (case hg => rfl); (case hr => first | (go_simp; done) | (go_simp; rfl)); intro gb377 hg w32 hbox hb; have n0_ := Aside0.mk (blk_below (g := gb376) (o := .cells #[.slice A0_0 l0_0.length c0_0, .slice A0_1 l0_1.length c0_1, .slice A0_2 l0_2.length c0_2, .slice A0_3 l0_3.length c0_3] 50 (0, 0)) (by (with_reducible repeat (first | refine blk_drewN ?_ _ | refine blk_drew ?_ | refine blk_alloc ?_ _)); exact BK376.out) hb); have n1_ := Aside0.mk (below_step (by repeat (first | (with_reducible first | exact HB.out | apply below_alloc | apply pw_below_drewN | apply below_drew1 | refine below_set ?_ GE376.out) | exact HB.out)) hb); have n2_ := Aside0.mk (hbox); have n3_ := Aside0.mk ((by rw [hg]; exact (below_size (by repeat (first | (with_reducible first | exact HB.out | apply below_alloc | apply pw_below_drewN | apply below_drew1 | refine below_set ?_ GE376.out) | exact HB.out))) : w.heap.size ≤ gb377)); have n4_ := Aside0.mk ((by rw [hg]; exact (below_size (by repeat (first | (with_reducible first | exact HB.out | apply below_alloc | apply pw_below_drewN | apply below_drew1 | refine below_set ?_ GE376.out) | exact HB.out))) : w.heap.size ≤ gb377)); have n5_ := Aside0.mk ((by rw [hg]; exact Nat.ne_of_lt (blk_lt (g := gb376) (o := .cells #[.slice A0_0 l0_0.length c0_0, .slice A0_1 l0_1.length c0_1, .slice A0_2 l0_2.length c0_2, .slice A0_3 l0_3.length c0_3] 50 (0, 0)) (by (with_reducible repeat (first | refine blk_drewN ?_ _ | refine blk_drew ?_ | refine blk_alloc ?_ _)); exact BK376.out)) : gb376 ≠ gb377)); have n6_ := Aside0.mk ((by rw [hg]; exact Nat.ne_of_gt (blk_lt (g := gb376) (o := .cells #[.slice A0_0 l0_0.length c0_0, .slice A0_1 l0_1.length c0_1, .slice A0_2 l0_2.length c0_2, .slice A0_3 l0_3.length c0_3] 50 (0, 0)) (by (with_reducible repeat (first | refine blk_drewN ?_ _ | refine blk_drew ?_ | refine blk_alloc ?_ _)); exact BK376.out)) : gb377 ≠ gb376)); clear BK376; clear HB; have BK376 := n0_; have HB := n1_; have BK377 := n2_; have GW377 := n3_; have GE377 := n4_; have NB376_377 := n5_; have NB377_376 := n6_; clear n0_ n1_ n2_ n3_ n4_ n5_ n6_; clear hb hbox hg; have hnb33 := NB376_377.out; have hnc33 := NB377_376.out; have hcz34_0 : w32.cell? ⟨gb376, 0, none⟩ = some (.slice A0_0 l0_0.length c0_0) := (blk_cell BK376.out 0).trans rfl; have hcz34_1 : w32.cell? ⟨gb376, 1, none⟩ = some (.slice A0_1 l0_1.length c0_1) := (blk_cell BK376.out 1).trans rfl; have hcz34_2 : w32.cell? ⟨gb376, 2, none⟩ = some (.slice A0_2 l0_2.length c0_2) := (blk_cell BK376.out 2).trans rfl; have hcz34_3 : w32.cell? ⟨gb376, 3, none⟩ = some (.slice A0_3 l0_3.length c0_3) := (blk_cell BK376.out 3).trans rfl; have hfz34_0 := blk_frozen BK376.out 0; have hfz34_1 := blk_frozen BK376.out 1; have hfz34_2 := blk_frozen BK376.out 2; have hfz34_3 := blk_frozen BK376.out 3; have hcz35_0 : w32.cell? ⟨gb377, 0, none⟩ = some (.slice A1_0 l1_0.length c1_0) := (blk_cell BK377.out 0).trans rfl; have hcz35_1 : w32.cell? ⟨gb377, 1, none⟩ = some (.slice A1_1 l1_1.length c1_1) := (blk_cell BK377.out 1).trans rfl; have hcz35_2 : w32.cell? ⟨gb377, 2, none⟩ = some (.slice A1_2 l1_2.length c1_2) := (blk_cell BK377.out 2).trans rfl; have hcz35_3 : w32.cell? ⟨gb377, 3, none⟩ = some (.slice A1_3 l1_3.length c1_3) := (blk_cell BK377.out 3).trans rfl; have hfz35_0 := blk_frozen BK377.out 0; have hfz35_1 := blk_frozen BK377.out 1; have hfz35_2 := blk_frozen BK377.out 2; have hfz35_3 := blk_frozen BK377.out 3) | ((with_reducible refine gate_callee (f := 49) rfl ?_); refine goesL_ (some 12) rfl rfl Tryd.func49 (by kernel_rfl) rfl #[.slice A0_0 l0_0.length c0_0, .slice A1_0 l1_0.length c1_0, .func (.func 44) #[] #[]] rfl (by (try simp only [List.map_toArray, List.map_cons, List.map_nil]); first | done | rfl | (simp only [List.length_drop, List.length_take]; rfl)) ?_; (with_reducible refine (tree_Enum_at_tree_Same_1.calls k _ _ l0_0 _ _ l1_0 true _ ?side1 ?side2 ?side3 ?side4 A3.out).mono ?_); (case side1 => repeat (first | exact (Kd.C_below HR0_0.out HB.out) | (with_reducible refine Kd.C_alloc ?_ _) | (with_reducible refine Kd.C_drewN ?_ _) | (with_reducible refine Kd.C_drew ?_))); (case side2 => exact HC0_0.out); (case side3 => repeat (first | exact (Kd.C_below HR1_0.out HB.out) | (with_reducible refine Kd.C_alloc ?_ _) | (with_reducible refine Kd.C_drewN ?_ _) | (with_reducible refine Kd.C_drew ?_))); (case side4 => exact HC1_0.out); rintro e w36 ⟨rfl, hb⟩; refine ⟨_, rfl, ?_⟩; have n0_ := Aside0.mk (blk_below (g := gb376) (o := .cells #[.slice A0_0 l0_0.length c0_0, .slice A0_1 l0_1.length c0_1, .slice A0_2 l0_2.length c0_2, .slice A0_3 l0_3.length c0_3] 50 (0, 0)) (by (with_reducible repeat (first | refine blk_drewN ?_ _ | refine blk_drew ?_ | refine blk_alloc ?_ _)); exact BK376.out) hb); have n1_ := Aside0.mk (blk_below (g := gb377) (o := .cells #[.slice A1_0 l1_0.length c1_0, .slice A1_1 l1_1.length c1_1, .slice A1_2 l1_2.length c1_2, .slice A1_3 l1_3.length c1_3] 50 (0, 0)) (by (with_reducible repeat (first | refine blk_drewN ?_ _ | refine blk_drew ?_ | refine blk_alloc ?_ _)); exact BK377.out) hb); have n2_ := Aside0.mk (below_step (by repeat (first | (with_reducible first | exact HB.out | apply below_alloc | apply pw_below_drewN | apply below_drew1 | refine below_set ?_ GE376.out | refine below_set ?_ GE377.out) | exact HB.out)) hb); clear BK376; clear BK377; clear HB; have BK376 := n0_; have BK377 := n1_; have HB := n2_; clear n0_ n1_ n2_; (try clear hb); (try clear hb2); (try clear hk); (try clear hi); have hcz37_0 : w36.cell? ⟨gb376, 0, none⟩ = some (.slice A0_0 l0_0.length c0_0) := (blk_cell BK376.out 0).trans rfl; have hcz37_1 : w36.cell? ⟨gb376, 1, none⟩ = some (.slice A0_1 l0_1.length c0_1) := (blk_cell BK376.out 1).trans rfl; have hcz37_2 : w36.cell? ⟨gb376, 2, none⟩ = some (.slice A0_2 l0_2.length c0_2) := (blk_cell BK376.out 2).trans rfl; have hcz37_3 : w36.cell? ⟨gb376, 3, none⟩ = some (.slice A0_3 l0_3.length c0_3) := (blk_cell BK376.out 3).trans rfl; have hfz37_0 := blk_frozen BK376.out 0; have hfz37_1 := blk_frozen BK376.out 1; have hfz37_2 := blk_frozen BK376.out 2; have hfz37_3 := blk_frozen BK376.out 3; have hcz38_0 : w36.cell? ⟨gb377, 0, none⟩ = some (.slice A1_0 l1_0.length c1_0) := (blk_cell BK377.out 0).trans rfl; have hcz38_1 : w36.cell? ⟨gb377, 1, none⟩ = some (.slice A1_1 l1_1.length c1_1) := (blk_cell BK377.out 1).trans rfl; have hcz38_2 : w36.cell? ⟨gb377, 2, none⟩ = some (.slice A1_2 l1_2.length c1_2) := (blk_cell BK377.out 2).trans rfl; have hcz38_3 : w36.cell? ⟨gb377, 3, none⟩ = some (.slice A1_3 l1_3.length c1_3) := (blk_cell BK377.out 3).trans rfl; have hfz38_0 := blk_frozen BK377.out 0; have hfz38_1 := blk_frozen BK377.out 1; have hfz38_2 := blk_frozen BK377.out 2; have hfz38_3 := blk_frozen BK377.out 3) | (go_at_call 50; (with_reducible refine (tree_Var.calls k _ _ l0_1 _ _ l1_1 false _ ?side1 ?side2 ?side3 ?side4 A5.out).mono ?_); (case side1 => repeat (first | exact (Kd.C_below HR0_1.out HB.out) | (with_reducible refine Kd.C_alloc ?_ _) | (with_reducible refine Kd.C_drewN ?_ _) | (with_reducible refine Kd.C_drew ?_))); (case side2 => exact HC0_1.out); (case side3 => repeat (first | exact (Kd.C_below HR1_1.out HB.out) | (with_reducible refine Kd.C_alloc ?_ _) | (with_reducible refine Kd.C_drewN ?_ _) | (with_reducible refine Kd.C_drew ?_))); (case side4 => exact HC1_1.out); rintro e w' ⟨rfl, ⟨nd, rfl⟩⟩))
      go_ret
      exact ⟨by first | rfl | (simp [errW_none, errW_some] <;> rfl) | (simp [*, errW_none, errW_some] <;> rfl), by repeat (first | (with_reducible first | exact HB.out | apply below_alloc | apply pw_below_drewN | apply below_drew1 | refine below_set ?_ GE376.out | refine below_set ?_ GE377.out) | exact HB.out)⟩
  · replace c4 := Bool.eq_false_iff.mpr c4
    subst c4
    have H1 : (some false) = some r := by rw [if_neg (show ¬ (false = true) by decide)] at H; exact H
    clear H
    have H := H1
    clear H1
    obtain rfl := Option.some.inj H
    go_enter Tryd.func28, Tryd.ntmps28
    go_wp2_with (first | ((with_reducible refine gate_dst (N := 2) rfl ?_); refine box_event ?hg (N := 2) ?hd (cs := #[.slice A0_0 l0_0.length c0_0, .slice A0_1 l0_1.length c0_1, .slice A0_2 l0_2.length c0_2, .slice A0_3 l0_3.length c0_3]) (t := 50) ?hr ?_; (case hd => rfl); (case hg => rfl); (case hr => first | (go_simp; done) | (go_simp; rfl)); intro gb376 hg w39 hbox hb; have n0_ := Aside0.mk (below_step (by repeat (first | (with_reducible first | exact HB.out | apply below_alloc | apply pw_below_drewN | apply below_drew1) | exact HB.out)) hb); have n1_ := Aside0.mk (hbox); have n2_ := Aside0.mk ((by rw [hg]; exact (below_size (by repeat (first | (with_reducible first | exact HB.out | apply below_alloc | apply pw_below_drewN | apply below_drew1) | exact HB.out))) : w.heap.size ≤ gb376)); have n3_ := Aside0.mk ((by rw [hg]; exact (below_size (by repeat (first | (with_reducible first | exact HB.out | apply below_alloc | apply pw_below_drewN | apply below_drew1) | exact HB.out))) : w.heap.size ≤ gb376)); clear HB; have HB := n0_; have BK376 := n1_; have GW376 := n2_; have GE376 := n3_; clear n0_ n1_ n2_ n3_; clear hb hbox hg) | ((with_reducible refine gate_dst (N := 3) rfl ?_); refine box_event ?hg (N := 3) ?hd (cs := #[.slice A1_0 l1_0.length c1_0, .slice A1_1 l1_1.length c1_1, .slice A1_2 l1_2.length c1_2, .slice A1_3 l1_3.length c1_3]) (t := 50) ?hr ?_; (case hd => rfl); (case hg => rfl); (case hr => first | (go_simp; done) | (go_simp; rfl)); intro gb377 hg w40 hbox hb; have n0_ := Aside0.mk (blk_below (g := gb376) (o := .cells #[.slice A0_0 l0_0.length c0_0, .slice A0_1 l0_1.length c0_1, .slice A0_2 l0_2.length c0_2, .slice A0_3 l0_3.length c0_3] 50 (0, 0)) (by (with_reducible repeat (first | refine blk_drewN ?_ _ | refine blk_drew ?_ | refine blk_alloc ?_ _)); exact BK376.out) hb); have n1_ := Aside0.mk (below_step (by repeat (first | (with_reducible first | exact HB.out | apply below_alloc | apply pw_below_drewN | apply below_drew1 | refine below_set ?_ GE376.out) | exact HB.out)) hb); have n2_ := Aside0.mk (hbox); have n3_ := Aside0.mk ((by rw [hg]; exact (below_size (by repeat (first | (with_reducible first | exact HB.out | apply below_alloc | apply pw_below_drewN | apply below_drew1 | refine below_set ?_ GE376.out) | exact HB.out))) : w.heap.size ≤ gb377)); have n4_ := Aside0.mk ((by rw [hg]; exact (below_size (by repeat (first | (with_reducible first | exact HB.out | apply below_alloc | apply pw_below_drewN | apply below_drew1 | refine below_set ?_ GE376.out) | exact HB.out))) : w.heap.size ≤ gb377)); have n5_ := Aside0.mk ((by rw [hg]; exact Nat.ne_of_lt (blk_lt (g := gb376) (o := .cells #[.slice A0_0 l0_0.length c0_0, .slice A0_1 l0_1.length c0_1, .slice A0_2 l0_2.length c0_2, .slice A0_3 l0_3.length c0_3] 50 (0, 0)) (by (with_reducible repeat (first | refine blk_drewN ?_ _ | refine blk_drew ?_ | refine blk_alloc ?_ _)); exact BK376.out)) : gb376 ≠ gb377)); have n6_ := Aside0.mk ((by rw [hg]; exact Nat.ne_of_gt (blk_lt (g := gb376) (o := .cells #[.slice A0_0 l0_0.length c0_0, .slice A0_1 l0_1.length c0_1, .slice A0_2 l0_2.length c0_2, .slice A0_3 l0_3.length c0_3] 50 (0, 0)) (by (with_reducible repeat (first | refine blk_drewN ?_ _ | refine blk_drew ?_ | refine blk_alloc ?_ _)); exact BK376.out)) : gb377 ≠ gb376)); clear BK376; clear HB; have BK376 := n0_; have HB := n1_; have BK377 := n2_; have GW377 := n3_; have GE377 := n4_; have NB376_377 := n5_; have NB377_376 := n6_; clear n0_ n1_ n2_ n3_ n4_ n5_ n6_; clear hb hbox hg; have hnb41 := NB376_377.out; have hnc41 := NB377_376.out; have hcz42_0 : w40.cell? ⟨gb376, 0, none⟩ = some (.slice A0_0 l0_0.length c0_0) := (blk_cell BK376.out 0).trans rfl; have hcz42_1 : w40.cell? ⟨gb376, 1, none⟩ = some (.slice A0_1 l0_1.length c0_1) := (blk_cell BK376.out 1).trans rfl; have hcz42_2 : w40.cell? ⟨gb376, 2, none⟩ = some (.slice A0_2 l0_2.length c0_2) := (blk_cell BK376.out 2).trans rfl; have hcz42_3 : w40.cell? ⟨gb376, 3, none⟩ = some (.slice A0_3 l0_3.length c0_3) := (blk_cell BK376.out 3).trans rfl; have hfz42_0 := blk_frozen BK376.out 0; have hfz42_1 := blk_frozen BK376.out 1; have hfz42_2 := blk_frozen BK376.out 2; have hfz42_3 := blk_frozen BK376.out 3; have hcz43_0 : w40.cell? ⟨gb377, 0, none⟩ = some (.slice A1_0 l1_0.length c1_0) := (blk_cell BK377.out 0).trans rfl; have hcz43_1 : w40.cell? ⟨gb377, 1, none⟩ = some (.slice A1_1 l1_1.length c1_1) := (blk_cell BK377.out 1).trans rfl; have hcz43_2 : w40.cell? ⟨gb377, 2, none⟩ = some (.slice A1_2 l1_2.length c1_2) := (blk_cell BK377.out 2).trans rfl; have hcz43_3 : w40.cell? ⟨gb377, 3, none⟩ = some (.slice A1_3 l1_3.length c1_3) := (blk_cell BK377.out 3).trans rfl; have hfz43_0 := blk_frozen BK377.out 0; have hfz43_1 := blk_frozen BK377.out 1; have hfz43_2 := blk_frozen BK377.out 2; have hfz43_3 := blk_frozen BK377.out 3) | ((with_reducible refine gate_callee (f := 49) rfl ?_); refine goesL_ (some 12) rfl rfl Tryd.func49 (by kernel_rfl) rfl #[.slice A0_0 l0_0.length c0_0, .slice A1_0 l1_0.length c1_0, .func (.func 44) #[] #[]] rfl (by (try simp only [List.map_toArray, List.map_cons, List.map_nil]); first | done | rfl | (simp only [List.length_drop, List.length_take]; rfl)) ?_; (with_reducible refine (tree_Enum_at_tree_Same_1.calls k _ _ l0_0 _ _ l1_0 false _ ?side1 ?side2 ?side3 ?side4 A3.out).mono ?_); (case side1 => repeat (first | exact (Kd.C_below HR0_0.out HB.out) | (with_reducible refine Kd.C_alloc ?_ _) | (with_reducible refine Kd.C_drewN ?_ _) | (with_reducible refine Kd.C_drew ?_))); (case side2 => exact HC0_0.out); (case side3 => repeat (first | exact (Kd.C_below HR1_0.out HB.out) | (with_reducible refine Kd.C_alloc ?_ _) | (with_reducible refine Kd.C_drewN ?_ _) | (with_reducible refine Kd.C_drew ?_))); (case side4 => exact HC1_0.out); rintro e w44 ⟨rfl, hb⟩; refine ⟨_, rfl, ?_⟩; have n0_ := Aside0.mk (blk_below (g := gb376) (o := .cells #[.slice A0_0 l0_0.length c0_0, .slice A0_1 l0_1.length c0_1, .slice A0_2 l0_2.length c0_2, .slice A0_3 l0_3.length c0_3] 50 (0, 0)) (by (with_reducible repeat (first | refine blk_drewN ?_ _ | refine blk_drew ?_ | refine blk_alloc ?_ _)); exact BK376.out) hb); have n1_ := Aside0.mk (blk_below (g := gb377) (o := .cells #[.slice A1_0 l1_0.length c1_0, .slice A1_1 l1_1.length c1_1, .slice A1_2 l1_2.length c1_2, .slice A1_3 l1_3.length c1_3] 50 (0, 0)) (by (with_reducible repeat (first | refine blk_drewN ?_ _ | refine blk_drew ?_ | refine blk_alloc ?_ _)); exact BK377.out) hb); have n2_ := Aside0.mk (below_step (by repeat (first | (with_reducible first | exact HB.out | apply below_alloc | apply pw_below_drewN | apply below_drew1 | refine below_set ?_ GE376.out | refine below_set ?_ GE377.out) | exact HB.out)) hb); clear BK376; clear BK377; clear HB; have BK376 := n0_; have BK377 := n1_; have HB := n2_; clear n0_ n1_ n2_; (try clear hb); (try clear hb2); (try clear hk); (try clear hi)))
    go_ret
    exact ⟨by first | rfl | (simp [errW_none, errW_some] <;> rfl) | (simp [*, errW_none, errW_some] <;> rfl), by repeat (first | (with_reducible first | exact HB.out | apply below_alloc | apply pw_below_drewN | apply below_drew1 | refine below_set ?_ GE376.out | refine below_set ?_ GE377.out) | exact HB.out)⟩

end Go.Proofs.YtnnbbeloifhofaaDoor.P
end

section
/- What is the same: what the functions come to. -/
namespace Go.Proofs.YtnnbbeloifhofaaDoor.P
open Go Go.RowKit Go.Proofs
open Go.Proofs.YtnnbbeloifhofaaDoorW.PrintWords Go.Proofs.YtnnbbeloifhofaaDoorW.PrintLast Go.Proofs.YtnnbbeloifhofaaDoorW.PrintMore

def all2 {α β : Type} (s : α → β → Bool) : List α → List β → Bool
  | [], [] => true
  | x :: xs, y :: ys => s x y && all2 s xs ys
  | _, _ => false
theorem all2_len {α β : Type} {s : α → β → Bool} : ∀ {xs : List α} {ys : List β}, xs.length ≠ ys.length → all2 s xs ys = false
  | [], [], h => absurd rfl h
  | x :: xs, [], _ => rfl
  | [], y :: ys, _ => rfl
  | x :: xs, y :: ys, h => by
    rw [all2, all2_len (xs := xs) (ys := ys) (by intro e; exact h (by rw [List.length_cons, List.length_cons, e])), Bool.and_false]
theorem all2_congr {α β : Type} {s t : α → β → Bool} : ∀ {xs : List α} {ys : List β}, (∀ x ∈ xs, ∀ y ∈ ys, s x y = t x y) → all2 s xs ys = all2 t xs ys
  | [], [], _ => rfl
  | x :: xs, [], _ => rfl
  | [], y :: ys, _ => rfl
  | x :: xs, y :: ys, h => by
    rw [all2, all2, h x (List.mem_cons_self ..) y (List.mem_cons_self ..), all2_congr (xs := xs) (ys := ys) (fun a ha b hb => h a (List.mem_cons_of_mem _ ha) b (List.mem_cons_of_mem _ hb))]
theorem all2_map {α β γ δ : Type} {s : γ → δ → Bool} {f : α → γ} {g : β → δ} : ∀ {xs : List α} {ys : List β}, all2 s (xs.map f) (ys.map g) = all2 (fun x y => s (f x) (g y)) xs ys
  | [], [] => rfl
  | x :: xs, [] => rfl
  | [], y :: ys => rfl
  | x :: xs, y :: ys => by rw [List.map_cons, List.map_cons, all2, all2, all2_map]
/-- A loop that looks at two rows, place by place. -/
theorem all_loop {α β : Type} (xs : List α) (ys : List β) (za : α) (zb : β) (l0 : Nat → Int → Option Bool) (g : Nat → α → β → Option Bool) (s : α → β → Bool) (hl : xs.length = ys.length) (hlim : xs.length < 4611686018427387904)
    (hin : ∀ i : Nat, i < xs.length → ∀ r, Ev (fun k => (g k (xs.getD i za) (ys.getD i zb)).bind fun t => if t = true then l0 k (wrap64 ((i : Int) + 1)) else some false) r → Ev (fun k => l0 k i) r)
    (hout : Ev (fun k => l0 k xs.length) true) (hg : ∀ x ∈ xs, ∀ y ∈ ys, Ev (fun k => g k x y) (s x y)) : Ev (fun k => l0 k 0) (all2 s xs ys) := by
  have key : ∀ (m i : Nat), xs.length - i = m → i ≤ xs.length → Ev (fun k => l0 k i) (all2 s (xs.drop i) (ys.drop i)) := by
    intro m
    induction m with
    | zero =>
      intro i hm hi
      obtain rfl : i = xs.length := by omega
      rw [List.drop_length, hl, List.drop_length]
      rw [hl] at hout
      exact hout
    | succ m ih =>
      intro i hm hi
      have hx : i < xs.length := by omega
      have hy : i < ys.length := by omega
      refine hin i hx _ ?_
      rw [List.getD_eq_getElem?_getD, List.getD_eq_getElem?_getD, List.getElem?_eq_getElem hx, List.getElem?_eq_getElem hy, Option.getD_some, Option.getD_some]
      refine Ev.bind (hg _ (List.getElem_mem hx) _ (List.getElem_mem hy)) ?_
      rw [List.drop_eq_getElem_cons hx, List.drop_eq_getElem_cons hy, all2]
      cases h : s xs[i] ys[i] with
      | false => exact Ev.no (by simp) (by rw [Bool.false_and]; exact Ev.now _)
      | true =>
        refine Ev.yes rfl ?_
        rw [Bool.true_and, wrap64_small (by omega) (by omega)]
        exact ih (i + 1) (by omega) (by omega)
  exact key _ 0 rfl (Nat.zero_le _)
theorem rd_nat {α : Type} (l : List α) (i : Nat) (z : α) : l.getD (((i : Nat) : Int)).toNat z = l.getD i z := rfl

mutual
def sameE : RE → RE → Bool
  | ⟨a, b, n, l, _⟩, y => decide (a = y.f0) && (decide (b = y.f1) && (decide (n = y.f2) && sameEs l y.f3))
def sameEs : List RE → List RE → Bool
  | [], [] => true
  | x :: xs, y :: ys => sameE x y && sameEs xs ys
  | _, _ => false
end
mutual
def sameS : RS → RS → Bool
  | ⟨a, b, e, l, m, _⟩, y => decide (a = y.f0) && (decide (b = y.f1) && (sameEs e y.f2 && (sameSs l y.f3 && sameSs m y.f4)))
def sameSs : List RS → List RS → Bool
  | [], [] => true
  | x :: xs, y :: ys => sameS x y && sameSs xs ys
  | _, _ => false
end
theorem sameE_eq (x y : RE) : sameE x y = (decide (x.f0 = y.f0) && (decide (x.f1 = y.f1) && (decide (x.f2 = y.f2) && sameEs x.f3 y.f3))) := by cases x; rfl
theorem sameS_eq (x y : RS) : sameS x y = (decide (x.f0 = y.f0) && (decide (x.f1 = y.f1) && (sameEs x.f2 y.f2 && (sameSs x.f3 y.f3 && sameSs x.f4 y.f4)))) := by cases x; rfl
theorem sameEs_all : ∀ (l m : List RE), sameEs l m = all2 sameE l m
  | [], [] => rfl
  | _ :: _, [] => rfl
  | [], _ :: _ => rfl
  | x :: xs, y :: ys => by rw [sameEs, all2, sameEs_all]
theorem sameSs_all : ∀ (l m : List RS), sameSs l m = all2 sameS l m
  | [], [] => rfl
  | _ :: _, [] => rfl
  | [], _ :: _ => rfl
  | x :: xs, y :: ys => by rw [sameSs, all2, sameSs_all]

/-! ### the document's -/
theorem rSameEs_loop (a b a' b' : ByteArray) (n n' t t' : Int) (xs ys : List RE) (hl : xs.length = ys.length) (hlim : xs.length < 4611686018427387904)
    (h : ∀ x ∈ xs, ∀ y ∈ ys, Ev (fun k => helmsmanref12_SameExpr.f k x.f0 x.f1 x.f2 x.f3 x.f4 y.f0 y.f1 y.f2 y.f3 y.f4) (sameE x y)) :
    Ev (fun k => helmsmanref12_SameExpr.l0 k 0 a b n xs t a' b' n' ys t') (sameEs xs ys) := by
  rw [sameEs_all]
  refine all_loop xs ys z24 z24 (fun k i => helmsmanref12_SameExpr.l0 k i a b n xs t a' b' n' ys t') (fun k x y => helmsmanref12_SameExpr.f k x.f0 x.f1 x.f2 x.f3 x.f4 y.f0 y.f1 y.f2 y.f3 y.f4) sameE hl hlim ?_ ?_ h
  · intro i hi r hr
    exact Ev.step (fun k => helmsmanref12_SameExpr.l0.eq_2 _ _ _ _ _ _ _ _ _ _ _ k) (Ev.yes (by omega) (Ev.yes (by omega) (Ev.yes (by omega) hr)))
  · exact Ev.step (fun k => helmsmanref12_SameExpr.l0.eq_2 _ _ _ _ _ _ _ _ _ _ _ k) (Ev.no (by omega) (Ev.now _))
theorem rSameE_ev : ∀ x : RE, bulkE x < 1099511627776 → ∀ y, Ev (fun k => helmsmanref12_SameExpr.f k x.f0 x.f1 x.f2 x.f3 x.f4 y.f0 y.f1 y.f2 y.f3 y.f4) (sameE x y) := RE.all fun x ih hb y => by
  rw [bulkE_eq] at hb
  have hl := len_bulkEs x.f3
  rw [sameE_eq]
  have no : Ev (fun k => helmsmanref12_SameExpr.j0 k true x.f0 x.f1 x.f2 x.f3 x.f4 y.f0 y.f1 y.f2 y.f3 y.f4) false := Ev.step (fun k => helmsmanref12_SameExpr.j0.eq_2 _ _ _ _ _ _ _ _ _ _ _ k) (Ev.yes rfl (Ev.now _))
  refine Ev.step (fun k => helmsmanref12_SameExpr.f.eq_2 _ _ _ _ _ _ _ _ _ _ k) ?_
  by_cases h0 : x.f0 = y.f0
  · refine Ev.yes (toList_iff.2 h0) ?_
    rw [decide_eq_true h0, Bool.true_and]
    by_cases h1 : x.f1 = y.f1
    · refine Ev.yes (toList_iff.2 h1) ?_
      rw [decide_eq_true h1, Bool.true_and]
      by_cases h2 : x.f2 = y.f2
      · refine Ev.yes h2 ?_
        rw [decide_eq_true h2, Bool.true_and]
        refine Ev.step (fun k => helmsmanref12_SameExpr.j0.eq_2 _ _ _ _ _ _ _ _ _ _ _ k) ?_
        by_cases h3 : x.f3.length = y.f3.length
        · refine Ev.no (by simp [h3]) ?_
          exact rSameEs_loop _ _ _ _ _ _ _ _ _ _ h3 (by omega) (fun a ha b _ => ih a ha (by have := mem_bulkEs ha; omega) b)
        · refine Ev.yes (by simp; omega) ?_
          rw [sameEs_all, all2_len h3]; exact Ev.now _
      · refine Ev.no h2 ?_
        rw [decide_eq_false h2, Bool.false_and]; exact no
    · refine Ev.no (fun e => h1 (toList_iff.1 e)) ?_
      rw [decide_eq_false h1, Bool.false_and]; exact no
  · refine Ev.no (fun e => h0 (toList_iff.1 e)) ?_
    rw [decide_eq_false h0, Bool.false_and]; exact no
/-- A loop that goes on just if a step says so. -/
theorem all_step {α β : Type} (xs : List α) (ys : List β) (za : α) (zb : β) (l0 : Nat → Int → Option Bool) (s : α → β → Bool) (rest : Bool) (hl : xs.length = ys.length) (hlim : xs.length < 4611686018427387904)
    (hin : ∀ i : Nat, i < xs.length → ∀ r, Ev (fun k => l0 k (wrap64 ((i : Int) + 1))) r → Ev (fun k => l0 k i) (s (xs.getD i za) (ys.getD i zb) && r))
    (hout : Ev (fun k => l0 k xs.length) rest) : Ev (fun k => l0 k 0) (all2 s xs ys && rest) := by
  have key : ∀ (m i : Nat), xs.length - i = m → i ≤ xs.length → Ev (fun k => l0 k i) (all2 s (xs.drop i) (ys.drop i) && rest) := by
    intro m
    induction m with
    | zero =>
      intro i hm hi
      obtain rfl : i = xs.length := by omega
      rw [List.drop_length, hl, List.drop_length, all2, Bool.true_and]
      rw [hl] at hout
      exact hout
    | succ m ih =>
      intro i hm hi
      have hx : i < xs.length := by omega
      have hy : i < ys.length := by omega
      have := hin i hx (all2 s (xs.drop (i + 1)) (ys.drop (i + 1)) && rest) (by rw [wrap64_small (by omega) (by omega)]; exact ih (i + 1) (by omega) (by omega))
      rw [List.getD_eq_getElem?_getD, List.getD_eq_getElem?_getD, List.getElem?_eq_getElem hx, List.getElem?_eq_getElem hy, Option.getD_some, Option.getD_some] at this
      rw [List.drop_eq_getElem_cons hx, List.drop_eq_getElem_cons hy, all2, Bool.and_assoc]
      exact this
  exact key _ 0 rfl (Nat.zero_le _)
theorem getD_mem' {α : Type} {l : List α} {i : Nat} (z : α) (h : i < l.length) : l.getD i z ∈ l := by
  rw [List.getD_eq_getElem?_getD, List.getElem?_eq_getElem h, Option.getD_some]; exact List.getElem_mem h
theorem rSameS_l1 (x0 x1 : List RS) (i : Int) (u v : RS) (r : Bool) (hb : bulkEs u.f2 < 1099511627775) (hl : u.f2.length = v.f2.length) (hr : Ev (fun k => helmsmanref12_SameStmts.l0 k x0 x1 (wrap64 (i + 1))) r) :
    Ev (fun k => helmsmanref12_SameStmts.l1 k x0 x1 i 0 u.f0 u.f1 u.f2 u.f3 u.f4 u.f5 v.f0 v.f1 v.f2 v.f3 v.f4 v.f5) (sameEs u.f2 v.f2 && r) := by
  have hle := len_bulkEs u.f2
  rw [sameEs_all]
  refine all_step u.f2 v.f2 z24 z24 (fun k j => helmsmanref12_SameStmts.l1 k x0 x1 i j u.f0 u.f1 u.f2 u.f3 u.f4 u.f5 v.f0 v.f1 v.f2 v.f3 v.f4 v.f5) sameE r hl (by omega) ?_ ?_
  · intro j hj q hq
    refine Ev.step (fun k => helmsmanref12_SameStmts.l1.eq_2 _ _ _ _ _ _ _ _ _ _ _ _ _ _ _ _ k) (Ev.yes (by omega) (Ev.yes (by omega) (Ev.yes (by omega) ?_)))
    refine Ev.bind (rSameE_ev _ (by have := mem_bulkEs (getD_mem' z24 hj); exact (show bulkE (u.f2.getD j z24) < _ by omega)) _) ?_
    show Ev _ (sameE (u.f2.getD j z24) (v.f2.getD j z24) && q)
    cases h : sameE (u.f2.getD j z24) (v.f2.getD j z24) with
    | false => exact Ev.no (by rw [show sameE (rd_T24 u.f2 j) (rd_T24 v.f2 j) = false from h]; simp) (Ev.now _)
    | true => exact Ev.yes h (by rw [Bool.true_and]; exact hq)
  · exact Ev.step (fun k => helmsmanref12_SameStmts.l1.eq_2 _ _ _ _ _ _ _ _ _ _ _ _ _ _ _ _ k) (Ev.no (by omega) hr)
theorem rSameSs_of (xs ys : List RS) (hb : bulkSs xs < 1099511627775) (h : ∀ x ∈ xs, (∀ m, Ev (fun k => helmsmanref12_SameStmts.f k x.f3 m) (sameSs x.f3 m)) ∧ ∀ m, Ev (fun k => helmsmanref12_SameStmts.f k x.f4 m) (sameSs x.f4 m)) :
    Ev (fun k => helmsmanref12_SameStmts.f k xs ys) (sameSs xs ys) := by
  have hlen := len_bulkSs xs
  refine Ev.step (fun k => helmsmanref12_SameStmts.f.eq_2 _ _ k) ?_
  rw [sameSs_all]
  by_cases hl : xs.length = ys.length
  · refine Ev.yes (by omega) ?_
    rw [← Bool.and_true (all2 sameS xs ys)]
    refine all_step xs ys z29 z29 (fun k i => helmsmanref12_SameStmts.l0 k xs ys i) sameS true hl (by omega) ?_ ?_
    · intro i hi r hr
      have hm := getD_mem' z29 hi
      obtain ⟨ha, hc⟩ := h _ hm
      have hbu := mem_bulkSs hm
      refine Ev.step (fun k => helmsmanref12_SameStmts.l0.eq_2 _ _ _ k) (Ev.yes (by omega) (Ev.yes (by omega) (Ev.yes (by omega) ?_)))
      rw [show rd_T29 xs (i : Int) = xs.getD i z29 from rfl, show rd_T29 ys (i : Int) = ys.getD i z29 from rfl]
      revert ha hc hbu
      generalize xs.getD i z29 = u
      generalize ys.getD i z29 = v
      intro ha hc hbu
      rw [bulkS_eq] at hbu
      rw [sameS_eq]
      have no : Ev (fun k => helmsmanref12_SameStmts.j1 k xs ys i true u.f0 u.f1 u.f2 u.f3 u.f4 u.f5 v.f0 v.f1 v.f2 v.f3 v.f4 v.f5) false := Ev.step (fun k => helmsmanref12_SameStmts.j1.eq_2 _ _ _ _ _ _ _ _ _ _ _ _ _ _ _ _ k) (Ev.yes rfl (Ev.now _))
      by_cases h0 : u.f0 = v.f0
      · refine Ev.yes (toList_iff.2 h0) ?_
        rw [decide_eq_true h0, Bool.true_and]
        by_cases h1 : u.f1 = v.f1
        · refine Ev.yes (toList_iff.2 h1) ?_
          rw [decide_eq_true h1, Bool.true_and]
          by_cases h2 : u.f2.length = v.f2.length
          · refine Ev.yes (by omega) (Ev.bind (ha _) ?_)
            cases e3 : sameSs u.f3 v.f3 with
            | false =>
              refine Ev.no (by simp) ?_
              rw [Bool.false_and, Bool.and_false, Bool.false_and]; exact no
            | true =>
              refine Ev.yes rfl (Ev.bind (hc _) ?_)
              rw [Bool.true_and]
              refine Ev.step (fun k => helmsmanref12_SameStmts.j1.eq_2 _ _ _ _ _ _ _ _ _ _ _ _ _ _ _ _ k) ?_
              cases e4 : sameSs u.f4 v.f4 with
              | false =>
                refine Ev.yes (by simp) ?_
                rw [Bool.and_false, Bool.false_and]; exact Ev.now _
              | true =>
                refine Ev.no (by simp) ?_
                rw [Bool.and_true]
                exact rSameS_l1 xs ys i u v r (by omega) h2 hr
          · refine Ev.no (by omega) ?_
            rw [sameEs_all, all2_len h2, Bool.false_and, Bool.false_and]; exact no
        · refine Ev.no (fun e => h1 (toList_iff.1 e)) ?_
          rw [decide_eq_false h1, Bool.false_and, Bool.false_and]; exact no
      · refine Ev.no (fun e => h0 (toList_iff.1 e)) ?_
        rw [decide_eq_false h0, Bool.false_and, Bool.false_and]; exact no
    · exact Ev.step (fun k => helmsmanref12_SameStmts.l0.eq_2 _ _ _ k) (Ev.no (by omega) (Ev.now _))
  · refine Ev.no (by omega) ?_
    rw [all2_len hl]; exact Ev.now _
theorem rSameS_ev' : ∀ x : RS, bulkS x < 1099511627775 → (∀ m, Ev (fun k => helmsmanref12_SameStmts.f k x.f3 m) (sameSs x.f3 m)) ∧ ∀ m, Ev (fun k => helmsmanref12_SameStmts.f k x.f4 m) (sameSs x.f4 m) := RS.all fun x iha ihb hb => by
  rw [bulkS_eq] at hb
  exact ⟨fun m => rSameSs_of _ m (by omega) (fun y hy => iha y hy (by have := mem_bulkSs hy; omega)), fun m => rSameSs_of _ m (by omega) (fun y hy => ihb y hy (by have := mem_bulkSs hy; omega))⟩
theorem rSameSs_ev (l m : List RS) (hb : bulkSs l < 1099511627775) : Ev (fun k => helmsmanref12_SameStmts.f k l m) (sameSs l m) :=
  rSameSs_of l m hb (fun y hy => rSameS_ev' y (by have := mem_bulkSs hy; omega))
theorem rSameE_ev2 (x y : RE) (hb : bulkE x < 1099511627776) : Ev (fun k => helmsmanref12_SameExpr.f k x.f0 x.f1 x.f2 x.f3 x.f4 y.f0 y.f1 y.f2 y.f3 y.f4) (sameE x y) := rSameE_ev x hb y

/-! ### the program's -/
theorem getD_map' {α β : Type} (f : α → β) (l : List α) (i : Nat) (z : α) (z' : β) (h : i < l.length) : (l.map f).getD i z' = f (l.getD i z) := by
  rw [List.getD_eq_getElem?_getD, List.getD_eq_getElem?_getD, List.getElem?_map, List.getElem?_eq_getElem h]; rfl
theorem tSameEs_of (xs ys : List RE) (hb : bulkEs xs < 1099511627775)
    (h : ∀ x ∈ xs, ∀ y, Ev (fun k => tree_SameExpr.f k (convE x).f0 (convE x).f1 (convE x).f2 (convE x).f3 (convE x).f4 (convE y).f0 (convE y).f1 (convE y).f2 (convE y).f3 (convE y).f4) (sameE x y)) :
    Ev (fun k => tree_Expr_at_tree_SameExpr.f k (convEs xs) (convEs ys)) (sameEs xs ys) := by
  have hlen := len_bulkEs xs
  refine Ev.step (fun k => tree_Expr_at_tree_SameExpr.f.eq_2 _ _ k) ?_
  rw [sameEs_all, convEs_len, convEs_len]
  by_cases hl : xs.length = ys.length
  · refine Ev.yes (by omega) ?_
    rw [← Bool.and_true (all2 sameE xs ys)]
    refine all_step xs ys z24 z24 (fun k i => tree_Expr_at_tree_SameExpr.l0 k (convEs ys) (convEs xs) (xs.length : Int) i) sameE true hl (by omega) ?_ ?_
    · intro i hi r hr
      refine Ev.step (fun k => tree_Expr_at_tree_SameExpr.l0.eq_2 _ _ _ _ k) (Ev.yes (by omega) (Ev.yes (by omega) (Ev.yes (by rw [convEs_len]; omega) (Ev.yes (by rw [convEs_len]; omega) ?_))))
      rw [show rd_T33 (convEs xs) (i : Int) = convE (xs.getD i z24) by rw [convEs_map]; exact getD_map' convE xs i _ _ hi, show rd_T33 (convEs ys) (i : Int) = convE (ys.getD i z24) by rw [convEs_map]; exact getD_map' convE ys i _ _ (by omega)]
      refine Ev.bind (h _ (getD_mem' _ hi) _) ?_
      cases e : sameE (xs.getD i z24) (ys.getD i z24) with
      | false => exact Ev.no (by simp) (Ev.now _)
      | true => exact Ev.yes rfl (by rw [Bool.true_and]; exact hr)
    · exact Ev.step (fun k => tree_Expr_at_tree_SameExpr.l0.eq_2 _ _ _ _ k) (Ev.no (by omega) (Ev.now _))
  · refine Ev.no (by omega) ?_
    rw [all2_len hl]; exact Ev.now _
theorem tSameE_ev : ∀ x : RE, bulkE x < 1099511627776 → ∀ y, Ev (fun k => tree_SameExpr.f k (convE x).f0 (convE x).f1 (convE x).f2 (convE x).f3 (convE x).f4 (convE y).f0 (convE y).f1 (convE y).f2 (convE y).f3 (convE y).f4) (sameE x y) := RE.all fun x ih hb y => by
  rw [bulkE_eq] at hb
  rw [sameE_eq, convE_eq x, convE_eq y]
  refine Ev.step (fun k => tree_SameExpr.f.eq_2 _ _ _ _ _ _ _ _ _ _ k) ?_
  by_cases h0 : x.f0 = y.f0
  · refine Ev.yes (toList_iff.2 h0) ?_
    rw [decide_eq_true h0, Bool.true_and]
    by_cases h1 : x.f1 = y.f1
    · refine Ev.yes (toList_iff.2 h1) ?_
      rw [decide_eq_true h1, Bool.true_and]
      by_cases h2 : x.f2 = y.f2
      · refine Ev.yes h2 ?_
        rw [decide_eq_true h2, Bool.true_and]
        exact Ev.bind (tSameEs_of _ _ (by omega) (fun a ha b => ih a ha (by have := mem_bulkEs ha; omega) b)) (Ev.now _)
      · refine Ev.no h2 ?_
        rw [decide_eq_false h2, Bool.false_and]; exact Ev.now _
    · refine Ev.no (fun e => h1 (toList_iff.1 e)) ?_
      rw [decide_eq_false h1, Bool.false_and]; exact Ev.now _
  · refine Ev.no (fun e => h0 (toList_iff.1 e)) ?_
    rw [decide_eq_false h0, Bool.false_and]; exact Ev.now _
theorem tSameEs_ev (xs ys : List RE) (hb : bulkEs xs < 1099511627775) : Ev (fun k => tree_Expr_at_tree_SameExpr.f k (convEs xs) (convEs ys)) (sameEs xs ys) :=
  tSameEs_of xs ys hb (fun x hx y => tSameE_ev x (by have := mem_bulkEs hx; omega) y)
theorem tSameSs_of (xs ys : List RS) (hb : bulkSs xs < 1099511627775)
    (h : ∀ x ∈ xs, ∀ y, Ev (fun k => tree_sameStmt.f k (convS x).f0 (convS x).f1 (convS x).f2 (convS x).f3 (convS x).f4 (convS x).f5 (convS y).f0 (convS y).f1 (convS y).f2 (convS y).f3 (convS y).f4 (convS y).f5) (sameS x y)) :
    Ev (fun k => tree_Stmt_at_tree_sameStmt.f k (convSs xs) (convSs ys)) (sameSs xs ys) := by
  have hlen := len_bulkSs xs
  refine Ev.step (fun k => tree_Stmt_at_tree_sameStmt.f.eq_2 _ _ k) ?_
  rw [sameSs_all, convSs_len, convSs_len]
  by_cases hl : xs.length = ys.length
  · refine Ev.yes (by omega) ?_
    rw [← Bool.and_true (all2 sameS xs ys)]
    refine all_step xs ys z29 z29 (fun k i => tree_Stmt_at_tree_sameStmt.l0 k (convSs ys) (convSs xs) (xs.length : Int) i) sameS true hl (by omega) ?_ ?_
    · intro i hi r hr
      refine Ev.step (fun k => tree_Stmt_at_tree_sameStmt.l0.eq_2 _ _ _ _ k) (Ev.yes (by omega) (Ev.yes (by omega) (Ev.yes (by rw [convSs_len]; omega) (Ev.yes (by rw [convSs_len]; omega) ?_))))
      rw [show rd_T76 (convSs xs) (i : Int) = convS (xs.getD i z29) by rw [convSs_map]; exact getD_map' convS xs i _ _ hi, show rd_T76 (convSs ys) (i : Int) = convS (ys.getD i z29) by rw [convSs_map]; exact getD_map' convS ys i _ _ (by omega)]
      refine Ev.bind (h _ (getD_mem' _ hi) _) ?_
      cases e : sameS (xs.getD i z29) (ys.getD i z29) with
      | false => exact Ev.no (by simp) (Ev.now _)
      | true => exact Ev.yes rfl (by rw [Bool.true_and]; exact hr)
    · exact Ev.step (fun k => tree_Stmt_at_tree_sameStmt.l0.eq_2 _ _ _ _ k) (Ev.no (by omega) (Ev.now _))
  · refine Ev.no (by omega) ?_
    rw [all2_len hl]; exact Ev.now _
theorem tSameS_ev : ∀ x : RS, bulkS x < 1099511627775 → ∀ y, Ev (fun k => tree_sameStmt.f k (convS x).f0 (convS x).f1 (convS x).f2 (convS x).f3 (convS x).f4 (convS x).f5 (convS y).f0 (convS y).f1 (convS y).f2 (convS y).f3 (convS y).f4 (convS y).f5) (sameS x y) := RS.all fun x iha ihb hb y => by
  rw [bulkS_eq] at hb
  rw [sameS_eq, convS_eq x, convS_eq y]
  refine Ev.step (fun k => tree_sameStmt.f.eq_2 _ _ _ _ _ _ _ _ _ _ _ _ k) ?_
  by_cases h0 : x.f0 = y.f0
  · refine Ev.yes (toList_iff.2 h0) ?_
    rw [decide_eq_true h0, Bool.true_and]
    by_cases h1 : x.f1 = y.f1
    · refine Ev.yes (toList_iff.2 h1) ?_
      rw [decide_eq_true h1, Bool.true_and]
      refine Ev.bind (tSameEs_ev _ _ (by omega)) ?_
      cases e2 : sameEs x.f2 y.f2 with
      | false => exact Ev.no (by simp) (Ev.now _)
      | true =>
        refine Ev.yes rfl (Ev.bind (tSameSs_of _ _ (by omega) (fun a ha b => iha a ha (by have := mem_bulkSs ha; omega) b)) ?_)
        cases e3 : sameSs x.f3 y.f3 with
        | false => exact Ev.no (by simp) (Ev.now _)
        | true => exact Ev.yes rfl (Ev.bind (tSameSs_of _ _ (by omega) (fun a ha b => ihb a ha (by have := mem_bulkSs ha; omega) b)) (Ev.now _))
    · refine Ev.no (fun e => h1 (toList_iff.1 e)) ?_
      rw [decide_eq_false h1, Bool.false_and]; exact Ev.now _
  · refine Ev.no (fun e => h0 (toList_iff.1 e)) ?_
    rw [decide_eq_false h0, Bool.false_and]; exact Ev.now _
theorem tSameSs_ev (xs ys : List RS) (hb : bulkSs xs < 1099511627775) : Ev (fun k => tree_Stmt_at_tree_sameStmt.f k (convSs xs) (convSs ys)) (sameSs xs ys) :=
  tSameSs_of xs ys hb (fun x hx y => tSameS_ev x (by have := mem_bulkSs hx; omega) y)
end Go.Proofs.YtnnbbeloifhofaaDoor.P
end

section
namespace Go.Proofs.YtnnbbeloifhofaaDoor.P
open Go.RowKit Go.Proofs.YtnnbbeloifhofaaDoorW.PrintWords Go.Proofs.YtnnbbeloifhofaaDoorW.PrintLast Go.Proofs.YtnnbbeloifhofaaDoorW.PrintMore
attribute [local go_sem] max2_int min2_int max_two min_two max_three min_three max_four min_four   -- for this text's walks alone
set_option linter.unusedVariables false
set_option linter.unusedSimpArgs false

/-! ### helmsmanlaw12_Expr: function 11 -/
mutual
def helmsmanlaw12_Expr.l0 : Nat → List (S24) → Int → Int → ByteArray → ByteArray → Int → List (S33) → Int → Option (ByteArray × ByteArray × Int × (List (S33)) × Int)
  | 0, _, _, _, _, _, _, _, _ => none
  | k + 1, x16, x17, x18, x115000, x115001, x115002, x115003, x115004 => if x18 < x17 then (if 0 ≤ x18 then (if x18 < (x16.length : Int) then ((helmsmanlaw12_Expr.f k ((rd_T24 x16 x18).f0) ((rd_T24 x16 x18).f1) ((rd_T24 x16 x18).f2) ((rd_T24 x16 x18).f3) ((rd_T24 x16 x18).f4)).bind fun bt117 => (if x115003.length < 1954687338268 then (helmsmanlaw12_Expr.l0 k x16 x17 (wrap64 (x18 + 1)) x115000 x115001 x115002 (x115003 ++ [(⟨bt117.1, bt117.2.1, bt117.2.2.1, bt117.2.2.2.1, bt117.2.2.2.2⟩ : S33)]) x115004) else (none))) else (none)) else (none)) else (some (x115000, x115001, x115002, x115003, x115004))
def helmsmanlaw12_Expr.f : Nat → ByteArray → ByteArray → Int → List (S24) → Int → Option (ByteArray × ByteArray × Int × (List (S33)) × Int)
  | 0, _, _, _, _, _ => none
  | k + 1, a0_0, a0_1, a0_2, l0_3, a0_4 => helmsmanlaw12_Expr.l0 k l0_3 (l0_3.length : Int) 0 a0_0 a0_1 a0_2 ([] : List (S33)) a0_4
end
theorem helmsmanlaw12_Expr.mono_l : ∀ k, (∀ y0 y1 y2 y3 y4, LeO (helmsmanlaw12_Expr.f k y0 y1 y2 y3 y4) (helmsmanlaw12_Expr.f (k + 1) y0 y1 y2 y3 y4)) ∧ (∀ y0 y1 y2 y3 y4 y5 y6 y7, LeO (helmsmanlaw12_Expr.l0 k y0 y1 y2 y3 y4 y5 y6 y7) (helmsmanlaw12_Expr.l0 (k + 1) y0 y1 y2 y3 y4 y5 y6 y7))
  | 0 => ⟨fun _ _ _ _ _ r h => by simp [helmsmanlaw12_Expr.f] at h, fun _ _ _ _ _ _ _ _ r h => by simp [helmsmanlaw12_Expr.l0] at h⟩
  | k + 1 => by
    obtain ⟨ih0, ih1⟩ := helmsmanlaw12_Expr.mono_l k
    refine ⟨?_, ?_⟩
    · intro y0 y1 y2 y3 y4
      unfold helmsmanlaw12_Expr.f
      repeat' first
      | (with_reducible exact ih0 _ _ _ _ _)
      | (with_reducible exact ih1 _ _ _ _ _ _ _ _)
      | (with_reducible exact LeO.refl _)
      | (with_reducible exact LeO.none _)
      | (with_reducible refine LeO.ite ?_ ?_)
      | (with_reducible refine LeO.bind ?_ (fun _ => ?_))
      | exact ih0 _ _ _ _ _
      | exact ih1 _ _ _ _ _ _ _ _
      | exact LeO.none _
      | refine LeO.ite ?_ ?_
      | refine LeO.bind ?_ (fun _ => ?_)
    · intro y0 y1 y2 y3 y4 y5 y6 y7
      unfold helmsmanlaw12_Expr.l0
      repeat' first
      | (with_reducible exact ih0 _ _ _ _ _)
      | (with_reducible exact ih1 _ _ _ _ _ _ _ _)
      | (with_reducible exact LeO.refl _)
      | (with_reducible exact LeO.none _)
      | (with_reducible refine LeO.ite ?_ ?_)
      | (with_reducible refine LeO.bind ?_ (fun _ => ?_))
      | exact ih0 _ _ _ _ _
      | exact ih1 _ _ _ _ _ _ _ _
      | exact LeO.none _
      | refine LeO.ite ?_ ?_
      | refine LeO.bind ?_ (fun _ => ?_)
theorem helmsmanlaw12_Expr.mono : ∀ a0 a1 a2 a3 a4 k, LeO (helmsmanlaw12_Expr.f k a0 a1 a2 a3 a4) (helmsmanlaw12_Expr.f (k + 1) a0 a1 a2 a3 a4) := by
  intro a0 a1 a2 a3 a4 k
  obtain ⟨ih0, ih1⟩ := helmsmanlaw12_Expr.mono_l k
  exact ih0 a0 a1 a2 a3 a4
def helmsmanlaw12_Expr.T5 : Bool × List (List Nat × List Nat) := (true, [([], []), ([0], [0]), ([], []), ([2], [2]), ([3], [3]), ([1, 4, 3], [1, 4]), ([0, 1, 2, 3, 4, 5], []), ([6, 5, 5, 0, 1, 2, 3, 4, 5], [5, 6])])
def helmsmanlaw12_Expr.B5 : List Nat := [0, 1, 0, 4, 12, 31, 63, 127]
theorem helmsmanlaw12_Expr.tab5 : rtab .any (opsOf Tryd.f11 5) = helmsmanlaw12_Expr.T5 := by kernel_rfl
theorem helmsmanlaw12_Expr.bits5 : waitsOk helmsmanlaw12_Expr.T5.2 helmsmanlaw12_Expr.B5 = true := by kernel_rfl
set_option maxHeartbeats 8000000 in
set_option maxRecDepth 100000 in
theorem helmsmanlaw12_Expr.calls (k : Nat) : ∀ (a0_0 : ByteArray) (a0_1 : ByteArray) (a0_2 : Int) (A0_3 : Option Addr) (c0_3 : Nat) (l0_3 : List (S24)) (a0_4 : Int) (r1 : ByteArray) (r2 : ByteArray) (r3 : Int) (r4 : List (S33)) (r5 : Int) (w : World) (hr0_3 : Kd.C k24 w A0_3 l0_3.length l0_3) (hc0_3 : l0_3.length ≤ c0_3) (h : helmsmanlaw12_Expr.f k a0_0 a0_1 a0_2 l0_3 a0_4 = some (r1, r2, r3, r4, r5)),
    Calls Tryd.prog 11 #[.agg #[.string a0_0, .string a0_1, .int .i64 a0_2, .slice A0_3 l0_3.length c0_3, .int .i64 a0_4]] w fun e w' => ∃ v3_ : Value, e = .returned (.agg #[.string r1, .string r2, .int .i64 r3, v3_, .int .i64 r5]) ∧ Kd.R k33 33 w' w.heap.size (fun _ => True) v3_ r4 ∧ Below w.heap.size w w' := by
  induction k using Nat.strongRecOn with
  | _ k ih =>
  intro a0_0 a0_1 a0_2 A0_3 c0_3 l0_3 a0_4 r1 r2 r3 r4 r5 w hr0_3 hc0_3 h
  cases k with
  | zero => exact absurd h (by simp [helmsmanlaw12_Expr.f])
  | succ k =>
  simp only [helmsmanlaw12_Expr.f] at h
  have hu24 := Tryd.underlying24
  have hu33 := Tryd.underlying33
  have HR0_3 := Aside0.mk hr0_3
  have HC0_3 := Aside0.mk hc0_3
  clear hr0_3 hc0_3
  have HB := Aside0.mk (Below.refl w.heap.size w)
  have H : (helmsmanlaw12_Expr.l0 k l0_3 (l0_3.length : Int) 0 a0_0 a0_1 a0_2 ([] : List (S33)) a0_4) = some (r1, r2, r3, r4, r5) := h
  clear h
  have H' := Aside0.mk H
  clear H
  go_enter Tryd.func11, Tryd.ntmps11
  go_wp2_with (first | ((with_reducible refine gate_dst (N := 1) rfl ?_); refine box_event ?hg (N := 1) ?hd (cs := #[.string a0_0, .string a0_1, .int .i64 a0_2, .slice A0_3 l0_3.length c0_3, .int .i64 a0_4]) (t := 24) ?hr ?_; (case hd => rfl); (case hg => rfl); (case hr => first | (go_simp; done) | (go_simp; rfl)); intro gb112 hg w2 hbox hb; have n0_ := Aside0.mk (below_step (by repeat (first | (with_reducible first | exact HB.out | apply below_alloc | apply pw_below_drewN | apply below_drew1) | exact HB.out)) hb); have n1_ := Aside0.mk (hbox); have n2_ := Aside0.mk ((by rw [hg]; exact (below_size (by repeat (first | (with_reducible first | exact HB.out | apply below_alloc | apply pw_below_drewN | apply below_drew1) | exact HB.out))) : w.heap.size ≤ gb112)); have n3_ := Aside0.mk ((by rw [hg]; exact (below_size (by repeat (first | (with_reducible first | exact HB.out | apply below_alloc | apply pw_below_drewN | apply below_drew1) | exact HB.out))) : w.heap.size ≤ gb112)); clear HB; have HB := n0_; have BK112 := n1_; have GW112 := n2_; have GE112 := n3_; clear n0_ n1_ n2_ n3_; clear hb hbox hg) | ((with_reducible refine gate_dst (N := 2) rfl ?_); refine box_event ?hg (N := 2) ?hd (cs := #[.string (⟨#[]⟩ : ByteArray), .string (⟨#[]⟩ : ByteArray), .int .i64 0, .slice none 0 0, .int .i64 0]) (t := 33) ?hr ?_; (case hd => rfl); (case hg => rfl); (case hr => first | (go_simp; done) | (go_simp; rfl)); intro gb113 hg w3 hbox hb; have n0_ := Aside0.mk (blk_below (g := gb112) (o := .cells #[.string a0_0, .string a0_1, .int .i64 a0_2, .slice A0_3 l0_3.length c0_3, .int .i64 a0_4] 24 (0, 0)) (by (with_reducible repeat (first | refine blk_drewN ?_ _ | refine blk_drew ?_ | refine blk_alloc ?_ _)); exact BK112.out) hb); have n1_ := Aside0.mk (below_step (by repeat (first | (with_reducible first | exact HB.out | apply below_alloc | apply pw_below_drewN | apply below_drew1 | refine below_set ?_ GE112.out) | exact HB.out)) hb); have n2_ := Aside0.mk (hbox); have n3_ := Aside0.mk ((by rw [hg]; exact (below_size (by repeat (first | (with_reducible first | exact HB.out | apply below_alloc | apply pw_below_drewN | apply below_drew1 | refine below_set ?_ GE112.out) | exact HB.out))) : w.heap.size ≤ gb113)); have n4_ := Aside0.mk ((by rw [hg]; exact (below_size (by repeat (first | (with_reducible first | exact HB.out | apply below_alloc | apply pw_below_drewN | apply below_drew1 | refine below_set ?_ GE112.out) | exact HB.out))) : w.heap.size ≤ gb113)); have n5_ := Aside0.mk ((by rw [hg]; exact Nat.ne_of_lt (blk_lt (g := gb112) (o := .cells #[.string a0_0, .string a0_1, .int .i64 a0_2, .slice A0_3 l0_3.length c0_3, .int .i64 a0_4] 24 (0, 0)) (by (with_reducible repeat (first | refine blk_drewN ?_ _ | refine blk_drew ?_ | refine blk_alloc ?_ _)); exact BK112.out)) : gb112 ≠ gb113)); have n6_ := Aside0.mk ((by rw [hg]; exact Nat.ne_of_gt (blk_lt (g := gb112) (o := .cells #[.string a0_0, .string a0_1, .int .i64 a0_2, .slice A0_3 l0_3.length c0_3, .int .i64 a0_4] 24 (0, 0)) (by (with_reducible repeat (first | refine blk_drewN ?_ _ | refine blk_drew ?_ | refine blk_alloc ?_ _)); exact BK112.out)) : gb113 ≠ gb112)); clear BK112; clear HB; have BK112 := n0_; have HB := n1_; have BK113 := n2_; have GW113 := n3_; have GE113 := n4_; have NB112_113 := n5_; have NB113_112 := n6_; clear n0_ n1_ n2_ n3_ n4_ n5_ n6_; clear hb hbox hg; have hnb4 := NB112_113.out; have hnc4 := NB113_112.out; have hcz5_0 : w3.cell? ⟨gb112, 0, none⟩ = some (.string a0_0) := (blk_cell BK112.out 0).trans rfl; have hcz5_1 : w3.cell? ⟨gb112, 1, none⟩ = some (.string a0_1) := (blk_cell BK112.out 1).trans rfl; have hcz5_2 : w3.cell? ⟨gb112, 2, none⟩ = some (.int .i64 a0_2) := (blk_cell BK112.out 2).trans rfl; have hcz5_3 : w3.cell? ⟨gb112, 3, none⟩ = some (.slice A0_3 l0_3.length c0_3) := (blk_cell BK112.out 3).trans rfl; have hcz5_4 : w3.cell? ⟨gb112, 4, none⟩ = some (.int .i64 a0_4) := (blk_cell BK112.out 4).trans rfl; have hfz5_0 := blk_frozen BK112.out 0; have hfz5_1 := blk_frozen BK112.out 1; have hfz5_2 := blk_frozen BK112.out 2; have hfz5_3 := blk_frozen BK112.out 3; have hfz5_4 := blk_frozen BK112.out 4) | ((with_reducible refine gate_dst (N := 3) rfl ?_); refine box_event ?hg (N := 3) ?hd (cs := #[.string (⟨#[]⟩ : ByteArray), .string (⟨#[]⟩ : ByteArray), .int .i64 0, .slice none 0 0, .int .i64 0]) (t := 33) ?hr ?_; (case hd => rfl); (case hg => rfl); (case hr => first | (go_simp; done) | (go_simp; rfl)); intro gb114 hg w6 hbox hb; have n0_ := Aside0.mk (blk_below (g := gb112) (o := .cells #[.string a0_0, .string a0_1, .int .i64 a0_2, .slice A0_3 l0_3.length c0_3, .int .i64 a0_4] 24 (0, 0)) (by (with_reducible repeat (first | refine blk_drewN ?_ _ | refine blk_drew ?_ | refine blk_alloc ?_ _)); exact BK112.out) hb); have n1_ := Aside0.mk (blk_below (g := gb113) (o := .cells #[.string (⟨#[]⟩ : ByteArray), .string (⟨#[]⟩ : ByteArray), .int .i64 0, .slice none 0 0, .int .i64 0] 33 (0, 0)) (by (with_reducible repeat (first | refine blk_drewN ?_ _ | refine blk_drew ?_ | refine blk_alloc ?_ _)); exact BK113.out) hb); have n2_ := Aside0.mk (below_step (by repeat (first | (with_reducible first | exact HB.out | apply below_alloc | apply pw_below_drewN | apply below_drew1 | refine below_set ?_ GE112.out | refine below_set ?_ GE113.out) | exact HB.out)) hb); have n3_ := Aside0.mk (hbox); have n4_ := Aside0.mk ((by rw [hg]; exact (below_size (by repeat (first | (with_reducible first | exact HB.out | apply below_alloc | apply pw_below_drewN | apply below_drew1 | refine below_set ?_ GE112.out | refine below_set ?_ GE113.out) | exact HB.out))) : w.heap.size ≤ gb114)); have n5_ := Aside0.mk ((by rw [hg]; exact (below_size (by repeat (first | (with_reducible first | exact HB.out | apply below_alloc | apply pw_below_drewN | apply below_drew1 | refine below_set ?_ GE112.out | refine below_set ?_ GE113.out) | exact HB.out))) : w.heap.size ≤ gb114)); have n6_ := Aside0.mk ((by rw [hg]; exact Nat.ne_of_lt (blk_lt (g := gb112) (o := .cells #[.string a0_0, .string a0_1, .int .i64 a0_2, .slice A0_3 l0_3.length c0_3, .int .i64 a0_4] 24 (0, 0)) (by (with_reducible repeat (first | refine blk_drewN ?_ _ | refine blk_drew ?_ | refine blk_alloc ?_ _)); exact BK112.out)) : gb112 ≠ gb114)); have n7_ := Aside0.mk ((by rw [hg]; exact Nat.ne_of_gt (blk_lt (g := gb112) (o := .cells #[.string a0_0, .string a0_1, .int .i64 a0_2, .slice A0_3 l0_3.length c0_3, .int .i64 a0_4] 24 (0, 0)) (by (with_reducible repeat (first | refine blk_drewN ?_ _ | refine blk_drew ?_ | refine blk_alloc ?_ _)); exact BK112.out)) : gb114 ≠ gb112)); have n8_ := Aside0.mk ((by rw [hg]; exact Nat.ne_of_lt (blk_lt (g := gb113) (o := .cells #[.string (⟨#[]⟩ : ByteArray), .string (⟨#[]⟩ : ByteArray), .int .i64 0, .slice none 0 0, .int .i64 0] 33 (0, 0)) (by (with_reducible repeat (first | refine blk_drewN ?_ _ | refine blk_drew ?_ | refine blk_alloc ?_ _)); exact BK113.out)) : gb113 ≠ gb114)); have n9_ := Aside0.mk ((by rw [hg]; exact Nat.ne_of_gt (blk_lt (g := gb113) (o := .cells #[.string (⟨#[]⟩ : ByteArray), .string (⟨#[]⟩ : ByteArray), .int .i64 0, .slice none 0 0, .int .i64 0] 33 (0, 0)) (by (with_reducible repeat (first | refine blk_drewN ?_ _ | refine blk_drew ?_ | refine blk_alloc ?_ _)); exact BK113.out)) : gb114 ≠ gb113)); clear BK112; clear BK113; clear HB; have BK112 := n0_; have BK113 := n1_; have HB := n2_; have BK114 := n3_; have GW114 := n4_; have GE114 := n5_; have NB112_114 := n6_; have NB114_112 := n7_; have NB113_114 := n8_; have NB114_113 := n9_; clear n0_ n1_ n2_ n3_ n4_ n5_ n6_ n7_ n8_ n9_; clear hb hbox hg; have hnb7 := NB114_112.out; have hnc7 := NB112_114.out; have hnb8 := NB114_113.out; have hnc8 := NB113_114.out; have hcz9_0 : w6.cell? ⟨gb114, 0, none⟩ = some (.string (⟨#[]⟩ : ByteArray)) := (blk_cell BK114.out 0).trans rfl; have hcz9_1 : w6.cell? ⟨gb114, 1, none⟩ = some (.string (⟨#[]⟩ : ByteArray)) := (blk_cell BK114.out 1).trans rfl; have hcz9_2 : w6.cell? ⟨gb114, 2, none⟩ = some (.int .i64 0) := (blk_cell BK114.out 2).trans rfl; have hcz9_3 : w6.cell? ⟨gb114, 3, none⟩ = some (.slice none 0 0) := (blk_cell BK114.out 3).trans rfl; have hcz9_4 : w6.cell? ⟨gb114, 4, none⟩ = some (.int .i64 0) := (blk_cell BK114.out 4).trans rfl; have hfz9_0 := blk_frozen BK114.out 0; have hfz9_1 := blk_frozen BK114.out 1; have hfz9_2 := blk_frozen BK114.out 2; have hfz9_3 := blk_frozen BK114.out 3; have hfz9_4 := blk_frozen BK114.out 4; have hcz10_0 : w6.cell? ⟨gb112, 0, none⟩ = some (.string a0_0) := (blk_cell BK112.out 0).trans rfl; have hcz10_1 : w6.cell? ⟨gb112, 1, none⟩ = some (.string a0_1) := (blk_cell BK112.out 1).trans rfl; have hcz10_2 : w6.cell? ⟨gb112, 2, none⟩ = some (.int .i64 a0_2) := (blk_cell BK112.out 2).trans rfl; have hcz10_3 : w6.cell? ⟨gb112, 3, none⟩ = some (.slice A0_3 l0_3.length c0_3) := (blk_cell BK112.out 3).trans rfl; have hcz10_4 : w6.cell? ⟨gb112, 4, none⟩ = some (.int .i64 a0_4) := (blk_cell BK112.out 4).trans rfl; have hfz10_0 := blk_frozen BK112.out 0; have hfz10_1 := blk_frozen BK112.out 1; have hfz10_2 := blk_frozen BK112.out 2; have hfz10_3 := blk_frozen BK112.out 3; have hfz10_4 := blk_frozen BK112.out 4))
  (try simp only [Act.put, List.setIfInBounds_toArray, List.set_cons_succ, List.set_cons_zero])
  go_loopg [18] k (fun kq v18 w' => ∃ (x18_1 : Int) (x115003_1 : List (S33)) (u115003 : Value), v18 = .int .i64 x18_1 ∧ Aside0 (helmsmanlaw12_Expr.l0 kq l0_3 (l0_3.length : Int) x18_1 a0_0 a0_1 a0_2 x115003_1 a0_4 = some (r1, r2, r3, r4, r5)) ∧ Aside0 (kq ≤ k) ∧ Aside0 (Kd.R k33 33 w' w.heap.size (fun k_ => k_ ≠ gb113 ∧ k_ ≠ gb114) u115003 x115003_1) ∧ Aside0 (w'.heap[gb112]? = some (.cells #[.string a0_0, .string a0_1, .int .i64 a0_2, (.slice A0_3 l0_3.length c0_3), .int .i64 a0_4] 24 (0, 0))) ∧ Aside0 (w'.heap[gb113]? = some (.cells #[.string (⟨#[]⟩ : ByteArray), .string (⟨#[]⟩ : ByteArray), .int .i64 0, (.slice none 0 0), .int .i64 0] 33 (0, 0))) ∧ Aside0 (w'.heap[gb114]? = some (.cells #[.string a0_0, .string a0_1, .int .i64 a0_2, u115003, .int .i64 a0_4] 33 (0, 0))) ∧ Aside0 (Below w.heap.size w w'))
  case atStart => exact ⟨(0), (([] : List (S33))), (.slice none 0 0), (by first | rfl | (simp; done) | (simp [*]; done)), H', ⟨Nat.le_refl _⟩, ⟨by first | exact Kd.R_nil _ _ _ _ _ | exact Kd.N_nil _ _ _ _ _ | exact Kd.V_nil _ _ _ _ _ | exact Kd.Q_nil _ _ _ _ _ | exact Kd.S_nil _ _ _ _ _⟩, ⟨by (with_reducible repeat (first | refine blk_drewN ?_ _ | refine blk_drew ?_ | refine blk_alloc ?_ _)); refine blk_far ?_ NB112_114.out _; (with_reducible repeat (first | refine blk_drewN ?_ _ | refine blk_drew ?_ | refine blk_alloc ?_ _)); refine blk_far ?_ NB112_114.out _; (with_reducible repeat (first | refine blk_drewN ?_ _ | refine blk_drew ?_ | refine blk_alloc ?_ _)); refine blk_far ?_ NB112_114.out _; (with_reducible repeat (first | refine blk_drewN ?_ _ | refine blk_drew ?_ | refine blk_alloc ?_ _)); refine blk_far ?_ NB112_114.out _; (with_reducible repeat (first | refine blk_drewN ?_ _ | refine blk_drew ?_ | refine blk_alloc ?_ _)); refine blk_far ?_ NB112_114.out _; (with_reducible repeat (first | refine blk_drewN ?_ _ | refine blk_drew ?_ | refine blk_alloc ?_ _)); exact BK112.out⟩, ⟨by (with_reducible repeat (first | refine blk_drewN ?_ _ | refine blk_drew ?_ | refine blk_alloc ?_ _)); refine blk_far ?_ NB113_114.out _; (with_reducible repeat (first | refine blk_drewN ?_ _ | refine blk_drew ?_ | refine blk_alloc ?_ _)); refine blk_far ?_ NB113_114.out _; (with_reducible repeat (first | refine blk_drewN ?_ _ | refine blk_drew ?_ | refine blk_alloc ?_ _)); refine blk_far ?_ NB113_114.out _; (with_reducible repeat (first | refine blk_drewN ?_ _ | refine blk_drew ?_ | refine blk_alloc ?_ _)); refine blk_far ?_ NB113_114.out _; (with_reducible repeat (first | refine blk_drewN ?_ _ | refine blk_drew ?_ | refine blk_alloc ?_ _)); refine blk_far ?_ NB113_114.out _; (with_reducible repeat (first | refine blk_drewN ?_ _ | refine blk_drew ?_ | refine blk_alloc ?_ _)); exact BK113.out⟩, ⟨by (with_reducible repeat (first | refine blk_drewN ?_ _ | refine blk_drew ?_ | refine blk_alloc ?_ _)); refine blk_put (cs := #[.string a0_0, .string a0_1, .int .i64 a0_2, .slice none 0 0, .int .i64 0]) ?_ 4 _ rfl; (with_reducible repeat (first | refine blk_drewN ?_ _ | refine blk_drew ?_ | refine blk_alloc ?_ _)); refine blk_put (cs := #[.string a0_0, .string a0_1, .int .i64 a0_2, .slice none 0 0, .int .i64 0]) ?_ 3 _ rfl; (with_reducible repeat (first | refine blk_drewN ?_ _ | refine blk_drew ?_ | refine blk_alloc ?_ _)); refine blk_put (cs := #[.string a0_0, .string a0_1, .int .i64 0, .slice none 0 0, .int .i64 0]) ?_ 2 _ rfl; (with_reducible repeat (first | refine blk_drewN ?_ _ | refine blk_drew ?_ | refine blk_alloc ?_ _)); refine blk_put (cs := #[.string a0_0, .string (⟨#[]⟩ : ByteArray), .int .i64 0, .slice none 0 0, .int .i64 0]) ?_ 1 _ rfl; (with_reducible repeat (first | refine blk_drewN ?_ _ | refine blk_drew ?_ | refine blk_alloc ?_ _)); refine blk_put (cs := #[.string (⟨#[]⟩ : ByteArray), .string (⟨#[]⟩ : ByteArray), .int .i64 0, .slice none 0 0, .int .i64 0]) ?_ 0 _ rfl; (with_reducible repeat (first | refine blk_drewN ?_ _ | refine blk_drew ?_ | refine blk_alloc ?_ _)); exact BK114.out⟩, ⟨by repeat (first | (with_reducible first | exact HB.out | apply below_alloc | apply pw_below_drewN | apply below_drew1 | refine below_set ?_ GE112.out | refine below_set ?_ GE113.out | refine below_set ?_ GE114.out) | exact HB.out)⟩⟩
  case round =>
    clear H'
    try clear c1
    try clear p2
    try clear c4
    try clear c7
    try clear c8
    try clear hcz10_0
    try clear hcz10_1
    try clear hcz10_2
    try clear hcz10_3
    try clear hcz10_4
    try clear hcz5_0
    try clear hcz5_1
    try clear hcz5_2
    try clear hcz5_3
    try clear hcz5_4
    try clear hcz9_0
    try clear hcz9_1
    try clear hcz9_2
    try clear hcz9_3
    try clear hcz9_4
    try clear hfz10_0
    try clear hfz10_1
    try clear hfz10_2
    try clear hfz10_3
    try clear hfz10_4
    try clear hfz5_0
    try clear hfz5_1
    try clear hfz5_2
    try clear hfz5_3
    try clear hfz5_4
    try clear hfz9_0
    try clear hfz9_1
    try clear hfz9_2
    try clear hfz9_3
    try clear hfz9_4
    obtain ⟨x18_1, x115003_1, u115003, rfl, HA, HK1, HO_115003, BK112, BK113, BK114, HB⟩ := hrel
    cases gk with
    | zero => exact absurd HA.out (by simp [helmsmanlaw12_Expr.l0])
    | succ k1 =>
      have H := HA.out
      clear HA
      simp only [helmsmanlaw12_Expr.l0] at H
      by_cases c11 : x18_1 < (l0_3.length : Int)
      · rw [if_pos c11] at H
        have c11b0 : decide (x18_1 < (l0_3.length : Int)) = true := decide_eq_true c11
        clear c11
        by_cases c12 : 0 ≤ x18_1
        · rw [if_pos c12] at H
          have c12b0 : decide (0 ≤ x18_1) = true := decide_eq_true c12
          clear c12
          by_cases c13 : x18_1 < (l0_3.length : Int)
          · rw [if_pos c13] at H
            have c13b0 : decide (x18_1 < (l0_3.length : Int)) = true := decide_eq_true c13
            clear c13
            replace H := Option.bind_eq_some_iff.mp H
            obtain ⟨⟨t117, t118, t119, t120, t123⟩, A140, H⟩ := H
            replace H : (if x115003_1.length < 1954687338268 then (helmsmanlaw12_Expr.l0 k1 l0_3 (l0_3.length : Int) (wrap64 (x18_1 + 1)) a0_0 a0_1 a0_2 (x115003_1 ++ [(⟨t117, t118, t119, t120, t123⟩ : S33)]) a0_4) else (none)) = some (r1, r2, r3, r4, r5) := H
            have A14 := Aside0.mk A140
            clear A140
            by_cases c15 : x115003_1.length < 1954687338268
            · rw [if_pos c15] at H
              have LMc15 := Aside0.mk c15
              clear c15
              obtain ⟨y124, hy124⟩ : ∃ y_ : List (S33), y_ = (x115003_1 ++ [(⟨t117, t118, t119, t120, t123⟩ : S33)]) := ⟨_, rfl⟩
              replace H : (helmsmanlaw12_Expr.l0 k1 l0_3 (l0_3.length : Int) (wrap64 (x18_1 + 1)) a0_0 a0_1 a0_2 y124 a0_4) = some (r1, r2, r3, r4, r5) := by first | (rw [hy124]; with_reducible exact H) | (have H2_ := (Option.bind_some _ _).symm.trans H; rw [hy124]; with_reducible exact H2_) | (have H2_ := (Option.bind_some _ _).symm.trans H; with_reducible exact H2_) | with_reducible exact H | (rw [hy124]; exact H) | exact H
              have Ny124 := Aside0.mk hy124
              clear hy124
              have H' := Aside0.mk H
              clear H
              have p115 : 0 ≤ (x18_1 : Int) := of_decide_eq_true (by first | (with_reducible assumption) | assumption)
              have q115 : x18_1 < (l0_3.length : Int) := of_decide_eq_true (by first | (with_reducible assumption) | assumption)
              obtain ⟨ad115, A115_3, c115_3, e115, hx115_0, hx115_1, hx115_2, hx115_3, hx115_4, hl115_3, hi115_3⟩ := at_T24 HR0_3.out x18_1 p115 q115
              cases e115
              replace hx115_0 := (HB.out.cell (World.block_lt_of_cell? w _ hx115_0)).trans hx115_0
              replace hx115_1 := (HB.out.cell (World.block_lt_of_cell? w _ hx115_1)).trans hx115_1
              replace hx115_2 := (HB.out.cell (World.block_lt_of_cell? w _ hx115_2)).trans hx115_2
              replace hx115_3 := (HB.out.cell (World.block_lt_of_cell? w _ hx115_3)).trans hx115_3
              replace hx115_4 := (HB.out.cell (World.block_lt_of_cell? w _ hx115_4)).trans hx115_4
              have HR115_3 := Aside0.mk hi115_3
              have HC115_3 := Aside0.mk hl115_3
              clear hi115_3 hl115_3
              replace p115 := eq_true p115
              replace q115 := eq_true q115
              try go_wp2_with (first | ((with_reducible refine gate_dst (N := 5) rfl ?_); refine box_event ?hg (N := 5) ?hd (cs := #[.string (⟨#[]⟩ : ByteArray), .string (⟨#[]⟩ : ByteArray), .int .i64 0, .slice none 0 0, .int .i64 0]) (t := 24) ?hr ?_; (case hd => rfl); (case hg => rfl); (case hr => first | (go_simp; done) | (go_simp; rfl)); intro gb116 hg w16 hbox hb; have n0_ := Aside0.mk (Kd.R_below (by (with_reducible repeat (first | apply Kd.R_alloc | apply Kd.R_drewN | apply Kd.R_drew)); exact HO_115003.out) hb); have n1_ := Aside0.mk (blk_below (g := gb112) (o := .cells #[.string a0_0, .string a0_1, .int .i64 a0_2, .slice (some ad115) l0_3.length c0_3, .int .i64 a0_4] 24 (0, 0)) (by (with_reducible repeat (first | refine blk_drewN ?_ _ | refine blk_drew ?_ | refine blk_alloc ?_ _)); exact BK112.out) hb); have n2_ := Aside0.mk (blk_below (g := gb113) (o := .cells #[.string (⟨#[]⟩ : ByteArray), .string (⟨#[]⟩ : ByteArray), .int .i64 0, .slice none 0 0, .int .i64 0] 33 (0, 0)) (by (with_reducible repeat (first | refine blk_drewN ?_ _ | refine blk_drew ?_ | refine blk_alloc ?_ _)); exact BK113.out) hb); have n3_ := Aside0.mk (blk_below (g := gb114) (o := .cells #[.string a0_0, .string a0_1, .int .i64 a0_2, u115003, .int .i64 a0_4] 33 (0, 0)) (by (with_reducible repeat (first | refine blk_drewN ?_ _ | refine blk_drew ?_ | refine blk_alloc ?_ _)); exact BK114.out) hb); have n4_ := Aside0.mk (below_step (by repeat (first | (with_reducible first | exact HB.out | apply below_alloc | apply pw_below_drewN | apply below_drew1 | refine below_set ?_ GE112.out | refine below_set ?_ GE113.out | refine below_set ?_ GE114.out) | exact HB.out)) hb); have n5_ := Aside0.mk (hbox); have n6_ := Aside0.mk ((by rw [hg]; exact (below_size (by repeat (first | (with_reducible first | exact HB.out | apply below_alloc | apply pw_below_drewN | apply below_drew1 | refine below_set ?_ GE112.out | refine below_set ?_ GE113.out | refine below_set ?_ GE114.out) | exact HB.out))) : w.heap.size ≤ gb116)); have n7_ := Aside0.mk ((by rw [hg]; exact (below_size (by repeat (first | (with_reducible first | exact HB.out | apply below_alloc | apply pw_below_drewN | apply below_drew1 | refine below_set ?_ GE112.out | refine below_set ?_ GE113.out | refine below_set ?_ GE114.out) | exact HB.out))) : w.heap.size ≤ gb116)); have n8_ := Aside0.mk ((by rw [hg]; exact Nat.ne_of_lt (blk_lt (g := gb112) (o := .cells #[.string a0_0, .string a0_1, .int .i64 a0_2, .slice (some ad115) l0_3.length c0_3, .int .i64 a0_4] 24 (0, 0)) (by (with_reducible repeat (first | refine blk_drewN ?_ _ | refine blk_drew ?_ | refine blk_alloc ?_ _)); exact BK112.out)) : gb112 ≠ gb116)); have n9_ := Aside0.mk ((by rw [hg]; exact Nat.ne_of_gt (blk_lt (g := gb112) (o := .cells #[.string a0_0, .string a0_1, .int .i64 a0_2, .slice (some ad115) l0_3.length c0_3, .int .i64 a0_4] 24 (0, 0)) (by (with_reducible repeat (first | refine blk_drewN ?_ _ | refine blk_drew ?_ | refine blk_alloc ?_ _)); exact BK112.out)) : gb116 ≠ gb112)); have n10_ := Aside0.mk ((by rw [hg]; exact Nat.ne_of_lt (blk_lt (g := gb113) (o := .cells #[.string (⟨#[]⟩ : ByteArray), .string (⟨#[]⟩ : ByteArray), .int .i64 0, .slice none 0 0, .int .i64 0] 33 (0, 0)) (by (with_reducible repeat (first | refine blk_drewN ?_ _ | refine blk_drew ?_ | refine blk_alloc ?_ _)); exact BK113.out)) : gb113 ≠ gb116)); have n11_ := Aside0.mk ((by rw [hg]; exact Nat.ne_of_gt (blk_lt (g := gb113) (o := .cells #[.string (⟨#[]⟩ : ByteArray), .string (⟨#[]⟩ : ByteArray), .int .i64 0, .slice none 0 0, .int .i64 0] 33 (0, 0)) (by (with_reducible repeat (first | refine blk_drewN ?_ _ | refine blk_drew ?_ | refine blk_alloc ?_ _)); exact BK113.out)) : gb116 ≠ gb113)); have n12_ := Aside0.mk ((by rw [hg]; exact Nat.ne_of_lt (blk_lt (g := gb114) (o := .cells #[.string a0_0, .string a0_1, .int .i64 a0_2, u115003, .int .i64 a0_4] 33 (0, 0)) (by (with_reducible repeat (first | refine blk_drewN ?_ _ | refine blk_drew ?_ | refine blk_alloc ?_ _)); exact BK114.out)) : gb114 ≠ gb116)); have n13_ := Aside0.mk ((by rw [hg]; exact Nat.ne_of_gt (blk_lt (g := gb114) (o := .cells #[.string a0_0, .string a0_1, .int .i64 a0_2, u115003, .int .i64 a0_4] 33 (0, 0)) (by (with_reducible repeat (first | refine blk_drewN ?_ _ | refine blk_drew ?_ | refine blk_alloc ?_ _)); exact BK114.out)) : gb116 ≠ gb114)); clear HO_115003; clear BK112; clear BK113; clear BK114; clear HB; have HO_115003 := n0_; have BK112 := n1_; have BK113 := n2_; have BK114 := n3_; have HB := n4_; have BK116 := n5_; have GW116 := n6_; have GE116 := n7_; have NB112_116 := n8_; have NB116_112 := n9_; have NB113_116 := n10_; have NB116_113 := n11_; have NB114_116 := n12_; have NB116_114 := n13_; clear n0_ n1_ n2_ n3_ n4_ n5_ n6_ n7_ n8_ n9_ n10_ n11_ n12_ n13_; clear hb hbox hg; have hnb17 := NB116_112.out; have hnc17 := NB112_116.out; have hnb18 := NB116_113.out; have hnc18 := NB113_116.out; have hnb19 := NB116_114.out; have hnc19 := NB114_116.out; have hcz20_0 : w16.cell? ⟨gb116, 0, none⟩ = some (.string (⟨#[]⟩ : ByteArray)) := (blk_cell BK116.out 0).trans rfl; have hcz20_1 : w16.cell? ⟨gb116, 1, none⟩ = some (.string (⟨#[]⟩ : ByteArray)) := (blk_cell BK116.out 1).trans rfl; have hcz20_2 : w16.cell? ⟨gb116, 2, none⟩ = some (.int .i64 0) := (blk_cell BK116.out 2).trans rfl; have hcz20_3 : w16.cell? ⟨gb116, 3, none⟩ = some (.slice none 0 0) := (blk_cell BK116.out 3).trans rfl; have hcz20_4 : w16.cell? ⟨gb116, 4, none⟩ = some (.int .i64 0) := (blk_cell BK116.out 4).trans rfl; have hfz20_0 := blk_frozen BK116.out 0; have hfz20_1 := blk_frozen BK116.out 1; have hfz20_2 := blk_frozen BK116.out 2; have hfz20_3 := blk_frozen BK116.out 3; have hfz20_4 := blk_frozen BK116.out 4))
              have n0_ : Aside0 (Kd.R k33 33 (((((w16.setCell ⟨gb116, 0, none⟩ (.string ((rd_T24 l0_3 x18_1).f0))).setCell ⟨gb116, 1, none⟩ (.string ((rd_T24 l0_3 x18_1).f1))).setCell ⟨gb116, 2, none⟩ (.int .i64 ((rd_T24 l0_3 x18_1).f2))).setCell ⟨gb116, 3, none⟩ (.slice A115_3 ((rd_T24 l0_3 x18_1).f3).length c115_3)).setCell ⟨gb116, 4, none⟩ (.int .i64 ((rd_T24 l0_3 x18_1).f4))) w.heap.size (fun k_ => k_ ≠ gb113 ∧ k_ ≠ gb114) u115003 x115003_1) := ⟨by (with_reducible repeat (first | apply Kd.R_alloc | apply Kd.R_drewN | apply Kd.R_drew)); exact Kd.R_mono (Kd.R_far (p := ⟨gb116, 4, none⟩) (Kd.R_far (p := ⟨gb116, 3, none⟩) (Kd.R_far (p := ⟨gb116, 2, none⟩) (Kd.R_far (p := ⟨gb116, 1, none⟩) (Kd.R_far (p := ⟨gb116, 0, none⟩) (Kd.R_types HO_115003.out BK116.out (by decide)) (fun _ hk => hk.2) (.string ((rd_T24 l0_3 x18_1).f0))) (fun _ hk => hk.2) (.string ((rd_T24 l0_3 x18_1).f1))) (fun _ hk => hk.2) (.int .i64 ((rd_T24 l0_3 x18_1).f2))) (fun _ hk => hk.2) (.slice A115_3 ((rd_T24 l0_3 x18_1).f3).length c115_3)) (fun _ hk => hk.2) (.int .i64 ((rd_T24 l0_3 x18_1).f4))) (fun _ hk => ⟨hk.1.1, hk.1.2⟩)⟩
              have n1_ : Aside0 ((((((w16.setCell ⟨gb116, 0, none⟩ (.string ((rd_T24 l0_3 x18_1).f0))).setCell ⟨gb116, 1, none⟩ (.string ((rd_T24 l0_3 x18_1).f1))).setCell ⟨gb116, 2, none⟩ (.int .i64 ((rd_T24 l0_3 x18_1).f2))).setCell ⟨gb116, 3, none⟩ (.slice A115_3 ((rd_T24 l0_3 x18_1).f3).length c115_3)).setCell ⟨gb116, 4, none⟩ (.int .i64 ((rd_T24 l0_3 x18_1).f4))).heap[gb112]? = some (.cells #[.string a0_0, .string a0_1, .int .i64 a0_2, .slice (some ad115) l0_3.length c0_3, .int .i64 a0_4] 24 (0, 0))) := ⟨by (with_reducible repeat (first | refine blk_drewN ?_ _ | refine blk_drew ?_ | refine blk_alloc ?_ _)); refine blk_far ?_ NB112_116.out _; (with_reducible repeat (first | refine blk_drewN ?_ _ | refine blk_drew ?_ | refine blk_alloc ?_ _)); refine blk_far ?_ NB112_116.out _; (with_reducible repeat (first | refine blk_drewN ?_ _ | refine blk_drew ?_ | refine blk_alloc ?_ _)); refine blk_far ?_ NB112_116.out _; (with_reducible repeat (first | refine blk_drewN ?_ _ | refine blk_drew ?_ | refine blk_alloc ?_ _)); refine blk_far ?_ NB112_116.out _; (with_reducible repeat (first | refine blk_drewN ?_ _ | refine blk_drew ?_ | refine blk_alloc ?_ _)); refine blk_far ?_ NB112_116.out _; (with_reducible repeat (first | refine blk_drewN ?_ _ | refine blk_drew ?_ | refine blk_alloc ?_ _)); exact BK112.out⟩
              have n2_ : Aside0 ((((((w16.setCell ⟨gb116, 0, none⟩ (.string ((rd_T24 l0_3 x18_1).f0))).setCell ⟨gb116, 1, none⟩ (.string ((rd_T24 l0_3 x18_1).f1))).setCell ⟨gb116, 2, none⟩ (.int .i64 ((rd_T24 l0_3 x18_1).f2))).setCell ⟨gb116, 3, none⟩ (.slice A115_3 ((rd_T24 l0_3 x18_1).f3).length c115_3)).setCell ⟨gb116, 4, none⟩ (.int .i64 ((rd_T24 l0_3 x18_1).f4))).heap[gb113]? = some (.cells #[.string (⟨#[]⟩ : ByteArray), .string (⟨#[]⟩ : ByteArray), .int .i64 0, .slice none 0 0, .int .i64 0] 33 (0, 0))) := ⟨by (with_reducible repeat (first | refine blk_drewN ?_ _ | refine blk_drew ?_ | refine blk_alloc ?_ _)); refine blk_far ?_ NB113_116.out _; (with_reducible repeat (first | refine blk_drewN ?_ _ | refine blk_drew ?_ | refine blk_alloc ?_ _)); refine blk_far ?_ NB113_116.out _; (with_reducible repeat (first | refine blk_drewN ?_ _ | refine blk_drew ?_ | refine blk_alloc ?_ _)); refine blk_far ?_ NB113_116.out _; (with_reducible repeat (first | refine blk_drewN ?_ _ | refine blk_drew ?_ | refine blk_alloc ?_ _)); refine blk_far ?_ NB113_116.out _; (with_reducible repeat (first | refine blk_drewN ?_ _ | refine blk_drew ?_ | refine blk_alloc ?_ _)); refine blk_far ?_ NB113_116.out _; (with_reducible repeat (first | refine blk_drewN ?_ _ | refine blk_drew ?_ | refine blk_alloc ?_ _)); exact BK113.out⟩
              have n3_ : Aside0 ((((((w16.setCell ⟨gb116, 0, none⟩ (.string ((rd_T24 l0_3 x18_1).f0))).setCell ⟨gb116, 1, none⟩ (.string ((rd_T24 l0_3 x18_1).f1))).setCell ⟨gb116, 2, none⟩ (.int .i64 ((rd_T24 l0_3 x18_1).f2))).setCell ⟨gb116, 3, none⟩ (.slice A115_3 ((rd_T24 l0_3 x18_1).f3).length c115_3)).setCell ⟨gb116, 4, none⟩ (.int .i64 ((rd_T24 l0_3 x18_1).f4))).heap[gb114]? = some (.cells #[.string a0_0, .string a0_1, .int .i64 a0_2, u115003, .int .i64 a0_4] 33 (0, 0))) := ⟨by (with_reducible repeat (first | refine blk_drewN ?_ _ | refine blk_drew ?_ | refine blk_alloc ?_ _)); refine blk_far ?_ NB114_116.out _; (with_reducible repeat (first | refine blk_drewN ?_ _ | refine blk_drew ?_ | refine blk_alloc ?_ _)); refine blk_far ?_ NB114_116.out _; (with_reducible repeat (first | refine blk_drewN ?_ _ | refine blk_drew ?_ | refine blk_alloc ?_ _)); refine blk_far ?_ NB114_116.out _; (with_reducible repeat (first | refine blk_drewN ?_ _ | refine blk_drew ?_ | refine blk_alloc ?_ _)); refine blk_far ?_ NB114_116.out _; (with_reducible repeat (first | refine blk_drewN ?_ _ | refine blk_drew ?_ | refine blk_alloc ?_ _)); refine blk_far ?_ NB114_116.out _; (with_reducible repeat (first | refine blk_drewN ?_ _ | refine blk_drew ?_ | refine blk_alloc ?_ _)); exact BK114.out⟩
              have n4_ : Aside0 ((((((w16.setCell ⟨gb116, 0, none⟩ (.string ((rd_T24 l0_3 x18_1).f0))).setCell ⟨gb116, 1, none⟩ (.string ((rd_T24 l0_3 x18_1).f1))).setCell ⟨gb116, 2, none⟩ (.int .i64 ((rd_T24 l0_3 x18_1).f2))).setCell ⟨gb116, 3, none⟩ (.slice A115_3 ((rd_T24 l0_3 x18_1).f3).length c115_3)).setCell ⟨gb116, 4, none⟩ (.int .i64 ((rd_T24 l0_3 x18_1).f4))).heap[gb116]? = some (.cells #[.string ((rd_T24 l0_3 x18_1).f0), .string ((rd_T24 l0_3 x18_1).f1), .int .i64 ((rd_T24 l0_3 x18_1).f2), .slice A115_3 ((rd_T24 l0_3 x18_1).f3).length c115_3, .int .i64 ((rd_T24 l0_3 x18_1).f4)] 24 (0, 0))) := ⟨by (with_reducible repeat (first | refine blk_drewN ?_ _ | refine blk_drew ?_ | refine blk_alloc ?_ _)); refine blk_put (cs := #[.string ((rd_T24 l0_3 x18_1).f0), .string ((rd_T24 l0_3 x18_1).f1), .int .i64 ((rd_T24 l0_3 x18_1).f2), .slice A115_3 ((rd_T24 l0_3 x18_1).f3).length c115_3, .int .i64 0]) ?_ 4 _ rfl; (with_reducible repeat (first | refine blk_drewN ?_ _ | refine blk_drew ?_ | refine blk_alloc ?_ _)); refine blk_put (cs := #[.string ((rd_T24 l0_3 x18_1).f0), .string ((rd_T24 l0_3 x18_1).f1), .int .i64 ((rd_T24 l0_3 x18_1).f2), .slice none 0 0, .int .i64 0]) ?_ 3 _ rfl; (with_reducible repeat (first | refine blk_drewN ?_ _ | refine blk_drew ?_ | refine blk_alloc ?_ _)); refine blk_put (cs := #[.string ((rd_T24 l0_3 x18_1).f0), .string ((rd_T24 l0_3 x18_1).f1), .int .i64 0, .slice none 0 0, .int .i64 0]) ?_ 2 _ rfl; (with_reducible repeat (first | refine blk_drewN ?_ _ | refine blk_drew ?_ | refine blk_alloc ?_ _)); refine blk_put (cs := #[.string ((rd_T24 l0_3 x18_1).f0), .string (⟨#[]⟩ : ByteArray), .int .i64 0, .slice none 0 0, .int .i64 0]) ?_ 1 _ rfl; (with_reducible repeat (first | refine blk_drewN ?_ _ | refine blk_drew ?_ | refine blk_alloc ?_ _)); refine blk_put (cs := #[.string (⟨#[]⟩ : ByteArray), .string (⟨#[]⟩ : ByteArray), .int .i64 0, .slice none 0 0, .int .i64 0]) ?_ 0 _ rfl; (with_reducible repeat (first | refine blk_drewN ?_ _ | refine blk_drew ?_ | refine blk_alloc ?_ _)); exact BK116.out⟩
              have n5_ : Aside0 (Below w.heap.size w (((((w16.setCell ⟨gb116, 0, none⟩ (.string ((rd_T24 l0_3 x18_1).f0))).setCell ⟨gb116, 1, none⟩ (.string ((rd_T24 l0_3 x18_1).f1))).setCell ⟨gb116, 2, none⟩ (.int .i64 ((rd_T24 l0_3 x18_1).f2))).setCell ⟨gb116, 3, none⟩ (.slice A115_3 ((rd_T24 l0_3 x18_1).f3).length c115_3)).setCell ⟨gb116, 4, none⟩ (.int .i64 ((rd_T24 l0_3 x18_1).f4)))) := ⟨by repeat (first | (with_reducible first | exact HB.out | apply below_alloc | apply pw_below_drewN | apply below_drew1 | refine below_set ?_ GE112.out | refine below_set ?_ GE113.out | refine below_set ?_ GE114.out | refine below_set ?_ GE116.out) | exact HB.out)⟩
              (try clear HO_115003)
              (try clear BK112)
              (try clear BK113)
              (try clear BK114)
              (try clear BK116)
              (try clear HB)
              generalize (((((w16.setCell ⟨gb116, 0, none⟩ (.string ((rd_T24 l0_3 x18_1).f0))).setCell ⟨gb116, 1, none⟩ (.string ((rd_T24 l0_3 x18_1).f1))).setCell ⟨gb116, 2, none⟩ (.int .i64 ((rd_T24 l0_3 x18_1).f2))).setCell ⟨gb116, 3, none⟩ (.slice A115_3 ((rd_T24 l0_3 x18_1).f3).length c115_3)).setCell ⟨gb116, 4, none⟩ (.int .i64 ((rd_T24 l0_3 x18_1).f4))) = w21 at n0_ n1_ n2_ n3_ n4_ n5_ ⊢
              have HO_115003 := n0_
              have BK112 := n1_
              have BK113 := n2_
              have BK114 := n3_
              have BK116 := n4_
              have HB := n5_
              clear n0_ n1_ n2_ n3_ n4_ n5_
              have n0_ := Aside0.mk (Kd.R_drew HO_115003.out)
              have n1_ := Aside0.mk (blk_drew BK112.out)
              have n2_ := Aside0.mk (blk_drew BK113.out)
              have n3_ := Aside0.mk (blk_drew BK114.out)
              have n4_ := Aside0.mk (blk_drew BK116.out)
              have n5_ := Aside0.mk (below_drew1 HB.out)
              clear HO_115003
              clear BK112
              clear BK113
              clear BK114
              clear BK116
              clear HB
              have HO_115003 := n0_
              have BK112 := n1_
              have BK113 := n2_
              have BK114 := n3_
              have BK116 := n4_
              have HB := n5_
              clear n0_ n1_ n2_ n3_ n4_ n5_
              refine start_ (n := 8) (S := fun w' => w'.cell? ⟨gb114, 0, none⟩ = some (.string a0_0) ∧ w'.cell? ⟨gb114, 1, none⟩ = some (.string a0_1) ∧ w'.cell? ⟨gb114, 2, none⟩ = some (.int .i64 a0_2) ∧ w'.cell? ⟨gb114, 3, none⟩ = some (u115003) ∧ w'.cell? ⟨gb114, 4, none⟩ = some (.int .i64 a0_4) ∧ w'.cell? ⟨gb116, 0, none⟩ = some (.string ((rd_T24 l0_3 x18_1).f0)) ∧ w'.cell? ⟨gb116, 1, none⟩ = some (.string ((rd_T24 l0_3 x18_1).f1)) ∧ w'.cell? ⟨gb116, 2, none⟩ = some (.int .i64 ((rd_T24 l0_3 x18_1).f2)) ∧ w'.cell? ⟨gb116, 3, none⟩ = some (.slice A115_3 ((rd_T24 l0_3 x18_1).f3).length c115_3) ∧ w'.cell? ⟨gb116, 4, none⟩ = some (.int .i64 ((rd_T24 l0_3 x18_1).f4))) (ds := [7]) #[false, false, false, false, false, false, false, false] (by kernel_rfl) rfl rfl ⟨(blk_cell BK114.out 0).trans rfl, (blk_cell BK114.out 1).trans rfl, (blk_cell BK114.out 2).trans rfl, (blk_cell BK114.out 3).trans rfl, (blk_cell BK114.out 4).trans rfl, (blk_cell BK116.out 0).trans rfl, (blk_cell BK116.out 1).trans rfl, (blk_cell BK116.out 2).trans rfl, (blk_cell BK116.out 3).trans rfl, (blk_cell BK116.out 4).trans rfl⟩ (fun hHeld => ?_); refine with_tabW helmsmanlaw12_Expr.tab5 helmsmanlaw12_Expr.bits5 (fun HT_ HW_ => ?_)
              generalize w21.drew = w22 at HO_115003 BK112 BK113 BK114 BK116 HB hHeld ⊢
              refine pure_ (i := 0) (N := some 22) (v := ?_) (a' := ?_) #[true, false, false, false, false, false, false, false] rfl rfl (any_of HT_.out (by kernel_rfl)) (fun _ _ _ h => h) (Or.inl ⟨by rfl, ?_⟩) ?_ ?_
              rotate_left
              · intro w'
                go_simp
                with_reducible rfl
              rotate_left
              · simp only [Act.put, List.setIfInBounds_toArray, List.set_cons_zero, List.set_cons_succ, i64_w, i32_w]
                rfl
              refine take_ (i := 1) (N := some 23) (v := ?_) (a' := ?_) #[true, true, false, false, false, false, false, false] rfl rfl (take_ofW HT_.out HW_.out (by kernel_rfl)) (fun _ _ _ h => h) (Or.inl ⟨by rfl, ?_⟩) hHeld ?_ ?_
              rotate_left
              · rintro w' ⟨s0, s1, s2, s3, s4, s5, s6, s7, s8, s9⟩
                go_simp
                with_reducible rfl
              rotate_left
              · simp only [Act.put, List.setIfInBounds_toArray, List.set_cons_zero, List.set_cons_succ, i64_w, i32_w]
                rfl
              refine take_ (i := 2) (N := some 24) (v := ?_) (a' := ?_) #[true, true, true, false, false, false, false, false] rfl rfl (take_ofW HT_.out HW_.out (by kernel_rfl)) (fun _ _ _ h => h) (Or.inl ⟨by rfl, ?_⟩) hHeld ?_ ?_
              rotate_left
              · rintro w' ⟨s0, s1, s2, s3, s4, s5, s6, s7, s8, s9⟩
                go_simp
                with_reducible rfl
              rotate_left
              · simp only [Act.put, List.setIfInBounds_toArray, List.set_cons_zero, List.set_cons_succ, i64_w, i32_w]
                rfl
              refine one_ (i := 3) (N := some 25) #[true, true, true, true, false, false, false, false] rfl rfl (one_of HT_.out (by kernel_rfl)) (by decide) (fun K hK => ?_)
              refine goes_ Tryd.func11 (by kernel_rfl) rfl #[.agg #[.string ((rd_T24 l0_3 x18_1).f0), .string ((rd_T24 l0_3 x18_1).f1), .int .i64 ((rd_T24 l0_3 x18_1).f2), .slice A115_3 ((rd_T24 l0_3 x18_1).f3).length c115_3, .int .i64 ((rd_T24 l0_3 x18_1).f4)]] (by rfl) rfl rfl (by (try simp only [List.map_toArray, List.map_cons, List.map_nil]); first | done | rfl | (simp only [List.length_drop, List.length_take]; rfl)) ?_
              with_reducible refine (ih k1 (by have := HK1.out; omega) ((rd_T24 l0_3 x18_1).f0) ((rd_T24 l0_3 x18_1).f1) ((rd_T24 l0_3 x18_1).f2) _ _ ((rd_T24 l0_3 x18_1).f3) ((rd_T24 l0_3 x18_1).f4) t117 t118 t119 t120 t123 _ ?side1 ?side2 A14.out).mono ?_
              (case side1 => repeat (first | exact (Kd.C_below HR115_3.out HB.out) | (with_reducible refine Kd.C_alloc ?_ _) | (with_reducible refine Kd.C_drewN ?_ _) | (with_reducible refine Kd.C_drew ?_)))
              (case side2 => exact HC115_3.out)
              rintro e w23 ⟨v121, rfl, ho0, hb⟩
              refine ⟨_, rfl, ?_⟩
              have n0_ := Aside0.mk (Kd.R_elder' (by (with_reducible repeat (first | apply Kd.R_alloc | apply Kd.R_drewN | apply Kd.R_drew)); exact HO_115003.out) (Kd.R_base ho0) hb)
              have n1_ := Aside0.mk (Kd.R_lower (Kd.R_newB (Kd.R_newB (Kd.R_new' ho0 (Kd.R_lt (by (with_reducible repeat (first | apply Kd.R_alloc | apply Kd.R_drewN | apply Kd.R_drew)); exact HO_115003.out))) (g := gb113) (o := .cells #[.string (⟨#[]⟩ : ByteArray), .string (⟨#[]⟩ : ByteArray), .int .i64 0, .slice none 0 0, .int .i64 0] 33 (0, 0)) (by (with_reducible repeat (first | refine blk_drewN ?_ _ | refine blk_drew ?_ | refine blk_alloc ?_ _)); exact BK113.out)) (g := gb114) (o := .cells #[.string a0_0, .string a0_1, .int .i64 a0_2, u115003, .int .i64 a0_4] 33 (0, 0)) (by (with_reducible repeat (first | refine blk_drewN ?_ _ | refine blk_drew ?_ | refine blk_alloc ?_ _)); exact BK114.out)) (below_size (by repeat (first | (with_reducible first | exact HB.out | apply below_alloc | apply pw_below_drewN | apply below_drew1 | refine below_set ?_ GE112.out | refine below_set ?_ GE113.out | refine below_set ?_ GE114.out | refine below_set ?_ GE116.out) | exact HB.out))))
              have n2_ := Aside0.mk (blk_below (g := gb112) (o := .cells #[.string a0_0, .string a0_1, .int .i64 a0_2, .slice (some ad115) l0_3.length c0_3, .int .i64 a0_4] 24 (0, 0)) (by (with_reducible repeat (first | refine blk_drewN ?_ _ | refine blk_drew ?_ | refine blk_alloc ?_ _)); exact BK112.out) hb)
              have n3_ := Aside0.mk (blk_below (g := gb113) (o := .cells #[.string (⟨#[]⟩ : ByteArray), .string (⟨#[]⟩ : ByteArray), .int .i64 0, .slice none 0 0, .int .i64 0] 33 (0, 0)) (by (with_reducible repeat (first | refine blk_drewN ?_ _ | refine blk_drew ?_ | refine blk_alloc ?_ _)); exact BK113.out) hb)
              have n4_ := Aside0.mk (blk_below (g := gb114) (o := .cells #[.string a0_0, .string a0_1, .int .i64 a0_2, u115003, .int .i64 a0_4] 33 (0, 0)) (by (with_reducible repeat (first | refine blk_drewN ?_ _ | refine blk_drew ?_ | refine blk_alloc ?_ _)); exact BK114.out) hb)
              have n5_ := Aside0.mk (blk_below (g := gb116) (o := .cells #[.string ((rd_T24 l0_3 x18_1).f0), .string ((rd_T24 l0_3 x18_1).f1), .int .i64 ((rd_T24 l0_3 x18_1).f2), .slice A115_3 ((rd_T24 l0_3 x18_1).f3).length c115_3, .int .i64 ((rd_T24 l0_3 x18_1).f4)] 24 (0, 0)) (by (with_reducible repeat (first | refine blk_drewN ?_ _ | refine blk_drew ?_ | refine blk_alloc ?_ _)); exact BK116.out) hb)
              have n6_ := Aside0.mk (below_step (by repeat (first | (with_reducible first | exact HB.out | apply below_alloc | apply pw_below_drewN | apply below_drew1 | refine below_set ?_ GE112.out | refine below_set ?_ GE113.out | refine below_set ?_ GE114.out | refine below_set ?_ GE116.out) | exact HB.out)) hb)
              clear HO_115003
              clear BK112
              clear BK113
              clear BK114
              clear BK116
              clear HB
              have HO_115003 := n0_
              have HO122 := n1_
              have BK112 := n2_
              have BK113 := n3_
              have BK114 := n4_
              have BK116 := n5_
              have HB := n6_
              clear n0_ n1_ n2_ n3_ n4_ n5_ n6_
              (try clear hb)
              (try clear hb2)
              (try clear hk)
              (try clear hi)
              (try clear ho0)
              obtain ⟨Ao25, co25, eo25⟩ := Kd.R_slice HO122.out
              (first | subst eo25 | (injection eo25 with f1_ f2_ f3_; have f4_ := f1_.symm; have f5_ := f3_.symm; clear f1_ f2_ f3_; subst f4_; subst f5_))
              refine hK.out _ _ ⟨(blk_cell BK114.out 0).trans rfl, (blk_cell BK114.out 1).trans rfl, (blk_cell BK114.out 2).trans rfl, (blk_cell BK114.out 3).trans rfl, (blk_cell BK114.out 4).trans rfl, (blk_cell BK116.out 0).trans rfl, (blk_cell BK116.out 1).trans rfl, (blk_cell BK116.out 2).trans rfl, (blk_cell BK116.out 3).trans rfl, (blk_cell BK116.out 4).trans rfl⟩ (fun hHeld => ?_)
              clear hK K
              refine norm_ (a' := ?_) ?_ ?_
              rotate_left
              · show Act.put _ (some 25) _ = _
                simp only [Act.put, List.setIfInBounds_toArray, List.set_cons_zero, List.set_cons_succ, i64_w, i32_w]
                rfl
              refine one_ (i := 4) (N := some 26) #[true, true, true, true, true, false, false, false] rfl rfl (one_of HT_.out (by kernel_rfl)) (by decide) (fun K hK => ?_)
              refine value_ (w1 := ?_) (v := ?_) (by rfl) rfl ?_ ?_
              rotate_left 2
              · go_simp
                constructor
                · rfl
                · rfl
              refine hK.out _ _ ⟨(blk_cell (blk_alloc BK114.out _) 0).trans rfl, (blk_cell (blk_alloc BK114.out _) 1).trans rfl, (blk_cell (blk_alloc BK114.out _) 2).trans rfl, (blk_cell (blk_alloc BK114.out _) 3).trans rfl, (blk_cell (blk_alloc BK114.out _) 4).trans rfl, (blk_cell (blk_alloc BK116.out _) 0).trans rfl, (blk_cell (blk_alloc BK116.out _) 1).trans rfl, (blk_cell (blk_alloc BK116.out _) 2).trans rfl, (blk_cell (blk_alloc BK116.out _) 3).trans rfl, (blk_cell (blk_alloc BK116.out _) 4).trans rfl⟩ (fun hHeld => ?_)
              clear hK K
              refine norm_ (a' := ?_) ?_ ?_
              rotate_left
              · show Act.put _ (some 26) _ = _
                simp only [Act.put, List.setIfInBounds_toArray, List.set_cons_zero, List.set_cons_succ, i64_w, i32_w]
                rfl
              refine one_ (i := 5) (N := some 27) #[true, true, true, true, true, true, false, false] rfl rfl (one_of HT_.out (by kernel_rfl)) (by decide) (fun K hK => ?_)
              refine Kd.R_append_step k33 (w0 := w) w.heap.size (by rfl) (.tmp 23) (.tmp 26) 31 33 (.agg #[(.string ⟨#[]⟩), (.string ⟨#[]⟩), (.int .i64 0), (.slice none 0 0), (.int .i64 0)]) 72 rfl Tryd.underlying31 info33 rfl (by decide) (by omega) u115003 x115003_1 (⟨t117, t118, t119, t120, t123⟩ : S33) [.string t117, .string t118, .int .i64 t119, .slice Ao25 t120.length co25, .int .i64 t123] (fun k_ => k_ ≠ gb113 ∧ k_ ≠ gb114) (fun k_ => ((fun k_ => k_ ≠ gb113 ∧ k_ ≠ gb114)) k_ ∧ some k_ ≠ (u115003 : Value).ownBlock) rfl rfl ?aP (fun _ hk => hk) ?aF ?aO ?aB ?aS ?aL ?_
              (case aP => exact k33_mkM _ _ _ (⟨t117, t118, t119, t120, t123⟩ : S33) (Kd.R_mono (HO122.out) (fun k_ hk => ⟨⟨hk.1.2, hk.2⟩, hk.1.1.2⟩)))
              (case aB => exact (by repeat (first | (with_reducible first | exact HB.out | apply below_alloc | apply pw_below_drewN | apply below_drew1 | refine below_set ?_ GE112.out | refine below_set ?_ GE113.out | refine below_set ?_ GE114.out | refine below_set ?_ GE116.out) | exact HB.out)))
              (case aF => exact (fun k_ hk => ⟨Kd.freshB (g := gb113) (o := .cells #[.string (⟨#[]⟩ : ByteArray), .string (⟨#[]⟩ : ByteArray), .int .i64 0, .slice none 0 0, .int .i64 0] 33 (0, 0)) (by (with_reducible repeat (first | refine blk_drewN ?_ _ | refine blk_drew ?_ | refine blk_alloc ?_ _)); exact BK113.out) k_ hk, Kd.freshB (g := gb114) (o := .cells #[.string a0_0, .string a0_1, .int .i64 a0_2, u115003, .int .i64 a0_4] 33 (0, 0)) (by (with_reducible repeat (first | refine blk_drewN ?_ _ | refine blk_drew ?_ | refine blk_alloc ?_ _)); exact BK114.out) k_ hk⟩))
              (case aO => exact (by (with_reducible repeat (first | apply Kd.R_alloc | apply Kd.R_drewN | apply Kd.R_drew)); exact Kd.R_mono HO_115003.out (fun _ hk => ⟨hk.1.1, hk.1.2⟩)))
              (case aS => exact (below_size (by repeat (first | (with_reducible first | exact HB.out | apply below_alloc | apply pw_below_drewN | apply below_drew1 | refine below_set ?_ GE112.out | refine below_set ?_ GE113.out | refine below_set ?_ GE114.out | refine below_set ?_ GE116.out) | exact HB.out))))
              (case aL => have := LMc15.out; omega)
              intro v125 w24 ho hb hg hat
              rw [← Ny124.out] at ho
              have n0_ := Aside0.mk (blk_grown (g := gb112) (o := .cells #[.string a0_0, .string a0_1, .int .i64 a0_2, .slice (some ad115) l0_3.length c0_3, .int .i64 a0_4] 24 (0, 0)) (by (with_reducible repeat (first | refine blk_drewN ?_ _ | refine blk_drew ?_ | refine blk_alloc ?_ _)); exact BK112.out) hg (Kd.R_ne HO_115003.out BK112.out (by decide)))
              have n1_ := Aside0.mk (blk_grown (g := gb113) (o := .cells #[.string (⟨#[]⟩ : ByteArray), .string (⟨#[]⟩ : ByteArray), .int .i64 0, .slice none 0 0, .int .i64 0] 33 (0, 0)) (by (with_reducible repeat (first | refine blk_drewN ?_ _ | refine blk_drew ?_ | refine blk_alloc ?_ _)); exact BK113.out) hg (Kd.R_away HO_115003.out (fun _ hk => hk.1.1)))
              have n2_ := Aside0.mk (blk_grown (g := gb114) (o := .cells #[.string a0_0, .string a0_1, .int .i64 a0_2, u115003, .int .i64 a0_4] 33 (0, 0)) (by (with_reducible repeat (first | refine blk_drewN ?_ _ | refine blk_drew ?_ | refine blk_alloc ?_ _)); exact BK114.out) hg (Kd.R_away HO_115003.out (fun _ hk => hk.1.2)))
              have n3_ := Aside0.mk (blk_grown (g := gb116) (o := .cells #[.string ((rd_T24 l0_3 x18_1).f0), .string ((rd_T24 l0_3 x18_1).f1), .int .i64 ((rd_T24 l0_3 x18_1).f2), .slice A115_3 ((rd_T24 l0_3 x18_1).f3).length c115_3, .int .i64 ((rd_T24 l0_3 x18_1).f4)] 24 (0, 0)) (by (with_reducible repeat (first | refine blk_drewN ?_ _ | refine blk_drew ?_ | refine blk_alloc ?_ _)); exact BK116.out) hg (Kd.R_ne HO_115003.out BK116.out (by decide)))
              have n4_ := Aside0.mk (hb)
              have n5_ := Aside0.mk (ho)
              clear BK112
              clear BK113
              clear BK114
              clear BK116
              clear HB
              clear HO_115003
              clear HO122
              have BK112 := n0_
              have BK113 := n1_
              have BK114 := n2_
              have BK116 := n3_
              have HB := n4_
              have HO126 := n5_
              clear n0_ n1_ n2_ n3_ n4_ n5_
              clear ho hb hg hat
              obtain ⟨Ao26, co26, eo26⟩ := Kd.R_slice HO126.out
              (first | subst eo26 | (injection eo26 with f1_ f2_ f3_; have f4_ := f1_.symm; have f5_ := f3_.symm; clear f1_ f2_ f3_; subst f4_; subst f5_))
              refine hK.out _ _ ⟨(blk_cell BK114.out 0).trans rfl, (blk_cell BK114.out 1).trans rfl, (blk_cell BK114.out 2).trans rfl, (blk_cell BK114.out 3).trans rfl, (blk_cell BK114.out 4).trans rfl, (blk_cell BK116.out 0).trans rfl, (blk_cell BK116.out 1).trans rfl, (blk_cell BK116.out 2).trans rfl, (blk_cell BK116.out 3).trans rfl, (blk_cell BK116.out 4).trans rfl⟩ (fun hHeld => ?_)
              clear hK K
              refine norm_ (a' := ?_) ?_ ?_
              rotate_left
              · show Act.put _ (some 27) _ = _
                simp only [Act.put, List.setIfInBounds_toArray, List.set_cons_zero, List.set_cons_succ, i64_w, i32_w]
                rfl
              refine pure_ (i := 6) (N := some 28) (v := ?_) (a' := ?_) #[true, true, true, true, true, true, true, false] rfl rfl (any_of HT_.out (by kernel_rfl)) (fun _ _ _ h => h) (Or.inl ⟨by rfl, ?_⟩) ?_ ?_
              rotate_left
              · intro w'
                go_simp
                with_reducible rfl
              rotate_left
              · simp only [Act.put, List.setIfInBounds_toArray, List.set_cons_zero, List.set_cons_succ, i64_w, i32_w]
                rfl
              refine last_ (i := 7) (N := none) #[true, true, true, true, true, true, true, true] rfl rfl (one_of HT_.out (by kernel_rfl)) (by decide) (fun K hK => ?_)
              have hs27 : w24.cell? ⟨gb114, 3, none⟩ = some (u115003) := (blk_cell BK114.out 3).trans rfl
              have hfs27 := blk_frozen BK114.out 3
              have hns27_0 := NB112_114.out
              have hns27_1 := NB113_114.out
              have hns27_3 := NB116_114.out
              have hms27_0 := NB114_112.out
              have hms27_1 := NB114_113.out
              have hms27_3 := NB114_116.out
              refine skip_ (w1 := ?_) (by rfl) rfl ?_ ?_
              rotate_left
              · go_simp
                rfl
              refine hK.out _ _ ?_
              clear hK K
              refine done_ (done_of HT_.out (by kernel_rfl)) ?_
              try go_wp2
              go_roundg k1
              case measure => have := HK1.out; omega
              case rel => exact ⟨(wrap64 (x18_1 + 1)), (y124), (.slice Ao26 y124.length co26), (by first | rfl | (simp; done) | (simp [*]; done)), H', ⟨by have := HK1.out; omega⟩, ⟨by (with_reducible repeat (first | apply Kd.R_alloc | apply Kd.R_drewN | apply Kd.R_drew)); exact Kd.R_mono (Kd.R_far (p := ⟨gb114, 3, none⟩) (Kd.R_mono HO126.out (fun k_ hk => (⟨hk, hk.2⟩ : _ ∧ k_ ≠ gb114))) (fun _ hk => hk.2) (.slice Ao26 y124.length co26)) (fun _ hk => ⟨hk.1.1, hk.1.2⟩)⟩, ⟨by (with_reducible repeat (first | refine blk_drewN ?_ _ | refine blk_drew ?_ | refine blk_alloc ?_ _)); refine blk_far ?_ NB112_114.out _; (with_reducible repeat (first | refine blk_drewN ?_ _ | refine blk_drew ?_ | refine blk_alloc ?_ _)); exact BK112.out⟩, ⟨by (with_reducible repeat (first | refine blk_drewN ?_ _ | refine blk_drew ?_ | refine blk_alloc ?_ _)); refine blk_far ?_ NB113_114.out _; (with_reducible repeat (first | refine blk_drewN ?_ _ | refine blk_drew ?_ | refine blk_alloc ?_ _)); exact BK113.out⟩, ⟨by (with_reducible repeat (first | refine blk_drewN ?_ _ | refine blk_drew ?_ | refine blk_alloc ?_ _)); refine blk_put (cs := #[.string a0_0, .string a0_1, .int .i64 a0_2, u115003, .int .i64 a0_4]) ?_ 3 _ rfl; (with_reducible repeat (first | refine blk_drewN ?_ _ | refine blk_drew ?_ | refine blk_alloc ?_ _)); exact BK114.out⟩, ⟨by repeat (first | (with_reducible first | exact HB.out | apply below_alloc | apply pw_below_drewN | apply below_drew1 | refine below_set ?_ GE112.out | refine below_set ?_ GE113.out | refine below_set ?_ GE114.out | refine below_set ?_ GE116.out) | exact HB.out)⟩⟩
            · rw [if_neg c15] at H
              exact absurd H (by simp)
          · rw [if_neg c13] at H
            exact absurd H (by simp)
        · rw [if_neg c12] at H
          exact absurd H (by simp)
      · rw [if_neg c11] at H
        have c11b0 : decide (x18_1 < (l0_3.length : Int)) = false := decide_eq_false c11
        clear c11
        simp only [Option.some.injEq, Prod.mk.injEq] at H
        obtain ⟨rfl, rfl, rfl, rfl, rfl⟩ := H
        have hnb28 := NB114_112.out
        have hnc28 := NB112_114.out
        have hnb29 := NB114_113.out
        have hnc29 := NB113_114.out
        have hcz30_0 : wr.cell? ⟨gb114, 0, none⟩ = some (.string a0_0) := (blk_cell BK114.out 0).trans rfl
        have hcz30_1 : wr.cell? ⟨gb114, 1, none⟩ = some (.string a0_1) := (blk_cell BK114.out 1).trans rfl
        have hcz30_2 : wr.cell? ⟨gb114, 2, none⟩ = some (.int .i64 a0_2) := (blk_cell BK114.out 2).trans rfl
        have hcz30_3 : wr.cell? ⟨gb114, 3, none⟩ = some (u115003) := (blk_cell BK114.out 3).trans rfl
        have hcz30_4 : wr.cell? ⟨gb114, 4, none⟩ = some (.int .i64 a0_4) := (blk_cell BK114.out 4).trans rfl
        have hfz30_0 := blk_frozen BK114.out 0
        have hfz30_1 := blk_frozen BK114.out 1
        have hfz30_2 := blk_frozen BK114.out 2
        have hfz30_3 := blk_frozen BK114.out 3
        have hfz30_4 := blk_frozen BK114.out 4
        have hnb31 := NB113_112.out
        have hnc31 := NB112_113.out
        have hcz32_0 : wr.cell? ⟨gb113, 0, none⟩ = some (.string (⟨#[]⟩ : ByteArray)) := (blk_cell BK113.out 0).trans rfl
        have hcz32_1 : wr.cell? ⟨gb113, 1, none⟩ = some (.string (⟨#[]⟩ : ByteArray)) := (blk_cell BK113.out 1).trans rfl
        have hcz32_2 : wr.cell? ⟨gb113, 2, none⟩ = some (.int .i64 0) := (blk_cell BK113.out 2).trans rfl
        have hcz32_3 : wr.cell? ⟨gb113, 3, none⟩ = some (.slice none 0 0) := (blk_cell BK113.out 3).trans rfl
        have hcz32_4 : wr.cell? ⟨gb113, 4, none⟩ = some (.int .i64 0) := (blk_cell BK113.out 4).trans rfl
        have hfz32_0 := blk_frozen BK113.out 0
        have hfz32_1 := blk_frozen BK113.out 1
        have hfz32_2 := blk_frozen BK113.out 2
        have hfz32_3 := blk_frozen BK113.out 3
        have hfz32_4 := blk_frozen BK113.out 4
        obtain ⟨Ao33, co33, eo33⟩ := Kd.R_slice HO_115003.out
        subst eo33
        go_wp2
        refine bodyPost_ret (results_cell_row rfl _ _ gb113 33 #[.string a0_0, .string a0_1, .int .i64 a0_2, .slice Ao33 x115003_1.length co33, .int .i64 a0_4] (0, 0) _ rfl (by (with_reducible repeat (first | refine blk_drewN ?_ _ | refine blk_drew ?_ | refine blk_alloc ?_ _)); refine blk_put (cs := #[.string a0_0, .string a0_1, .int .i64 a0_2, .slice Ao33 x115003_1.length co33, .int .i64 0]) ?_ 4 _ rfl; (with_reducible repeat (first | refine blk_drewN ?_ _ | refine blk_drew ?_ | refine blk_alloc ?_ _)); refine blk_put (cs := #[.string a0_0, .string a0_1, .int .i64 a0_2, .slice none 0 0, .int .i64 0]) ?_ 3 _ rfl; (with_reducible repeat (first | refine blk_drewN ?_ _ | refine blk_drew ?_ | refine blk_alloc ?_ _)); refine blk_put (cs := #[.string a0_0, .string a0_1, .int .i64 0, .slice none 0 0, .int .i64 0]) ?_ 2 _ rfl; (with_reducible repeat (first | refine blk_drewN ?_ _ | refine blk_drew ?_ | refine blk_alloc ?_ _)); refine blk_put (cs := #[.string a0_0, .string (⟨#[]⟩ : ByteArray), .int .i64 0, .slice none 0 0, .int .i64 0]) ?_ 1 _ rfl; (with_reducible repeat (first | refine blk_drewN ?_ _ | refine blk_drew ?_ | refine blk_alloc ?_ _)); refine blk_put (cs := #[.string (⟨#[]⟩ : ByteArray), .string (⟨#[]⟩ : ByteArray), .int .i64 0, .slice none 0 0, .int .i64 0]) ?_ 0 _ rfl; (with_reducible repeat (first | refine blk_drewN ?_ _ | refine blk_drew ?_ | refine blk_alloc ?_ _)); exact BK113.out) Tryd.underlying33 rfl (by kernel_rfl)) rfl ?_
        exact ⟨_, by first | rfl | (simp [errW_none, errW_some] <;> rfl) | (simp [*, errW_none, errW_some] <;> rfl), by (with_reducible repeat (first | apply Kd.R_alloc | apply Kd.R_drewN | apply Kd.R_drew)); exact Kd.R_mono (Kd.R_far (p := ⟨gb113, 4, none⟩) (Kd.R_far (p := ⟨gb113, 3, none⟩) (Kd.R_far (p := ⟨gb113, 2, none⟩) (Kd.R_far (p := ⟨gb113, 1, none⟩) (Kd.R_far (p := ⟨gb113, 0, none⟩) (Kd.R_mono HO_115003.out (fun k_ hk => (⟨hk, hk.1⟩ : _ ∧ k_ ≠ gb113))) (fun _ hk => hk.2) (.string a0_0)) (fun _ hk => hk.2) (.string a0_1)) (fun _ hk => hk.2) (.int .i64 a0_2)) (fun _ hk => hk.2) (.slice Ao33 x115003_1.length co33)) (fun _ hk => hk.2) (.int .i64 a0_4)) (fun _ hk => trivial), by repeat (first | (with_reducible first | exact HB.out | apply below_alloc | apply pw_below_drewN | apply below_drew1 | refine below_set ?_ GE112.out | refine below_set ?_ GE113.out | refine below_set ?_ GE114.out) | exact HB.out)⟩

end Go.Proofs.YtnnbbeloifhofaaDoor.P
end
