/- Texts of this claim, joined: Pxf18, TrSize, Pxf27, Pxf25. -/
import Derived.Test.YtnnbbeloifhofaaDoorCTreePlacesUpto0
section
namespace Go.Proofs.YtnnbbeloifhofaaDoor.P
open Go.RowKit Go.Proofs.YtnnbbeloifhofaaDoorW.PrintWords Go.Proofs.YtnnbbeloifhofaaDoorW.PrintLast Go.Proofs.YtnnbbeloifhofaaDoorW.PrintMore
attribute [local go_sem] max2_int min2_int max_two min_two max_three min_three max_four min_four   -- for this text's walks alone
set_option linter.unusedVariables false
set_option linter.unusedSimpArgs false

/-! ### tree_Depth: function 18 -/
mutual
def tree_Depth.l0 : Nat → Int → List (S76) → Int → Int → Option (Int)
  | 0, _, _, _, _ => none
  | k + 1, x3, x6, x7, x8 => if x8 < x7 then (if 0 ≤ x8 then (if x8 < (x6.length : Int) then ((tree_Depth.f k ((rd_T76 x6 x8).f3)).bind fun t230 => ((tree_Depth.f k ((rd_T76 x6 x8).f4)).bind fun t231 => (tree_Depth.l0 k (mx (mx x3 t230) t231) x6 x7 (wrap64 (x8 + 1))))) else (none)) else (none)) else (some (wrap64 (x3 + 1)))
def tree_Depth.f : Nat → List (S76) → Option (Int)
  | 0, _ => none
  | k + 1, l0 => tree_Depth.l0 k (-1) l0 (l0.length : Int) 0
end
theorem tree_Depth.mono_l : ∀ k, (∀ y0, LeO (tree_Depth.f k y0) (tree_Depth.f (k + 1) y0)) ∧ (∀ y0 y1 y2 y3, LeO (tree_Depth.l0 k y0 y1 y2 y3) (tree_Depth.l0 (k + 1) y0 y1 y2 y3))
  | 0 => ⟨fun _ r h => by simp [tree_Depth.f] at h, fun _ _ _ _ r h => by simp [tree_Depth.l0] at h⟩
  | k + 1 => by
    obtain ⟨ih0, ih1⟩ := tree_Depth.mono_l k
    refine ⟨?_, ?_⟩
    · intro y0
      unfold tree_Depth.f
      repeat' first
      | (with_reducible exact ih0 _)
      | (with_reducible exact ih1 _ _ _ _)
      | (with_reducible exact LeO.refl _)
      | (with_reducible exact LeO.none _)
      | (with_reducible refine LeO.ite ?_ ?_)
      | (with_reducible refine LeO.bind ?_ (fun _ => ?_))
      | exact ih0 _
      | exact ih1 _ _ _ _
      | exact LeO.none _
      | refine LeO.ite ?_ ?_
      | refine LeO.bind ?_ (fun _ => ?_)
    · intro y0 y1 y2 y3
      unfold tree_Depth.l0
      repeat' first
      | (with_reducible exact ih0 _)
      | (with_reducible exact ih1 _ _ _ _)
      | (with_reducible exact LeO.refl _)
      | (with_reducible exact LeO.none _)
      | (with_reducible refine LeO.ite ?_ ?_)
      | (with_reducible refine LeO.bind ?_ (fun _ => ?_))
      | exact ih0 _
      | exact ih1 _ _ _ _
      | exact LeO.none _
      | refine LeO.ite ?_ ?_
      | refine LeO.bind ?_ (fun _ => ?_)
theorem tree_Depth.mono : ∀ a0 k, LeO (tree_Depth.f k a0) (tree_Depth.f (k + 1) a0) := by
  intro a0 k
  obtain ⟨ih0, ih1⟩ := tree_Depth.mono_l k
  exact ih0 a0
def tree_Depth.T5 : Bool × List (List Nat × List Nat) := (true, [([], []), ([], []), ([1], [1]), ([2], [2]), ([], []), ([4], [4]), ([5, 3], [5]), ([0, 3, 6], [0, 3, 6]), ([7, 6, 0, 1, 2, 3, 4, 5, 6, 7], [0, 7])])
def tree_Depth.B5 : List Nat := [0, 0, 2, 6, 0, 16, 62, 127, 255]
theorem tree_Depth.tab5 : rtab .any (opsOf Tryd.f18 5) = tree_Depth.T5 := by kernel_rfl
theorem tree_Depth.bits5 : waitsOk tree_Depth.T5.2 tree_Depth.B5 = true := by kernel_rfl
set_option maxHeartbeats 8000000 in
set_option maxRecDepth 100000 in
theorem tree_Depth.calls (k : Nat) : ∀ (A0 : Option Addr) (c0 : Nat) (l0 : List (S76)) (r : Int) (w : World) (hr0 : Kd.C k76 w A0 l0.length l0) (hc0 : l0.length ≤ c0) (h : tree_Depth.f k l0 = some r),
    Calls Tryd.prog 18 #[.slice A0 l0.length c0] w fun e w' => e = .returned (.int .i64 r) ∧ Below w.heap.size w w' := by
  induction k using Nat.strongRecOn with
  | _ k ih =>
  intro A0 c0 l0 r w hr0 hc0 h
  cases k with
  | zero => exact absurd h (by simp [tree_Depth.f])
  | succ k =>
  simp only [tree_Depth.f] at h
  have hu76 := Tryd.underlying76
  have HR0 := Aside0.mk hr0
  have HC0 := Aside0.mk hc0
  clear hr0 hc0
  have HB := Aside0.mk (Below.refl w.heap.size w)
  have H : (tree_Depth.l0 k (-1) l0 (l0.length : Int) 0) = some r := h
  clear h
  have H' := Aside0.mk H
  clear H
  go_enter Tryd.func18, Tryd.ntmps18
  go_wp2
  (try simp only [Act.put, List.setIfInBounds_toArray, List.set_cons_succ, List.set_cons_zero])
  go_loopg [3, 8] k (fun kq v3 v8 w' => ∃ (x3_1 : Int) (x8_1 : Int), v3 = .int .i64 x3_1 ∧ v8 = .int .i64 x8_1 ∧ Aside0 (tree_Depth.l0 kq x3_1 l0 (l0.length : Int) x8_1 = some r) ∧ Aside0 (kq ≤ k) ∧ Aside0 (Below w.heap.size w w'))
  case atStart => exact ⟨((-1)), (0), (by first | rfl | (simp; done) | (simp [*]; done)), (by first | rfl | (simp; done) | (simp [*]; done)), H', ⟨Nat.le_refl _⟩, ⟨by repeat (first | (with_reducible first | exact HB.out | apply below_alloc | apply pw_below_drewN | apply below_drew1) | exact HB.out)⟩⟩
  case round =>
    clear H'
    try clear c1
    obtain ⟨x3_1, x8_1, rfl, rfl, HA, HK1, HB⟩ := hrel
    cases gk with
    | zero => exact absurd HA.out (by simp [tree_Depth.l0])
    | succ k1 =>
      have H := HA.out
      clear HA
      simp only [tree_Depth.l0] at H
      by_cases c2 : x8_1 < (l0.length : Int)
      · rw [if_pos c2] at H
        have c2b0 : decide (x8_1 < (l0.length : Int)) = true := decide_eq_true c2
        clear c2
        by_cases c3 : 0 ≤ x8_1
        · rw [if_pos c3] at H
          have c3b0 : decide (0 ≤ x8_1) = true := decide_eq_true c3
          clear c3
          by_cases c4 : x8_1 < (l0.length : Int)
          · rw [if_pos c4] at H
            have c4b0 : decide (x8_1 < (l0.length : Int)) = true := decide_eq_true c4
            clear c4
            replace H := Option.bind_eq_some_iff.mp H
            obtain ⟨t230, A50, H⟩ := H
            replace H : ((tree_Depth.f k1 ((rd_T76 l0 x8_1).f4)).bind fun t231 => (tree_Depth.l0 k1 (mx (mx x3_1 t230) t231) l0 (l0.length : Int) (wrap64 (x8_1 + 1)))) = some r := H
            have A5 := Aside0.mk A50
            clear A50
            replace H := Option.bind_eq_some_iff.mp H
            obtain ⟨t231, A60, H⟩ := H
            replace H : (tree_Depth.l0 k1 (mx (mx x3_1 t230) t231) l0 (l0.length : Int) (wrap64 (x8_1 + 1))) = some r := H
            have A6 := Aside0.mk A60
            clear A60
            obtain ⟨ji7, hji7⟩ : ∃ j_ : Int, (mx x3_1 t230) = j_ := ⟨_, rfl⟩
            replace H : (tree_Depth.l0 k1 (mx (ji7) t231) l0 (l0.length : Int) (wrap64 (x8_1 + 1))) = some r := by first | (rw [hji7] at H; exact H) | (simp only [hji7] at H ⊢; exact H)
            (try rw [hji7] at A5)
            (try rw [hji7] at A6)
            have hji7_ : (if x3_1 < t230 then t230 else x3_1) = ji7 := hji7
            obtain ⟨ji8, hji8⟩ : ∃ j_ : Int, (mx (ji7) t231) = j_ := ⟨_, rfl⟩
            replace H : (tree_Depth.l0 k1 ji8 l0 (l0.length : Int) (wrap64 (x8_1 + 1))) = some r := by first | (rw [hji8] at H; exact H) | (simp only [hji8] at H ⊢; exact H)
            (try rw [hji8] at A5)
            (try rw [hji8] at A6)
            have hji8_ : (if (ji7) < t231 then t231 else (ji7)) = ji8 := hji8
            have H' := Aside0.mk H
            clear H
            have p228 : 0 ≤ (x8_1 : Int) := of_decide_eq_true (by first | (with_reducible assumption) | assumption)
            have q228 : x8_1 < (l0.length : Int) := of_decide_eq_true (by first | (with_reducible assumption) | assumption)
            obtain ⟨ad228, A228_2, c228_2, A228_3, c228_3, A228_4, c228_4, e228, hx228_0, hx228_1, hx228_2, hx228_3, hx228_4, hx228_5, hl228_2, hi228_2, hl228_3, hi228_3, hl228_4, hi228_4⟩ := at_T76 HR0.out x8_1 p228 q228
            cases e228
            replace hx228_0 := (HB.out.cell (World.block_lt_of_cell? w _ hx228_0)).trans hx228_0
            replace hx228_1 := (HB.out.cell (World.block_lt_of_cell? w _ hx228_1)).trans hx228_1
            replace hx228_2 := (HB.out.cell (World.block_lt_of_cell? w _ hx228_2)).trans hx228_2
            replace hx228_3 := (HB.out.cell (World.block_lt_of_cell? w _ hx228_3)).trans hx228_3
            replace hx228_4 := (HB.out.cell (World.block_lt_of_cell? w _ hx228_4)).trans hx228_4
            replace hx228_5 := (HB.out.cell (World.block_lt_of_cell? w _ hx228_5)).trans hx228_5
            have HR228_2 := Aside0.mk hi228_2
            have HC228_2 := Aside0.mk hl228_2
            clear hi228_2 hl228_2
            have HR228_3 := Aside0.mk hi228_3
            have HC228_3 := Aside0.mk hl228_3
            clear hi228_3 hl228_3
            have HR228_4 := Aside0.mk hi228_4
            have HC228_4 := Aside0.mk hl228_4
            clear hi228_4 hl228_4
            replace p228 := eq_true p228
            replace q228 := eq_true q228
            try go_wp2_with (first | ((with_reducible refine gate_dst (N := 5) rfl ?_); refine box_event ?hg (N := 5) ?hd (cs := #[.string (⟨#[]⟩ : ByteArray), .string (⟨#[]⟩ : ByteArray), .slice none 0 0, .slice none 0 0, .slice none 0 0, .int .i64 0]) (t := 76) ?hr ?_; (case hd => rfl); (case hg => rfl); (case hr => first | (go_simp; done) | (go_simp; rfl)); intro gb229 hg w9 hbox hb; have n0_ := Aside0.mk (below_step (by repeat (first | (with_reducible first | exact HB.out | apply below_alloc | apply pw_below_drewN | apply below_drew1) | exact HB.out)) hb); have n1_ := Aside0.mk (hbox); have n2_ := Aside0.mk ((by rw [hg]; exact (below_size (by repeat (first | (with_reducible first | exact HB.out | apply below_alloc | apply pw_below_drewN | apply below_drew1) | exact HB.out))) : w.heap.size ≤ gb229)); have n3_ := Aside0.mk ((by rw [hg]; exact (below_size (by repeat (first | (with_reducible first | exact HB.out | apply below_alloc | apply pw_below_drewN | apply below_drew1) | exact HB.out))) : w.heap.size ≤ gb229)); clear HB; have HB := n0_; have BK229 := n1_; have GW229 := n2_; have GE229 := n3_; clear n0_ n1_ n2_ n3_; clear hb hbox hg; have hcz10_0 : w9.cell? ⟨gb229, 0, none⟩ = some (.string (⟨#[]⟩ : ByteArray)) := (blk_cell BK229.out 0).trans rfl; have hcz10_1 : w9.cell? ⟨gb229, 1, none⟩ = some (.string (⟨#[]⟩ : ByteArray)) := (blk_cell BK229.out 1).trans rfl; have hcz10_2 : w9.cell? ⟨gb229, 2, none⟩ = some (.slice none 0 0) := (blk_cell BK229.out 2).trans rfl; have hcz10_3 : w9.cell? ⟨gb229, 3, none⟩ = some (.slice none 0 0) := (blk_cell BK229.out 3).trans rfl; have hcz10_4 : w9.cell? ⟨gb229, 4, none⟩ = some (.slice none 0 0) := (blk_cell BK229.out 4).trans rfl; have hcz10_5 : w9.cell? ⟨gb229, 5, none⟩ = some (.int .i64 0) := (blk_cell BK229.out 5).trans rfl; have hfz10_0 := blk_frozen BK229.out 0; have hfz10_1 := blk_frozen BK229.out 1; have hfz10_2 := blk_frozen BK229.out 2; have hfz10_3 := blk_frozen BK229.out 3; have hfz10_4 := blk_frozen BK229.out 4; have hfz10_5 := blk_frozen BK229.out 5))
            have n0_ : Aside0 (((((((w9.setCell ⟨gb229, 0, none⟩ (.string ((rd_T76 l0 x8_1).f0))).setCell ⟨gb229, 1, none⟩ (.string ((rd_T76 l0 x8_1).f1))).setCell ⟨gb229, 2, none⟩ (.slice A228_2 ((rd_T76 l0 x8_1).f2).length c228_2)).setCell ⟨gb229, 3, none⟩ (.slice A228_3 ((rd_T76 l0 x8_1).f3).length c228_3)).setCell ⟨gb229, 4, none⟩ (.slice A228_4 ((rd_T76 l0 x8_1).f4).length c228_4)).setCell ⟨gb229, 5, none⟩ (.int .i64 ((rd_T76 l0 x8_1).f5))).heap[gb229]? = some (.cells #[.string ((rd_T76 l0 x8_1).f0), .string ((rd_T76 l0 x8_1).f1), .slice A228_2 ((rd_T76 l0 x8_1).f2).length c228_2, .slice A228_3 ((rd_T76 l0 x8_1).f3).length c228_3, .slice A228_4 ((rd_T76 l0 x8_1).f4).length c228_4, .int .i64 ((rd_T76 l0 x8_1).f5)] 76 (0, 0))) := ⟨by (with_reducible repeat (first | refine blk_drewN ?_ _ | refine blk_drew ?_ | refine blk_alloc ?_ _)); refine blk_put (cs := #[.string ((rd_T76 l0 x8_1).f0), .string ((rd_T76 l0 x8_1).f1), .slice A228_2 ((rd_T76 l0 x8_1).f2).length c228_2, .slice A228_3 ((rd_T76 l0 x8_1).f3).length c228_3, .slice A228_4 ((rd_T76 l0 x8_1).f4).length c228_4, .int .i64 0]) ?_ 5 _ rfl; (with_reducible repeat (first | refine blk_drewN ?_ _ | refine blk_drew ?_ | refine blk_alloc ?_ _)); refine blk_put (cs := #[.string ((rd_T76 l0 x8_1).f0), .string ((rd_T76 l0 x8_1).f1), .slice A228_2 ((rd_T76 l0 x8_1).f2).length c228_2, .slice A228_3 ((rd_T76 l0 x8_1).f3).length c228_3, .slice none 0 0, .int .i64 0]) ?_ 4 _ rfl; (with_reducible repeat (first | refine blk_drewN ?_ _ | refine blk_drew ?_ | refine blk_alloc ?_ _)); refine blk_put (cs := #[.string ((rd_T76 l0 x8_1).f0), .string ((rd_T76 l0 x8_1).f1), .slice A228_2 ((rd_T76 l0 x8_1).f2).length c228_2, .slice none 0 0, .slice none 0 0, .int .i64 0]) ?_ 3 _ rfl; (with_reducible repeat (first | refine blk_drewN ?_ _ | refine blk_drew ?_ | refine blk_alloc ?_ _)); refine blk_put (cs := #[.string ((rd_T76 l0 x8_1).f0), .string ((rd_T76 l0 x8_1).f1), .slice none 0 0, .slice none 0 0, .slice none 0 0, .int .i64 0]) ?_ 2 _ rfl; (with_reducible repeat (first | refine blk_drewN ?_ _ | refine blk_drew ?_ | refine blk_alloc ?_ _)); refine blk_put (cs := #[.string ((rd_T76 l0 x8_1).f0), .string (⟨#[]⟩ : ByteArray), .slice none 0 0, .slice none 0 0, .slice none 0 0, .int .i64 0]) ?_ 1 _ rfl; (with_reducible repeat (first | refine blk_drewN ?_ _ | refine blk_drew ?_ | refine blk_alloc ?_ _)); refine blk_put (cs := #[.string (⟨#[]⟩ : ByteArray), .string (⟨#[]⟩ : ByteArray), .slice none 0 0, .slice none 0 0, .slice none 0 0, .int .i64 0]) ?_ 0 _ rfl; (with_reducible repeat (first | refine blk_drewN ?_ _ | refine blk_drew ?_ | refine blk_alloc ?_ _)); exact BK229.out⟩
            have n1_ : Aside0 (Below w.heap.size w ((((((w9.setCell ⟨gb229, 0, none⟩ (.string ((rd_T76 l0 x8_1).f0))).setCell ⟨gb229, 1, none⟩ (.string ((rd_T76 l0 x8_1).f1))).setCell ⟨gb229, 2, none⟩ (.slice A228_2 ((rd_T76 l0 x8_1).f2).length c228_2)).setCell ⟨gb229, 3, none⟩ (.slice A228_3 ((rd_T76 l0 x8_1).f3).length c228_3)).setCell ⟨gb229, 4, none⟩ (.slice A228_4 ((rd_T76 l0 x8_1).f4).length c228_4)).setCell ⟨gb229, 5, none⟩ (.int .i64 ((rd_T76 l0 x8_1).f5)))) := ⟨by repeat (first | (with_reducible first | exact HB.out | apply below_alloc | apply pw_below_drewN | apply below_drew1 | refine below_set ?_ GE229.out) | exact HB.out)⟩
            (try clear BK229)
            (try clear HB)
            generalize ((((((w9.setCell ⟨gb229, 0, none⟩ (.string ((rd_T76 l0 x8_1).f0))).setCell ⟨gb229, 1, none⟩ (.string ((rd_T76 l0 x8_1).f1))).setCell ⟨gb229, 2, none⟩ (.slice A228_2 ((rd_T76 l0 x8_1).f2).length c228_2)).setCell ⟨gb229, 3, none⟩ (.slice A228_3 ((rd_T76 l0 x8_1).f3).length c228_3)).setCell ⟨gb229, 4, none⟩ (.slice A228_4 ((rd_T76 l0 x8_1).f4).length c228_4)).setCell ⟨gb229, 5, none⟩ (.int .i64 ((rd_T76 l0 x8_1).f5))) = w11 at n0_ n1_ ⊢
            have BK229 := n0_
            have HB := n1_
            clear n0_ n1_
            have n0_ := Aside0.mk (blk_drew BK229.out)
            have n1_ := Aside0.mk (below_drew1 HB.out)
            clear BK229
            clear HB
            have BK229 := n0_
            have HB := n1_
            clear n0_ n1_
            refine start_ (n := 9) (S := fun w' => w'.cell? ⟨gb229, 0, none⟩ = some (.string ((rd_T76 l0 x8_1).f0)) ∧ w'.cell? ⟨gb229, 1, none⟩ = some (.string ((rd_T76 l0 x8_1).f1)) ∧ w'.cell? ⟨gb229, 2, none⟩ = some (.slice A228_2 ((rd_T76 l0 x8_1).f2).length c228_2) ∧ w'.cell? ⟨gb229, 3, none⟩ = some (.slice A228_3 ((rd_T76 l0 x8_1).f3).length c228_3) ∧ w'.cell? ⟨gb229, 4, none⟩ = some (.slice A228_4 ((rd_T76 l0 x8_1).f4).length c228_4) ∧ w'.cell? ⟨gb229, 5, none⟩ = some (.int .i64 ((rd_T76 l0 x8_1).f5))) (ds := []) #[false, false, false, false, false, false, false, false, false] (by kernel_rfl) rfl rfl ⟨(blk_cell BK229.out 0).trans rfl, (blk_cell BK229.out 1).trans rfl, (blk_cell BK229.out 2).trans rfl, (blk_cell BK229.out 3).trans rfl, (blk_cell BK229.out 4).trans rfl, (blk_cell BK229.out 5).trans rfl⟩ (fun hHeld => ?_); refine with_tabW tree_Depth.tab5 tree_Depth.bits5 (fun HT_ HW_ => ?_)
            generalize w11.drew = w12 at BK229 HB hHeld ⊢
            refine pure_ (i := 0) (N := some 12) (v := ?_) (a' := ?_) #[true, false, false, false, false, false, false, false, false] rfl rfl (any_of HT_.out (by kernel_rfl)) (fun _ _ _ h => h) (Or.inl ⟨by rfl, ?_⟩) ?_ ?_
            rotate_left
            · intro w'
              go_simp
              with_reducible rfl
            rotate_left
            · simp only [Act.put, List.setIfInBounds_toArray, List.set_cons_zero, List.set_cons_succ, i64_w, i32_w]
              rfl
            refine pure_ (i := 1) (N := some 13) (v := ?_) (a' := ?_) #[true, true, false, false, false, false, false, false, false] rfl rfl (any_of HT_.out (by kernel_rfl)) (fun _ _ _ h => h) (Or.inl ⟨by rfl, ?_⟩) ?_ ?_
            rotate_left
            · intro w'
              go_simp
              with_reducible rfl
            rotate_left
            · simp only [Act.put, List.setIfInBounds_toArray, List.set_cons_zero, List.set_cons_succ, i64_w, i32_w]
              rfl
            refine pure_ (i := 4) (N := some 16) (v := ?_) (a' := ?_) #[true, true, false, false, true, false, false, false, false] rfl rfl (any_of HT_.out (by kernel_rfl)) (fun _ _ _ h => h) (Or.inl ⟨by rfl, ?_⟩) ?_ ?_
            rotate_left
            · intro w'
              go_simp
              with_reducible rfl
            rotate_left
            · simp only [Act.put, List.setIfInBounds_toArray, List.set_cons_zero, List.set_cons_succ, i64_w, i32_w]
              rfl
            refine take_ (i := 2) (N := some 14) (v := ?_) (a' := ?_) #[true, true, true, false, true, false, false, false, false] rfl rfl (take_ofW HT_.out HW_.out (by kernel_rfl)) (fun _ _ _ h => h) (Or.inl ⟨by rfl, ?_⟩) hHeld ?_ ?_
            rotate_left
            · rintro w' ⟨s0, s1, s2, s3, s4, s5⟩
              go_simp
              with_reducible rfl
            rotate_left
            · simp only [Act.put, List.setIfInBounds_toArray, List.set_cons_zero, List.set_cons_succ, i64_w, i32_w]
              rfl
            refine take_ (i := 5) (N := some 17) (v := ?_) (a' := ?_) #[true, true, true, false, true, true, false, false, false] rfl rfl (take_ofW HT_.out HW_.out (by kernel_rfl)) (fun _ _ _ h => h) (Or.inl ⟨by rfl, ?_⟩) hHeld ?_ ?_
            rotate_left
            · rintro w' ⟨s0, s1, s2, s3, s4, s5⟩
              go_simp
              with_reducible rfl
            rotate_left
            · simp only [Act.put, List.setIfInBounds_toArray, List.set_cons_zero, List.set_cons_succ, i64_w, i32_w]
              rfl
            refine one_ (i := 3) (N := some 15) #[true, true, true, true, true, true, false, false, false] rfl rfl (one_of HT_.out (by kernel_rfl)) (by decide) (fun K hK => ?_)
            refine goes_ Tryd.func18 (by kernel_rfl) rfl #[.slice A228_3 ((rd_T76 l0 x8_1).f3).length c228_3] (by rfl) rfl rfl (by (try simp only [List.map_toArray, List.map_cons, List.map_nil]); first | done | rfl | (simp only [List.length_drop, List.length_take]; rfl)) ?_
            with_reducible refine (ih k1 (by have := HK1.out; omega) _ _ ((rd_T76 l0 x8_1).f3) t230 _ ?side1 ?side2 A5.out).mono ?_
            (case side1 => repeat (first | exact (Kd.C_below HR228_3.out HB.out) | (with_reducible refine Kd.C_alloc ?_ _) | (with_reducible refine Kd.C_drewN ?_ _) | (with_reducible refine Kd.C_drew ?_)))
            (case side2 => exact HC228_3.out)
            rintro e w13 ⟨rfl, hb⟩
            refine ⟨_, rfl, ?_⟩
            have n0_ := Aside0.mk (blk_below (g := gb229) (o := .cells #[.string ((rd_T76 l0 x8_1).f0), .string ((rd_T76 l0 x8_1).f1), .slice A228_2 ((rd_T76 l0 x8_1).f2).length c228_2, .slice A228_3 ((rd_T76 l0 x8_1).f3).length c228_3, .slice A228_4 ((rd_T76 l0 x8_1).f4).length c228_4, .int .i64 ((rd_T76 l0 x8_1).f5)] 76 (0, 0)) (by (with_reducible repeat (first | refine blk_drewN ?_ _ | refine blk_drew ?_ | refine blk_alloc ?_ _)); exact BK229.out) hb)
            have n1_ := Aside0.mk (below_step (by repeat (first | (with_reducible first | exact HB.out | apply below_alloc | apply pw_below_drewN | apply below_drew1 | refine below_set ?_ GE229.out) | exact HB.out)) hb)
            clear BK229
            clear HB
            have BK229 := n0_
            have HB := n1_
            clear n0_ n1_
            (try clear hb)
            (try clear hb2)
            (try clear hk)
            (try clear hi)
            refine hK.out _ _ ⟨(blk_cell BK229.out 0).trans rfl, (blk_cell BK229.out 1).trans rfl, (blk_cell BK229.out 2).trans rfl, (blk_cell BK229.out 3).trans rfl, (blk_cell BK229.out 4).trans rfl, (blk_cell BK229.out 5).trans rfl⟩ (fun hHeld => ?_)
            clear hK K
            refine norm_ (a' := ?_) ?_ ?_
            rotate_left
            · show Act.put _ (some 15) _ = _
              simp only [Act.put, List.setIfInBounds_toArray, List.set_cons_zero, List.set_cons_succ, i64_w, i32_w]
              rfl
            refine one_ (i := 6) (N := some 18) #[true, true, true, true, true, true, true, false, false] rfl rfl (one_of HT_.out (by kernel_rfl)) (by decide) (fun K hK => ?_)
            refine goes_ Tryd.func18 (by kernel_rfl) rfl #[.slice A228_4 ((rd_T76 l0 x8_1).f4).length c228_4] (by rfl) rfl rfl (by (try simp only [List.map_toArray, List.map_cons, List.map_nil]); first | done | rfl | (simp only [List.length_drop, List.length_take]; rfl)) ?_
            with_reducible refine (ih k1 (by have := HK1.out; omega) _ _ ((rd_T76 l0 x8_1).f4) t231 _ ?side1 ?side2 A6.out).mono ?_
            (case side1 => repeat (first | exact (Kd.C_below HR228_4.out HB.out) | (with_reducible refine Kd.C_alloc ?_ _) | (with_reducible refine Kd.C_drewN ?_ _) | (with_reducible refine Kd.C_drew ?_)))
            (case side2 => exact HC228_4.out)
            rintro e w14 ⟨rfl, hb⟩
            refine ⟨_, rfl, ?_⟩
            have n0_ := Aside0.mk (blk_below (g := gb229) (o := .cells #[.string ((rd_T76 l0 x8_1).f0), .string ((rd_T76 l0 x8_1).f1), .slice A228_2 ((rd_T76 l0 x8_1).f2).length c228_2, .slice A228_3 ((rd_T76 l0 x8_1).f3).length c228_3, .slice A228_4 ((rd_T76 l0 x8_1).f4).length c228_4, .int .i64 ((rd_T76 l0 x8_1).f5)] 76 (0, 0)) (by (with_reducible repeat (first | refine blk_drewN ?_ _ | refine blk_drew ?_ | refine blk_alloc ?_ _)); exact BK229.out) hb)
            have n1_ := Aside0.mk (below_step (by repeat (first | (with_reducible first | exact HB.out | apply below_alloc | apply pw_below_drewN | apply below_drew1 | refine below_set ?_ GE229.out) | exact HB.out)) hb)
            clear BK229
            clear HB
            have BK229 := n0_
            have HB := n1_
            clear n0_ n1_
            (try clear hb)
            (try clear hb2)
            (try clear hk)
            (try clear hi)
            refine hK.out _ _ ⟨(blk_cell BK229.out 0).trans rfl, (blk_cell BK229.out 1).trans rfl, (blk_cell BK229.out 2).trans rfl, (blk_cell BK229.out 3).trans rfl, (blk_cell BK229.out 4).trans rfl, (blk_cell BK229.out 5).trans rfl⟩ (fun hHeld => ?_)
            clear hK K
            refine norm_ (a' := ?_) ?_ ?_
            rotate_left
            · show Act.put _ (some 18) _ = _
              simp only [Act.put, List.setIfInBounds_toArray, List.set_cons_zero, List.set_cons_succ, i64_w, i32_w]
              rfl
            refine pure_ (i := 7) (N := some 19) (v := ?_) (a' := ?_) #[true, true, true, true, true, true, true, true, false] rfl rfl (any_of HT_.out (by kernel_rfl)) (fun _ _ _ h => h) (Or.inl ⟨by rfl, ?_⟩) ?_ ?_
            rotate_left
            · intro w'
              go_simp
              with_reducible rfl
            rotate_left
            · simp only [Act.put, List.setIfInBounds_toArray, List.set_cons_zero, List.set_cons_succ, i64_w, i32_w]
              rfl
            refine pure_ (i := 8) (N := some 3) (v := ?_) (a' := ?_) #[true, true, true, true, true, true, true, true, true] rfl rfl (any_of HT_.out (by kernel_rfl)) (fun _ _ _ h => h) (Or.inl ⟨by rfl, ?_⟩) ?_ ?_
            rotate_left
            · intro w'
              go_simp
              with_reducible rfl
            rotate_left
            · simp only [Act.put, List.setIfInBounds_toArray, List.set_cons_zero, List.set_cons_succ, i64_w, i32_w]
              rfl
            refine done_ (done_of HT_.out (by kernel_rfl)) ?_
            try go_wp2
            go_roundg k1
            case measure => have := HK1.out; omega
            case rel => exact ⟨(ji8), (wrap64 (x8_1 + 1)), (by first | rfl | (simp; done) | (simp only [← hji8] <;> (first | rfl | simp)) | (simp [*]; done)), (by first | rfl | (simp; done) | (simp [*]; done)), H', ⟨by have := HK1.out; omega⟩, ⟨by repeat (first | (with_reducible first | exact HB.out | apply below_alloc | apply pw_below_drewN | apply below_drew1 | refine below_set ?_ GE229.out) | exact HB.out)⟩⟩
          · rw [if_neg c4] at H
            exact absurd H (by simp)
        · rw [if_neg c3] at H
          exact absurd H (by simp)
      · rw [if_neg c2] at H
        have c2b0 : decide (x8_1 < (l0.length : Int)) = false := decide_eq_false c2
        clear c2
        obtain rfl := Option.some.inj H
        go_wp2
        go_ret
        exact ⟨by first | rfl | (simp [errW_none, errW_some] <;> rfl) | (simp [*, errW_none, errW_some] <;> rfl), by repeat (first | (with_reducible first | exact HB.out | apply below_alloc | apply pw_below_drewN | apply below_drew1) | exact HB.out)⟩

end Go.Proofs.YtnnbbeloifhofaaDoor.P
end

section
/- How many parts a tree has, and how deep it is: what the functions come to. -/
namespace Go.Proofs.YtnnbbeloifhofaaDoor.P
open Go Go.RowKit Go.Proofs
open Go.Proofs.YtnnbbeloifhofaaDoorW.PrintWords Go.Proofs.YtnnbbeloifhofaaDoorW.PrintLast Go.Proofs.YtnnbbeloifhofaaDoorW.PrintMore

theorem rdRE (pre : List RE) (x : RE) (xs : List RE) : rd_T24 (pre ++ x :: xs) (pre.length : Int) = x := getD_mid ..
theorem rdRS (pre : List RS) (x : RS) (xs : List RS) : rd_T29 (pre ++ x :: xs) (pre.length : Int) = x := getD_mid ..
theorem rdTE (pre : List TE) (x : TE) (xs : List TE) : rd_T33 (pre ++ x :: xs) (pre.length : Int) = x := getD_mid ..
theorem rdTS (pre : List TS) (x : TS) (xs : List TS) : rd_T76 (pre ++ x :: xs) (pre.length : Int) = x := getD_mid ..
theorem snoc {α : Type} (pre : List α) (x : α) (xs : List α) : pre ++ x :: xs = (pre ++ [x]) ++ xs := by simp

/-! ### the document's sizes -/
theorem size_loop : ∀ (xs pre : List RE) (acc : Int), (∀ y ∈ xs, Ev (fun k => helmsmanref12_size.f k y.f3) (szEs y.f3 : Int)) → (pre ++ xs).length < 4611686018427387904 → 0 ≤ acc → acc + szEs xs < 4611686018427387904 →
    Ev (fun k => helmsmanref12_size.l0 k (pre ++ xs) acc pre.length) (acc + szEs xs - xs.length) := by
  intro xs
  induction xs with
  | nil =>
    intro pre acc _ _ _ _
    refine Ev.step (fun k => helmsmanref12_size.l0.eq_2 _ _ _ k) (Ev.no (end_not pre) ?_)
    rw [szEs, List.length_nil]; simpa using Ev.now acc
  | cons x xs ih =>
    intro pre acc h hl h0 h1
    refine Ev.step (fun k => helmsmanref12_size.l0.eq_2 _ _ _ k) (Ev.yes (mid_lt pre x xs) (Ev.yes (by omega) ?_))
    rw [rdRE]
    refine Ev.bind (h x (List.mem_cons_self ..)) ?_
    rw [szEs, szE_eq] at h1
    rw [next_len pre x xs hl, wrap64_small (by omega) (by omega), snoc]
    have := ih (pre ++ [x]) (acc + szEs x.f3) (fun y hy => h y (List.mem_cons_of_mem _ hy)) (by rw [← snoc]; exact hl) (by omega) (by push_cast at h1 ⊢; omega)
    rw [show acc + (szEs (x :: xs) : Int) - ((x :: xs).length : Int) = acc + (szEs x.f3 : Int) + (szEs xs : Int) - (xs.length : Int) by rw [szEs, szE_eq, List.length_cons]; push_cast; omega]
    exact this
theorem size_ev' : ∀ x : RE, bulkE x < 1099511627776 → Ev (fun k => helmsmanref12_size.f k x.f3) (szEs x.f3 : Int) := RE.all fun x ih hb => by
  rw [bulkE_eq] at hb
  have hl := len_bulkEs x.f3
  have hs := szEs_bulk x.f3
  refine Ev.step (fun k => helmsmanref12_size.f.eq_2 _ k) ?_
  have := size_loop x.f3 [] (x.f3.length : Int) (fun y hy => ih y hy (by have := mem_bulkEs hy; omega)) (by rw [List.nil_append]; omega) (by omega) (by omega)
  rw [show (x.f3.length : Int) + (szEs x.f3 : Int) - (x.f3.length : Int) = szEs x.f3 by omega] at this
  exact this
theorem size_ev (l : List RE) (hb : bulkEs l < 1099511627775) : Ev (fun k => helmsmanref12_size.f k l) (szEs l : Int) :=
  size_ev' ⟨⟨#[]⟩, ⟨#[]⟩, 0, l, 0⟩ (by rw [bulkE_eq]; exact (show 0 + 0 + bulkEs l + 1 < _ by omega))
theorem Size_loop : ∀ (xs pre : List RS) (acc : Int), (∀ y ∈ xs, bulkS y < 1099511627775 ∧ Ev (fun k => helmsmanref12_Size.f k y.f3) (szSs y.f3 : Int) ∧ Ev (fun k => helmsmanref12_Size.f k y.f4) (szSs y.f4 : Int)) → (pre ++ xs).length < 4611686018427387904 → 0 ≤ acc → acc + szSs xs < 4611686018427387904 →
    Ev (fun k => helmsmanref12_Size.l0 k (pre ++ xs) acc pre.length) (acc + szSs xs - xs.length) := by
  intro xs
  induction xs with
  | nil =>
    intro pre acc _ _ _ _
    refine Ev.step (fun k => helmsmanref12_Size.l0.eq_2 _ _ _ k) (Ev.no (end_not pre) ?_)
    rw [szSs, List.length_nil]; simpa using Ev.now acc
  | cons x xs ih =>
    intro pre acc h hl h0 h1
    obtain ⟨hb, ha, hc⟩ := h x (List.mem_cons_self ..)
    rw [bulkS_eq] at hb
    rw [szSs, szS_eq] at h1
    refine Ev.step (fun k => helmsmanref12_Size.l0.eq_2 _ _ _ k) (Ev.yes (mid_lt pre x xs) (Ev.yes (by omega) ?_))
    rw [rdRS]
    refine Ev.bind (size_ev x.f2 (by omega)) (Ev.bind ha (Ev.bind hc ?_))
    rw [next_len pre x xs hl, wrap64_small (x := acc + (szEs x.f2 : Int)) (by omega) (by omega), wrap64_small (x := acc + (szEs x.f2 : Int) + (szSs x.f3 : Int)) (by omega) (by omega), wrap64_small (by omega) (by omega), snoc]
    have := ih (pre ++ [x]) (acc + szEs x.f2 + szSs x.f3 + szSs x.f4) (fun y hy => h y (List.mem_cons_of_mem _ hy)) (by rw [← snoc]; exact hl) (by omega) (by push_cast at h1 ⊢; omega)
    rw [show acc + (szSs (x :: xs) : Int) - ((x :: xs).length : Int) = acc + (szEs x.f2 : Int) + (szSs x.f3 : Int) + (szSs x.f4 : Int) + (szSs xs : Int) - (xs.length : Int) by rw [szSs, szS_eq, List.length_cons]; push_cast; omega]
    exact this
theorem Size_of (l : List RS) (hb : bulkSs l < 1099511627775) (h : ∀ y ∈ l, Ev (fun k => helmsmanref12_Size.f k y.f3) (szSs y.f3 : Int) ∧ Ev (fun k => helmsmanref12_Size.f k y.f4) (szSs y.f4 : Int)) : Ev (fun k => helmsmanref12_Size.f k l) (szSs l : Int) := by
  have hl := len_bulkSs l
  have hs := szSs_bulk l
  refine Ev.step (fun k => helmsmanref12_Size.f.eq_2 _ k) ?_
  have := Size_loop l [] (l.length : Int) (fun y hy => ⟨by have := mem_bulkSs hy; omega, h y hy⟩) (by rw [List.nil_append]; omega) (by omega) (by omega)
  rw [show (l.length : Int) + (szSs l : Int) - (l.length : Int) = szSs l by omega] at this
  exact this
theorem Size_ev' : ∀ x : RS, bulkS x < 1099511627775 → Ev (fun k => helmsmanref12_Size.f k x.f3) (szSs x.f3 : Int) ∧ Ev (fun k => helmsmanref12_Size.f k x.f4) (szSs x.f4 : Int) := RS.all fun x iha ihb hb => by
  rw [bulkS_eq] at hb
  exact ⟨Size_of _ (by omega) (fun y hy => iha y hy (by have := mem_bulkSs hy; omega)), Size_of _ (by omega) (fun y hy => ihb y hy (by have := mem_bulkSs hy; omega))⟩
theorem Size_ev (l : List RS) (hb : bulkSs l < 1099511627775) : Ev (fun k => helmsmanref12_Size.f k l) (szSs l : Int) :=
  Size_of l hb (fun y hy => Size_ev' y (by have := mem_bulkSs hy; omega))

/-! ### the program's sizes -/
theorem convE_f3 (x : RE) : (convE x).f3 = convEs x.f3 := by rw [convE_eq]
theorem convS_f2 (x : RS) : (convS x).f2 = convEs x.f2 := by rw [convS_eq]
theorem convS_f3 (x : RS) : (convS x).f3 = convSs x.f3 := by rw [convS_eq]
theorem convS_f4 (x : RS) : (convS x).f4 = convSs x.f4 := by rw [convS_eq]
theorem exprs_loop : ∀ (xs : List RE) (pre : List TE) (n acc : Int), (∀ y ∈ xs, Ev (fun k => tree_exprs.f k (convEs y.f3)) (szEs y.f3 : Int)) → n = ((pre ++ convEs xs).length : Int) → (pre ++ convEs xs).length < 4611686018427387904 → 0 ≤ acc → acc + szEs xs < 4611686018427387904 →
    Ev (fun k => tree_exprs.l0 k acc (pre ++ convEs xs) n pre.length) (acc + szEs xs) := by
  intro xs
  induction xs with
  | nil =>
    intro pre n acc _ hn _ _ _
    subst hn
    refine Ev.step (fun k => tree_exprs.l0.eq_2 _ _ _ _ k) (Ev.no (end_not pre) ?_)
    rw [szEs]; simpa using Ev.now acc
  | cons x xs ih =>
    intro pre n acc h hn hl h0 h1
    subst hn
    rw [convEs] at hl ⊢
    rw [szEs, szE_eq] at h1
    refine Ev.step (fun k => tree_exprs.l0.eq_2 _ _ _ _ k) (Ev.yes (mid_lt pre (convE x) (convEs xs)) (Ev.yes (by omega) (Ev.yes (mid_lt pre (convE x) (convEs xs)) ?_)))
    rw [rdTE, convE_f3]
    refine Ev.bind (h x (List.mem_cons_self ..)) ?_
    rw [next_len pre (convE x) (convEs xs) hl, wrap64_small (x := 1 + (szEs x.f3 : Int)) (by omega) (by omega), wrap64_small (x := acc + (1 + (szEs x.f3 : Int))) (by omega) (by omega)]
    have := ih (pre ++ [convE x]) ((pre ++ convE x :: convEs xs).length : Int) (acc + (1 + szEs x.f3)) (fun y hy => h y (List.mem_cons_of_mem _ hy)) (by rw [← snoc]) (by rw [← snoc]; exact hl) (by omega) (by omega)
    rw [← snoc] at this
    rw [szEs, szE_eq, show acc + (((szEs x.f3 + 1 + szEs xs : Nat)) : Int) = acc + (1 + (szEs x.f3 : Int)) + (szEs xs : Int) by push_cast; omega]
    exact this
theorem exprs_ev' : ∀ x : RE, bulkE x < 1099511627776 → Ev (fun k => tree_exprs.f k (convEs x.f3)) (szEs x.f3 : Int) := RE.all fun x ih hb => by
  rw [bulkE_eq] at hb
  have hl := len_bulkEs x.f3
  have hs := szEs_bulk x.f3
  refine Ev.step (fun k => tree_exprs.f.eq_2 _ k) ?_
  have := exprs_loop x.f3 [] ((convEs x.f3).length : Int) 0 (fun y hy => ih y hy (by have := mem_bulkEs hy; omega)) rfl (by rw [List.nil_append, convEs_len]; omega) (by omega) (by omega)
  rw [Int.zero_add] at this
  exact this
theorem exprs_ev (l : List RE) (hb : bulkEs l < 1099511627775) : Ev (fun k => tree_exprs.f k (convEs l)) (szEs l : Int) :=
  exprs_ev' ⟨⟨#[]⟩, ⟨#[]⟩, 0, l, 0⟩ (by rw [bulkE_eq]; exact (show 0 + 0 + bulkEs l + 1 < _ by omega))
theorem stmts_loop : ∀ (xs : List RS) (pre : List TS) (n acc : Int), (∀ y ∈ xs, bulkS y < 1099511627775 ∧ Ev (fun k => tree_stmts.f k (convSs y.f3)) (szSs y.f3 : Int) ∧ Ev (fun k => tree_stmts.f k (convSs y.f4)) (szSs y.f4 : Int)) → n = ((pre ++ convSs xs).length : Int) → (pre ++ convSs xs).length < 4611686018427387904 → 0 ≤ acc → acc + szSs xs < 4611686018427387904 →
    Ev (fun k => tree_stmts.l0 k acc (pre ++ convSs xs) n pre.length) (acc + szSs xs) := by
  intro xs
  induction xs with
  | nil =>
    intro pre n acc _ hn _ _ _
    subst hn
    refine Ev.step (fun k => tree_stmts.l0.eq_2 _ _ _ _ k) (Ev.no (end_not pre) ?_)
    rw [szSs]; simpa using Ev.now acc
  | cons x xs ih =>
    intro pre n acc h hn hl h0 h1
    obtain ⟨hb, ha, hc⟩ := h x (List.mem_cons_self ..)
    rw [bulkS_eq] at hb
    subst hn
    rw [convSs] at hl ⊢
    rw [szSs, szS_eq] at h1
    refine Ev.step (fun k => tree_stmts.l0.eq_2 _ _ _ _ k) (Ev.yes (mid_lt pre (convS x) (convSs xs)) (Ev.yes (by omega) (Ev.yes (mid_lt pre (convS x) (convSs xs)) ?_)))
    rw [rdTS, convS_f2, convS_f3, convS_f4]
    refine Ev.bind (exprs_ev x.f2 (by omega)) (Ev.bind ha (Ev.bind hc ?_))
    rw [next_len pre (convS x) (convSs xs) hl, wrap64_small (x := 1 + (szEs x.f2 : Int)) (by omega) (by omega), wrap64_small (x := 1 + (szEs x.f2 : Int) + (szSs x.f3 : Int)) (by omega) (by omega), wrap64_small (x := 1 + (szEs x.f2 : Int) + (szSs x.f3 : Int) + (szSs x.f4 : Int)) (by omega) (by omega), wrap64_small (by omega) (by omega)]
    have := ih (pre ++ [convS x]) ((pre ++ convS x :: convSs xs).length : Int) (acc + (1 + szEs x.f2 + szSs x.f3 + szSs x.f4)) (fun y hy => h y (List.mem_cons_of_mem _ hy)) (by rw [← snoc]) (by rw [← snoc]; exact hl) (by omega) (by omega)
    rw [← snoc] at this
    rw [szSs, szS_eq, show acc + (((szEs x.f2 + szSs x.f3 + szSs x.f4 + 1 + szSs xs : Nat)) : Int) = acc + (1 + (szEs x.f2 : Int) + (szSs x.f3 : Int) + (szSs x.f4 : Int)) + (szSs xs : Int) by push_cast; omega]
    exact this
theorem stmts_of (l : List RS) (hb : bulkSs l < 1099511627775) (h : ∀ y ∈ l, Ev (fun k => tree_stmts.f k (convSs y.f3)) (szSs y.f3 : Int) ∧ Ev (fun k => tree_stmts.f k (convSs y.f4)) (szSs y.f4 : Int)) : Ev (fun k => tree_stmts.f k (convSs l)) (szSs l : Int) := by
  have hl := len_bulkSs l
  have hs := szSs_bulk l
  refine Ev.step (fun k => tree_stmts.f.eq_2 _ k) ?_
  have := stmts_loop l [] ((convSs l).length : Int) 0 (fun y hy => ⟨by have := mem_bulkSs hy; omega, h y hy⟩) rfl (by rw [List.nil_append, convSs_len]; omega) (by omega) (by omega)
  rw [Int.zero_add] at this
  exact this
theorem stmts_ev' : ∀ x : RS, bulkS x < 1099511627775 → Ev (fun k => tree_stmts.f k (convSs x.f3)) (szSs x.f3 : Int) ∧ Ev (fun k => tree_stmts.f k (convSs x.f4)) (szSs x.f4 : Int) := RS.all fun x iha ihb hb => by
  rw [bulkS_eq] at hb
  exact ⟨stmts_of _ (by omega) (fun y hy => iha y hy (by have := mem_bulkSs hy; omega)), stmts_of _ (by omega) (fun y hy => ihb y hy (by have := mem_bulkSs hy; omega))⟩
theorem stmts_ev (l : List RS) (hb : bulkSs l < 1099511627775) : Ev (fun k => tree_stmts.f k (convSs l)) (szSs l : Int) :=
  stmts_of l hb (fun y hy => stmts_ev' y (by have := mem_bulkSs hy; omega))

/-! ### how deep -/
theorem Deep_loop : ∀ (xs pre : List RE) (a b : ByteArray) (m t : Int) (acc : Nat), (∀ y ∈ xs, Ev (fun k => helmsmanref12_Deep.f k y.f0 y.f1 y.f2 y.f3 y.f4) (dpE y : Int)) → (pre ++ xs).length < 4611686018427387904 → max acc (dpEs xs) < 4611686018427387904 →
    Ev (fun k => helmsmanref12_Deep.l0 k acc pre.length a b m (pre ++ xs) t) ((max acc (dpEs xs) : Nat) + 1 : Int) := by
  intro xs
  induction xs with
  | nil =>
    intro pre a b m t acc _ _ h1
    refine Ev.step (fun k => helmsmanref12_Deep.l0.eq_2 _ _ _ _ _ _ _ k) (Ev.no (end_not pre) ?_)
    rw [dpEs, Nat.max_eq_left (Nat.zero_le _)] at *
    rw [wrap64_small (by omega) (by omega)]
    exact Ev.now _
  | cons x xs ih =>
    intro pre a b m t acc h hl h1
    rw [dpEs] at h1 ⊢
    refine Ev.step (fun k => helmsmanref12_Deep.l0.eq_2 _ _ _ _ _ _ _ k) (Ev.yes (mid_lt pre x xs) (Ev.yes (by omega) ?_))
    rw [rdRE]
    refine Ev.bind (h x (List.mem_cons_self ..)) ?_
    rw [next_len pre x xs hl, snoc pre x xs]
    by_cases hc : (dpE x : Int) > acc
    · refine Ev.yes hc ?_
      have := ih (pre ++ [x]) a b m t (dpE x) (fun y hy => h y (List.mem_cons_of_mem _ hy)) (by rw [← snoc]; exact hl) (by omega)
      rw [show max acc (max (dpE x) (dpEs xs)) = max (dpE x) (dpEs xs) by omega]
      exact this
    · refine Ev.no hc ?_
      have := ih (pre ++ [x]) a b m t acc (fun y hy => h y (List.mem_cons_of_mem _ hy)) (by rw [← snoc]; exact hl) (by omega)
      rw [show max acc (max (dpE x) (dpEs xs)) = max acc (dpEs xs) by omega]
      exact this
theorem Deep_ev : ∀ x : RE, bulkE x < 1099511627776 → Ev (fun k => helmsmanref12_Deep.f k x.f0 x.f1 x.f2 x.f3 x.f4) (dpE x : Int) := RE.all fun x ih hb => by
  rw [bulkE_eq] at hb
  have hl := len_bulkEs x.f3
  have hs := szEs_bulk x.f3
  have hd := dpEs_sz x.f3
  refine Ev.step (fun k => helmsmanref12_Deep.f.eq_2 _ _ _ _ _ k) ?_
  have := Deep_loop x.f3 [] x.f0 x.f1 x.f2 x.f4 0 (fun y hy => ih y hy (by have := mem_bulkEs hy; omega)) (by rw [List.nil_append]; omega) (by omega)
  rw [Nat.max_eq_right (Nat.zero_le _)] at this
  rw [dpE_eq]
  exact this
theorem mx_nat (a b : Nat) : mx (a : Int) (b : Int) = ((max a b : Nat) : Int) := by unfold mx; split <;> omega
theorem tDeep_loop : ∀ (xs : List RE) (pre : List TE) (n : Int) (acc : Nat), (∀ y ∈ xs, Ev (fun k => tree_Deep.f k (convE y).f0 (convE y).f1 (convE y).f2 (convE y).f3 (convE y).f4) (dpE y : Int)) → n = ((pre ++ convEs xs).length : Int) → (pre ++ convEs xs).length < 4611686018427387904 → max acc (dpEs xs) < 4611686018427387904 →
    Ev (fun k => tree_Deep.l0 k acc (pre ++ convEs xs) n pre.length) ((max acc (dpEs xs) : Nat) + 1 : Int) := by
  intro xs
  induction xs with
  | nil =>
    intro pre n acc _ hn _ h1
    subst hn
    refine Ev.step (fun k => tree_Deep.l0.eq_2 _ _ _ _ k) (Ev.no (end_not pre) ?_)
    rw [dpEs, Nat.max_eq_left (Nat.zero_le _)] at *
    rw [wrap64_small (by omega) (by omega)]
    exact Ev.now _
  | cons x xs ih =>
    intro pre n acc h hn hl h1
    subst hn
    rw [convEs] at hl ⊢
    rw [dpEs] at h1 ⊢
    refine Ev.step (fun k => tree_Deep.l0.eq_2 _ _ _ _ k) (Ev.yes (mid_lt pre (convE x) (convEs xs)) (Ev.yes (by omega) (Ev.yes (mid_lt pre (convE x) (convEs xs)) ?_)))
    rw [rdTE]
    refine Ev.bind (h x (List.mem_cons_self ..)) ?_
    rw [next_len pre (convE x) (convEs xs) hl, mx_nat]
    have := ih (pre ++ [convE x]) ((pre ++ convE x :: convEs xs).length : Int) (max acc (dpE x)) (fun y hy => h y (List.mem_cons_of_mem _ hy)) (by rw [← snoc]) (by rw [← snoc]; exact hl) (by omega)
    rw [← snoc] at this
    rw [show max acc (max (dpE x) (dpEs xs)) = max (max acc (dpE x)) (dpEs xs) by omega]
    exact this
theorem tDeep_ev : ∀ x : RE, bulkE x < 1099511627776 → Ev (fun k => tree_Deep.f k (convE x).f0 (convE x).f1 (convE x).f2 (convE x).f3 (convE x).f4) (dpE x : Int) := RE.all fun x ih hb => by
  rw [bulkE_eq] at hb
  have hl := len_bulkEs x.f3
  have hs := szEs_bulk x.f3
  have hd := dpEs_sz x.f3
  refine Ev.step (fun k => tree_Deep.f.eq_2 _ _ _ _ _ k) ?_
  rw [convE_f3]
  have := tDeep_loop x.f3 [] ((convEs x.f3).length : Int) 0 (fun y hy => ih y hy (by have := mem_bulkEs hy; omega)) rfl (by rw [List.nil_append, convEs_len]; omega) (by omega)
  rw [Nat.max_eq_right (Nat.zero_le _)] at this
  rw [dpE_eq]
  exact this
theorem Depth_loop : ∀ (xs pre : List RS) (acc : Nat), (∀ y ∈ xs, Ev (fun k => helmsmanref12_Depth.f k y.f3) (dpSs y.f3 : Int) ∧ Ev (fun k => helmsmanref12_Depth.f k y.f4) (dpSs y.f4 : Int)) → (pre ++ xs).length < 4611686018427387904 → max (acc + 1) (dpSs xs) < 4611686018427387904 →
    Ev (fun k => helmsmanref12_Depth.l0 k (pre ++ xs) acc pre.length) ((max (acc + 1) (dpSs xs) : Nat) : Int) := by
  intro xs
  induction xs with
  | nil =>
    intro pre acc _ _ h1
    refine Ev.step (fun k => helmsmanref12_Depth.l0.eq_2 _ _ _ k) (Ev.no (end_not pre) ?_)
    rw [dpSs, Nat.max_eq_left (Nat.zero_le _)] at *
    rw [wrap64_small (by omega) (by omega)]
    exact Ev.now _
  | cons x xs ih =>
    intro pre acc h hl h1
    obtain ⟨ha, hc⟩ := h x (List.mem_cons_self ..)
    rw [dpSs, dpS_eq] at h1 ⊢
    refine Ev.step (fun k => helmsmanref12_Depth.l0.eq_2 _ _ _ k) (Ev.yes (mid_lt pre x xs) (Ev.yes (by omega) ?_))
    rw [rdRS]
    refine Ev.bind ha (Ev.bind hc ?_)
    rw [next_len pre x xs hl, snoc pre x xs]
    have key : ∀ m : Nat, max (acc + 1) (max (max (dpSs x.f3) (dpSs x.f4) + 1) (dpSs xs)) = max (m + 1) (dpSs xs) → Ev (fun k => helmsmanref12_Depth.l0 k (pre ++ [x] ++ xs) m (pre ++ [x]).length) ((max (acc + 1) (max (max (dpSs x.f3) (dpSs x.f4) + 1) (dpSs xs)) : Nat) : Int) := by
      intro m hm
      rw [hm]
      exact ih (pre ++ [x]) m (fun y hy => h y (List.mem_cons_of_mem _ hy)) (by rw [← snoc]; exact hl) (by omega)
    by_cases c1 : (dpSs x.f4 : Int) > dpSs x.f3
    · refine Ev.yes c1 ?_
      by_cases c2 : (dpSs x.f4 : Int) > acc
      · exact Ev.yes c2 (key _ (by omega))
      · exact Ev.no c2 (key _ (by omega))
    · refine Ev.no c1 ?_
      by_cases c2 : (dpSs x.f3 : Int) > acc
      · exact Ev.yes c2 (key _ (by omega))
      · exact Ev.no c2 (key _ (by omega))
theorem Depth_of (l : List RS) (hb : bulkSs l < 1099511627775) (h : ∀ y ∈ l, Ev (fun k => helmsmanref12_Depth.f k y.f3) (dpSs y.f3 : Int) ∧ Ev (fun k => helmsmanref12_Depth.f k y.f4) (dpSs y.f4 : Int)) : Ev (fun k => helmsmanref12_Depth.f k l) (dpSs l : Int) := by
  have hl := len_bulkSs l
  have hs := szSs_bulk l
  have hd := dpSs_sz l
  refine Ev.step (fun k => helmsmanref12_Depth.f.eq_2 _ k) ?_
  cases l with
  | nil => exact Ev.yes rfl (Ev.now _)
  | cons x xs =>
    refine Ev.no (by rw [List.length_cons]; omega) ?_
    have := Depth_loop (x :: xs) [] 0 h (by rw [List.nil_append]; omega) (by omega)
    rw [show max (0 + 1) (dpSs (x :: xs)) = dpSs (x :: xs) by rw [dpSs]; omega] at this
    exact this
theorem Depth_ev' : ∀ x : RS, bulkS x < 1099511627775 → Ev (fun k => helmsmanref12_Depth.f k x.f3) (dpSs x.f3 : Int) ∧ Ev (fun k => helmsmanref12_Depth.f k x.f4) (dpSs x.f4 : Int) := RS.all fun x iha ihb hb => by
  rw [bulkS_eq] at hb
  exact ⟨Depth_of _ (by omega) (fun y hy => iha y hy (by have := mem_bulkSs hy; omega)), Depth_of _ (by omega) (fun y hy => ihb y hy (by have := mem_bulkSs hy; omega))⟩
theorem Depth_ev (l : List RS) (hb : bulkSs l < 1099511627775) : Ev (fun k => helmsmanref12_Depth.f k l) (dpSs l : Int) :=
  Depth_of l hb (fun y hy => Depth_ev' y (by have := mem_bulkSs hy; omega))
theorem mx_int (a b : Int) : mx a b = max a b := by unfold mx; split <;> omega
theorem tDepth_loop : ∀ (xs : List RS) (pre : List TS) (n acc : Int), (∀ y ∈ xs, Ev (fun k => tree_Depth.f k (convSs y.f3)) (dpSs y.f3 : Int) ∧ Ev (fun k => tree_Depth.f k (convSs y.f4)) (dpSs y.f4 : Int)) → n = ((pre ++ convSs xs).length : Int) → (pre ++ convSs xs).length < 4611686018427387904 → -1 ≤ acc → max acc (dpSs xs) < 4611686018427387904 →
    Ev (fun k => tree_Depth.l0 k acc (pre ++ convSs xs) n pre.length) (max (acc + 1) (dpSs xs)) := by
  intro xs
  induction xs with
  | nil =>
    intro pre n acc _ hn _ h0 h1
    subst hn
    refine Ev.step (fun k => tree_Depth.l0.eq_2 _ _ _ _ k) (Ev.no (end_not pre) ?_)
    rw [dpSs] at *
    rw [wrap64_small (by omega) (by omega), show max (acc + 1) ((0 : Nat) : Int) = acc + 1 by omega]
    exact Ev.now _
  | cons x xs ih =>
    intro pre n acc h hn hl h0 h1
    obtain ⟨ha, hc⟩ := h x (List.mem_cons_self ..)
    subst hn
    rw [convSs] at hl ⊢
    rw [dpSs, dpS_eq] at h1 ⊢
    refine Ev.step (fun k => tree_Depth.l0.eq_2 _ _ _ _ k) (Ev.yes (mid_lt pre (convS x) (convSs xs)) (Ev.yes (by omega) (Ev.yes (mid_lt pre (convS x) (convSs xs)) ?_)))
    rw [rdTS, convS_f3, convS_f4]
    refine Ev.bind ha (Ev.bind hc ?_)
    rw [next_len pre (convS x) (convSs xs) hl, mx_int, mx_int]
    have := ih (pre ++ [convS x]) ((pre ++ convS x :: convSs xs).length : Int) (max (max acc (dpSs x.f3)) (dpSs x.f4)) (fun y hy => h y (List.mem_cons_of_mem _ hy)) (by rw [← snoc]) (by rw [← snoc]; exact hl) (by omega) (by omega)
    rw [← snoc] at this
    rw [show max (acc + 1) ((max (max (dpSs x.f3) (dpSs x.f4) + 1) (dpSs xs) : Nat) : Int) = max (max (max acc (dpSs x.f3 : Int)) (dpSs x.f4 : Int) + 1) (dpSs xs : Int) by omega]
    exact this
theorem tDepth_of (l : List RS) (hb : bulkSs l < 1099511627775) (h : ∀ y ∈ l, Ev (fun k => tree_Depth.f k (convSs y.f3)) (dpSs y.f3 : Int) ∧ Ev (fun k => tree_Depth.f k (convSs y.f4)) (dpSs y.f4 : Int)) : Ev (fun k => tree_Depth.f k (convSs l)) (dpSs l : Int) := by
  have hl := len_bulkSs l
  have hs := szSs_bulk l
  have hd := dpSs_sz l
  refine Ev.step (fun k => tree_Depth.f.eq_2 _ k) ?_
  have := tDepth_loop l [] ((convSs l).length : Int) (-1) h rfl (by rw [List.nil_append, convSs_len]; omega) (by omega) (by omega)
  rw [show max ((-1 : Int) + 1) (dpSs l : Int) = dpSs l by omega] at this
  exact this
theorem tDepth_ev' : ∀ x : RS, bulkS x < 1099511627775 → Ev (fun k => tree_Depth.f k (convSs x.f3)) (dpSs x.f3 : Int) ∧ Ev (fun k => tree_Depth.f k (convSs x.f4)) (dpSs x.f4 : Int) := RS.all fun x iha ihb hb => by
  rw [bulkS_eq] at hb
  exact ⟨tDepth_of _ (by omega) (fun y hy => iha y hy (by have := mem_bulkSs hy; omega)), tDepth_of _ (by omega) (fun y hy => ihb y hy (by have := mem_bulkSs hy; omega))⟩
theorem tDepth_ev (l : List RS) (hb : bulkSs l < 1099511627775) : Ev (fun k => tree_Depth.f k (convSs l)) (dpSs l : Int) :=
  tDepth_of l hb (fun y hy => tDepth_ev' y (by have := mem_bulkSs hy; omega))
end Go.Proofs.YtnnbbeloifhofaaDoor.P
end

section
namespace Go.Proofs.YtnnbbeloifhofaaDoor.P
open Go.RowKit Go.Proofs.YtnnbbeloifhofaaDoorW.PrintWords Go.Proofs.YtnnbbeloifhofaaDoorW.PrintLast Go.Proofs.YtnnbbeloifhofaaDoorW.PrintMore
attribute [local go_sem] max2_int min2_int max_two min_two max_three min_three max_four min_four   -- for this text's walks alone
set_option linter.unusedVariables false
set_option linter.unusedSimpArgs false

/-! ### helmsmanref12_SameExpr: function 27 -/
mutual
def helmsmanref12_SameExpr.j0 : Nat → Bool → ByteArray → ByteArray → Int → List (S24) → Int → ByteArray → ByteArray → Int → List (S24) → Int → Option (Bool)
  | 0, _, _, _, _, _, _, _, _, _, _, _ => none
  | k + 1, x33, x325000, x325001, x325002, x325003, x325004, x326000, x326001, x326002, x326003, x326004 => if x33 = true then (some false) else (helmsmanref12_SameExpr.l0 k 0 x325000 x325001 x325002 x325003 x325004 x326000 x326001 x326002 x326003 x326004)
def helmsmanref12_SameExpr.l0 : Nat → Int → ByteArray → ByteArray → Int → List (S24) → Int → ByteArray → ByteArray → Int → List (S24) → Int → Option (Bool)
  | 0, _, _, _, _, _, _, _, _, _, _, _ => none
  | k + 1, x5, x325000, x325001, x325002, x325003, x325004, x326000, x326001, x326002, x326003, x326004 => if x5 < (x325003.length : Int) then (if 0 ≤ x5 then (if x5 < (x326003.length : Int) then ((helmsmanref12_SameExpr.f k ((rd_T24 x325003 x5).f0) ((rd_T24 x325003 x5).f1) ((rd_T24 x325003 x5).f2) ((rd_T24 x325003 x5).f3) ((rd_T24 x325003 x5).f4) ((rd_T24 x326003 x5).f0) ((rd_T24 x326003 x5).f1) ((rd_T24 x326003 x5).f2) ((rd_T24 x326003 x5).f3) ((rd_T24 x326003 x5).f4)).bind fun t328 => (if t328 = true then (helmsmanref12_SameExpr.l0 k (wrap64 (x5 + 1)) x325000 x325001 x325002 x325003 x325004 x326000 x326001 x326002 x326003 x326004) else (some false))) else (none)) else (none)) else (some true)
def helmsmanref12_SameExpr.f : Nat → ByteArray → ByteArray → Int → List (S24) → Int → ByteArray → ByteArray → Int → List (S24) → Int → Option (Bool)
  | 0, _, _, _, _, _, _, _, _, _, _ => none
  | k + 1, a0_0, a0_1, a0_2, l0_3, a0_4, a1_0, a1_1, a1_2, l1_3, a1_4 => if a0_0.toList = a1_0.toList then (if a0_1.toList = a1_1.toList then (if a0_2 = a1_2 then (helmsmanref12_SameExpr.j0 k ((l0_3.length : Int) != (l1_3.length : Int)) a0_0 a0_1 a0_2 l0_3 a0_4 a1_0 a1_1 a1_2 l1_3 a1_4) else (helmsmanref12_SameExpr.j0 k true a0_0 a0_1 a0_2 l0_3 a0_4 a1_0 a1_1 a1_2 l1_3 a1_4)) else (helmsmanref12_SameExpr.j0 k true a0_0 a0_1 a0_2 l0_3 a0_4 a1_0 a1_1 a1_2 l1_3 a1_4)) else (helmsmanref12_SameExpr.j0 k true a0_0 a0_1 a0_2 l0_3 a0_4 a1_0 a1_1 a1_2 l1_3 a1_4)
end
theorem helmsmanref12_SameExpr.mono_l : ∀ k, (∀ y0 y1 y2 y3 y4 y5 y6 y7 y8 y9, LeO (helmsmanref12_SameExpr.f k y0 y1 y2 y3 y4 y5 y6 y7 y8 y9) (helmsmanref12_SameExpr.f (k + 1) y0 y1 y2 y3 y4 y5 y6 y7 y8 y9)) ∧ (∀ y0 y1 y2 y3 y4 y5 y6 y7 y8 y9 y10, LeO (helmsmanref12_SameExpr.j0 k y0 y1 y2 y3 y4 y5 y6 y7 y8 y9 y10) (helmsmanref12_SameExpr.j0 (k + 1) y0 y1 y2 y3 y4 y5 y6 y7 y8 y9 y10)) ∧ (∀ y0 y1 y2 y3 y4 y5 y6 y7 y8 y9 y10, LeO (helmsmanref12_SameExpr.l0 k y0 y1 y2 y3 y4 y5 y6 y7 y8 y9 y10) (helmsmanref12_SameExpr.l0 (k + 1) y0 y1 y2 y3 y4 y5 y6 y7 y8 y9 y10))
  | 0 => ⟨fun _ _ _ _ _ _ _ _ _ _ r h => by simp [helmsmanref12_SameExpr.f] at h, fun _ _ _ _ _ _ _ _ _ _ _ r h => by simp [helmsmanref12_SameExpr.j0] at h, fun _ _ _ _ _ _ _ _ _ _ _ r h => by simp [helmsmanref12_SameExpr.l0] at h⟩
  | k + 1 => by
    obtain ⟨ih0, ih1, ih2⟩ := helmsmanref12_SameExpr.mono_l k
    refine ⟨?_, ?_, ?_⟩
    · intro y0 y1 y2 y3 y4 y5 y6 y7 y8 y9
      unfold helmsmanref12_SameExpr.f
      repeat' first
      | (with_reducible exact ih0 _ _ _ _ _ _ _ _ _ _)
      | (with_reducible exact ih1 _ _ _ _ _ _ _ _ _ _ _)
      | (with_reducible exact ih2 _ _ _ _ _ _ _ _ _ _ _)
      | (with_reducible exact LeO.refl _)
      | (with_reducible exact LeO.none _)
      | (with_reducible refine LeO.ite ?_ ?_)
      | (with_reducible refine LeO.bind ?_ (fun _ => ?_))
      | exact ih0 _ _ _ _ _ _ _ _ _ _
      | exact ih1 _ _ _ _ _ _ _ _ _ _ _
      | exact ih2 _ _ _ _ _ _ _ _ _ _ _
      | exact LeO.none _
      | refine LeO.ite ?_ ?_
      | refine LeO.bind ?_ (fun _ => ?_)
    · intro y0 y1 y2 y3 y4 y5 y6 y7 y8 y9 y10
      unfold helmsmanref12_SameExpr.j0
      repeat' first
      | (with_reducible exact ih0 _ _ _ _ _ _ _ _ _ _)
      | (with_reducible exact ih1 _ _ _ _ _ _ _ _ _ _ _)
      | (with_reducible exact ih2 _ _ _ _ _ _ _ _ _ _ _)
      | (with_reducible exact LeO.refl _)
      | (with_reducible exact LeO.none _)
      | (with_reducible refine LeO.ite ?_ ?_)
      | (with_reducible refine LeO.bind ?_ (fun _ => ?_))
      | exact ih0 _ _ _ _ _ _ _ _ _ _
      | exact ih1 _ _ _ _ _ _ _ _ _ _ _
      | exact ih2 _ _ _ _ _ _ _ _ _ _ _
      | exact LeO.none _
      | refine LeO.ite ?_ ?_
      | refine LeO.bind ?_ (fun _ => ?_)
    · intro y0 y1 y2 y3 y4 y5 y6 y7 y8 y9 y10
      unfold helmsmanref12_SameExpr.l0
      repeat' first
      | (with_reducible exact ih0 _ _ _ _ _ _ _ _ _ _)
      | (with_reducible exact ih1 _ _ _ _ _ _ _ _ _ _ _)
      | (with_reducible exact ih2 _ _ _ _ _ _ _ _ _ _ _)
      | (with_reducible exact LeO.refl _)
      | (with_reducible exact LeO.none _)
      | (with_reducible refine LeO.ite ?_ ?_)
      | (with_reducible refine LeO.bind ?_ (fun _ => ?_))
      | exact ih0 _ _ _ _ _ _ _ _ _ _
      | exact ih1 _ _ _ _ _ _ _ _ _ _ _
      | exact ih2 _ _ _ _ _ _ _ _ _ _ _
      | exact LeO.none _
      | refine LeO.ite ?_ ?_
      | refine LeO.bind ?_ (fun _ => ?_)
theorem helmsmanref12_SameExpr.mono : ∀ a0 a1 a2 a3 a4 a5 a6 a7 a8 a9 k, LeO (helmsmanref12_SameExpr.f k a0 a1 a2 a3 a4 a5 a6 a7 a8 a9) (helmsmanref12_SameExpr.f (k + 1) a0 a1 a2 a3 a4 a5 a6 a7 a8 a9) := by
  intro a0 a1 a2 a3 a4 a5 a6 a7 a8 a9 k
  obtain ⟨ih0, ih1, ih2⟩ := helmsmanref12_SameExpr.mono_l k
  exact ih0 a0 a1 a2 a3 a4 a5 a6 a7 a8 a9
def helmsmanref12_SameExpr.T6 : Bool × List (List Nat × List Nat) := (true, [([], []), ([0], [0]), ([], []), ([1, 2], [1, 2]), ([3], [3]), ([], []), ([5], [5]), ([], []), ([6, 7], [6, 7]), ([8], [8]), ([4, 9], [4, 9]), ([10], [10])])
def helmsmanref12_SameExpr.B6 : List Nat := [0, 1, 0, 7, 15, 0, 32, 0, 224, 480, 1023, 2047]
theorem helmsmanref12_SameExpr.tab6 : rtab .any (opsOf Tryd.f27 6) = helmsmanref12_SameExpr.T6 := by kernel_rfl
theorem helmsmanref12_SameExpr.bits6 : waitsOk helmsmanref12_SameExpr.T6.2 helmsmanref12_SameExpr.B6 = true := by kernel_rfl
set_option maxHeartbeats 8000000 in
set_option maxRecDepth 100000 in
theorem helmsmanref12_SameExpr.calls (k : Nat) : ∀ (a0_0 : ByteArray) (a0_1 : ByteArray) (a0_2 : Int) (A0_3 : Option Addr) (c0_3 : Nat) (l0_3 : List (S24)) (a0_4 : Int) (a1_0 : ByteArray) (a1_1 : ByteArray) (a1_2 : Int) (A1_3 : Option Addr) (c1_3 : Nat) (l1_3 : List (S24)) (a1_4 : Int) (r : Bool) (w : World) (hr0_3 : Kd.C k24 w A0_3 l0_3.length l0_3) (hc0_3 : l0_3.length ≤ c0_3) (hr1_3 : Kd.C k24 w A1_3 l1_3.length l1_3) (hc1_3 : l1_3.length ≤ c1_3) (h : helmsmanref12_SameExpr.f k a0_0 a0_1 a0_2 l0_3 a0_4 a1_0 a1_1 a1_2 l1_3 a1_4 = some r),
    Calls Tryd.prog 27 #[.agg #[.string a0_0, .string a0_1, .int .i64 a0_2, .slice A0_3 l0_3.length c0_3, .int .i64 a0_4], .agg #[.string a1_0, .string a1_1, .int .i64 a1_2, .slice A1_3 l1_3.length c1_3, .int .i64 a1_4]] w fun e w' => e = .returned (.bool r) ∧ Below w.heap.size w w' := by
  induction k using Nat.strongRecOn with
  | _ k ih =>
  intro a0_0 a0_1 a0_2 A0_3 c0_3 l0_3 a0_4 a1_0 a1_1 a1_2 A1_3 c1_3 l1_3 a1_4 r w hr0_3 hc0_3 hr1_3 hc1_3 h
  cases k with
  | zero => exact absurd h (by simp [helmsmanref12_SameExpr.f])
  | succ k =>
  simp only [helmsmanref12_SameExpr.f] at h
  have hu24 := Tryd.underlying24
  have HR0_3 := Aside0.mk hr0_3
  have HC0_3 := Aside0.mk hc0_3
  clear hr0_3 hc0_3
  have HR1_3 := Aside0.mk hr1_3
  have HC1_3 := Aside0.mk hc1_3
  clear hr1_3 hc1_3
  have HB := Aside0.mk (Below.refl w.heap.size w)
  have H : (if a0_0.toList = a1_0.toList then (if a0_1.toList = a1_1.toList then (if a0_2 = a1_2 then (helmsmanref12_SameExpr.j0 k ((l0_3.length : Int) != (l1_3.length : Int)) a0_0 a0_1 a0_2 l0_3 a0_4 a1_0 a1_1 a1_2 l1_3 a1_4) else (helmsmanref12_SameExpr.j0 k true a0_0 a0_1 a0_2 l0_3 a0_4 a1_0 a1_1 a1_2 l1_3 a1_4)) else (helmsmanref12_SameExpr.j0 k true a0_0 a0_1 a0_2 l0_3 a0_4 a1_0 a1_1 a1_2 l1_3 a1_4)) else (helmsmanref12_SameExpr.j0 k true a0_0 a0_1 a0_2 l0_3 a0_4 a1_0 a1_1 a1_2 l1_3 a1_4)) = some r := h
  clear h
  have HC3 := Aside0.mk H
  clear H
  go_enter Tryd.func27, Tryd.ntmps27
  go_upto_region 1 with (first | ((with_reducible refine gate_dst (N := 2) rfl ?_); (try (refine gate_guard (by rfl) ?_; dsimp only)); refine box_event ?hg (N := 2) ?hd (cs := #[.string a0_0, .string a0_1, .int .i64 a0_2, .slice A0_3 l0_3.length c0_3, .int .i64 a0_4]) (t := 24) ?hr ?_; (case hd => rfl); (case hg => rfl); (case hr => first | (go_simp; done) | (go_simp; rfl)); intro gb324 hg w4 hbox hb; have n0_ := Aside0.mk (below_step (by repeat (first | (with_reducible first | exact HB.out | apply below_alloc | apply pw_below_drewN | apply below_drew1) | exact HB.out)) hb); have n1_ := Aside0.mk (hbox); have n2_ := Aside0.mk ((by rw [hg]; exact (below_size (by repeat (first | (with_reducible first | exact HB.out | apply below_alloc | apply pw_below_drewN | apply below_drew1) | exact HB.out))) : w.heap.size ≤ gb324)); have n3_ := Aside0.mk ((by rw [hg]; exact (below_size (by repeat (first | (with_reducible first | exact HB.out | apply below_alloc | apply pw_below_drewN | apply below_drew1) | exact HB.out))) : w.heap.size ≤ gb324)); clear HB; have HB := n0_; have BK324 := n1_; have GW324 := n2_; have GE324 := n3_; clear n0_ n1_ n2_ n3_; clear hb hbox hg) | ((with_reducible refine gate_dst (N := 3) rfl ?_); (try (refine gate_guard (by rfl) ?_; dsimp only)); refine box_event ?hg (N := 3) ?hd (cs := #[.string a1_0, .string a1_1, .int .i64 a1_2, .slice A1_3 l1_3.length c1_3, .int .i64 a1_4]) (t := 24) ?hr ?_; (case hd => rfl); (case hg => rfl); (case hr => first | (go_simp; done) | (go_simp; rfl)); intro gb325 hg w5 hbox hb; have n0_ := Aside0.mk (blk_below (g := gb324) (o := .cells #[.string a0_0, .string a0_1, .int .i64 a0_2, .slice A0_3 l0_3.length c0_3, .int .i64 a0_4] 24 (0, 0)) (by (with_reducible repeat (first | refine blk_drewN ?_ _ | refine blk_drew ?_ | refine blk_alloc ?_ _)); exact BK324.out) hb); have n1_ := Aside0.mk (below_step (by repeat (first | (with_reducible first | exact HB.out | apply below_alloc | apply pw_below_drewN | apply below_drew1 | refine below_set ?_ GE324.out) | exact HB.out)) hb); have n2_ := Aside0.mk (hbox); have n3_ := Aside0.mk ((by rw [hg]; exact (below_size (by repeat (first | (with_reducible first | exact HB.out | apply below_alloc | apply pw_below_drewN | apply below_drew1 | refine below_set ?_ GE324.out) | exact HB.out))) : w.heap.size ≤ gb325)); have n4_ := Aside0.mk ((by rw [hg]; exact (below_size (by repeat (first | (with_reducible first | exact HB.out | apply below_alloc | apply pw_below_drewN | apply below_drew1 | refine below_set ?_ GE324.out) | exact HB.out))) : w.heap.size ≤ gb325)); have n5_ := Aside0.mk ((by rw [hg]; exact Nat.ne_of_lt (blk_lt (g := gb324) (o := .cells #[.string a0_0, .string a0_1, .int .i64 a0_2, .slice A0_3 l0_3.length c0_3, .int .i64 a0_4] 24 (0, 0)) (by (with_reducible repeat (first | refine blk_drewN ?_ _ | refine blk_drew ?_ | refine blk_alloc ?_ _)); exact BK324.out)) : gb324 ≠ gb325)); have n6_ := Aside0.mk ((by rw [hg]; exact Nat.ne_of_gt (blk_lt (g := gb324) (o := .cells #[.string a0_0, .string a0_1, .int .i64 a0_2, .slice A0_3 l0_3.length c0_3, .int .i64 a0_4] 24 (0, 0)) (by (with_reducible repeat (first | refine blk_drewN ?_ _ | refine blk_drew ?_ | refine blk_alloc ?_ _)); exact BK324.out)) : gb325 ≠ gb324)); clear BK324; clear HB; have BK324 := n0_; have HB := n1_; have BK325 := n2_; have GW325 := n3_; have GE325 := n4_; have NB324_325 := n5_; have NB325_324 := n6_; clear n0_ n1_ n2_ n3_ n4_ n5_ n6_; clear hb hbox hg))
  (try simp only [Act.put, List.setIfInBounds_toArray, List.set_cons_zero, List.set_cons_succ])
  go_cut [33] (fun v33 wc => ∃ (kq : Nat) (x33_2 : Bool), v33 = .bool x33_2 ∧ Aside0 (helmsmanref12_SameExpr.j0 kq x33_2 a0_0 a0_1 a0_2 l0_3 a0_4 a1_0 a1_1 a1_2 l1_3 a1_4 = some r) ∧ Aside0 (kq ≤ k) ∧ Aside0 (wc.heap[gb324]? = some (.cells #[.string a0_0, .string a0_1, .int .i64 a0_2, (.slice A0_3 l0_3.length c0_3), .int .i64 a0_4] 24 (0, 0))) ∧ Aside0 (wc.heap[gb325]? = some (.cells #[.string a1_0, .string a1_1, .int .i64 a1_2, (.slice A1_3 l1_3.length c1_3), .int .i64 a1_4] 24 (0, 0))) ∧ Aside0 (Below w.heap.size w wc))
  case first =>
    have H := HC3.out
    clear HC3
    by_cases c6 : a0_0.toList = a1_0.toList
    · rw [if_pos c6] at H
      have c6b0 : (a0_0.toList == a1_0.toList) = true := beq_iff_eq.mpr c6
      have c6b1 : (a0_0.toList != a1_0.toList) = false := bne_eq_false_iff_eq.mpr c6
      clear c6
      (first | rw [c6b0] | (simp only [i64_w, i32_w]; rw [c6b0]) | skip)
      by_cases c7 : a0_1.toList = a1_1.toList
      · rw [if_pos c7] at H
        have c7b0 : (a0_1.toList == a1_1.toList) = true := beq_iff_eq.mpr c7
        have c7b1 : (a0_1.toList != a1_1.toList) = false := bne_eq_false_iff_eq.mpr c7
        clear c7
        by_cases c8 : a0_2 = a1_2
        · rw [if_pos c8] at H
          have c8b0 : (a0_2 == a1_2) = true := beq_iff_eq.mpr c8
          have c8b1 : (a0_2 != a1_2) = false := bne_eq_false_iff_eq.mpr c8
          clear c8
          have H' := Aside0.mk H
          clear H
          have hnb9 := NB324_325.out
          have hnc9 := NB325_324.out
          have hcz10_0 : w5.cell? ⟨gb324, 0, none⟩ = some (.string a0_0) := (blk_cell BK324.out 0).trans rfl
          have hcz10_1 : w5.cell? ⟨gb324, 1, none⟩ = some (.string a0_1) := (blk_cell BK324.out 1).trans rfl
          have hcz10_2 : w5.cell? ⟨gb324, 2, none⟩ = some (.int .i64 a0_2) := (blk_cell BK324.out 2).trans rfl
          have hcz10_3 : w5.cell? ⟨gb324, 3, none⟩ = some (.slice A0_3 l0_3.length c0_3) := (blk_cell BK324.out 3).trans rfl
          have hcz10_4 : w5.cell? ⟨gb324, 4, none⟩ = some (.int .i64 a0_4) := (blk_cell BK324.out 4).trans rfl
          have hfz10_0 := blk_frozen BK324.out 0
          have hfz10_1 := blk_frozen BK324.out 1
          have hfz10_2 := blk_frozen BK324.out 2
          have hfz10_3 := blk_frozen BK324.out 3
          have hfz10_4 := blk_frozen BK324.out 4
          have hcz11_0 : w5.cell? ⟨gb325, 0, none⟩ = some (.string a1_0) := (blk_cell BK325.out 0).trans rfl
          have hcz11_1 : w5.cell? ⟨gb325, 1, none⟩ = some (.string a1_1) := (blk_cell BK325.out 1).trans rfl
          have hcz11_2 : w5.cell? ⟨gb325, 2, none⟩ = some (.int .i64 a1_2) := (blk_cell BK325.out 2).trans rfl
          have hcz11_3 : w5.cell? ⟨gb325, 3, none⟩ = some (.slice A1_3 l1_3.length c1_3) := (blk_cell BK325.out 3).trans rfl
          have hcz11_4 : w5.cell? ⟨gb325, 4, none⟩ = some (.int .i64 a1_4) := (blk_cell BK325.out 4).trans rfl
          have hfz11_0 := blk_frozen BK325.out 0
          have hfz11_1 := blk_frozen BK325.out 1
          have hfz11_2 := blk_frozen BK325.out 2
          have hfz11_3 := blk_frozen BK325.out 3
          have hfz11_4 := blk_frozen BK325.out 4
          go_wp2
          go_meet
          case rel => exact ⟨_, (((l0_3.length : Int) != (l1_3.length : Int))), (by first | rfl | (simp; done) | (simp [*]; done)), H', ⟨by first | omega | exact Nat.le_refl _⟩, ⟨by (with_reducible repeat (first | refine blk_drewN ?_ _ | refine blk_drew ?_ | refine blk_alloc ?_ _)); exact BK324.out⟩, ⟨by (with_reducible repeat (first | refine blk_drewN ?_ _ | refine blk_drew ?_ | refine blk_alloc ?_ _)); exact BK325.out⟩, ⟨by repeat (first | (with_reducible first | exact HB.out | apply below_alloc | apply pw_below_drewN | apply below_drew1 | refine below_set ?_ GE324.out | refine below_set ?_ GE325.out) | exact HB.out)⟩⟩
        · rw [if_neg c8] at H
          have c8b0 : (a0_2 == a1_2) = false := beq_eq_false_iff_ne.mpr c8
          have c8b1 : (a0_2 != a1_2) = true := bne_iff_ne.mpr c8
          have H' := Aside0.mk H
          clear H
          have hnb12 := NB324_325.out
          have hnc12 := NB325_324.out
          have hcz13_0 : w5.cell? ⟨gb324, 0, none⟩ = some (.string a0_0) := (blk_cell BK324.out 0).trans rfl
          have hcz13_1 : w5.cell? ⟨gb324, 1, none⟩ = some (.string a0_1) := (blk_cell BK324.out 1).trans rfl
          have hcz13_2 : w5.cell? ⟨gb324, 2, none⟩ = some (.int .i64 a0_2) := (blk_cell BK324.out 2).trans rfl
          have hcz13_3 : w5.cell? ⟨gb324, 3, none⟩ = some (.slice A0_3 l0_3.length c0_3) := (blk_cell BK324.out 3).trans rfl
          have hcz13_4 : w5.cell? ⟨gb324, 4, none⟩ = some (.int .i64 a0_4) := (blk_cell BK324.out 4).trans rfl
          have hfz13_0 := blk_frozen BK324.out 0
          have hfz13_1 := blk_frozen BK324.out 1
          have hfz13_2 := blk_frozen BK324.out 2
          have hfz13_3 := blk_frozen BK324.out 3
          have hfz13_4 := blk_frozen BK324.out 4
          have hcz14_0 : w5.cell? ⟨gb325, 0, none⟩ = some (.string a1_0) := (blk_cell BK325.out 0).trans rfl
          have hcz14_1 : w5.cell? ⟨gb325, 1, none⟩ = some (.string a1_1) := (blk_cell BK325.out 1).trans rfl
          have hcz14_2 : w5.cell? ⟨gb325, 2, none⟩ = some (.int .i64 a1_2) := (blk_cell BK325.out 2).trans rfl
          have hcz14_3 : w5.cell? ⟨gb325, 3, none⟩ = some (.slice A1_3 l1_3.length c1_3) := (blk_cell BK325.out 3).trans rfl
          have hcz14_4 : w5.cell? ⟨gb325, 4, none⟩ = some (.int .i64 a1_4) := (blk_cell BK325.out 4).trans rfl
          have hfz14_0 := blk_frozen BK325.out 0
          have hfz14_1 := blk_frozen BK325.out 1
          have hfz14_2 := blk_frozen BK325.out 2
          have hfz14_3 := blk_frozen BK325.out 3
          have hfz14_4 := blk_frozen BK325.out 4
          go_wp2
          go_meet
          case rel => exact ⟨_, (true), (by first | rfl | (simp; done) | (simp [*]; done)), H', ⟨by first | omega | exact Nat.le_refl _⟩, ⟨by (with_reducible repeat (first | refine blk_drewN ?_ _ | refine blk_drew ?_ | refine blk_alloc ?_ _)); exact BK324.out⟩, ⟨by (with_reducible repeat (first | refine blk_drewN ?_ _ | refine blk_drew ?_ | refine blk_alloc ?_ _)); exact BK325.out⟩, ⟨by repeat (first | (with_reducible first | exact HB.out | apply below_alloc | apply pw_below_drewN | apply below_drew1 | refine below_set ?_ GE324.out | refine below_set ?_ GE325.out) | exact HB.out)⟩⟩
      · rw [if_neg c7] at H
        have c7b0 : (a0_1.toList == a1_1.toList) = false := beq_eq_false_iff_ne.mpr c7
        have c7b1 : (a0_1.toList != a1_1.toList) = true := bne_iff_ne.mpr c7
        have H' := Aside0.mk H
        clear H
        have hnb15 := NB324_325.out
        have hnc15 := NB325_324.out
        have hcz16_0 : w5.cell? ⟨gb324, 0, none⟩ = some (.string a0_0) := (blk_cell BK324.out 0).trans rfl
        have hcz16_1 : w5.cell? ⟨gb324, 1, none⟩ = some (.string a0_1) := (blk_cell BK324.out 1).trans rfl
        have hcz16_2 : w5.cell? ⟨gb324, 2, none⟩ = some (.int .i64 a0_2) := (blk_cell BK324.out 2).trans rfl
        have hcz16_3 : w5.cell? ⟨gb324, 3, none⟩ = some (.slice A0_3 l0_3.length c0_3) := (blk_cell BK324.out 3).trans rfl
        have hcz16_4 : w5.cell? ⟨gb324, 4, none⟩ = some (.int .i64 a0_4) := (blk_cell BK324.out 4).trans rfl
        have hfz16_0 := blk_frozen BK324.out 0
        have hfz16_1 := blk_frozen BK324.out 1
        have hfz16_2 := blk_frozen BK324.out 2
        have hfz16_3 := blk_frozen BK324.out 3
        have hfz16_4 := blk_frozen BK324.out 4
        have hcz17_0 : w5.cell? ⟨gb325, 0, none⟩ = some (.string a1_0) := (blk_cell BK325.out 0).trans rfl
        have hcz17_1 : w5.cell? ⟨gb325, 1, none⟩ = some (.string a1_1) := (blk_cell BK325.out 1).trans rfl
        have hcz17_2 : w5.cell? ⟨gb325, 2, none⟩ = some (.int .i64 a1_2) := (blk_cell BK325.out 2).trans rfl
        have hcz17_3 : w5.cell? ⟨gb325, 3, none⟩ = some (.slice A1_3 l1_3.length c1_3) := (blk_cell BK325.out 3).trans rfl
        have hcz17_4 : w5.cell? ⟨gb325, 4, none⟩ = some (.int .i64 a1_4) := (blk_cell BK325.out 4).trans rfl
        have hfz17_0 := blk_frozen BK325.out 0
        have hfz17_1 := blk_frozen BK325.out 1
        have hfz17_2 := blk_frozen BK325.out 2
        have hfz17_3 := blk_frozen BK325.out 3
        have hfz17_4 := blk_frozen BK325.out 4
        go_wp2
        go_meet
        case rel => exact ⟨_, (true), (by first | rfl | (simp; done) | (simp [*]; done)), H', ⟨by first | omega | exact Nat.le_refl _⟩, ⟨by (with_reducible repeat (first | refine blk_drewN ?_ _ | refine blk_drew ?_ | refine blk_alloc ?_ _)); exact BK324.out⟩, ⟨by (with_reducible repeat (first | refine blk_drewN ?_ _ | refine blk_drew ?_ | refine blk_alloc ?_ _)); exact BK325.out⟩, ⟨by repeat (first | (with_reducible first | exact HB.out | apply below_alloc | apply pw_below_drewN | apply below_drew1 | refine below_set ?_ GE324.out | refine below_set ?_ GE325.out) | exact HB.out)⟩⟩
    · rw [if_neg c6] at H
      have c6b0 : (a0_0.toList == a1_0.toList) = false := beq_eq_false_iff_ne.mpr c6
      have c6b1 : (a0_0.toList != a1_0.toList) = true := bne_iff_ne.mpr c6
      (first | rw [c6b0] | (simp only [i64_w, i32_w]; rw [c6b0]) | skip)
      have H' := Aside0.mk H
      clear H
      have hnb18 := NB324_325.out
      have hnc18 := NB325_324.out
      have hcz19_0 : w5.cell? ⟨gb324, 0, none⟩ = some (.string a0_0) := (blk_cell BK324.out 0).trans rfl
      have hcz19_1 : w5.cell? ⟨gb324, 1, none⟩ = some (.string a0_1) := (blk_cell BK324.out 1).trans rfl
      have hcz19_2 : w5.cell? ⟨gb324, 2, none⟩ = some (.int .i64 a0_2) := (blk_cell BK324.out 2).trans rfl
      have hcz19_3 : w5.cell? ⟨gb324, 3, none⟩ = some (.slice A0_3 l0_3.length c0_3) := (blk_cell BK324.out 3).trans rfl
      have hcz19_4 : w5.cell? ⟨gb324, 4, none⟩ = some (.int .i64 a0_4) := (blk_cell BK324.out 4).trans rfl
      have hfz19_0 := blk_frozen BK324.out 0
      have hfz19_1 := blk_frozen BK324.out 1
      have hfz19_2 := blk_frozen BK324.out 2
      have hfz19_3 := blk_frozen BK324.out 3
      have hfz19_4 := blk_frozen BK324.out 4
      have hcz20_0 : w5.cell? ⟨gb325, 0, none⟩ = some (.string a1_0) := (blk_cell BK325.out 0).trans rfl
      have hcz20_1 : w5.cell? ⟨gb325, 1, none⟩ = some (.string a1_1) := (blk_cell BK325.out 1).trans rfl
      have hcz20_2 : w5.cell? ⟨gb325, 2, none⟩ = some (.int .i64 a1_2) := (blk_cell BK325.out 2).trans rfl
      have hcz20_3 : w5.cell? ⟨gb325, 3, none⟩ = some (.slice A1_3 l1_3.length c1_3) := (blk_cell BK325.out 3).trans rfl
      have hcz20_4 : w5.cell? ⟨gb325, 4, none⟩ = some (.int .i64 a1_4) := (blk_cell BK325.out 4).trans rfl
      have hfz20_0 := blk_frozen BK325.out 0
      have hfz20_1 := blk_frozen BK325.out 1
      have hfz20_2 := blk_frozen BK325.out 2
      have hfz20_3 := blk_frozen BK325.out 3
      have hfz20_4 := blk_frozen BK325.out 4
      go_wp2
      go_meet
      case rel => exact ⟨_, (true), (by first | rfl | (simp; done) | (simp [*]; done)), H', ⟨by first | omega | exact Nat.le_refl _⟩, ⟨by (with_reducible repeat (first | refine blk_drewN ?_ _ | refine blk_drew ?_ | refine blk_alloc ?_ _)); exact BK324.out⟩, ⟨by (with_reducible repeat (first | refine blk_drewN ?_ _ | refine blk_drew ?_ | refine blk_alloc ?_ _)); exact BK325.out⟩, ⟨by repeat (first | (with_reducible first | exact HB.out | apply below_alloc | apply pw_below_drewN | apply below_drew1 | refine below_set ?_ GE324.out | refine below_set ?_ GE325.out) | exact HB.out)⟩⟩
  case rest =>
    clear HC3
    try clear c1
    try clear c2
    try clear p2
    try clear c6
    try clear c6b0
    try clear c6b1
    try clear c7
    try clear c7b0
    try clear c7b1
    try clear c8
    try clear c8b0
    try clear c8b1
    try clear c9
    try clear c12
    try clear c15
    try clear c18
    try clear hcz10_0
    try clear hcz10_1
    try clear hcz10_2
    try clear hcz10_3
    try clear hcz10_4
    try clear hcz11_0
    try clear hcz11_1
    try clear hcz11_2
    try clear hcz11_3
    try clear hcz11_4
    try clear hcz13_0
    try clear hcz13_1
    try clear hcz13_2
    try clear hcz13_3
    try clear hcz13_4
    try clear hcz14_0
    try clear hcz14_1
    try clear hcz14_2
    try clear hcz14_3
    try clear hcz14_4
    try clear hcz16_0
    try clear hcz16_1
    try clear hcz16_2
    try clear hcz16_3
    try clear hcz16_4
    try clear hcz17_0
    try clear hcz17_1
    try clear hcz17_2
    try clear hcz17_3
    try clear hcz17_4
    try clear hcz19_0
    try clear hcz19_1
    try clear hcz19_2
    try clear hcz19_3
    try clear hcz19_4
    try clear hcz20_0
    try clear hcz20_1
    try clear hcz20_2
    try clear hcz20_3
    try clear hcz20_4
    try clear hfz10_0
    try clear hfz10_1
    try clear hfz10_2
    try clear hfz10_3
    try clear hfz10_4
    try clear hfz11_0
    try clear hfz11_1
    try clear hfz11_2
    try clear hfz11_3
    try clear hfz11_4
    try clear hfz13_0
    try clear hfz13_1
    try clear hfz13_2
    try clear hfz13_3
    try clear hfz13_4
    try clear hfz14_0
    try clear hfz14_1
    try clear hfz14_2
    try clear hfz14_3
    try clear hfz14_4
    try clear hfz16_0
    try clear hfz16_1
    try clear hfz16_2
    try clear hfz16_3
    try clear hfz16_4
    try clear hfz17_0
    try clear hfz17_1
    try clear hfz17_2
    try clear hfz17_3
    try clear hfz17_4
    try clear hfz19_0
    try clear hfz19_1
    try clear hfz19_2
    try clear hfz19_3
    try clear hfz19_4
    try clear hfz20_0
    try clear hfz20_1
    try clear hfz20_2
    try clear hfz20_3
    try clear hfz20_4
    obtain ⟨kq, x33_2, rfl, HA, HJ2, BK324, BK325, HB⟩ := hcut
    cases kq with
    | zero => exact absurd HA.out (by simp [helmsmanref12_SameExpr.j0])
    | succ kj2 =>
      have H := HA.out
      clear HA
      simp only [helmsmanref12_SameExpr.j0] at H
      by_cases c21 : x33_2 = true
      · subst c21
        have H1 : (some false) = some r := by rw [if_pos rfl] at H; exact H
        clear H
        have H := H1
        clear H1
        obtain rfl := Option.some.inj H
        go_wp2
        go_ret
        exact ⟨by first | rfl | (simp [errW_none, errW_some] <;> rfl) | (simp [*, errW_none, errW_some] <;> rfl), by repeat (first | (with_reducible first | exact HB.out | apply below_alloc | apply pw_below_drewN | apply below_drew1 | refine below_set ?_ GE324.out | refine below_set ?_ GE325.out) | exact HB.out)⟩
      · replace c21 := Bool.eq_false_iff.mpr c21
        subst c21
        have H1 : (helmsmanref12_SameExpr.l0 kj2 0 a0_0 a0_1 a0_2 l0_3 a0_4 a1_0 a1_1 a1_2 l1_3 a1_4) = some r := by rw [if_neg (show ¬ (false = true) by decide)] at H; exact H
        clear H
        have H := H1
        clear H1
        have H' := Aside0.mk H
        clear H
        go_wp2
        (try simp only [Act.put, List.setIfInBounds_toArray, List.set_cons_succ, List.set_cons_zero])
        go_loopg [5] kj2 (fun kq v5 w' => ∃ (x5_2 : Int), v5 = .int .i64 x5_2 ∧ Aside0 (helmsmanref12_SameExpr.l0 kq x5_2 a0_0 a0_1 a0_2 l0_3 a0_4 a1_0 a1_1 a1_2 l1_3 a1_4 = some r) ∧ Aside0 (kq ≤ kj2) ∧ Aside0 (w'.heap[gb324]? = some (.cells #[.string a0_0, .string a0_1, .int .i64 a0_2, (.slice A0_3 l0_3.length c0_3), .int .i64 a0_4] 24 (0, 0))) ∧ Aside0 (w'.heap[gb325]? = some (.cells #[.string a1_0, .string a1_1, .int .i64 a1_2, (.slice A1_3 l1_3.length c1_3), .int .i64 a1_4] 24 (0, 0))) ∧ Aside0 (Below w.heap.size w w'))
        case atStart => exact ⟨(0), (by first | rfl | (simp; done) | (simp [*]; done)), H', ⟨Nat.le_refl _⟩, ⟨by (with_reducible repeat (first | refine blk_drewN ?_ _ | refine blk_drew ?_ | refine blk_alloc ?_ _)); exact BK324.out⟩, ⟨by (with_reducible repeat (first | refine blk_drewN ?_ _ | refine blk_drew ?_ | refine blk_alloc ?_ _)); exact BK325.out⟩, ⟨by repeat (first | (with_reducible first | exact HB.out | apply below_alloc | apply pw_below_drewN | apply below_drew1 | refine below_set ?_ GE324.out | refine below_set ?_ GE325.out) | exact HB.out)⟩⟩
        case round =>
          clear H'
          try clear c1
          try clear c2
          try clear p2
          try clear c6
          try clear c6b0
          try clear c6b1
          try clear c7
          try clear c7b0
          try clear c7b1
          try clear c8
          try clear c8b0
          try clear c8b1
          try clear c9
          try clear c12
          try clear c15
          try clear c18
          try clear c21
          try clear hcz10_0
          try clear hcz10_1
          try clear hcz10_2
          try clear hcz10_3
          try clear hcz10_4
          try clear hcz11_0
          try clear hcz11_1
          try clear hcz11_2
          try clear hcz11_3
          try clear hcz11_4
          try clear hcz13_0
          try clear hcz13_1
          try clear hcz13_2
          try clear hcz13_3
          try clear hcz13_4
          try clear hcz14_0
          try clear hcz14_1
          try clear hcz14_2
          try clear hcz14_3
          try clear hcz14_4
          try clear hcz16_0
          try clear hcz16_1
          try clear hcz16_2
          try clear hcz16_3
          try clear hcz16_4
          try clear hcz17_0
          try clear hcz17_1
          try clear hcz17_2
          try clear hcz17_3
          try clear hcz17_4
          try clear hcz19_0
          try clear hcz19_1
          try clear hcz19_2
          try clear hcz19_3
          try clear hcz19_4
          try clear hcz20_0
          try clear hcz20_1
          try clear hcz20_2
          try clear hcz20_3
          try clear hcz20_4
          try clear hfz10_0
          try clear hfz10_1
          try clear hfz10_2
          try clear hfz10_3
          try clear hfz10_4
          try clear hfz11_0
          try clear hfz11_1
          try clear hfz11_2
          try clear hfz11_3
          try clear hfz11_4
          try clear hfz13_0
          try clear hfz13_1
          try clear hfz13_2
          try clear hfz13_3
          try clear hfz13_4
          try clear hfz14_0
          try clear hfz14_1
          try clear hfz14_2
          try clear hfz14_3
          try clear hfz14_4
          try clear hfz16_0
          try clear hfz16_1
          try clear hfz16_2
          try clear hfz16_3
          try clear hfz16_4
          try clear hfz17_0
          try clear hfz17_1
          try clear hfz17_2
          try clear hfz17_3
          try clear hfz17_4
          try clear hfz19_0
          try clear hfz19_1
          try clear hfz19_2
          try clear hfz19_3
          try clear hfz19_4
          try clear hfz20_0
          try clear hfz20_1
          try clear hfz20_2
          try clear hfz20_3
          try clear hfz20_4
          try clear p2
          obtain ⟨x5_2, rfl, HA, HK2, BK324, BK325, HB⟩ := hrel
          cases gk with
          | zero => exact absurd HA.out (by simp [helmsmanref12_SameExpr.l0])
          | succ k2 =>
            have H := HA.out
            clear HA
            simp only [helmsmanref12_SameExpr.l0] at H
            by_cases c22 : x5_2 < (l0_3.length : Int)
            · rw [if_pos c22] at H
              have c22b0 : decide (x5_2 < (l0_3.length : Int)) = true := decide_eq_true c22
              clear c22
              by_cases c23 : 0 ≤ x5_2
              · rw [if_pos c23] at H
                have c23b0 : decide (0 ≤ x5_2) = true := decide_eq_true c23
                clear c23
                by_cases c24 : x5_2 < (l1_3.length : Int)
                · rw [if_pos c24] at H
                  have c24b0 : decide (x5_2 < (l1_3.length : Int)) = true := decide_eq_true c24
                  clear c24
                  replace H := Option.bind_eq_some_iff.mp H
                  obtain ⟨t328, A250, H⟩ := H
                  replace H : (if t328 = true then (helmsmanref12_SameExpr.l0 k2 (wrap64 (x5_2 + 1)) a0_0 a0_1 a0_2 l0_3 a0_4 a1_0 a1_1 a1_2 l1_3 a1_4) else (some false)) = some r := H
                  have A25 := Aside0.mk A250
                  clear A250
                  by_cases c26 : t328 = true
                  · subst c26
                    have H1 : (helmsmanref12_SameExpr.l0 k2 (wrap64 (x5_2 + 1)) a0_0 a0_1 a0_2 l0_3 a0_4 a1_0 a1_1 a1_2 l1_3 a1_4) = some r := by rw [if_pos rfl] at H; exact H
                    clear H
                    have H := H1
                    clear H1
                    have H' := Aside0.mk H
                    clear H
                    have hnb27 := NB324_325.out
                    have hnc27 := NB325_324.out
                    have hcz28_0 : wr.cell? ⟨gb324, 0, none⟩ = some (.string a0_0) := (blk_cell BK324.out 0).trans rfl
                    have hcz28_1 : wr.cell? ⟨gb324, 1, none⟩ = some (.string a0_1) := (blk_cell BK324.out 1).trans rfl
                    have hcz28_2 : wr.cell? ⟨gb324, 2, none⟩ = some (.int .i64 a0_2) := (blk_cell BK324.out 2).trans rfl
                    have hcz28_3 : wr.cell? ⟨gb324, 3, none⟩ = some (.slice A0_3 l0_3.length c0_3) := (blk_cell BK324.out 3).trans rfl
                    have hcz28_4 : wr.cell? ⟨gb324, 4, none⟩ = some (.int .i64 a0_4) := (blk_cell BK324.out 4).trans rfl
                    have hfz28_0 := blk_frozen BK324.out 0
                    have hfz28_1 := blk_frozen BK324.out 1
                    have hfz28_2 := blk_frozen BK324.out 2
                    have hfz28_3 := blk_frozen BK324.out 3
                    have hfz28_4 := blk_frozen BK324.out 4
                    try go_wp2
                    have n0_ := Aside0.mk (blk_drew BK324.out)
                    have n1_ := Aside0.mk (blk_drew BK325.out)
                    have n2_ := Aside0.mk (below_drew1 HB.out)
                    clear BK324
                    clear BK325
                    clear HB
                    have BK324 := n0_
                    have BK325 := n1_
                    have HB := n2_
                    clear n0_ n1_ n2_
                    have p326 : 0 ≤ (x5_2 : Int) := of_decide_eq_true (by first | (with_reducible assumption) | assumption)
                    have q326 : x5_2 < (l0_3.length : Int) := of_decide_eq_true (by first | (with_reducible assumption) | assumption)
                    obtain ⟨ad326, A326_3, c326_3, e326, hx326_0, hx326_1, hx326_2, hx326_3, hx326_4, hl326_3, hi326_3⟩ := at_T24 HR0_3.out x5_2 p326 q326
                    have hw326_4 := hx326_4
                    have hw326_3 := hx326_3
                    have hw326_2 := hx326_2
                    have hw326_1 := hx326_1
                    have hw326_0 := hx326_0
                    cases e326
                    replace hx326_0 := (HB.out.cell (World.block_lt_of_cell? w _ hx326_0)).trans hx326_0
                    replace hx326_1 := (HB.out.cell (World.block_lt_of_cell? w _ hx326_1)).trans hx326_1
                    replace hx326_2 := (HB.out.cell (World.block_lt_of_cell? w _ hx326_2)).trans hx326_2
                    replace hx326_3 := (HB.out.cell (World.block_lt_of_cell? w _ hx326_3)).trans hx326_3
                    replace hx326_4 := (HB.out.cell (World.block_lt_of_cell? w _ hx326_4)).trans hx326_4
                    have HR326_3 := Aside0.mk hi326_3
                    have HC326_3 := Aside0.mk hl326_3
                    clear hi326_3 hl326_3
                    replace p326 := eq_true p326
                    replace q326 := eq_true q326
                    have p327 : 0 ≤ (x5_2 : Int) := of_decide_eq_true (by first | (with_reducible assumption) | assumption)
                    have q327 : x5_2 < (l1_3.length : Int) := of_decide_eq_true (by first | (with_reducible assumption) | assumption)
                    obtain ⟨ad327, A327_3, c327_3, e327, hx327_0, hx327_1, hx327_2, hx327_3, hx327_4, hl327_3, hi327_3⟩ := at_T24 HR1_3.out x5_2 p327 q327
                    have hw327_4 := hx327_4
                    have hw327_3 := hx327_3
                    have hw327_2 := hx327_2
                    have hw327_1 := hx327_1
                    have hw327_0 := hx327_0
                    cases e327
                    replace hx327_0 := (HB.out.cell (World.block_lt_of_cell? w _ hx327_0)).trans hx327_0
                    replace hx327_1 := (HB.out.cell (World.block_lt_of_cell? w _ hx327_1)).trans hx327_1
                    replace hx327_2 := (HB.out.cell (World.block_lt_of_cell? w _ hx327_2)).trans hx327_2
                    replace hx327_3 := (HB.out.cell (World.block_lt_of_cell? w _ hx327_3)).trans hx327_3
                    replace hx327_4 := (HB.out.cell (World.block_lt_of_cell? w _ hx327_4)).trans hx327_4
                    have HR327_3 := Aside0.mk hi327_3
                    have HC327_3 := Aside0.mk hl327_3
                    clear hi327_3 hl327_3
                    replace p327 := eq_true p327
                    replace q327 := eq_true q327
                    refine start_ (n := 12) (S := fun w' => w'.cell? ⟨gb324, 0, none⟩ = some (.string a0_0) ∧ w'.cell? ⟨gb324, 1, none⟩ = some (.string a0_1) ∧ w'.cell? ⟨gb324, 2, none⟩ = some (.int .i64 a0_2) ∧ w'.cell? ⟨gb324, 3, none⟩ = some (.slice (some ad326) l0_3.length c0_3) ∧ w'.cell? ⟨gb324, 4, none⟩ = some (.int .i64 a0_4) ∧ w'.cell? ⟨gb325, 0, none⟩ = some (.string a1_0) ∧ w'.cell? ⟨gb325, 1, none⟩ = some (.string a1_1) ∧ w'.cell? ⟨gb325, 2, none⟩ = some (.int .i64 a1_2) ∧ w'.cell? ⟨gb325, 3, none⟩ = some (.slice (some ad327) l1_3.length c1_3) ∧ w'.cell? ⟨gb325, 4, none⟩ = some (.int .i64 a1_4) ∧ w'.cell? (ad326.add ((x5_2).toNat * 5)) = some (.string ((rd_T24 l0_3 x5_2).f0)) ∧ w'.cell? ⟨(ad326.add ((x5_2).toNat * 5)).block, (ad326.add ((x5_2).toNat * 5)).off + 1, none⟩ = some (.string ((rd_T24 l0_3 x5_2).f1)) ∧ w'.cell? ⟨(ad326.add ((x5_2).toNat * 5)).block, (ad326.add ((x5_2).toNat * 5)).off + 2, none⟩ = some (.int .i64 ((rd_T24 l0_3 x5_2).f2)) ∧ w'.cell? ⟨(ad326.add ((x5_2).toNat * 5)).block, (ad326.add ((x5_2).toNat * 5)).off + 3, none⟩ = some (.slice A326_3 ((rd_T24 l0_3 x5_2).f3).length c326_3) ∧ w'.cell? ⟨(ad326.add ((x5_2).toNat * 5)).block, (ad326.add ((x5_2).toNat * 5)).off + 4, none⟩ = some (.int .i64 ((rd_T24 l0_3 x5_2).f4)) ∧ w'.cell? (ad327.add ((x5_2).toNat * 5)) = some (.string ((rd_T24 l1_3 x5_2).f0)) ∧ w'.cell? ⟨(ad327.add ((x5_2).toNat * 5)).block, (ad327.add ((x5_2).toNat * 5)).off + 1, none⟩ = some (.string ((rd_T24 l1_3 x5_2).f1)) ∧ w'.cell? ⟨(ad327.add ((x5_2).toNat * 5)).block, (ad327.add ((x5_2).toNat * 5)).off + 2, none⟩ = some (.int .i64 ((rd_T24 l1_3 x5_2).f2)) ∧ w'.cell? ⟨(ad327.add ((x5_2).toNat * 5)).block, (ad327.add ((x5_2).toNat * 5)).off + 3, none⟩ = some (.slice A327_3 ((rd_T24 l1_3 x5_2).f3).length c327_3) ∧ w'.cell? ⟨(ad327.add ((x5_2).toNat * 5)).block, (ad327.add ((x5_2).toNat * 5)).off + 4, none⟩ = some (.int .i64 ((rd_T24 l1_3 x5_2).f4))) (ds := []) #[false, false, false, false, false, false, false, false, false, false, false, false] (by kernel_rfl) rfl rfl ⟨(blk_cell BK324.out 0).trans rfl, (blk_cell BK324.out 1).trans rfl, (blk_cell BK324.out 2).trans rfl, (blk_cell BK324.out 3).trans rfl, (blk_cell BK324.out 4).trans rfl, (blk_cell BK325.out 0).trans rfl, (blk_cell BK325.out 1).trans rfl, (blk_cell BK325.out 2).trans rfl, (blk_cell BK325.out 3).trans rfl, (blk_cell BK325.out 4).trans rfl, ((HB.out.cell (World.block_lt_of_cell? w _ hw326_0)).trans hw326_0), ((HB.out.cell (World.block_lt_of_cell? w _ hw326_1)).trans hw326_1), ((HB.out.cell (World.block_lt_of_cell? w _ hw326_2)).trans hw326_2), ((HB.out.cell (World.block_lt_of_cell? w _ hw326_3)).trans hw326_3), ((HB.out.cell (World.block_lt_of_cell? w _ hw326_4)).trans hw326_4), ((HB.out.cell (World.block_lt_of_cell? w _ hw327_0)).trans hw327_0), ((HB.out.cell (World.block_lt_of_cell? w _ hw327_1)).trans hw327_1), ((HB.out.cell (World.block_lt_of_cell? w _ hw327_2)).trans hw327_2), ((HB.out.cell (World.block_lt_of_cell? w _ hw327_3)).trans hw327_3), ((HB.out.cell (World.block_lt_of_cell? w _ hw327_4)).trans hw327_4)⟩ (fun hHeld => ?_); refine with_tabW helmsmanref12_SameExpr.tab6 helmsmanref12_SameExpr.bits6 (fun HT_ HW_ => ?_)
                    generalize wr.drew = w29 at BK324 BK325 HB HR326_3 HR327_3 hx326_0 hx326_1 hx326_2 hx326_3 hx326_4 hx327_0 hx327_1 hx327_2 hx327_3 hx327_4 hHeld ⊢
                    refine pure_ (i := 0) (N := some 41) (v := ?_) (a' := ?_) #[true, false, false, false, false, false, false, false, false, false, false, false] rfl rfl (any_of HT_.out (by kernel_rfl)) (fun _ _ _ h => h) (Or.inl ⟨by rfl, ?_⟩) ?_ ?_
                    rotate_left
                    · intro w'
                      go_simp
                      with_reducible rfl
                    rotate_left
                    · simp only [Act.put, List.setIfInBounds_toArray, List.set_cons_zero, List.set_cons_succ, i64_w, i32_w]
                      rfl
                    refine pure_ (i := 2) (N := some 43) (v := ?_) (a' := ?_) #[true, false, true, false, false, false, false, false, false, false, false, false] rfl rfl (any_of HT_.out (by kernel_rfl)) (fun _ _ _ h => h) (Or.inl ⟨by rfl, ?_⟩) ?_ ?_
                    rotate_left
                    · intro w'
                      go_simp
                      with_reducible rfl
                    rotate_left
                    · simp only [Act.put, List.setIfInBounds_toArray, List.set_cons_zero, List.set_cons_succ, i64_w, i32_w]
                      rfl
                    refine pure_ (i := 5) (N := some 46) (v := ?_) (a' := ?_) #[true, false, true, false, false, true, false, false, false, false, false, false] rfl rfl (any_of HT_.out (by kernel_rfl)) (fun _ _ _ h => h) (Or.inl ⟨by rfl, ?_⟩) ?_ ?_
                    rotate_left
                    · intro w'
                      go_simp
                      with_reducible rfl
                    rotate_left
                    · simp only [Act.put, List.setIfInBounds_toArray, List.set_cons_zero, List.set_cons_succ, i64_w, i32_w]
                      rfl
                    refine pure_ (i := 7) (N := some 48) (v := ?_) (a' := ?_) #[true, false, true, false, false, true, false, true, false, false, false, false] rfl rfl (any_of HT_.out (by kernel_rfl)) (fun _ _ _ h => h) (Or.inl ⟨by rfl, ?_⟩) ?_ ?_
                    rotate_left
                    · intro w'
                      go_simp
                      with_reducible rfl
                    rotate_left
                    · simp only [Act.put, List.setIfInBounds_toArray, List.set_cons_zero, List.set_cons_succ, i64_w, i32_w]
                      rfl
                    refine take_ (i := 1) (N := some 42) (v := ?_) (a' := ?_) #[true, true, true, false, false, true, false, true, false, false, false, false] rfl rfl (take_ofW HT_.out HW_.out (by kernel_rfl)) (fun _ _ _ h => h) (Or.inl ⟨by rfl, ?_⟩) hHeld ?_ ?_
                    rotate_left
                    · rintro w' ⟨s0, s1, s2, s3, s4, s5, s6, s7, s8, s9, s10, s11, s12, s13, s14, s15, s16, s17, s18, s19⟩
                      go_simp
                      with_reducible rfl
                    rotate_left
                    · simp only [Act.put, List.setIfInBounds_toArray, List.set_cons_zero, List.set_cons_succ, i64_w, i32_w]
                      rfl
                    refine pure_ (i := 3) (N := some 44) (v := ?_) (a' := ?_) #[true, true, true, true, false, true, false, true, false, false, false, false] rfl rfl (any_of HT_.out (by kernel_rfl)) (fun _ _ _ h => h) (Or.inl ⟨by rfl, ?_⟩) ?_ ?_
                    rotate_left
                    · intro w'
                      go_simp
                      with_reducible rfl
                    rotate_left
                    · simp only [Act.put, List.setIfInBounds_toArray, List.set_cons_zero, List.set_cons_succ, i64_w, i32_w]
                      rfl
                    refine take_ (i := 4) (N := some 45) (v := ?_) (a' := ?_) #[true, true, true, true, true, true, false, true, false, false, false, false] rfl rfl (take_ofW HT_.out HW_.out (by kernel_rfl)) (fun _ _ _ h => h) (Or.inl ⟨by rfl, ?_⟩) hHeld ?_ ?_
                    rotate_left
                    · rintro w' ⟨s0, s1, s2, s3, s4, s5, s6, s7, s8, s9, s10, s11, s12, s13, s14, s15, s16, s17, s18, s19⟩
                      go_simp
                      with_reducible rfl
                    rotate_left
                    · simp only [Act.put, List.setIfInBounds_toArray, List.set_cons_zero, List.set_cons_succ, i64_w, i32_w]
                      rfl
                    refine take_ (i := 6) (N := some 47) (v := ?_) (a' := ?_) #[true, true, true, true, true, true, true, true, false, false, false, false] rfl rfl (take_ofW HT_.out HW_.out (by kernel_rfl)) (fun _ _ _ h => h) (Or.inl ⟨by rfl, ?_⟩) hHeld ?_ ?_
                    rotate_left
                    · rintro w' ⟨s0, s1, s2, s3, s4, s5, s6, s7, s8, s9, s10, s11, s12, s13, s14, s15, s16, s17, s18, s19⟩
                      go_simp
                      with_reducible rfl
                    rotate_left
                    · simp only [Act.put, List.setIfInBounds_toArray, List.set_cons_zero, List.set_cons_succ, i64_w, i32_w]
                      rfl
                    refine pure_ (i := 8) (N := some 49) (v := ?_) (a' := ?_) #[true, true, true, true, true, true, true, true, true, false, false, false] rfl rfl (any_of HT_.out (by kernel_rfl)) (fun _ _ _ h => h) (Or.inl ⟨by rfl, ?_⟩) ?_ ?_
                    rotate_left
                    · intro w'
                      go_simp
                      with_reducible rfl
                    rotate_left
                    · simp only [Act.put, List.setIfInBounds_toArray, List.set_cons_zero, List.set_cons_succ, i64_w, i32_w]
                      rfl
                    refine take_ (i := 9) (N := some 50) (v := ?_) (a' := ?_) #[true, true, true, true, true, true, true, true, true, true, false, false] rfl rfl (take_ofW HT_.out HW_.out (by kernel_rfl)) (fun _ _ _ h => h) (Or.inl ⟨by rfl, ?_⟩) hHeld ?_ ?_
                    rotate_left
                    · rintro w' ⟨s0, s1, s2, s3, s4, s5, s6, s7, s8, s9, s10, s11, s12, s13, s14, s15, s16, s17, s18, s19⟩
                      go_simp
                      with_reducible rfl
                    rotate_left
                    · simp only [Act.put, List.setIfInBounds_toArray, List.set_cons_zero, List.set_cons_succ, i64_w, i32_w]
                      rfl
                    refine one_ (i := 10) (N := some 51) #[true, true, true, true, true, true, true, true, true, true, true, false] rfl rfl (one_of HT_.out (by kernel_rfl)) (by decide) (fun K hK => ?_)
                    refine goes_ Tryd.func27 (by kernel_rfl) rfl #[.agg #[.string ((rd_T24 l0_3 x5_2).f0), .string ((rd_T24 l0_3 x5_2).f1), .int .i64 ((rd_T24 l0_3 x5_2).f2), .slice A326_3 ((rd_T24 l0_3 x5_2).f3).length c326_3, .int .i64 ((rd_T24 l0_3 x5_2).f4)], .agg #[.string ((rd_T24 l1_3 x5_2).f0), .string ((rd_T24 l1_3 x5_2).f1), .int .i64 ((rd_T24 l1_3 x5_2).f2), .slice A327_3 ((rd_T24 l1_3 x5_2).f3).length c327_3, .int .i64 ((rd_T24 l1_3 x5_2).f4)]] (by rfl) rfl rfl (by (try simp only [List.map_toArray, List.map_cons, List.map_nil]); first | done | rfl | (simp only [List.length_drop, List.length_take]; rfl)) ?_
                    with_reducible refine (ih k2 (by have := HJ2.out; have := HK2.out; omega) ((rd_T24 l0_3 x5_2).f0) ((rd_T24 l0_3 x5_2).f1) ((rd_T24 l0_3 x5_2).f2) _ _ ((rd_T24 l0_3 x5_2).f3) ((rd_T24 l0_3 x5_2).f4) ((rd_T24 l1_3 x5_2).f0) ((rd_T24 l1_3 x5_2).f1) ((rd_T24 l1_3 x5_2).f2) _ _ ((rd_T24 l1_3 x5_2).f3) ((rd_T24 l1_3 x5_2).f4) true _ ?side1 ?side2 ?side3 ?side4 A25.out).mono ?_
                    (case side1 => repeat (first | exact (Kd.C_below HR326_3.out HB.out) | (with_reducible refine Kd.C_alloc ?_ _) | (with_reducible refine Kd.C_drewN ?_ _) | (with_reducible refine Kd.C_drew ?_)))
                    (case side2 => exact HC326_3.out)
                    (case side3 => repeat (first | exact (Kd.C_below HR327_3.out HB.out) | (with_reducible refine Kd.C_alloc ?_ _) | (with_reducible refine Kd.C_drewN ?_ _) | (with_reducible refine Kd.C_drew ?_)))
                    (case side4 => exact HC327_3.out)
                    rintro e w30 ⟨rfl, hb⟩
                    refine ⟨_, rfl, ?_⟩
                    have n0_ := Aside0.mk (blk_below (g := gb324) (o := .cells #[.string a0_0, .string a0_1, .int .i64 a0_2, .slice (some ad326) l0_3.length c0_3, .int .i64 a0_4] 24 (0, 0)) (by (with_reducible repeat (first | refine blk_drewN ?_ _ | refine blk_drew ?_ | refine blk_alloc ?_ _)); exact BK324.out) hb)
                    have n1_ := Aside0.mk (blk_below (g := gb325) (o := .cells #[.string a1_0, .string a1_1, .int .i64 a1_2, .slice (some ad327) l1_3.length c1_3, .int .i64 a1_4] 24 (0, 0)) (by (with_reducible repeat (first | refine blk_drewN ?_ _ | refine blk_drew ?_ | refine blk_alloc ?_ _)); exact BK325.out) hb)
                    have n2_ := Aside0.mk (below_step (by repeat (first | (with_reducible first | exact HB.out | apply below_alloc | apply pw_below_drewN | apply below_drew1 | refine below_set ?_ GE324.out | refine below_set ?_ GE325.out) | exact HB.out)) hb)
                    clear BK324
                    clear BK325
                    clear HB
                    have BK324 := n0_
                    have BK325 := n1_
                    have HB := n2_
                    clear n0_ n1_ n2_
                    (try clear hb)
                    (try clear hb2)
                    (try clear hk)
                    (try clear hi)
                    refine hK.out _ _ ⟨(blk_cell BK324.out 0).trans rfl, (blk_cell BK324.out 1).trans rfl, (blk_cell BK324.out 2).trans rfl, (blk_cell BK324.out 3).trans rfl, (blk_cell BK324.out 4).trans rfl, (blk_cell BK325.out 0).trans rfl, (blk_cell BK325.out 1).trans rfl, (blk_cell BK325.out 2).trans rfl, (blk_cell BK325.out 3).trans rfl, (blk_cell BK325.out 4).trans rfl, ((HB.out.cell (World.block_lt_of_cell? w _ hw326_0)).trans hw326_0), ((HB.out.cell (World.block_lt_of_cell? w _ hw326_1)).trans hw326_1), ((HB.out.cell (World.block_lt_of_cell? w _ hw326_2)).trans hw326_2), ((HB.out.cell (World.block_lt_of_cell? w _ hw326_3)).trans hw326_3), ((HB.out.cell (World.block_lt_of_cell? w _ hw326_4)).trans hw326_4), ((HB.out.cell (World.block_lt_of_cell? w _ hw327_0)).trans hw327_0), ((HB.out.cell (World.block_lt_of_cell? w _ hw327_1)).trans hw327_1), ((HB.out.cell (World.block_lt_of_cell? w _ hw327_2)).trans hw327_2), ((HB.out.cell (World.block_lt_of_cell? w _ hw327_3)).trans hw327_3), ((HB.out.cell (World.block_lt_of_cell? w _ hw327_4)).trans hw327_4)⟩ (fun hHeld => ?_)
                    clear hK K
                    refine norm_ (a' := ?_) ?_ ?_
                    rotate_left
                    · show Act.put _ (some 51) _ = _
                      simp only [Act.put, List.setIfInBounds_toArray, List.set_cons_zero, List.set_cons_succ, i64_w, i32_w]
                      rfl
                    refine pure_ (i := 11) (N := some 52) (v := ?_) (a' := ?_) #[true, true, true, true, true, true, true, true, true, true, true, true] rfl rfl (any_of HT_.out (by kernel_rfl)) (fun _ _ _ h => h) (Or.inl ⟨by rfl, ?_⟩) ?_ ?_
                    rotate_left
                    · intro w'
                      go_simp
                      with_reducible rfl
                    rotate_left
                    · simp only [Act.put, List.setIfInBounds_toArray, List.set_cons_zero, List.set_cons_succ, i64_w, i32_w]
                      rfl
                    refine done_ (done_of HT_.out (by kernel_rfl)) ?_
                    try go_wp2
                    go_roundg k2
                    case measure => have := HJ2.out; have := HK2.out; omega
                    case rel => exact ⟨(wrap64 (x5_2 + 1)), (by first | rfl | (simp; done) | (simp [*]; done)), H', ⟨by have := HJ2.out; have := HK2.out; omega⟩, ⟨by (with_reducible repeat (first | refine blk_drewN ?_ _ | refine blk_drew ?_ | refine blk_alloc ?_ _)); exact BK324.out⟩, ⟨by (with_reducible repeat (first | refine blk_drewN ?_ _ | refine blk_drew ?_ | refine blk_alloc ?_ _)); exact BK325.out⟩, ⟨by repeat (first | (with_reducible first | exact HB.out | apply below_alloc | apply pw_below_drewN | apply below_drew1 | refine below_set ?_ GE324.out | refine below_set ?_ GE325.out) | exact HB.out)⟩⟩
                  · replace c26 := Bool.eq_false_iff.mpr c26
                    subst c26
                    have H1 : (some false) = some r := by rw [if_neg (show ¬ (false = true) by decide)] at H; exact H
                    clear H
                    have H := H1
                    clear H1
                    obtain rfl := Option.some.inj H
                    have hnb31 := NB324_325.out
                    have hnc31 := NB325_324.out
                    have hcz32_0 : wr.cell? ⟨gb324, 0, none⟩ = some (.string a0_0) := (blk_cell BK324.out 0).trans rfl
                    have hcz32_1 : wr.cell? ⟨gb324, 1, none⟩ = some (.string a0_1) := (blk_cell BK324.out 1).trans rfl
                    have hcz32_2 : wr.cell? ⟨gb324, 2, none⟩ = some (.int .i64 a0_2) := (blk_cell BK324.out 2).trans rfl
                    have hcz32_3 : wr.cell? ⟨gb324, 3, none⟩ = some (.slice A0_3 l0_3.length c0_3) := (blk_cell BK324.out 3).trans rfl
                    have hcz32_4 : wr.cell? ⟨gb324, 4, none⟩ = some (.int .i64 a0_4) := (blk_cell BK324.out 4).trans rfl
                    have hfz32_0 := blk_frozen BK324.out 0
                    have hfz32_1 := blk_frozen BK324.out 1
                    have hfz32_2 := blk_frozen BK324.out 2
                    have hfz32_3 := blk_frozen BK324.out 3
                    have hfz32_4 := blk_frozen BK324.out 4
                    try go_wp2
                    have n0_ := Aside0.mk (blk_drew BK324.out)
                    have n1_ := Aside0.mk (blk_drew BK325.out)
                    have n2_ := Aside0.mk (below_drew1 HB.out)
                    clear BK324
                    clear BK325
                    clear HB
                    have BK324 := n0_
                    have BK325 := n1_
                    have HB := n2_
                    clear n0_ n1_ n2_
                    have p326 : 0 ≤ (x5_2 : Int) := of_decide_eq_true (by first | (with_reducible assumption) | assumption)
                    have q326 : x5_2 < (l0_3.length : Int) := of_decide_eq_true (by first | (with_reducible assumption) | assumption)
                    obtain ⟨ad326, A326_3, c326_3, e326, hx326_0, hx326_1, hx326_2, hx326_3, hx326_4, hl326_3, hi326_3⟩ := at_T24 HR0_3.out x5_2 p326 q326
                    have hw326_4 := hx326_4
                    have hw326_3 := hx326_3
                    have hw326_2 := hx326_2
                    have hw326_1 := hx326_1
                    have hw326_0 := hx326_0
                    cases e326
                    replace hx326_0 := (HB.out.cell (World.block_lt_of_cell? w _ hx326_0)).trans hx326_0
                    replace hx326_1 := (HB.out.cell (World.block_lt_of_cell? w _ hx326_1)).trans hx326_1
                    replace hx326_2 := (HB.out.cell (World.block_lt_of_cell? w _ hx326_2)).trans hx326_2
                    replace hx326_3 := (HB.out.cell (World.block_lt_of_cell? w _ hx326_3)).trans hx326_3
                    replace hx326_4 := (HB.out.cell (World.block_lt_of_cell? w _ hx326_4)).trans hx326_4
                    have HR326_3 := Aside0.mk hi326_3
                    have HC326_3 := Aside0.mk hl326_3
                    clear hi326_3 hl326_3
                    replace p326 := eq_true p326
                    replace q326 := eq_true q326
                    have p327 : 0 ≤ (x5_2 : Int) := of_decide_eq_true (by first | (with_reducible assumption) | assumption)
                    have q327 : x5_2 < (l1_3.length : Int) := of_decide_eq_true (by first | (with_reducible assumption) | assumption)
                    obtain ⟨ad327, A327_3, c327_3, e327, hx327_0, hx327_1, hx327_2, hx327_3, hx327_4, hl327_3, hi327_3⟩ := at_T24 HR1_3.out x5_2 p327 q327
                    have hw327_4 := hx327_4
                    have hw327_3 := hx327_3
                    have hw327_2 := hx327_2
                    have hw327_1 := hx327_1
                    have hw327_0 := hx327_0
                    cases e327
                    replace hx327_0 := (HB.out.cell (World.block_lt_of_cell? w _ hx327_0)).trans hx327_0
                    replace hx327_1 := (HB.out.cell (World.block_lt_of_cell? w _ hx327_1)).trans hx327_1
                    replace hx327_2 := (HB.out.cell (World.block_lt_of_cell? w _ hx327_2)).trans hx327_2
                    replace hx327_3 := (HB.out.cell (World.block_lt_of_cell? w _ hx327_3)).trans hx327_3
                    replace hx327_4 := (HB.out.cell (World.block_lt_of_cell? w _ hx327_4)).trans hx327_4
                    have HR327_3 := Aside0.mk hi327_3
                    have HC327_3 := Aside0.mk hl327_3
                    clear hi327_3 hl327_3
                    replace p327 := eq_true p327
                    replace q327 := eq_true q327
                    refine start_ (n := 12) (S := fun w' => w'.cell? ⟨gb324, 0, none⟩ = some (.string a0_0) ∧ w'.cell? ⟨gb324, 1, none⟩ = some (.string a0_1) ∧ w'.cell? ⟨gb324, 2, none⟩ = some (.int .i64 a0_2) ∧ w'.cell? ⟨gb324, 3, none⟩ = some (.slice (some ad326) l0_3.length c0_3) ∧ w'.cell? ⟨gb324, 4, none⟩ = some (.int .i64 a0_4) ∧ w'.cell? ⟨gb325, 0, none⟩ = some (.string a1_0) ∧ w'.cell? ⟨gb325, 1, none⟩ = some (.string a1_1) ∧ w'.cell? ⟨gb325, 2, none⟩ = some (.int .i64 a1_2) ∧ w'.cell? ⟨gb325, 3, none⟩ = some (.slice (some ad327) l1_3.length c1_3) ∧ w'.cell? ⟨gb325, 4, none⟩ = some (.int .i64 a1_4) ∧ w'.cell? (ad326.add ((x5_2).toNat * 5)) = some (.string ((rd_T24 l0_3 x5_2).f0)) ∧ w'.cell? ⟨(ad326.add ((x5_2).toNat * 5)).block, (ad326.add ((x5_2).toNat * 5)).off + 1, none⟩ = some (.string ((rd_T24 l0_3 x5_2).f1)) ∧ w'.cell? ⟨(ad326.add ((x5_2).toNat * 5)).block, (ad326.add ((x5_2).toNat * 5)).off + 2, none⟩ = some (.int .i64 ((rd_T24 l0_3 x5_2).f2)) ∧ w'.cell? ⟨(ad326.add ((x5_2).toNat * 5)).block, (ad326.add ((x5_2).toNat * 5)).off + 3, none⟩ = some (.slice A326_3 ((rd_T24 l0_3 x5_2).f3).length c326_3) ∧ w'.cell? ⟨(ad326.add ((x5_2).toNat * 5)).block, (ad326.add ((x5_2).toNat * 5)).off + 4, none⟩ = some (.int .i64 ((rd_T24 l0_3 x5_2).f4)) ∧ w'.cell? (ad327.add ((x5_2).toNat * 5)) = some (.string ((rd_T24 l1_3 x5_2).f0)) ∧ w'.cell? ⟨(ad327.add ((x5_2).toNat * 5)).block, (ad327.add ((x5_2).toNat * 5)).off + 1, none⟩ = some (.string ((rd_T24 l1_3 x5_2).f1)) ∧ w'.cell? ⟨(ad327.add ((x5_2).toNat * 5)).block, (ad327.add ((x5_2).toNat * 5)).off + 2, none⟩ = some (.int .i64 ((rd_T24 l1_3 x5_2).f2)) ∧ w'.cell? ⟨(ad327.add ((x5_2).toNat * 5)).block, (ad327.add ((x5_2).toNat * 5)).off + 3, none⟩ = some (.slice A327_3 ((rd_T24 l1_3 x5_2).f3).length c327_3) ∧ w'.cell? ⟨(ad327.add ((x5_2).toNat * 5)).block, (ad327.add ((x5_2).toNat * 5)).off + 4, none⟩ = some (.int .i64 ((rd_T24 l1_3 x5_2).f4))) (ds := []) #[false, false, false, false, false, false, false, false, false, false, false, false] (by kernel_rfl) rfl rfl ⟨(blk_cell BK324.out 0).trans rfl, (blk_cell BK324.out 1).trans rfl, (blk_cell BK324.out 2).trans rfl, (blk_cell BK324.out 3).trans rfl, (blk_cell BK324.out 4).trans rfl, (blk_cell BK325.out 0).trans rfl, (blk_cell BK325.out 1).trans rfl, (blk_cell BK325.out 2).trans rfl, (blk_cell BK325.out 3).trans rfl, (blk_cell BK325.out 4).trans rfl, ((HB.out.cell (World.block_lt_of_cell? w _ hw326_0)).trans hw326_0), ((HB.out.cell (World.block_lt_of_cell? w _ hw326_1)).trans hw326_1), ((HB.out.cell (World.block_lt_of_cell? w _ hw326_2)).trans hw326_2), ((HB.out.cell (World.block_lt_of_cell? w _ hw326_3)).trans hw326_3), ((HB.out.cell (World.block_lt_of_cell? w _ hw326_4)).trans hw326_4), ((HB.out.cell (World.block_lt_of_cell? w _ hw327_0)).trans hw327_0), ((HB.out.cell (World.block_lt_of_cell? w _ hw327_1)).trans hw327_1), ((HB.out.cell (World.block_lt_of_cell? w _ hw327_2)).trans hw327_2), ((HB.out.cell (World.block_lt_of_cell? w _ hw327_3)).trans hw327_3), ((HB.out.cell (World.block_lt_of_cell? w _ hw327_4)).trans hw327_4)⟩ (fun hHeld => ?_); refine with_tabW helmsmanref12_SameExpr.tab6 helmsmanref12_SameExpr.bits6 (fun HT_ HW_ => ?_)
                    generalize wr.drew = w33 at BK324 BK325 HB HR326_3 HR327_3 hx326_0 hx326_1 hx326_2 hx326_3 hx326_4 hx327_0 hx327_1 hx327_2 hx327_3 hx327_4 hHeld ⊢
                    refine pure_ (i := 0) (N := some 41) (v := ?_) (a' := ?_) #[true, false, false, false, false, false, false, false, false, false, false, false] rfl rfl (any_of HT_.out (by kernel_rfl)) (fun _ _ _ h => h) (Or.inl ⟨by rfl, ?_⟩) ?_ ?_
                    rotate_left
                    · intro w'
                      go_simp
                      with_reducible rfl
                    rotate_left
                    · simp only [Act.put, List.setIfInBounds_toArray, List.set_cons_zero, List.set_cons_succ, i64_w, i32_w]
                      rfl
                    refine pure_ (i := 2) (N := some 43) (v := ?_) (a' := ?_) #[true, false, true, false, false, false, false, false, false, false, false, false] rfl rfl (any_of HT_.out (by kernel_rfl)) (fun _ _ _ h => h) (Or.inl ⟨by rfl, ?_⟩) ?_ ?_
                    rotate_left
                    · intro w'
                      go_simp
                      with_reducible rfl
                    rotate_left
                    · simp only [Act.put, List.setIfInBounds_toArray, List.set_cons_zero, List.set_cons_succ, i64_w, i32_w]
                      rfl
                    refine pure_ (i := 5) (N := some 46) (v := ?_) (a' := ?_) #[true, false, true, false, false, true, false, false, false, false, false, false] rfl rfl (any_of HT_.out (by kernel_rfl)) (fun _ _ _ h => h) (Or.inl ⟨by rfl, ?_⟩) ?_ ?_
                    rotate_left
                    · intro w'
                      go_simp
                      with_reducible rfl
                    rotate_left
                    · simp only [Act.put, List.setIfInBounds_toArray, List.set_cons_zero, List.set_cons_succ, i64_w, i32_w]
                      rfl
                    refine pure_ (i := 7) (N := some 48) (v := ?_) (a' := ?_) #[true, false, true, false, false, true, false, true, false, false, false, false] rfl rfl (any_of HT_.out (by kernel_rfl)) (fun _ _ _ h => h) (Or.inl ⟨by rfl, ?_⟩) ?_ ?_
                    rotate_left
                    · intro w'
                      go_simp
                      with_reducible rfl
                    rotate_left
                    · simp only [Act.put, List.setIfInBounds_toArray, List.set_cons_zero, List.set_cons_succ, i64_w, i32_w]
                      rfl
                    refine take_ (i := 1) (N := some 42) (v := ?_) (a' := ?_) #[true, true, true, false, false, true, false, true, false, false, false, false] rfl rfl (take_ofW HT_.out HW_.out (by kernel_rfl)) (fun _ _ _ h => h) (Or.inl ⟨by rfl, ?_⟩) hHeld ?_ ?_
                    rotate_left
                    · rintro w' ⟨s0, s1, s2, s3, s4, s5, s6, s7, s8, s9, s10, s11, s12, s13, s14, s15, s16, s17, s18, s19⟩
                      go_simp
                      with_reducible rfl
                    rotate_left
                    · simp only [Act.put, List.setIfInBounds_toArray, List.set_cons_zero, List.set_cons_succ, i64_w, i32_w]
                      rfl
                    refine pure_ (i := 3) (N := some 44) (v := ?_) (a' := ?_) #[true, true, true, true, false, true, false, true, false, false, false, false] rfl rfl (any_of HT_.out (by kernel_rfl)) (fun _ _ _ h => h) (Or.inl ⟨by rfl, ?_⟩) ?_ ?_
                    rotate_left
                    · intro w'
                      go_simp
                      with_reducible rfl
                    rotate_left
                    · simp only [Act.put, List.setIfInBounds_toArray, List.set_cons_zero, List.set_cons_succ, i64_w, i32_w]
                      rfl
                    refine take_ (i := 4) (N := some 45) (v := ?_) (a' := ?_) #[true, true, true, true, true, true, false, true, false, false, false, false] rfl rfl (take_ofW HT_.out HW_.out (by kernel_rfl)) (fun _ _ _ h => h) (Or.inl ⟨by rfl, ?_⟩) hHeld ?_ ?_
                    rotate_left
                    · rintro w' ⟨s0, s1, s2, s3, s4, s5, s6, s7, s8, s9, s10, s11, s12, s13, s14, s15, s16, s17, s18, s19⟩
                      go_simp
                      with_reducible rfl
                    rotate_left
                    · simp only [Act.put, List.setIfInBounds_toArray, List.set_cons_zero, List.set_cons_succ, i64_w, i32_w]
                      rfl
                    refine take_ (i := 6) (N := some 47) (v := ?_) (a' := ?_) #[true, true, true, true, true, true, true, true, false, false, false, false] rfl rfl (take_ofW HT_.out HW_.out (by kernel_rfl)) (fun _ _ _ h => h) (Or.inl ⟨by rfl, ?_⟩) hHeld ?_ ?_
                    rotate_left
                    · rintro w' ⟨s0, s1, s2, s3, s4, s5, s6, s7, s8, s9, s10, s11, s12, s13, s14, s15, s16, s17, s18, s19⟩
                      go_simp
                      with_reducible rfl
                    rotate_left
                    · simp only [Act.put, List.setIfInBounds_toArray, List.set_cons_zero, List.set_cons_succ, i64_w, i32_w]
                      rfl
                    refine pure_ (i := 8) (N := some 49) (v := ?_) (a' := ?_) #[true, true, true, true, true, true, true, true, true, false, false, false] rfl rfl (any_of HT_.out (by kernel_rfl)) (fun _ _ _ h => h) (Or.inl ⟨by rfl, ?_⟩) ?_ ?_
                    rotate_left
                    · intro w'
                      go_simp
                      with_reducible rfl
                    rotate_left
                    · simp only [Act.put, List.setIfInBounds_toArray, List.set_cons_zero, List.set_cons_succ, i64_w, i32_w]
                      rfl
                    refine take_ (i := 9) (N := some 50) (v := ?_) (a' := ?_) #[true, true, true, true, true, true, true, true, true, true, false, false] rfl rfl (take_ofW HT_.out HW_.out (by kernel_rfl)) (fun _ _ _ h => h) (Or.inl ⟨by rfl, ?_⟩) hHeld ?_ ?_
                    rotate_left
                    · rintro w' ⟨s0, s1, s2, s3, s4, s5, s6, s7, s8, s9, s10, s11, s12, s13, s14, s15, s16, s17, s18, s19⟩
                      go_simp
                      with_reducible rfl
                    rotate_left
                    · simp only [Act.put, List.setIfInBounds_toArray, List.set_cons_zero, List.set_cons_succ, i64_w, i32_w]
                      rfl
                    refine one_ (i := 10) (N := some 51) #[true, true, true, true, true, true, true, true, true, true, true, false] rfl rfl (one_of HT_.out (by kernel_rfl)) (by decide) (fun K hK => ?_)
                    refine goes_ Tryd.func27 (by kernel_rfl) rfl #[.agg #[.string ((rd_T24 l0_3 x5_2).f0), .string ((rd_T24 l0_3 x5_2).f1), .int .i64 ((rd_T24 l0_3 x5_2).f2), .slice A326_3 ((rd_T24 l0_3 x5_2).f3).length c326_3, .int .i64 ((rd_T24 l0_3 x5_2).f4)], .agg #[.string ((rd_T24 l1_3 x5_2).f0), .string ((rd_T24 l1_3 x5_2).f1), .int .i64 ((rd_T24 l1_3 x5_2).f2), .slice A327_3 ((rd_T24 l1_3 x5_2).f3).length c327_3, .int .i64 ((rd_T24 l1_3 x5_2).f4)]] (by rfl) rfl rfl (by (try simp only [List.map_toArray, List.map_cons, List.map_nil]); first | done | rfl | (simp only [List.length_drop, List.length_take]; rfl)) ?_
                    with_reducible refine (ih k2 (by have := HJ2.out; have := HK2.out; omega) ((rd_T24 l0_3 x5_2).f0) ((rd_T24 l0_3 x5_2).f1) ((rd_T24 l0_3 x5_2).f2) _ _ ((rd_T24 l0_3 x5_2).f3) ((rd_T24 l0_3 x5_2).f4) ((rd_T24 l1_3 x5_2).f0) ((rd_T24 l1_3 x5_2).f1) ((rd_T24 l1_3 x5_2).f2) _ _ ((rd_T24 l1_3 x5_2).f3) ((rd_T24 l1_3 x5_2).f4) false _ ?side1 ?side2 ?side3 ?side4 A25.out).mono ?_
                    (case side1 => repeat (first | exact (Kd.C_below HR326_3.out HB.out) | (with_reducible refine Kd.C_alloc ?_ _) | (with_reducible refine Kd.C_drewN ?_ _) | (with_reducible refine Kd.C_drew ?_)))
                    (case side2 => exact HC326_3.out)
                    (case side3 => repeat (first | exact (Kd.C_below HR327_3.out HB.out) | (with_reducible refine Kd.C_alloc ?_ _) | (with_reducible refine Kd.C_drewN ?_ _) | (with_reducible refine Kd.C_drew ?_)))
                    (case side4 => exact HC327_3.out)
                    rintro e w34 ⟨rfl, hb⟩
                    refine ⟨_, rfl, ?_⟩
                    have n0_ := Aside0.mk (blk_below (g := gb324) (o := .cells #[.string a0_0, .string a0_1, .int .i64 a0_2, .slice (some ad326) l0_3.length c0_3, .int .i64 a0_4] 24 (0, 0)) (by (with_reducible repeat (first | refine blk_drewN ?_ _ | refine blk_drew ?_ | refine blk_alloc ?_ _)); exact BK324.out) hb)
                    have n1_ := Aside0.mk (blk_below (g := gb325) (o := .cells #[.string a1_0, .string a1_1, .int .i64 a1_2, .slice (some ad327) l1_3.length c1_3, .int .i64 a1_4] 24 (0, 0)) (by (with_reducible repeat (first | refine blk_drewN ?_ _ | refine blk_drew ?_ | refine blk_alloc ?_ _)); exact BK325.out) hb)
                    have n2_ := Aside0.mk (below_step (by repeat (first | (with_reducible first | exact HB.out | apply below_alloc | apply pw_below_drewN | apply below_drew1 | refine below_set ?_ GE324.out | refine below_set ?_ GE325.out) | exact HB.out)) hb)
                    clear BK324
                    clear BK325
                    clear HB
                    have BK324 := n0_
                    have BK325 := n1_
                    have HB := n2_
                    clear n0_ n1_ n2_
                    (try clear hb)
                    (try clear hb2)
                    (try clear hk)
                    (try clear hi)
                    refine hK.out _ _ ⟨(blk_cell BK324.out 0).trans rfl, (blk_cell BK324.out 1).trans rfl, (blk_cell BK324.out 2).trans rfl, (blk_cell BK324.out 3).trans rfl, (blk_cell BK324.out 4).trans rfl, (blk_cell BK325.out 0).trans rfl, (blk_cell BK325.out 1).trans rfl, (blk_cell BK325.out 2).trans rfl, (blk_cell BK325.out 3).trans rfl, (blk_cell BK325.out 4).trans rfl, ((HB.out.cell (World.block_lt_of_cell? w _ hw326_0)).trans hw326_0), ((HB.out.cell (World.block_lt_of_cell? w _ hw326_1)).trans hw326_1), ((HB.out.cell (World.block_lt_of_cell? w _ hw326_2)).trans hw326_2), ((HB.out.cell (World.block_lt_of_cell? w _ hw326_3)).trans hw326_3), ((HB.out.cell (World.block_lt_of_cell? w _ hw326_4)).trans hw326_4), ((HB.out.cell (World.block_lt_of_cell? w _ hw327_0)).trans hw327_0), ((HB.out.cell (World.block_lt_of_cell? w _ hw327_1)).trans hw327_1), ((HB.out.cell (World.block_lt_of_cell? w _ hw327_2)).trans hw327_2), ((HB.out.cell (World.block_lt_of_cell? w _ hw327_3)).trans hw327_3), ((HB.out.cell (World.block_lt_of_cell? w _ hw327_4)).trans hw327_4)⟩ (fun hHeld => ?_)
                    clear hK K
                    refine norm_ (a' := ?_) ?_ ?_
                    rotate_left
                    · show Act.put _ (some 51) _ = _
                      simp only [Act.put, List.setIfInBounds_toArray, List.set_cons_zero, List.set_cons_succ, i64_w, i32_w]
                      rfl
                    refine pure_ (i := 11) (N := some 52) (v := ?_) (a' := ?_) #[true, true, true, true, true, true, true, true, true, true, true, true] rfl rfl (any_of HT_.out (by kernel_rfl)) (fun _ _ _ h => h) (Or.inl ⟨by rfl, ?_⟩) ?_ ?_
                    rotate_left
                    · intro w'
                      go_simp
                      with_reducible rfl
                    rotate_left
                    · simp only [Act.put, List.setIfInBounds_toArray, List.set_cons_zero, List.set_cons_succ, i64_w, i32_w]
                      rfl
                    refine done_ (done_of HT_.out (by kernel_rfl)) ?_
                    try go_wp2
                    go_ret
                    exact ⟨by first | rfl | (simp [errW_none, errW_some] <;> rfl) | (simp [*, errW_none, errW_some] <;> rfl), by repeat (first | (with_reducible first | exact HB.out | apply below_alloc | apply pw_below_drewN | apply below_drew1 | refine below_set ?_ GE324.out | refine below_set ?_ GE325.out) | exact HB.out)⟩
                · rw [if_neg c24] at H
                  exact absurd H (by simp)
              · rw [if_neg c23] at H
                exact absurd H (by simp)
            · rw [if_neg c22] at H
              have c22b0 : decide (x5_2 < (l0_3.length : Int)) = false := decide_eq_false c22
              clear c22
              obtain rfl := Option.some.inj H
              have hnb35 := NB324_325.out
              have hnc35 := NB325_324.out
              have hcz36_0 : wr.cell? ⟨gb324, 0, none⟩ = some (.string a0_0) := (blk_cell BK324.out 0).trans rfl
              have hcz36_1 : wr.cell? ⟨gb324, 1, none⟩ = some (.string a0_1) := (blk_cell BK324.out 1).trans rfl
              have hcz36_2 : wr.cell? ⟨gb324, 2, none⟩ = some (.int .i64 a0_2) := (blk_cell BK324.out 2).trans rfl
              have hcz36_3 : wr.cell? ⟨gb324, 3, none⟩ = some (.slice A0_3 l0_3.length c0_3) := (blk_cell BK324.out 3).trans rfl
              have hcz36_4 : wr.cell? ⟨gb324, 4, none⟩ = some (.int .i64 a0_4) := (blk_cell BK324.out 4).trans rfl
              have hfz36_0 := blk_frozen BK324.out 0
              have hfz36_1 := blk_frozen BK324.out 1
              have hfz36_2 := blk_frozen BK324.out 2
              have hfz36_3 := blk_frozen BK324.out 3
              have hfz36_4 := blk_frozen BK324.out 4
              go_wp2
              go_ret
              exact ⟨by first | rfl | (simp [errW_none, errW_some] <;> rfl) | (simp [*, errW_none, errW_some] <;> rfl), by repeat (first | (with_reducible first | exact HB.out | apply below_alloc | apply pw_below_drewN | apply below_drew1 | refine below_set ?_ GE324.out | refine below_set ?_ GE325.out) | exact HB.out)⟩

end Go.Proofs.YtnnbbeloifhofaaDoor.P
end

section
namespace Go.Proofs.YtnnbbeloifhofaaDoor.P
open Go.RowKit Go.Proofs.YtnnbbeloifhofaaDoorW.PrintWords Go.Proofs.YtnnbbeloifhofaaDoorW.PrintLast Go.Proofs.YtnnbbeloifhofaaDoorW.PrintMore
attribute [local go_sem] max2_int min2_int max_two min_two max_three min_three max_four min_four   -- for this text's walks alone
set_option linter.unusedVariables false
set_option linter.unusedSimpArgs false

/-! ### helmsmanref12_SameStmts: function 25 -/
mutual
def helmsmanref12_SameStmts.l0 : Nat → List (S29) → List (S29) → Int → Option (Bool)
  | 0, _, _, _ => none
  | k + 1, x0, x1, x5 => if x5 < (x0.length : Int) then (if 0 ≤ x5 then (if x5 < (x1.length : Int) then (if ((rd_T29 x0 x5).f0).toList = ((rd_T29 x1 x5).f0).toList then (if ((rd_T29 x0 x5).f1).toList = ((rd_T29 x1 x5).f1).toList then (if (((rd_T29 x0 x5).f2).length : Int) = (((rd_T29 x1 x5).f2).length : Int) then ((helmsmanref12_SameStmts.f k ((rd_T29 x0 x5).f3) ((rd_T29 x1 x5).f3)).bind fun t333 => (if t333 = true then ((helmsmanref12_SameStmts.f k ((rd_T29 x0 x5).f4) ((rd_T29 x1 x5).f4)).bind fun t334 => (helmsmanref12_SameStmts.j1 k x0 x1 x5 (!t334) ((rd_T29 x0 x5).f0) ((rd_T29 x0 x5).f1) ((rd_T29 x0 x5).f2) ((rd_T29 x0 x5).f3) ((rd_T29 x0 x5).f4) ((rd_T29 x0 x5).f5) ((rd_T29 x1 x5).f0) ((rd_T29 x1 x5).f1) ((rd_T29 x1 x5).f2) ((rd_T29 x1 x5).f3) ((rd_T29 x1 x5).f4) ((rd_T29 x1 x5).f5))) else (helmsmanref12_SameStmts.j1 k x0 x1 x5 true ((rd_T29 x0 x5).f0) ((rd_T29 x0 x5).f1) ((rd_T29 x0 x5).f2) ((rd_T29 x0 x5).f3) ((rd_T29 x0 x5).f4) ((rd_T29 x0 x5).f5) ((rd_T29 x1 x5).f0) ((rd_T29 x1 x5).f1) ((rd_T29 x1 x5).f2) ((rd_T29 x1 x5).f3) ((rd_T29 x1 x5).f4) ((rd_T29 x1 x5).f5)))) else (helmsmanref12_SameStmts.j1 k x0 x1 x5 true ((rd_T29 x0 x5).f0) ((rd_T29 x0 x5).f1) ((rd_T29 x0 x5).f2) ((rd_T29 x0 x5).f3) ((rd_T29 x0 x5).f4) ((rd_T29 x0 x5).f5) ((rd_T29 x1 x5).f0) ((rd_T29 x1 x5).f1) ((rd_T29 x1 x5).f2) ((rd_T29 x1 x5).f3) ((rd_T29 x1 x5).f4) ((rd_T29 x1 x5).f5))) else (helmsmanref12_SameStmts.j1 k x0 x1 x5 true ((rd_T29 x0 x5).f0) ((rd_T29 x0 x5).f1) ((rd_T29 x0 x5).f2) ((rd_T29 x0 x5).f3) ((rd_T29 x0 x5).f4) ((rd_T29 x0 x5).f5) ((rd_T29 x1 x5).f0) ((rd_T29 x1 x5).f1) ((rd_T29 x1 x5).f2) ((rd_T29 x1 x5).f3) ((rd_T29 x1 x5).f4) ((rd_T29 x1 x5).f5))) else (helmsmanref12_SameStmts.j1 k x0 x1 x5 true ((rd_T29 x0 x5).f0) ((rd_T29 x0 x5).f1) ((rd_T29 x0 x5).f2) ((rd_T29 x0 x5).f3) ((rd_T29 x0 x5).f4) ((rd_T29 x0 x5).f5) ((rd_T29 x1 x5).f0) ((rd_T29 x1 x5).f1) ((rd_T29 x1 x5).f2) ((rd_T29 x1 x5).f3) ((rd_T29 x1 x5).f4) ((rd_T29 x1 x5).f5))) else (none)) else (none)) else (some true)
def helmsmanref12_SameStmts.j1 : Nat → List (S29) → List (S29) → Int → Bool → ByteArray → ByteArray → List (S24) → List (S29) → List (S29) → Int → ByteArray → ByteArray → List (S24) → List (S29) → List (S29) → Int → Option (Bool)
  | 0, _, _, _, _, _, _, _, _, _, _, _, _, _, _, _, _ => none
  | k + 1, x0, x1, x5, x64, x331000, x331001, x331002, x331003, x331004, x331005, x333000, x333001, x333002, x333003, x333004, x333005 => if x64 = true then (some false) else (helmsmanref12_SameStmts.l1 k x0 x1 x5 0 x331000 x331001 x331002 x331003 x331004 x331005 x333000 x333001 x333002 x333003 x333004 x333005)
def helmsmanref12_SameStmts.l1 : Nat → List (S29) → List (S29) → Int → Int → ByteArray → ByteArray → List (S24) → List (S29) → List (S29) → Int → ByteArray → ByteArray → List (S24) → List (S29) → List (S29) → Int → Option (Bool)
  | 0, _, _, _, _, _, _, _, _, _, _, _, _, _, _, _, _ => none
  | k + 1, x0, x1, x5, x8, x331000, x331001, x331002, x331003, x331004, x331005, x333000, x333001, x333002, x333003, x333004, x333005 => if x8 < (x331002.length : Int) then (if 0 ≤ x8 then (if x8 < (x333002.length : Int) then ((helmsmanref12_SameExpr.f k ((rd_T24 x331002 x8).f0) ((rd_T24 x331002 x8).f1) ((rd_T24 x331002 x8).f2) ((rd_T24 x331002 x8).f3) ((rd_T24 x331002 x8).f4) ((rd_T24 x333002 x8).f0) ((rd_T24 x333002 x8).f1) ((rd_T24 x333002 x8).f2) ((rd_T24 x333002 x8).f3) ((rd_T24 x333002 x8).f4)).bind fun t337 => (if t337 = true then (helmsmanref12_SameStmts.l1 k x0 x1 x5 (wrap64 (x8 + 1)) x331000 x331001 x331002 x331003 x331004 x331005 x333000 x333001 x333002 x333003 x333004 x333005) else (some false))) else (none)) else (none)) else (helmsmanref12_SameStmts.l0 k x0 x1 (wrap64 (x5 + 1)))
def helmsmanref12_SameStmts.f : Nat → List (S29) → List (S29) → Option (Bool)
  | 0, _, _ => none
  | k + 1, l0, l1 => if (l0.length : Int) = (l1.length : Int) then (helmsmanref12_SameStmts.l0 k l0 l1 0) else (some false)
end
theorem helmsmanref12_SameStmts.mono_l : ∀ k, (∀ y0 y1, LeO (helmsmanref12_SameStmts.f k y0 y1) (helmsmanref12_SameStmts.f (k + 1) y0 y1)) ∧ (∀ y0 y1 y2, LeO (helmsmanref12_SameStmts.l0 k y0 y1 y2) (helmsmanref12_SameStmts.l0 (k + 1) y0 y1 y2)) ∧ (∀ y0 y1 y2 y3 y4 y5 y6 y7 y8 y9 y10 y11 y12 y13 y14 y15, LeO (helmsmanref12_SameStmts.j1 k y0 y1 y2 y3 y4 y5 y6 y7 y8 y9 y10 y11 y12 y13 y14 y15) (helmsmanref12_SameStmts.j1 (k + 1) y0 y1 y2 y3 y4 y5 y6 y7 y8 y9 y10 y11 y12 y13 y14 y15)) ∧ (∀ y0 y1 y2 y3 y4 y5 y6 y7 y8 y9 y10 y11 y12 y13 y14 y15, LeO (helmsmanref12_SameStmts.l1 k y0 y1 y2 y3 y4 y5 y6 y7 y8 y9 y10 y11 y12 y13 y14 y15) (helmsmanref12_SameStmts.l1 (k + 1) y0 y1 y2 y3 y4 y5 y6 y7 y8 y9 y10 y11 y12 y13 y14 y15))
  | 0 => ⟨fun _ _ r h => by simp [helmsmanref12_SameStmts.f] at h, fun _ _ _ r h => by simp [helmsmanref12_SameStmts.l0] at h, fun _ _ _ _ _ _ _ _ _ _ _ _ _ _ _ _ r h => by simp [helmsmanref12_SameStmts.j1] at h, fun _ _ _ _ _ _ _ _ _ _ _ _ _ _ _ _ r h => by simp [helmsmanref12_SameStmts.l1] at h⟩
  | k + 1 => by
    obtain ⟨ih0, ih1, ih2, ih3⟩ := helmsmanref12_SameStmts.mono_l k
    refine ⟨?_, ?_, ?_, ?_⟩
    · intro y0 y1
      unfold helmsmanref12_SameStmts.f
      repeat' first
      | (with_reducible exact ih0 _ _)
      | (with_reducible exact ih1 _ _ _)
      | (with_reducible exact ih2 _ _ _ _ _ _ _ _ _ _ _ _ _ _ _ _)
      | (with_reducible exact ih3 _ _ _ _ _ _ _ _ _ _ _ _ _ _ _ _)
      | (with_reducible exact helmsmanref12_SameExpr.mono _ _ _ _ _ _ _ _ _ _ _)
      | (with_reducible exact LeO.refl _)
      | (with_reducible exact LeO.none _)
      | (with_reducible refine LeO.ite ?_ ?_)
      | (with_reducible refine LeO.bind ?_ (fun _ => ?_))
      | exact ih0 _ _
      | exact ih1 _ _ _
      | exact ih2 _ _ _ _ _ _ _ _ _ _ _ _ _ _ _ _
      | exact ih3 _ _ _ _ _ _ _ _ _ _ _ _ _ _ _ _
      | exact helmsmanref12_SameExpr.mono _ _ _ _ _ _ _ _ _ _ _
      | exact LeO.none _
      | refine LeO.ite ?_ ?_
      | refine LeO.bind ?_ (fun _ => ?_)
    · intro y0 y1 y2
      unfold helmsmanref12_SameStmts.l0
      repeat' first
      | (with_reducible exact ih0 _ _)
      | (with_reducible exact ih1 _ _ _)
      | (with_reducible exact ih2 _ _ _ _ _ _ _ _ _ _ _ _ _ _ _ _)
      | (with_reducible exact ih3 _ _ _ _ _ _ _ _ _ _ _ _ _ _ _ _)
      | (with_reducible exact helmsmanref12_SameExpr.mono _ _ _ _ _ _ _ _ _ _ _)
      | (with_reducible exact LeO.refl _)
      | (with_reducible exact LeO.none _)
      | (with_reducible refine LeO.ite ?_ ?_)
      | (with_reducible refine LeO.bind ?_ (fun _ => ?_))
      | exact ih0 _ _
      | exact ih1 _ _ _
      | exact ih2 _ _ _ _ _ _ _ _ _ _ _ _ _ _ _ _
      | exact ih3 _ _ _ _ _ _ _ _ _ _ _ _ _ _ _ _
      | exact helmsmanref12_SameExpr.mono _ _ _ _ _ _ _ _ _ _ _
      | exact LeO.none _
      | refine LeO.ite ?_ ?_
      | refine LeO.bind ?_ (fun _ => ?_)
    · intro y0 y1 y2 y3 y4 y5 y6 y7 y8 y9 y10 y11 y12 y13 y14 y15
      unfold helmsmanref12_SameStmts.j1
      repeat' first
      | (with_reducible exact ih0 _ _)
      | (with_reducible exact ih1 _ _ _)
      | (with_reducible exact ih2 _ _ _ _ _ _ _ _ _ _ _ _ _ _ _ _)
      | (with_reducible exact ih3 _ _ _ _ _ _ _ _ _ _ _ _ _ _ _ _)
      | (with_reducible exact helmsmanref12_SameExpr.mono _ _ _ _ _ _ _ _ _ _ _)
      | (with_reducible exact LeO.refl _)
      | (with_reducible exact LeO.none _)
      | (with_reducible refine LeO.ite ?_ ?_)
      | (with_reducible refine LeO.bind ?_ (fun _ => ?_))
      | exact ih0 _ _
      | exact ih1 _ _ _
      | exact ih2 _ _ _ _ _ _ _ _ _ _ _ _ _ _ _ _
      | exact ih3 _ _ _ _ _ _ _ _ _ _ _ _ _ _ _ _
      | exact helmsmanref12_SameExpr.mono _ _ _ _ _ _ _ _ _ _ _
      | exact LeO.none _
      | refine LeO.ite ?_ ?_
      | refine LeO.bind ?_ (fun _ => ?_)
    · intro y0 y1 y2 y3 y4 y5 y6 y7 y8 y9 y10 y11 y12 y13 y14 y15
      unfold helmsmanref12_SameStmts.l1
      repeat' first
      | (with_reducible exact ih0 _ _)
      | (with_reducible exact ih1 _ _ _)
      | (with_reducible exact ih2 _ _ _ _ _ _ _ _ _ _ _ _ _ _ _ _)
      | (with_reducible exact ih3 _ _ _ _ _ _ _ _ _ _ _ _ _ _ _ _)
      | (with_reducible exact helmsmanref12_SameExpr.mono _ _ _ _ _ _ _ _ _ _ _)
      | (with_reducible exact LeO.refl _)
      | (with_reducible exact LeO.none _)
      | (with_reducible refine LeO.ite ?_ ?_)
      | (with_reducible refine LeO.bind ?_ (fun _ => ?_))
      | exact ih0 _ _
      | exact ih1 _ _ _
      | exact ih2 _ _ _ _ _ _ _ _ _ _ _ _ _ _ _ _
      | exact ih3 _ _ _ _ _ _ _ _ _ _ _ _ _ _ _ _
      | exact helmsmanref12_SameExpr.mono _ _ _ _ _ _ _ _ _ _ _
      | exact LeO.none _
      | refine LeO.ite ?_ ?_
      | refine LeO.bind ?_ (fun _ => ?_)
theorem helmsmanref12_SameStmts.mono : ∀ a0 a1 k, LeO (helmsmanref12_SameStmts.f k a0 a1) (helmsmanref12_SameStmts.f (k + 1) a0 a1) := by
  intro a0 a1 k
  obtain ⟨ih0, ih1, ih2, ih3⟩ := helmsmanref12_SameStmts.mono_l k
  exact ih0 a0 a1
def helmsmanref12_SameStmts.T13 : Bool × List (List Nat × List Nat) := (true, [([], []), ([0], [0]), ([], []), ([1, 2], [1, 2]), ([3], [3]), ([], []), ([5], [5]), ([], []), ([6, 7], [6, 7]), ([8], [8]), ([4, 9], [4, 9]), ([10], [10])])
def helmsmanref12_SameStmts.B13 : List Nat := [0, 1, 0, 7, 15, 0, 32, 0, 224, 480, 1023, 2047]
theorem helmsmanref12_SameStmts.tab13 : rtab .any (opsOf Tryd.f25 13) = helmsmanref12_SameStmts.T13 := by kernel_rfl
theorem helmsmanref12_SameStmts.bits13 : waitsOk helmsmanref12_SameStmts.T13.2 helmsmanref12_SameStmts.B13 = true := by kernel_rfl
set_option maxHeartbeats 8000000 in
set_option maxRecDepth 100000 in
theorem helmsmanref12_SameStmts.calls (k : Nat) : ∀ (A0 : Option Addr) (c0 : Nat) (l0 : List (S29)) (A1 : Option Addr) (c1 : Nat) (l1 : List (S29)) (r : Bool) (w : World) (hr0 : Kd.C k29 w A0 l0.length l0) (hc0 : l0.length ≤ c0) (hr1 : Kd.C k29 w A1 l1.length l1) (hc1 : l1.length ≤ c1) (h : helmsmanref12_SameStmts.f k l0 l1 = some r),
    Calls Tryd.prog 25 #[.slice A0 l0.length c0, .slice A1 l1.length c1] w fun e w' => e = .returned (.bool r) ∧ Below w.heap.size w w' := by
  induction k using Nat.strongRecOn with
  | _ k ih =>
  intro A0 c0 l0 A1 c1 l1 r w hr0 hc0 hr1 hc1 h
  cases k with
  | zero => exact absurd h (by simp [helmsmanref12_SameStmts.f])
  | succ k =>
  simp only [helmsmanref12_SameStmts.f] at h
  have hu29 := Tryd.underlying29
  have hu24 := Tryd.underlying24
  have HR0 := Aside0.mk hr0
  have HC0 := Aside0.mk hc0
  clear hr0 hc0
  have HR1 := Aside0.mk hr1
  have HC1 := Aside0.mk hc1
  clear hr1 hc1
  have HB := Aside0.mk (Below.refl w.heap.size w)
  have H : (if (l0.length : Int) = (l1.length : Int) then (helmsmanref12_SameStmts.l0 k l0 l1 0) else (some false)) = some r := h
  clear h
  by_cases c3 : (l0.length : Int) = (l1.length : Int)
  · rw [if_pos c3] at H
    have c3b0 : ((l0.length : Int) == (l1.length : Int)) = true := beq_iff_eq.mpr c3
    have c3b1 : ((l0.length : Int) != (l1.length : Int)) = false := bne_eq_false_iff_eq.mpr c3
    have c3b2 : (l0.length == l1.length) = true := by first | simpa using c3 | (simp at c3 ⊢; omega)
    clear c3
    have H' := Aside0.mk H
    clear H
    go_enter Tryd.func25, Tryd.ntmps25
    go_wp2
    (try simp only [Act.put, List.setIfInBounds_toArray, List.set_cons_succ, List.set_cons_zero])
    go_loopg [5] k (fun kq v5 w' => ∃ (x5_1 : Int), v5 = .int .i64 x5_1 ∧ Aside0 (helmsmanref12_SameStmts.l0 kq l0 l1 x5_1 = some r) ∧ Aside0 (kq ≤ k) ∧ Aside0 (Below w.heap.size w w'))
    case atStart => exact ⟨(0), (by first | rfl | (simp; done) | (simp [*]; done)), H', ⟨Nat.le_refl _⟩, ⟨by repeat (first | (with_reducible first | exact HB.out | apply below_alloc | apply pw_below_drewN | apply below_drew1) | exact HB.out)⟩⟩
    case round =>
      clear H'
      try clear c1
      try clear c2
      try clear p2
      try clear c3
      try clear c3b0
      try clear c3b1
      try clear c3b2
      obtain ⟨x5_1, rfl, HA, HK1, HB⟩ := hrel
      cases gk with
      | zero => exact absurd HA.out (by simp [helmsmanref12_SameStmts.l0])
      | succ k1 =>
        have H := HA.out
        clear HA
        simp only [helmsmanref12_SameStmts.l0] at H
        by_cases c4 : x5_1 < (l0.length : Int)
        · rw [if_pos c4] at H
          have c4b0 : decide (x5_1 < (l0.length : Int)) = true := decide_eq_true c4
          clear c4
          by_cases c5 : 0 ≤ x5_1
          · rw [if_pos c5] at H
            have c5b0 : decide (0 ≤ x5_1) = true := decide_eq_true c5
            clear c5
            by_cases c6 : x5_1 < (l1.length : Int)
            · rw [if_pos c6] at H
              have c6b0 : decide (x5_1 < (l1.length : Int)) = true := decide_eq_true c6
              clear c6
              have HC7 := Aside0.mk H
              clear H
              have p329 : 0 ≤ (x5_1 : Int) := of_decide_eq_true (by first | (with_reducible assumption) | assumption)
              have q329 : x5_1 < (l0.length : Int) := of_decide_eq_true (by first | (with_reducible assumption) | assumption)
              obtain ⟨ad329, A329_2, c329_2, A329_3, c329_3, A329_4, c329_4, e329, hx329_0, hx329_1, hx329_2, hx329_3, hx329_4, hx329_5, hl329_2, hi329_2, hl329_3, hi329_3, hl329_4, hi329_4⟩ := at_T29 HR0.out x5_1 p329 q329
              cases e329
              replace hx329_0 := (HB.out.cell (World.block_lt_of_cell? w _ hx329_0)).trans hx329_0
              replace hx329_1 := (HB.out.cell (World.block_lt_of_cell? w _ hx329_1)).trans hx329_1
              replace hx329_2 := (HB.out.cell (World.block_lt_of_cell? w _ hx329_2)).trans hx329_2
              replace hx329_3 := (HB.out.cell (World.block_lt_of_cell? w _ hx329_3)).trans hx329_3
              replace hx329_4 := (HB.out.cell (World.block_lt_of_cell? w _ hx329_4)).trans hx329_4
              replace hx329_5 := (HB.out.cell (World.block_lt_of_cell? w _ hx329_5)).trans hx329_5
              have HR329_2 := Aside0.mk hi329_2
              have HC329_2 := Aside0.mk hl329_2
              clear hi329_2 hl329_2
              have HR329_3 := Aside0.mk hi329_3
              have HC329_3 := Aside0.mk hl329_3
              clear hi329_3 hl329_3
              have HR329_4 := Aside0.mk hi329_4
              have HC329_4 := Aside0.mk hl329_4
              clear hi329_4 hl329_4
              replace p329 := eq_true p329
              replace q329 := eq_true q329
              go_upto_region 8 with (first | ((with_reducible refine gate_dst (N := 6) rfl ?_); (try (refine gate_guard (by rfl) ?_; dsimp only)); refine box_event ?hg (N := 6) ?hd (cs := #[.string (⟨#[]⟩ : ByteArray), .string (⟨#[]⟩ : ByteArray), .slice none 0 0, .slice none 0 0, .slice none 0 0, .int .i64 0]) (t := 29) ?hr ?_; (case hd => rfl); (case hg => rfl); (case hr => first | (go_simp; done) | (go_simp; rfl)); intro gb330 hg w8 hbox hb; have n0_ := Aside0.mk (below_step (by repeat (first | (with_reducible first | exact HB.out | apply below_alloc | apply pw_below_drewN | apply below_drew1) | exact HB.out)) hb); have n1_ := Aside0.mk (hbox); have n2_ := Aside0.mk ((by rw [hg]; exact (below_size (by repeat (first | (with_reducible first | exact HB.out | apply below_alloc | apply pw_below_drewN | apply below_drew1) | exact HB.out))) : w.heap.size ≤ gb330)); have n3_ := Aside0.mk ((by rw [hg]; exact (below_size (by repeat (first | (with_reducible first | exact HB.out | apply below_alloc | apply pw_below_drewN | apply below_drew1) | exact HB.out))) : w.heap.size ≤ gb330)); clear HB; have HB := n0_; have BK330 := n1_; have GW330 := n2_; have GE330 := n3_; clear n0_ n1_ n2_ n3_; clear hb hbox hg; have hcz9_0 : w8.cell? ⟨gb330, 0, none⟩ = some (.string (⟨#[]⟩ : ByteArray)) := (blk_cell BK330.out 0).trans rfl; have hcz9_1 : w8.cell? ⟨gb330, 1, none⟩ = some (.string (⟨#[]⟩ : ByteArray)) := (blk_cell BK330.out 1).trans rfl; have hcz9_2 : w8.cell? ⟨gb330, 2, none⟩ = some (.slice none 0 0) := (blk_cell BK330.out 2).trans rfl; have hcz9_3 : w8.cell? ⟨gb330, 3, none⟩ = some (.slice none 0 0) := (blk_cell BK330.out 3).trans rfl; have hcz9_4 : w8.cell? ⟨gb330, 4, none⟩ = some (.slice none 0 0) := (blk_cell BK330.out 4).trans rfl; have hcz9_5 : w8.cell? ⟨gb330, 5, none⟩ = some (.int .i64 0) := (blk_cell BK330.out 5).trans rfl; have hfz9_0 := blk_frozen BK330.out 0; have hfz9_1 := blk_frozen BK330.out 1; have hfz9_2 := blk_frozen BK330.out 2; have hfz9_3 := blk_frozen BK330.out 3; have hfz9_4 := blk_frozen BK330.out 4; have hfz9_5 := blk_frozen BK330.out 5; have p331 : 0 ≤ (x5_1 : Int) := of_decide_eq_true (by first | (with_reducible assumption) | assumption); have q331 : x5_1 < (l1.length : Int) := of_decide_eq_true (by first | (with_reducible assumption) | assumption); obtain ⟨ad331, A331_2, c331_2, A331_3, c331_3, A331_4, c331_4, e331, hx331_0, hx331_1, hx331_2, hx331_3, hx331_4, hx331_5, hl331_2, hi331_2, hl331_3, hi331_3, hl331_4, hi331_4⟩ := at_T29 HR1.out x5_1 p331 q331; cases e331; have hn331_0 : ad331.block ≠ gb330 := Nat.ne_of_lt (Nat.lt_of_lt_of_le (by have := World.block_lt_of_cell? _ _ hx331_0; first | rwa [add_block] at this | exact this) GW330.out); have hn331_1 : ad331.block ≠ gb330 := Nat.ne_of_lt (Nat.lt_of_lt_of_le (by have := World.block_lt_of_cell? _ _ hx331_0; first | rwa [add_block] at this | exact this) GW330.out); have hn331_2 : ad331.block ≠ gb330 := Nat.ne_of_lt (Nat.lt_of_lt_of_le (by have := World.block_lt_of_cell? _ _ hx331_0; first | rwa [add_block] at this | exact this) GW330.out); have hn331_3 : ad331.block ≠ gb330 := Nat.ne_of_lt (Nat.lt_of_lt_of_le (by have := World.block_lt_of_cell? _ _ hx331_0; first | rwa [add_block] at this | exact this) GW330.out); have hn331_4 : ad331.block ≠ gb330 := Nat.ne_of_lt (Nat.lt_of_lt_of_le (by have := World.block_lt_of_cell? _ _ hx331_0; first | rwa [add_block] at this | exact this) GW330.out); have hn331_5 : ad331.block ≠ gb330 := Nat.ne_of_lt (Nat.lt_of_lt_of_le (by have := World.block_lt_of_cell? _ _ hx331_0; first | rwa [add_block] at this | exact this) GW330.out); replace hx331_0 := (HB.out.cell (World.block_lt_of_cell? w _ hx331_0)).trans hx331_0; replace hx331_1 := (HB.out.cell (World.block_lt_of_cell? w _ hx331_1)).trans hx331_1; replace hx331_2 := (HB.out.cell (World.block_lt_of_cell? w _ hx331_2)).trans hx331_2; replace hx331_3 := (HB.out.cell (World.block_lt_of_cell? w _ hx331_3)).trans hx331_3; replace hx331_4 := (HB.out.cell (World.block_lt_of_cell? w _ hx331_4)).trans hx331_4; replace hx331_5 := (HB.out.cell (World.block_lt_of_cell? w _ hx331_5)).trans hx331_5; have HR331_2 := Aside0.mk hi331_2; have HC331_2 := Aside0.mk hl331_2; clear hi331_2 hl331_2; have HR331_3 := Aside0.mk hi331_3; have HC331_3 := Aside0.mk hl331_3; clear hi331_3 hl331_3; have HR331_4 := Aside0.mk hi331_4; have HC331_4 := Aside0.mk hl331_4; clear hi331_4 hl331_4; replace hx331_0 := (cell_far (p := ⟨gb330, 0, none⟩) (by first | (rw [add_block]; exact hn331_0) | (show (Addr.add _ _).block ≠ _; rw [add_block]; exact hn331_0) | exact hn331_0) (.string ((rd_T29 l0 x5_1).f0))).trans hx331_0; replace hx331_1 := (cell_far (p := ⟨gb330, 0, none⟩) (by first | (rw [add_block]; exact hn331_0) | (show (Addr.add _ _).block ≠ _; rw [add_block]; exact hn331_0) | exact hn331_0) (.string ((rd_T29 l0 x5_1).f0))).trans hx331_1; replace hx331_2 := (cell_far (p := ⟨gb330, 0, none⟩) (by first | (rw [add_block]; exact hn331_0) | (show (Addr.add _ _).block ≠ _; rw [add_block]; exact hn331_0) | exact hn331_0) (.string ((rd_T29 l0 x5_1).f0))).trans hx331_2; replace hx331_3 := (cell_far (p := ⟨gb330, 0, none⟩) (by first | (rw [add_block]; exact hn331_0) | (show (Addr.add _ _).block ≠ _; rw [add_block]; exact hn331_0) | exact hn331_0) (.string ((rd_T29 l0 x5_1).f0))).trans hx331_3; replace hx331_4 := (cell_far (p := ⟨gb330, 0, none⟩) (by first | (rw [add_block]; exact hn331_0) | (show (Addr.add _ _).block ≠ _; rw [add_block]; exact hn331_0) | exact hn331_0) (.string ((rd_T29 l0 x5_1).f0))).trans hx331_4; replace hx331_5 := (cell_far (p := ⟨gb330, 0, none⟩) (by first | (rw [add_block]; exact hn331_0) | (show (Addr.add _ _).block ≠ _; rw [add_block]; exact hn331_0) | exact hn331_0) (.string ((rd_T29 l0 x5_1).f0))).trans hx331_5; replace hx331_0 := (cell_far (p := ⟨gb330, 1, none⟩) (by first | (rw [add_block]; exact hn331_1) | (show (Addr.add _ _).block ≠ _; rw [add_block]; exact hn331_1) | exact hn331_1) (.string ((rd_T29 l0 x5_1).f1))).trans hx331_0; replace hx331_1 := (cell_far (p := ⟨gb330, 1, none⟩) (by first | (rw [add_block]; exact hn331_1) | (show (Addr.add _ _).block ≠ _; rw [add_block]; exact hn331_1) | exact hn331_1) (.string ((rd_T29 l0 x5_1).f1))).trans hx331_1; replace hx331_2 := (cell_far (p := ⟨gb330, 1, none⟩) (by first | (rw [add_block]; exact hn331_1) | (show (Addr.add _ _).block ≠ _; rw [add_block]; exact hn331_1) | exact hn331_1) (.string ((rd_T29 l0 x5_1).f1))).trans hx331_2; replace hx331_3 := (cell_far (p := ⟨gb330, 1, none⟩) (by first | (rw [add_block]; exact hn331_1) | (show (Addr.add _ _).block ≠ _; rw [add_block]; exact hn331_1) | exact hn331_1) (.string ((rd_T29 l0 x5_1).f1))).trans hx331_3; replace hx331_4 := (cell_far (p := ⟨gb330, 1, none⟩) (by first | (rw [add_block]; exact hn331_1) | (show (Addr.add _ _).block ≠ _; rw [add_block]; exact hn331_1) | exact hn331_1) (.string ((rd_T29 l0 x5_1).f1))).trans hx331_4; replace hx331_5 := (cell_far (p := ⟨gb330, 1, none⟩) (by first | (rw [add_block]; exact hn331_1) | (show (Addr.add _ _).block ≠ _; rw [add_block]; exact hn331_1) | exact hn331_1) (.string ((rd_T29 l0 x5_1).f1))).trans hx331_5; replace hx331_0 := (cell_far (p := ⟨gb330, 2, none⟩) (by first | (rw [add_block]; exact hn331_2) | (show (Addr.add _ _).block ≠ _; rw [add_block]; exact hn331_2) | exact hn331_2) (.slice A329_2 ((rd_T29 l0 x5_1).f2).length c329_2)).trans hx331_0; replace hx331_1 := (cell_far (p := ⟨gb330, 2, none⟩) (by first | (rw [add_block]; exact hn331_2) | (show (Addr.add _ _).block ≠ _; rw [add_block]; exact hn331_2) | exact hn331_2) (.slice A329_2 ((rd_T29 l0 x5_1).f2).length c329_2)).trans hx331_1; replace hx331_2 := (cell_far (p := ⟨gb330, 2, none⟩) (by first | (rw [add_block]; exact hn331_2) | (show (Addr.add _ _).block ≠ _; rw [add_block]; exact hn331_2) | exact hn331_2) (.slice A329_2 ((rd_T29 l0 x5_1).f2).length c329_2)).trans hx331_2; replace hx331_3 := (cell_far (p := ⟨gb330, 2, none⟩) (by first | (rw [add_block]; exact hn331_2) | (show (Addr.add _ _).block ≠ _; rw [add_block]; exact hn331_2) | exact hn331_2) (.slice A329_2 ((rd_T29 l0 x5_1).f2).length c329_2)).trans hx331_3; replace hx331_4 := (cell_far (p := ⟨gb330, 2, none⟩) (by first | (rw [add_block]; exact hn331_2) | (show (Addr.add _ _).block ≠ _; rw [add_block]; exact hn331_2) | exact hn331_2) (.slice A329_2 ((rd_T29 l0 x5_1).f2).length c329_2)).trans hx331_4; replace hx331_5 := (cell_far (p := ⟨gb330, 2, none⟩) (by first | (rw [add_block]; exact hn331_2) | (show (Addr.add _ _).block ≠ _; rw [add_block]; exact hn331_2) | exact hn331_2) (.slice A329_2 ((rd_T29 l0 x5_1).f2).length c329_2)).trans hx331_5; replace hx331_0 := (cell_far (p := ⟨gb330, 3, none⟩) (by first | (rw [add_block]; exact hn331_3) | (show (Addr.add _ _).block ≠ _; rw [add_block]; exact hn331_3) | exact hn331_3) (.slice A329_3 ((rd_T29 l0 x5_1).f3).length c329_3)).trans hx331_0; replace hx331_1 := (cell_far (p := ⟨gb330, 3, none⟩) (by first | (rw [add_block]; exact hn331_3) | (show (Addr.add _ _).block ≠ _; rw [add_block]; exact hn331_3) | exact hn331_3) (.slice A329_3 ((rd_T29 l0 x5_1).f3).length c329_3)).trans hx331_1; replace hx331_2 := (cell_far (p := ⟨gb330, 3, none⟩) (by first | (rw [add_block]; exact hn331_3) | (show (Addr.add _ _).block ≠ _; rw [add_block]; exact hn331_3) | exact hn331_3) (.slice A329_3 ((rd_T29 l0 x5_1).f3).length c329_3)).trans hx331_2; replace hx331_3 := (cell_far (p := ⟨gb330, 3, none⟩) (by first | (rw [add_block]; exact hn331_3) | (show (Addr.add _ _).block ≠ _; rw [add_block]; exact hn331_3) | exact hn331_3) (.slice A329_3 ((rd_T29 l0 x5_1).f3).length c329_3)).trans hx331_3; replace hx331_4 := (cell_far (p := ⟨gb330, 3, none⟩) (by first | (rw [add_block]; exact hn331_3) | (show (Addr.add _ _).block ≠ _; rw [add_block]; exact hn331_3) | exact hn331_3) (.slice A329_3 ((rd_T29 l0 x5_1).f3).length c329_3)).trans hx331_4; replace hx331_5 := (cell_far (p := ⟨gb330, 3, none⟩) (by first | (rw [add_block]; exact hn331_3) | (show (Addr.add _ _).block ≠ _; rw [add_block]; exact hn331_3) | exact hn331_3) (.slice A329_3 ((rd_T29 l0 x5_1).f3).length c329_3)).trans hx331_5; replace hx331_0 := (cell_far (p := ⟨gb330, 4, none⟩) (by first | (rw [add_block]; exact hn331_4) | (show (Addr.add _ _).block ≠ _; rw [add_block]; exact hn331_4) | exact hn331_4) (.slice A329_4 ((rd_T29 l0 x5_1).f4).length c329_4)).trans hx331_0; replace hx331_1 := (cell_far (p := ⟨gb330, 4, none⟩) (by first | (rw [add_block]; exact hn331_4) | (show (Addr.add _ _).block ≠ _; rw [add_block]; exact hn331_4) | exact hn331_4) (.slice A329_4 ((rd_T29 l0 x5_1).f4).length c329_4)).trans hx331_1; replace hx331_2 := (cell_far (p := ⟨gb330, 4, none⟩) (by first | (rw [add_block]; exact hn331_4) | (show (Addr.add _ _).block ≠ _; rw [add_block]; exact hn331_4) | exact hn331_4) (.slice A329_4 ((rd_T29 l0 x5_1).f4).length c329_4)).trans hx331_2; replace hx331_3 := (cell_far (p := ⟨gb330, 4, none⟩) (by first | (rw [add_block]; exact hn331_4) | (show (Addr.add _ _).block ≠ _; rw [add_block]; exact hn331_4) | exact hn331_4) (.slice A329_4 ((rd_T29 l0 x5_1).f4).length c329_4)).trans hx331_3; replace hx331_4 := (cell_far (p := ⟨gb330, 4, none⟩) (by first | (rw [add_block]; exact hn331_4) | (show (Addr.add _ _).block ≠ _; rw [add_block]; exact hn331_4) | exact hn331_4) (.slice A329_4 ((rd_T29 l0 x5_1).f4).length c329_4)).trans hx331_4; replace hx331_5 := (cell_far (p := ⟨gb330, 4, none⟩) (by first | (rw [add_block]; exact hn331_4) | (show (Addr.add _ _).block ≠ _; rw [add_block]; exact hn331_4) | exact hn331_4) (.slice A329_4 ((rd_T29 l0 x5_1).f4).length c329_4)).trans hx331_5; replace hx331_0 := (cell_far (p := ⟨gb330, 5, none⟩) (by first | (rw [add_block]; exact hn331_5) | (show (Addr.add _ _).block ≠ _; rw [add_block]; exact hn331_5) | exact hn331_5) (.int .i64 ((rd_T29 l0 x5_1).f5))).trans hx331_0; replace hx331_1 := (cell_far (p := ⟨gb330, 5, none⟩) (by first | (rw [add_block]; exact hn331_5) | (show (Addr.add _ _).block ≠ _; rw [add_block]; exact hn331_5) | exact hn331_5) (.int .i64 ((rd_T29 l0 x5_1).f5))).trans hx331_1; replace hx331_2 := (cell_far (p := ⟨gb330, 5, none⟩) (by first | (rw [add_block]; exact hn331_5) | (show (Addr.add _ _).block ≠ _; rw [add_block]; exact hn331_5) | exact hn331_5) (.int .i64 ((rd_T29 l0 x5_1).f5))).trans hx331_2; replace hx331_3 := (cell_far (p := ⟨gb330, 5, none⟩) (by first | (rw [add_block]; exact hn331_5) | (show (Addr.add _ _).block ≠ _; rw [add_block]; exact hn331_5) | exact hn331_5) (.int .i64 ((rd_T29 l0 x5_1).f5))).trans hx331_3; replace hx331_4 := (cell_far (p := ⟨gb330, 5, none⟩) (by first | (rw [add_block]; exact hn331_5) | (show (Addr.add _ _).block ≠ _; rw [add_block]; exact hn331_5) | exact hn331_5) (.int .i64 ((rd_T29 l0 x5_1).f5))).trans hx331_4; replace hx331_5 := (cell_far (p := ⟨gb330, 5, none⟩) (by first | (rw [add_block]; exact hn331_5) | (show (Addr.add _ _).block ≠ _; rw [add_block]; exact hn331_5) | exact hn331_5) (.int .i64 ((rd_T29 l0 x5_1).f5))).trans hx331_5; clear hn331_0; clear hn331_1; clear hn331_2; clear hn331_3; clear hn331_4; clear hn331_5; replace p331 := eq_true p331; replace q331 := eq_true q331) | ((with_reducible refine gate_dst (N := 7) rfl ?_); (try (refine gate_guard (by rfl) ?_; dsimp only)); refine box_event ?hg (N := 7) ?hd (cs := #[.string (⟨#[]⟩ : ByteArray), .string (⟨#[]⟩ : ByteArray), .slice none 0 0, .slice none 0 0, .slice none 0 0, .int .i64 0]) (t := 29) ?hr ?_; (case hd => rfl); (case hg => rfl); (case hr => first | (go_simp; done) | (go_simp; rfl)); intro gb332 hg w10 hbox hb; have n0_ := Aside0.mk (blk_below (g := gb330) (o := .cells #[.string ((rd_T29 l0 x5_1).f0), .string ((rd_T29 l0 x5_1).f1), .slice A329_2 ((rd_T29 l0 x5_1).f2).length c329_2, .slice A329_3 ((rd_T29 l0 x5_1).f3).length c329_3, .slice A329_4 ((rd_T29 l0 x5_1).f4).length c329_4, .int .i64 ((rd_T29 l0 x5_1).f5)] 29 (0, 0)) (by (with_reducible repeat (first | refine blk_drewN ?_ _ | refine blk_drew ?_ | refine blk_alloc ?_ _)); refine blk_put (cs := #[.string ((rd_T29 l0 x5_1).f0), .string ((rd_T29 l0 x5_1).f1), .slice A329_2 ((rd_T29 l0 x5_1).f2).length c329_2, .slice A329_3 ((rd_T29 l0 x5_1).f3).length c329_3, .slice A329_4 ((rd_T29 l0 x5_1).f4).length c329_4, .int .i64 0]) ?_ 5 _ rfl; (with_reducible repeat (first | refine blk_drewN ?_ _ | refine blk_drew ?_ | refine blk_alloc ?_ _)); refine blk_put (cs := #[.string ((rd_T29 l0 x5_1).f0), .string ((rd_T29 l0 x5_1).f1), .slice A329_2 ((rd_T29 l0 x5_1).f2).length c329_2, .slice A329_3 ((rd_T29 l0 x5_1).f3).length c329_3, .slice none 0 0, .int .i64 0]) ?_ 4 _ rfl; (with_reducible repeat (first | refine blk_drewN ?_ _ | refine blk_drew ?_ | refine blk_alloc ?_ _)); refine blk_put (cs := #[.string ((rd_T29 l0 x5_1).f0), .string ((rd_T29 l0 x5_1).f1), .slice A329_2 ((rd_T29 l0 x5_1).f2).length c329_2, .slice none 0 0, .slice none 0 0, .int .i64 0]) ?_ 3 _ rfl; (with_reducible repeat (first | refine blk_drewN ?_ _ | refine blk_drew ?_ | refine blk_alloc ?_ _)); refine blk_put (cs := #[.string ((rd_T29 l0 x5_1).f0), .string ((rd_T29 l0 x5_1).f1), .slice none 0 0, .slice none 0 0, .slice none 0 0, .int .i64 0]) ?_ 2 _ rfl; (with_reducible repeat (first | refine blk_drewN ?_ _ | refine blk_drew ?_ | refine blk_alloc ?_ _)); refine blk_put (cs := #[.string ((rd_T29 l0 x5_1).f0), .string (⟨#[]⟩ : ByteArray), .slice none 0 0, .slice none 0 0, .slice none 0 0, .int .i64 0]) ?_ 1 _ rfl; (with_reducible repeat (first | refine blk_drewN ?_ _ | refine blk_drew ?_ | refine blk_alloc ?_ _)); refine blk_put (cs := #[.string (⟨#[]⟩ : ByteArray), .string (⟨#[]⟩ : ByteArray), .slice none 0 0, .slice none 0 0, .slice none 0 0, .int .i64 0]) ?_ 0 _ rfl; (with_reducible repeat (first | refine blk_drewN ?_ _ | refine blk_drew ?_ | refine blk_alloc ?_ _)); exact BK330.out) hb); have n1_ := Aside0.mk (below_step (by repeat (first | (with_reducible first | exact HB.out | apply below_alloc | apply pw_below_drewN | apply below_drew1 | refine below_set ?_ GE330.out) | exact HB.out)) hb); have n2_ := Aside0.mk (hbox); have n3_ := Aside0.mk ((by rw [hg]; exact (below_size (by repeat (first | (with_reducible first | exact HB.out | apply below_alloc | apply pw_below_drewN | apply below_drew1 | refine below_set ?_ GE330.out) | exact HB.out))) : w.heap.size ≤ gb332)); have n4_ := Aside0.mk ((by rw [hg]; exact (below_size (by repeat (first | (with_reducible first | exact HB.out | apply below_alloc | apply pw_below_drewN | apply below_drew1 | refine below_set ?_ GE330.out) | exact HB.out))) : w.heap.size ≤ gb332)); have n5_ := Aside0.mk ((by rw [hg]; exact Nat.ne_of_lt (blk_lt (g := gb330) (o := .cells #[.string ((rd_T29 l0 x5_1).f0), .string ((rd_T29 l0 x5_1).f1), .slice A329_2 ((rd_T29 l0 x5_1).f2).length c329_2, .slice A329_3 ((rd_T29 l0 x5_1).f3).length c329_3, .slice A329_4 ((rd_T29 l0 x5_1).f4).length c329_4, .int .i64 ((rd_T29 l0 x5_1).f5)] 29 (0, 0)) (by (with_reducible repeat (first | refine blk_drewN ?_ _ | refine blk_drew ?_ | refine blk_alloc ?_ _)); refine blk_put (cs := #[.string ((rd_T29 l0 x5_1).f0), .string ((rd_T29 l0 x5_1).f1), .slice A329_2 ((rd_T29 l0 x5_1).f2).length c329_2, .slice A329_3 ((rd_T29 l0 x5_1).f3).length c329_3, .slice A329_4 ((rd_T29 l0 x5_1).f4).length c329_4, .int .i64 0]) ?_ 5 _ rfl; (with_reducible repeat (first | refine blk_drewN ?_ _ | refine blk_drew ?_ | refine blk_alloc ?_ _)); refine blk_put (cs := #[.string ((rd_T29 l0 x5_1).f0), .string ((rd_T29 l0 x5_1).f1), .slice A329_2 ((rd_T29 l0 x5_1).f2).length c329_2, .slice A329_3 ((rd_T29 l0 x5_1).f3).length c329_3, .slice none 0 0, .int .i64 0]) ?_ 4 _ rfl; (with_reducible repeat (first | refine blk_drewN ?_ _ | refine blk_drew ?_ | refine blk_alloc ?_ _)); refine blk_put (cs := #[.string ((rd_T29 l0 x5_1).f0), .string ((rd_T29 l0 x5_1).f1), .slice A329_2 ((rd_T29 l0 x5_1).f2).length c329_2, .slice none 0 0, .slice none 0 0, .int .i64 0]) ?_ 3 _ rfl; (with_reducible repeat (first | refine blk_drewN ?_ _ | refine blk_drew ?_ | refine blk_alloc ?_ _)); refine blk_put (cs := #[.string ((rd_T29 l0 x5_1).f0), .string ((rd_T29 l0 x5_1).f1), .slice none 0 0, .slice none 0 0, .slice none 0 0, .int .i64 0]) ?_ 2 _ rfl; (with_reducible repeat (first | refine blk_drewN ?_ _ | refine blk_drew ?_ | refine blk_alloc ?_ _)); refine blk_put (cs := #[.string ((rd_T29 l0 x5_1).f0), .string (⟨#[]⟩ : ByteArray), .slice none 0 0, .slice none 0 0, .slice none 0 0, .int .i64 0]) ?_ 1 _ rfl; (with_reducible repeat (first | refine blk_drewN ?_ _ | refine blk_drew ?_ | refine blk_alloc ?_ _)); refine blk_put (cs := #[.string (⟨#[]⟩ : ByteArray), .string (⟨#[]⟩ : ByteArray), .slice none 0 0, .slice none 0 0, .slice none 0 0, .int .i64 0]) ?_ 0 _ rfl; (with_reducible repeat (first | refine blk_drewN ?_ _ | refine blk_drew ?_ | refine blk_alloc ?_ _)); exact BK330.out)) : gb330 ≠ gb332)); have n6_ := Aside0.mk ((by rw [hg]; exact Nat.ne_of_gt (blk_lt (g := gb330) (o := .cells #[.string ((rd_T29 l0 x5_1).f0), .string ((rd_T29 l0 x5_1).f1), .slice A329_2 ((rd_T29 l0 x5_1).f2).length c329_2, .slice A329_3 ((rd_T29 l0 x5_1).f3).length c329_3, .slice A329_4 ((rd_T29 l0 x5_1).f4).length c329_4, .int .i64 ((rd_T29 l0 x5_1).f5)] 29 (0, 0)) (by (with_reducible repeat (first | refine blk_drewN ?_ _ | refine blk_drew ?_ | refine blk_alloc ?_ _)); refine blk_put (cs := #[.string ((rd_T29 l0 x5_1).f0), .string ((rd_T29 l0 x5_1).f1), .slice A329_2 ((rd_T29 l0 x5_1).f2).length c329_2, .slice A329_3 ((rd_T29 l0 x5_1).f3).length c329_3, .slice A329_4 ((rd_T29 l0 x5_1).f4).length c329_4, .int .i64 0]) ?_ 5 _ rfl; (with_reducible repeat (first | refine blk_drewN ?_ _ | refine blk_drew ?_ | refine blk_alloc ?_ _)); refine blk_put (cs := #[.string ((rd_T29 l0 x5_1).f0), .string ((rd_T29 l0 x5_1).f1), .slice A329_2 ((rd_T29 l0 x5_1).f2).length c329_2, .slice A329_3 ((rd_T29 l0 x5_1).f3).length c329_3, .slice none 0 0, .int .i64 0]) ?_ 4 _ rfl; (with_reducible repeat (first | refine blk_drewN ?_ _ | refine blk_drew ?_ | refine blk_alloc ?_ _)); refine blk_put (cs := #[.string ((rd_T29 l0 x5_1).f0), .string ((rd_T29 l0 x5_1).f1), .slice A329_2 ((rd_T29 l0 x5_1).f2).length c329_2, .slice none 0 0, .slice none 0 0, .int .i64 0]) ?_ 3 _ rfl; (with_reducible repeat (first | refine blk_drewN ?_ _ | refine blk_drew ?_ | refine blk_alloc ?_ _)); refine blk_put (cs := #[.string ((rd_T29 l0 x5_1).f0), .string ((rd_T29 l0 x5_1).f1), .slice none 0 0, .slice none 0 0, .slice none 0 0, .int .i64 0]) ?_ 2 _ rfl; (with_reducible repeat (first | refine blk_drewN ?_ _ | refine blk_drew ?_ | refine blk_alloc ?_ _)); refine blk_put (cs := #[.string ((rd_T29 l0 x5_1).f0), .string (⟨#[]⟩ : ByteArray), .slice none 0 0, .slice none 0 0, .slice none 0 0, .int .i64 0]) ?_ 1 _ rfl; (with_reducible repeat (first | refine blk_drewN ?_ _ | refine blk_drew ?_ | refine blk_alloc ?_ _)); refine blk_put (cs := #[.string (⟨#[]⟩ : ByteArray), .string (⟨#[]⟩ : ByteArray), .slice none 0 0, .slice none 0 0, .slice none 0 0, .int .i64 0]) ?_ 0 _ rfl; (with_reducible repeat (first | refine blk_drewN ?_ _ | refine blk_drew ?_ | refine blk_alloc ?_ _)); exact BK330.out)) : gb332 ≠ gb330)); clear BK330; clear HB; have BK330 := n0_; have HB := n1_; have BK332 := n2_; have GW332 := n3_; have GE332 := n4_; have NB330_332 := n5_; have NB332_330 := n6_; clear n0_ n1_ n2_ n3_ n4_ n5_ n6_; clear hb hbox hg; have hnb11 := NB332_330.out; have hnc11 := NB330_332.out; have hcz12_0 : w10.cell? ⟨gb332, 0, none⟩ = some (.string (⟨#[]⟩ : ByteArray)) := (blk_cell BK332.out 0).trans rfl; have hcz12_1 : w10.cell? ⟨gb332, 1, none⟩ = some (.string (⟨#[]⟩ : ByteArray)) := (blk_cell BK332.out 1).trans rfl; have hcz12_2 : w10.cell? ⟨gb332, 2, none⟩ = some (.slice none 0 0) := (blk_cell BK332.out 2).trans rfl; have hcz12_3 : w10.cell? ⟨gb332, 3, none⟩ = some (.slice none 0 0) := (blk_cell BK332.out 3).trans rfl; have hcz12_4 : w10.cell? ⟨gb332, 4, none⟩ = some (.slice none 0 0) := (blk_cell BK332.out 4).trans rfl; have hcz12_5 : w10.cell? ⟨gb332, 5, none⟩ = some (.int .i64 0) := (blk_cell BK332.out 5).trans rfl; have hfz12_0 := blk_frozen BK332.out 0; have hfz12_1 := blk_frozen BK332.out 1; have hfz12_2 := blk_frozen BK332.out 2; have hfz12_3 := blk_frozen BK332.out 3; have hfz12_4 := blk_frozen BK332.out 4; have hfz12_5 := blk_frozen BK332.out 5))
              (try simp only [Act.put, List.setIfInBounds_toArray, List.set_cons_zero, List.set_cons_succ])
              go_cut [64] (fun v64 wc => ∃ (kq : Nat) (x64_6 : Bool), v64 = .bool x64_6 ∧ Aside0 (helmsmanref12_SameStmts.j1 kq l0 l1 x5_1 x64_6 ((rd_T29 l0 x5_1).f0) ((rd_T29 l0 x5_1).f1) ((rd_T29 l0 x5_1).f2) ((rd_T29 l0 x5_1).f3) ((rd_T29 l0 x5_1).f4) ((rd_T29 l0 x5_1).f5) ((rd_T29 l1 x5_1).f0) ((rd_T29 l1 x5_1).f1) ((rd_T29 l1 x5_1).f2) ((rd_T29 l1 x5_1).f3) ((rd_T29 l1 x5_1).f4) ((rd_T29 l1 x5_1).f5) = some r) ∧ Aside0 (kq ≤ k1) ∧ Aside0 (wc.heap[gb330]? = some (.cells #[.string ((rd_T29 l0 x5_1).f0), .string ((rd_T29 l0 x5_1).f1), (.slice A329_2 ((rd_T29 l0 x5_1).f2).length c329_2), (.slice A329_3 ((rd_T29 l0 x5_1).f3).length c329_3), (.slice A329_4 ((rd_T29 l0 x5_1).f4).length c329_4), .int .i64 ((rd_T29 l0 x5_1).f5)] 29 (0, 0))) ∧ Aside0 (wc.heap[gb332]? = some (.cells #[.string ((rd_T29 l1 x5_1).f0), .string ((rd_T29 l1 x5_1).f1), (.slice A331_2 ((rd_T29 l1 x5_1).f2).length c331_2), (.slice A331_3 ((rd_T29 l1 x5_1).f3).length c331_3), (.slice A331_4 ((rd_T29 l1 x5_1).f4).length c331_4), .int .i64 ((rd_T29 l1 x5_1).f5)] 29 (0, 0))) ∧ Aside0 (Below w.heap.size w wc))
              case first =>
                have H := HC7.out
                clear HC7
                by_cases c13 : ((rd_T29 l0 x5_1).f0).toList = ((rd_T29 l1 x5_1).f0).toList
                · rw [if_pos c13] at H
                  have c13b0 : (((rd_T29 l0 x5_1).f0).toList == ((rd_T29 l1 x5_1).f0).toList) = true := beq_iff_eq.mpr c13
                  have c13b1 : (((rd_T29 l0 x5_1).f0).toList != ((rd_T29 l1 x5_1).f0).toList) = false := bne_eq_false_iff_eq.mpr c13
                  clear c13
                  (first | rw [c13b0] | (simp only [i64_w, i32_w]; rw [c13b0]) | skip)
                  by_cases c14 : ((rd_T29 l0 x5_1).f1).toList = ((rd_T29 l1 x5_1).f1).toList
                  · rw [if_pos c14] at H
                    have c14b0 : (((rd_T29 l0 x5_1).f1).toList == ((rd_T29 l1 x5_1).f1).toList) = true := beq_iff_eq.mpr c14
                    have c14b1 : (((rd_T29 l0 x5_1).f1).toList != ((rd_T29 l1 x5_1).f1).toList) = false := bne_eq_false_iff_eq.mpr c14
                    clear c14
                    by_cases c15 : (((rd_T29 l0 x5_1).f2).length : Int) = (((rd_T29 l1 x5_1).f2).length : Int)
                    · rw [if_pos c15] at H
                      have c15b0 : ((((rd_T29 l0 x5_1).f2).length : Int) == (((rd_T29 l1 x5_1).f2).length : Int)) = true := beq_iff_eq.mpr c15
                      have c15b1 : ((((rd_T29 l0 x5_1).f2).length : Int) != (((rd_T29 l1 x5_1).f2).length : Int)) = false := bne_eq_false_iff_eq.mpr c15
                      have c15b2 : (((rd_T29 l0 x5_1).f2).length == ((rd_T29 l1 x5_1).f2).length) = true := by first | simpa using c15 | (simp at c15 ⊢; omega)
                      clear c15
                      replace H := Option.bind_eq_some_iff.mp H
                      obtain ⟨t333, A160, H⟩ := H
                      replace H : (if t333 = true then ((helmsmanref12_SameStmts.f k1 ((rd_T29 l0 x5_1).f4) ((rd_T29 l1 x5_1).f4)).bind fun t334 => (helmsmanref12_SameStmts.j1 k1 l0 l1 x5_1 (!t334) ((rd_T29 l0 x5_1).f0) ((rd_T29 l0 x5_1).f1) ((rd_T29 l0 x5_1).f2) ((rd_T29 l0 x5_1).f3) ((rd_T29 l0 x5_1).f4) ((rd_T29 l0 x5_1).f5) ((rd_T29 l1 x5_1).f0) ((rd_T29 l1 x5_1).f1) ((rd_T29 l1 x5_1).f2) ((rd_T29 l1 x5_1).f3) ((rd_T29 l1 x5_1).f4) ((rd_T29 l1 x5_1).f5))) else (helmsmanref12_SameStmts.j1 k1 l0 l1 x5_1 true ((rd_T29 l0 x5_1).f0) ((rd_T29 l0 x5_1).f1) ((rd_T29 l0 x5_1).f2) ((rd_T29 l0 x5_1).f3) ((rd_T29 l0 x5_1).f4) ((rd_T29 l0 x5_1).f5) ((rd_T29 l1 x5_1).f0) ((rd_T29 l1 x5_1).f1) ((rd_T29 l1 x5_1).f2) ((rd_T29 l1 x5_1).f3) ((rd_T29 l1 x5_1).f4) ((rd_T29 l1 x5_1).f5))) = some r := H
                      have A16 := Aside0.mk A160
                      clear A160
                      by_cases c17 : t333 = true
                      · subst c17
                        have H1 : ((helmsmanref12_SameStmts.f k1 ((rd_T29 l0 x5_1).f4) ((rd_T29 l1 x5_1).f4)).bind fun t334 => (helmsmanref12_SameStmts.j1 k1 l0 l1 x5_1 (!t334) ((rd_T29 l0 x5_1).f0) ((rd_T29 l0 x5_1).f1) ((rd_T29 l0 x5_1).f2) ((rd_T29 l0 x5_1).f3) ((rd_T29 l0 x5_1).f4) ((rd_T29 l0 x5_1).f5) ((rd_T29 l1 x5_1).f0) ((rd_T29 l1 x5_1).f1) ((rd_T29 l1 x5_1).f2) ((rd_T29 l1 x5_1).f3) ((rd_T29 l1 x5_1).f4) ((rd_T29 l1 x5_1).f5))) = some r := by rw [if_pos rfl] at H; exact H
                        clear H
                        have H := H1
                        clear H1
                        replace H := Option.bind_eq_some_iff.mp H
                        obtain ⟨t334, A180, H⟩ := H
                        replace H : (helmsmanref12_SameStmts.j1 k1 l0 l1 x5_1 (!t334) ((rd_T29 l0 x5_1).f0) ((rd_T29 l0 x5_1).f1) ((rd_T29 l0 x5_1).f2) ((rd_T29 l0 x5_1).f3) ((rd_T29 l0 x5_1).f4) ((rd_T29 l0 x5_1).f5) ((rd_T29 l1 x5_1).f0) ((rd_T29 l1 x5_1).f1) ((rd_T29 l1 x5_1).f2) ((rd_T29 l1 x5_1).f3) ((rd_T29 l1 x5_1).f4) ((rd_T29 l1 x5_1).f5)) = some r := H
                        have A18 := Aside0.mk A180
                        clear A180
                        have H' := Aside0.mk H
                        clear H
                        have hnb19 := NB330_332.out
                        have hnc19 := NB332_330.out
                        have hcz20_0 : w10.cell? ⟨gb330, 0, none⟩ = some (.string ((rd_T29 l0 x5_1).f0)) := (blk_cell BK330.out 0).trans rfl
                        have hcz20_1 : w10.cell? ⟨gb330, 1, none⟩ = some (.string ((rd_T29 l0 x5_1).f1)) := (blk_cell BK330.out 1).trans rfl
                        have hcz20_2 : w10.cell? ⟨gb330, 2, none⟩ = some (.slice A329_2 ((rd_T29 l0 x5_1).f2).length c329_2) := (blk_cell BK330.out 2).trans rfl
                        have hcz20_3 : w10.cell? ⟨gb330, 3, none⟩ = some (.slice A329_3 ((rd_T29 l0 x5_1).f3).length c329_3) := (blk_cell BK330.out 3).trans rfl
                        have hcz20_4 : w10.cell? ⟨gb330, 4, none⟩ = some (.slice A329_4 ((rd_T29 l0 x5_1).f4).length c329_4) := (blk_cell BK330.out 4).trans rfl
                        have hcz20_5 : w10.cell? ⟨gb330, 5, none⟩ = some (.int .i64 ((rd_T29 l0 x5_1).f5)) := (blk_cell BK330.out 5).trans rfl
                        have hfz20_0 := blk_frozen BK330.out 0
                        have hfz20_1 := blk_frozen BK330.out 1
                        have hfz20_2 := blk_frozen BK330.out 2
                        have hfz20_3 := blk_frozen BK330.out 3
                        have hfz20_4 := blk_frozen BK330.out 4
                        have hfz20_5 := blk_frozen BK330.out 5
                        have hcz21_0 : w10.cell? ⟨gb332, 0, none⟩ = some (.string (⟨#[]⟩ : ByteArray)) := (blk_cell BK332.out 0).trans rfl
                        have hcz21_1 : w10.cell? ⟨gb332, 1, none⟩ = some (.string (⟨#[]⟩ : ByteArray)) := (blk_cell BK332.out 1).trans rfl
                        have hcz21_2 : w10.cell? ⟨gb332, 2, none⟩ = some (.slice none 0 0) := (blk_cell BK332.out 2).trans rfl
                        have hcz21_3 : w10.cell? ⟨gb332, 3, none⟩ = some (.slice none 0 0) := (blk_cell BK332.out 3).trans rfl
                        have hcz21_4 : w10.cell? ⟨gb332, 4, none⟩ = some (.slice none 0 0) := (blk_cell BK332.out 4).trans rfl
                        have hcz21_5 : w10.cell? ⟨gb332, 5, none⟩ = some (.int .i64 0) := (blk_cell BK332.out 5).trans rfl
                        have hfz21_0 := blk_frozen BK332.out 0
                        have hfz21_1 := blk_frozen BK332.out 1
                        have hfz21_2 := blk_frozen BK332.out 2
                        have hfz21_3 := blk_frozen BK332.out 3
                        have hfz21_4 := blk_frozen BK332.out 4
                        have hfz21_5 := blk_frozen BK332.out 5
                        go_wp2_with (first | (go_at_call 25; (with_reducible refine (ih k1 (by have := HK1.out; omega) _ _ ((rd_T29 l0 x5_1).f3) _ _ ((rd_T29 l1 x5_1).f3) true _ ?side1 ?side2 ?side3 ?side4 A16.out).mono ?_); (case side1 => exact Kd.C_below HR329_3.out (by repeat (first | (with_reducible first | exact HB.out | apply below_alloc | apply pw_below_drewN | apply below_drew1 | refine below_set ?_ GE330.out | refine below_set ?_ GE332.out) | exact HB.out))); (case side2 => exact HC329_3.out); (case side3 => exact Kd.C_below HR331_3.out (by repeat (first | (with_reducible first | exact HB.out | apply below_alloc | apply pw_below_drewN | apply below_drew1 | refine below_set ?_ GE330.out | refine below_set ?_ GE332.out) | exact HB.out))); (case side4 => exact HC331_3.out); rintro e w22 ⟨rfl, hb⟩; have n0_ := Aside0.mk (blk_below (g := gb330) (o := .cells #[.string ((rd_T29 l0 x5_1).f0), .string ((rd_T29 l0 x5_1).f1), .slice A329_2 ((rd_T29 l0 x5_1).f2).length c329_2, .slice A329_3 ((rd_T29 l0 x5_1).f3).length c329_3, .slice A329_4 ((rd_T29 l0 x5_1).f4).length c329_4, .int .i64 ((rd_T29 l0 x5_1).f5)] 29 (0, 0)) (by (with_reducible repeat (first | refine blk_drewN ?_ _ | refine blk_drew ?_ | refine blk_alloc ?_ _)); refine blk_far ?_ NB330_332.out _; (with_reducible repeat (first | refine blk_drewN ?_ _ | refine blk_drew ?_ | refine blk_alloc ?_ _)); refine blk_far ?_ NB330_332.out _; (with_reducible repeat (first | refine blk_drewN ?_ _ | refine blk_drew ?_ | refine blk_alloc ?_ _)); refine blk_far ?_ NB330_332.out _; (with_reducible repeat (first | refine blk_drewN ?_ _ | refine blk_drew ?_ | refine blk_alloc ?_ _)); refine blk_far ?_ NB330_332.out _; (with_reducible repeat (first | refine blk_drewN ?_ _ | refine blk_drew ?_ | refine blk_alloc ?_ _)); refine blk_far ?_ NB330_332.out _; (with_reducible repeat (first | refine blk_drewN ?_ _ | refine blk_drew ?_ | refine blk_alloc ?_ _)); refine blk_far ?_ NB330_332.out _; (with_reducible repeat (first | refine blk_drewN ?_ _ | refine blk_drew ?_ | refine blk_alloc ?_ _)); exact BK330.out) hb); have n1_ := Aside0.mk (blk_below (g := gb332) (o := .cells #[.string ((rd_T29 l1 x5_1).f0), .string ((rd_T29 l1 x5_1).f1), .slice A331_2 ((rd_T29 l1 x5_1).f2).length c331_2, .slice A331_3 ((rd_T29 l1 x5_1).f3).length c331_3, .slice A331_4 ((rd_T29 l1 x5_1).f4).length c331_4, .int .i64 ((rd_T29 l1 x5_1).f5)] 29 (0, 0)) (by (with_reducible repeat (first | refine blk_drewN ?_ _ | refine blk_drew ?_ | refine blk_alloc ?_ _)); refine blk_put (cs := #[.string ((rd_T29 l1 x5_1).f0), .string ((rd_T29 l1 x5_1).f1), .slice A331_2 ((rd_T29 l1 x5_1).f2).length c331_2, .slice A331_3 ((rd_T29 l1 x5_1).f3).length c331_3, .slice A331_4 ((rd_T29 l1 x5_1).f4).length c331_4, .int .i64 0]) ?_ 5 _ rfl; (with_reducible repeat (first | refine blk_drewN ?_ _ | refine blk_drew ?_ | refine blk_alloc ?_ _)); refine blk_put (cs := #[.string ((rd_T29 l1 x5_1).f0), .string ((rd_T29 l1 x5_1).f1), .slice A331_2 ((rd_T29 l1 x5_1).f2).length c331_2, .slice A331_3 ((rd_T29 l1 x5_1).f3).length c331_3, .slice none 0 0, .int .i64 0]) ?_ 4 _ rfl; (with_reducible repeat (first | refine blk_drewN ?_ _ | refine blk_drew ?_ | refine blk_alloc ?_ _)); refine blk_put (cs := #[.string ((rd_T29 l1 x5_1).f0), .string ((rd_T29 l1 x5_1).f1), .slice A331_2 ((rd_T29 l1 x5_1).f2).length c331_2, .slice none 0 0, .slice none 0 0, .int .i64 0]) ?_ 3 _ rfl; (with_reducible repeat (first | refine blk_drewN ?_ _ | refine blk_drew ?_ | refine blk_alloc ?_ _)); refine blk_put (cs := #[.string ((rd_T29 l1 x5_1).f0), .string ((rd_T29 l1 x5_1).f1), .slice none 0 0, .slice none 0 0, .slice none 0 0, .int .i64 0]) ?_ 2 _ rfl; (with_reducible repeat (first | refine blk_drewN ?_ _ | refine blk_drew ?_ | refine blk_alloc ?_ _)); refine blk_put (cs := #[.string ((rd_T29 l1 x5_1).f0), .string (⟨#[]⟩ : ByteArray), .slice none 0 0, .slice none 0 0, .slice none 0 0, .int .i64 0]) ?_ 1 _ rfl; (with_reducible repeat (first | refine blk_drewN ?_ _ | refine blk_drew ?_ | refine blk_alloc ?_ _)); refine blk_put (cs := #[.string (⟨#[]⟩ : ByteArray), .string (⟨#[]⟩ : ByteArray), .slice none 0 0, .slice none 0 0, .slice none 0 0, .int .i64 0]) ?_ 0 _ rfl; (with_reducible repeat (first | refine blk_drewN ?_ _ | refine blk_drew ?_ | refine blk_alloc ?_ _)); exact BK332.out) hb); have n2_ := Aside0.mk (below_step (by repeat (first | (with_reducible first | exact HB.out | apply below_alloc | apply pw_below_drewN | apply below_drew1 | refine below_set ?_ GE330.out | refine below_set ?_ GE332.out) | exact HB.out)) hb); clear BK330; clear BK332; clear HB; have BK330 := n0_; have BK332 := n1_; have HB := n2_; clear n0_ n1_ n2_; (try clear hb); (try clear hb2); (try clear hk); (try clear hi); have hcz23_0 : w22.cell? ⟨gb330, 0, none⟩ = some (.string ((rd_T29 l0 x5_1).f0)) := (blk_cell BK330.out 0).trans rfl; have hcz23_1 : w22.cell? ⟨gb330, 1, none⟩ = some (.string ((rd_T29 l0 x5_1).f1)) := (blk_cell BK330.out 1).trans rfl; have hcz23_2 : w22.cell? ⟨gb330, 2, none⟩ = some (.slice A329_2 ((rd_T29 l0 x5_1).f2).length c329_2) := (blk_cell BK330.out 2).trans rfl; have hcz23_3 : w22.cell? ⟨gb330, 3, none⟩ = some (.slice A329_3 ((rd_T29 l0 x5_1).f3).length c329_3) := (blk_cell BK330.out 3).trans rfl; have hcz23_4 : w22.cell? ⟨gb330, 4, none⟩ = some (.slice A329_4 ((rd_T29 l0 x5_1).f4).length c329_4) := (blk_cell BK330.out 4).trans rfl; have hcz23_5 : w22.cell? ⟨gb330, 5, none⟩ = some (.int .i64 ((rd_T29 l0 x5_1).f5)) := (blk_cell BK330.out 5).trans rfl; have hfz23_0 := blk_frozen BK330.out 0; have hfz23_1 := blk_frozen BK330.out 1; have hfz23_2 := blk_frozen BK330.out 2; have hfz23_3 := blk_frozen BK330.out 3; have hfz23_4 := blk_frozen BK330.out 4; have hfz23_5 := blk_frozen BK330.out 5; have hcz24_0 : w22.cell? ⟨gb332, 0, none⟩ = some (.string ((rd_T29 l1 x5_1).f0)) := (blk_cell BK332.out 0).trans rfl; have hcz24_1 : w22.cell? ⟨gb332, 1, none⟩ = some (.string ((rd_T29 l1 x5_1).f1)) := (blk_cell BK332.out 1).trans rfl; have hcz24_2 : w22.cell? ⟨gb332, 2, none⟩ = some (.slice A331_2 ((rd_T29 l1 x5_1).f2).length c331_2) := (blk_cell BK332.out 2).trans rfl; have hcz24_3 : w22.cell? ⟨gb332, 3, none⟩ = some (.slice A331_3 ((rd_T29 l1 x5_1).f3).length c331_3) := (blk_cell BK332.out 3).trans rfl; have hcz24_4 : w22.cell? ⟨gb332, 4, none⟩ = some (.slice A331_4 ((rd_T29 l1 x5_1).f4).length c331_4) := (blk_cell BK332.out 4).trans rfl; have hcz24_5 : w22.cell? ⟨gb332, 5, none⟩ = some (.int .i64 ((rd_T29 l1 x5_1).f5)) := (blk_cell BK332.out 5).trans rfl; have hfz24_0 := blk_frozen BK332.out 0; have hfz24_1 := blk_frozen BK332.out 1; have hfz24_2 := blk_frozen BK332.out 2; have hfz24_3 := blk_frozen BK332.out 3; have hfz24_4 := blk_frozen BK332.out 4; have hfz24_5 := blk_frozen BK332.out 5) | (go_at_call 25; (with_reducible refine (ih k1 (by have := HK1.out; omega) _ _ ((rd_T29 l0 x5_1).f4) _ _ ((rd_T29 l1 x5_1).f4) t334 _ ?side1 ?side2 ?side3 ?side4 A18.out).mono ?_); (case side1 => repeat (first | exact (Kd.C_below HR329_4.out HB.out) | (with_reducible refine Kd.C_alloc ?_ _) | (with_reducible refine Kd.C_drewN ?_ _) | (with_reducible refine Kd.C_drew ?_))); (case side2 => exact HC329_4.out); (case side3 => repeat (first | exact (Kd.C_below HR331_4.out HB.out) | (with_reducible refine Kd.C_alloc ?_ _) | (with_reducible refine Kd.C_drewN ?_ _) | (with_reducible refine Kd.C_drew ?_))); (case side4 => exact HC331_4.out); rintro e w25 ⟨rfl, hb⟩; have n0_ := Aside0.mk (blk_below (g := gb330) (o := .cells #[.string ((rd_T29 l0 x5_1).f0), .string ((rd_T29 l0 x5_1).f1), .slice A329_2 ((rd_T29 l0 x5_1).f2).length c329_2, .slice A329_3 ((rd_T29 l0 x5_1).f3).length c329_3, .slice A329_4 ((rd_T29 l0 x5_1).f4).length c329_4, .int .i64 ((rd_T29 l0 x5_1).f5)] 29 (0, 0)) (by (with_reducible repeat (first | refine blk_drewN ?_ _ | refine blk_drew ?_ | refine blk_alloc ?_ _)); exact BK330.out) hb); have n1_ := Aside0.mk (blk_below (g := gb332) (o := .cells #[.string ((rd_T29 l1 x5_1).f0), .string ((rd_T29 l1 x5_1).f1), .slice A331_2 ((rd_T29 l1 x5_1).f2).length c331_2, .slice A331_3 ((rd_T29 l1 x5_1).f3).length c331_3, .slice A331_4 ((rd_T29 l1 x5_1).f4).length c331_4, .int .i64 ((rd_T29 l1 x5_1).f5)] 29 (0, 0)) (by (with_reducible repeat (first | refine blk_drewN ?_ _ | refine blk_drew ?_ | refine blk_alloc ?_ _)); exact BK332.out) hb); have n2_ := Aside0.mk (below_step (by repeat (first | (with_reducible first | exact HB.out | apply below_alloc | apply pw_below_drewN | apply below_drew1 | refine below_set ?_ GE330.out | refine below_set ?_ GE332.out) | exact HB.out)) hb); clear BK330; clear BK332; clear HB; have BK330 := n0_; have BK332 := n1_; have HB := n2_; clear n0_ n1_ n2_; (try clear hb); (try clear hb2); (try clear hk); (try clear hi)))
                        go_meet
                        case rel => exact ⟨_, (!t334), (by first | rfl | (simp; done) | (simp [*]; done)), H', ⟨by have := HK1.out; first | omega | exact Nat.le_refl _⟩, ⟨by (with_reducible repeat (first | refine blk_drewN ?_ _ | refine blk_drew ?_ | refine blk_alloc ?_ _)); exact BK330.out⟩, ⟨by (with_reducible repeat (first | refine blk_drewN ?_ _ | refine blk_drew ?_ | refine blk_alloc ?_ _)); exact BK332.out⟩, ⟨by repeat (first | (with_reducible first | exact HB.out | apply below_alloc | apply pw_below_drewN | apply below_drew1 | refine below_set ?_ GE330.out | refine below_set ?_ GE332.out) | exact HB.out)⟩⟩
                      · replace c17 := Bool.eq_false_iff.mpr c17
                        subst c17
                        have H1 : (helmsmanref12_SameStmts.j1 k1 l0 l1 x5_1 true ((rd_T29 l0 x5_1).f0) ((rd_T29 l0 x5_1).f1) ((rd_T29 l0 x5_1).f2) ((rd_T29 l0 x5_1).f3) ((rd_T29 l0 x5_1).f4) ((rd_T29 l0 x5_1).f5) ((rd_T29 l1 x5_1).f0) ((rd_T29 l1 x5_1).f1) ((rd_T29 l1 x5_1).f2) ((rd_T29 l1 x5_1).f3) ((rd_T29 l1 x5_1).f4) ((rd_T29 l1 x5_1).f5)) = some r := by rw [if_neg (show ¬ (false = true) by decide)] at H; exact H
                        clear H
                        have H := H1
                        clear H1
                        have H' := Aside0.mk H
                        clear H
                        have hnb26 := NB330_332.out
                        have hnc26 := NB332_330.out
                        have hcz27_0 : w10.cell? ⟨gb330, 0, none⟩ = some (.string ((rd_T29 l0 x5_1).f0)) := (blk_cell BK330.out 0).trans rfl
                        have hcz27_1 : w10.cell? ⟨gb330, 1, none⟩ = some (.string ((rd_T29 l0 x5_1).f1)) := (blk_cell BK330.out 1).trans rfl
                        have hcz27_2 : w10.cell? ⟨gb330, 2, none⟩ = some (.slice A329_2 ((rd_T29 l0 x5_1).f2).length c329_2) := (blk_cell BK330.out 2).trans rfl
                        have hcz27_3 : w10.cell? ⟨gb330, 3, none⟩ = some (.slice A329_3 ((rd_T29 l0 x5_1).f3).length c329_3) := (blk_cell BK330.out 3).trans rfl
                        have hcz27_4 : w10.cell? ⟨gb330, 4, none⟩ = some (.slice A329_4 ((rd_T29 l0 x5_1).f4).length c329_4) := (blk_cell BK330.out 4).trans rfl
                        have hcz27_5 : w10.cell? ⟨gb330, 5, none⟩ = some (.int .i64 ((rd_T29 l0 x5_1).f5)) := (blk_cell BK330.out 5).trans rfl
                        have hfz27_0 := blk_frozen BK330.out 0
                        have hfz27_1 := blk_frozen BK330.out 1
                        have hfz27_2 := blk_frozen BK330.out 2
                        have hfz27_3 := blk_frozen BK330.out 3
                        have hfz27_4 := blk_frozen BK330.out 4
                        have hfz27_5 := blk_frozen BK330.out 5
                        have hcz28_0 : w10.cell? ⟨gb332, 0, none⟩ = some (.string (⟨#[]⟩ : ByteArray)) := (blk_cell BK332.out 0).trans rfl
                        have hcz28_1 : w10.cell? ⟨gb332, 1, none⟩ = some (.string (⟨#[]⟩ : ByteArray)) := (blk_cell BK332.out 1).trans rfl
                        have hcz28_2 : w10.cell? ⟨gb332, 2, none⟩ = some (.slice none 0 0) := (blk_cell BK332.out 2).trans rfl
                        have hcz28_3 : w10.cell? ⟨gb332, 3, none⟩ = some (.slice none 0 0) := (blk_cell BK332.out 3).trans rfl
                        have hcz28_4 : w10.cell? ⟨gb332, 4, none⟩ = some (.slice none 0 0) := (blk_cell BK332.out 4).trans rfl
                        have hcz28_5 : w10.cell? ⟨gb332, 5, none⟩ = some (.int .i64 0) := (blk_cell BK332.out 5).trans rfl
                        have hfz28_0 := blk_frozen BK332.out 0
                        have hfz28_1 := blk_frozen BK332.out 1
                        have hfz28_2 := blk_frozen BK332.out 2
                        have hfz28_3 := blk_frozen BK332.out 3
                        have hfz28_4 := blk_frozen BK332.out 4
                        have hfz28_5 := blk_frozen BK332.out 5
                        go_wp2_with (first | (go_at_call 25; (with_reducible refine (ih k1 (by have := HK1.out; omega) _ _ ((rd_T29 l0 x5_1).f3) _ _ ((rd_T29 l1 x5_1).f3) false _ ?side1 ?side2 ?side3 ?side4 A16.out).mono ?_); (case side1 => exact Kd.C_below HR329_3.out (by repeat (first | (with_reducible first | exact HB.out | apply below_alloc | apply pw_below_drewN | apply below_drew1 | refine below_set ?_ GE330.out | refine below_set ?_ GE332.out) | exact HB.out))); (case side2 => exact HC329_3.out); (case side3 => exact Kd.C_below HR331_3.out (by repeat (first | (with_reducible first | exact HB.out | apply below_alloc | apply pw_below_drewN | apply below_drew1 | refine below_set ?_ GE330.out | refine below_set ?_ GE332.out) | exact HB.out))); (case side4 => exact HC331_3.out); rintro e w29 ⟨rfl, hb⟩; have n0_ := Aside0.mk (blk_below (g := gb330) (o := .cells #[.string ((rd_T29 l0 x5_1).f0), .string ((rd_T29 l0 x5_1).f1), .slice A329_2 ((rd_T29 l0 x5_1).f2).length c329_2, .slice A329_3 ((rd_T29 l0 x5_1).f3).length c329_3, .slice A329_4 ((rd_T29 l0 x5_1).f4).length c329_4, .int .i64 ((rd_T29 l0 x5_1).f5)] 29 (0, 0)) (by (with_reducible repeat (first | refine blk_drewN ?_ _ | refine blk_drew ?_ | refine blk_alloc ?_ _)); refine blk_far ?_ NB330_332.out _; (with_reducible repeat (first | refine blk_drewN ?_ _ | refine blk_drew ?_ | refine blk_alloc ?_ _)); refine blk_far ?_ NB330_332.out _; (with_reducible repeat (first | refine blk_drewN ?_ _ | refine blk_drew ?_ | refine blk_alloc ?_ _)); refine blk_far ?_ NB330_332.out _; (with_reducible repeat (first | refine blk_drewN ?_ _ | refine blk_drew ?_ | refine blk_alloc ?_ _)); refine blk_far ?_ NB330_332.out _; (with_reducible repeat (first | refine blk_drewN ?_ _ | refine blk_drew ?_ | refine blk_alloc ?_ _)); refine blk_far ?_ NB330_332.out _; (with_reducible repeat (first | refine blk_drewN ?_ _ | refine blk_drew ?_ | refine blk_alloc ?_ _)); refine blk_far ?_ NB330_332.out _; (with_reducible repeat (first | refine blk_drewN ?_ _ | refine blk_drew ?_ | refine blk_alloc ?_ _)); exact BK330.out) hb); have n1_ := Aside0.mk (blk_below (g := gb332) (o := .cells #[.string ((rd_T29 l1 x5_1).f0), .string ((rd_T29 l1 x5_1).f1), .slice A331_2 ((rd_T29 l1 x5_1).f2).length c331_2, .slice A331_3 ((rd_T29 l1 x5_1).f3).length c331_3, .slice A331_4 ((rd_T29 l1 x5_1).f4).length c331_4, .int .i64 ((rd_T29 l1 x5_1).f5)] 29 (0, 0)) (by (with_reducible repeat (first | refine blk_drewN ?_ _ | refine blk_drew ?_ | refine blk_alloc ?_ _)); refine blk_put (cs := #[.string ((rd_T29 l1 x5_1).f0), .string ((rd_T29 l1 x5_1).f1), .slice A331_2 ((rd_T29 l1 x5_1).f2).length c331_2, .slice A331_3 ((rd_T29 l1 x5_1).f3).length c331_3, .slice A331_4 ((rd_T29 l1 x5_1).f4).length c331_4, .int .i64 0]) ?_ 5 _ rfl; (with_reducible repeat (first | refine blk_drewN ?_ _ | refine blk_drew ?_ | refine blk_alloc ?_ _)); refine blk_put (cs := #[.string ((rd_T29 l1 x5_1).f0), .string ((rd_T29 l1 x5_1).f1), .slice A331_2 ((rd_T29 l1 x5_1).f2).length c331_2, .slice A331_3 ((rd_T29 l1 x5_1).f3).length c331_3, .slice none 0 0, .int .i64 0]) ?_ 4 _ rfl; (with_reducible repeat (first | refine blk_drewN ?_ _ | refine blk_drew ?_ | refine blk_alloc ?_ _)); refine blk_put (cs := #[.string ((rd_T29 l1 x5_1).f0), .string ((rd_T29 l1 x5_1).f1), .slice A331_2 ((rd_T29 l1 x5_1).f2).length c331_2, .slice none 0 0, .slice none 0 0, .int .i64 0]) ?_ 3 _ rfl; (with_reducible repeat (first | refine blk_drewN ?_ _ | refine blk_drew ?_ | refine blk_alloc ?_ _)); refine blk_put (cs := #[.string ((rd_T29 l1 x5_1).f0), .string ((rd_T29 l1 x5_1).f1), .slice none 0 0, .slice none 0 0, .slice none 0 0, .int .i64 0]) ?_ 2 _ rfl; (with_reducible repeat (first | refine blk_drewN ?_ _ | refine blk_drew ?_ | refine blk_alloc ?_ _)); refine blk_put (cs := #[.string ((rd_T29 l1 x5_1).f0), .string (⟨#[]⟩ : ByteArray), .slice none 0 0, .slice none 0 0, .slice none 0 0, .int .i64 0]) ?_ 1 _ rfl; (with_reducible repeat (first | refine blk_drewN ?_ _ | refine blk_drew ?_ | refine blk_alloc ?_ _)); refine blk_put (cs := #[.string (⟨#[]⟩ : ByteArray), .string (⟨#[]⟩ : ByteArray), .slice none 0 0, .slice none 0 0, .slice none 0 0, .int .i64 0]) ?_ 0 _ rfl; (with_reducible repeat (first | refine blk_drewN ?_ _ | refine blk_drew ?_ | refine blk_alloc ?_ _)); exact BK332.out) hb); have n2_ := Aside0.mk (below_step (by repeat (first | (with_reducible first | exact HB.out | apply below_alloc | apply pw_below_drewN | apply below_drew1 | refine below_set ?_ GE330.out | refine below_set ?_ GE332.out) | exact HB.out)) hb); clear BK330; clear BK332; clear HB; have BK330 := n0_; have BK332 := n1_; have HB := n2_; clear n0_ n1_ n2_; (try clear hb); (try clear hb2); (try clear hk); (try clear hi)))
                        go_meet
                        case rel => exact ⟨_, (true), (by first | rfl | (simp; done) | (simp [*]; done)), H', ⟨by have := HK1.out; first | omega | exact Nat.le_refl _⟩, ⟨by (with_reducible repeat (first | refine blk_drewN ?_ _ | refine blk_drew ?_ | refine blk_alloc ?_ _)); exact BK330.out⟩, ⟨by (with_reducible repeat (first | refine blk_drewN ?_ _ | refine blk_drew ?_ | refine blk_alloc ?_ _)); exact BK332.out⟩, ⟨by repeat (first | (with_reducible first | exact HB.out | apply below_alloc | apply pw_below_drewN | apply below_drew1 | refine below_set ?_ GE330.out | refine below_set ?_ GE332.out) | exact HB.out)⟩⟩
                    · rw [if_neg c15] at H
                      have c15b0 : ((((rd_T29 l0 x5_1).f2).length : Int) == (((rd_T29 l1 x5_1).f2).length : Int)) = false := beq_eq_false_iff_ne.mpr c15
                      have c15b1 : ((((rd_T29 l0 x5_1).f2).length : Int) != (((rd_T29 l1 x5_1).f2).length : Int)) = true := bne_iff_ne.mpr c15
                      have c15b2 : (((rd_T29 l0 x5_1).f2).length == ((rd_T29 l1 x5_1).f2).length) = false := by first | simpa using c15 | (simp at c15 ⊢; omega)
                      have H' := Aside0.mk H
                      clear H
                      have hnb30 := NB330_332.out
                      have hnc30 := NB332_330.out
                      have hcz31_0 : w10.cell? ⟨gb330, 0, none⟩ = some (.string ((rd_T29 l0 x5_1).f0)) := (blk_cell BK330.out 0).trans rfl
                      have hcz31_1 : w10.cell? ⟨gb330, 1, none⟩ = some (.string ((rd_T29 l0 x5_1).f1)) := (blk_cell BK330.out 1).trans rfl
                      have hcz31_2 : w10.cell? ⟨gb330, 2, none⟩ = some (.slice A329_2 ((rd_T29 l0 x5_1).f2).length c329_2) := (blk_cell BK330.out 2).trans rfl
                      have hcz31_3 : w10.cell? ⟨gb330, 3, none⟩ = some (.slice A329_3 ((rd_T29 l0 x5_1).f3).length c329_3) := (blk_cell BK330.out 3).trans rfl
                      have hcz31_4 : w10.cell? ⟨gb330, 4, none⟩ = some (.slice A329_4 ((rd_T29 l0 x5_1).f4).length c329_4) := (blk_cell BK330.out 4).trans rfl
                      have hcz31_5 : w10.cell? ⟨gb330, 5, none⟩ = some (.int .i64 ((rd_T29 l0 x5_1).f5)) := (blk_cell BK330.out 5).trans rfl
                      have hfz31_0 := blk_frozen BK330.out 0
                      have hfz31_1 := blk_frozen BK330.out 1
                      have hfz31_2 := blk_frozen BK330.out 2
                      have hfz31_3 := blk_frozen BK330.out 3
                      have hfz31_4 := blk_frozen BK330.out 4
                      have hfz31_5 := blk_frozen BK330.out 5
                      have hcz32_0 : w10.cell? ⟨gb332, 0, none⟩ = some (.string (⟨#[]⟩ : ByteArray)) := (blk_cell BK332.out 0).trans rfl
                      have hcz32_1 : w10.cell? ⟨gb332, 1, none⟩ = some (.string (⟨#[]⟩ : ByteArray)) := (blk_cell BK332.out 1).trans rfl
                      have hcz32_2 : w10.cell? ⟨gb332, 2, none⟩ = some (.slice none 0 0) := (blk_cell BK332.out 2).trans rfl
                      have hcz32_3 : w10.cell? ⟨gb332, 3, none⟩ = some (.slice none 0 0) := (blk_cell BK332.out 3).trans rfl
                      have hcz32_4 : w10.cell? ⟨gb332, 4, none⟩ = some (.slice none 0 0) := (blk_cell BK332.out 4).trans rfl
                      have hcz32_5 : w10.cell? ⟨gb332, 5, none⟩ = some (.int .i64 0) := (blk_cell BK332.out 5).trans rfl
                      have hfz32_0 := blk_frozen BK332.out 0
                      have hfz32_1 := blk_frozen BK332.out 1
                      have hfz32_2 := blk_frozen BK332.out 2
                      have hfz32_3 := blk_frozen BK332.out 3
                      have hfz32_4 := blk_frozen BK332.out 4
                      have hfz32_5 := blk_frozen BK332.out 5
                      go_wp2
                      go_meet
                      case rel => exact ⟨_, (true), (by first | rfl | (simp; done) | (simp [*]; done)), H', ⟨by have := HK1.out; first | omega | exact Nat.le_refl _⟩, ⟨by (with_reducible repeat (first | refine blk_drewN ?_ _ | refine blk_drew ?_ | refine blk_alloc ?_ _)); refine blk_far ?_ NB330_332.out _; (with_reducible repeat (first | refine blk_drewN ?_ _ | refine blk_drew ?_ | refine blk_alloc ?_ _)); refine blk_far ?_ NB330_332.out _; (with_reducible repeat (first | refine blk_drewN ?_ _ | refine blk_drew ?_ | refine blk_alloc ?_ _)); refine blk_far ?_ NB330_332.out _; (with_reducible repeat (first | refine blk_drewN ?_ _ | refine blk_drew ?_ | refine blk_alloc ?_ _)); refine blk_far ?_ NB330_332.out _; (with_reducible repeat (first | refine blk_drewN ?_ _ | refine blk_drew ?_ | refine blk_alloc ?_ _)); refine blk_far ?_ NB330_332.out _; (with_reducible repeat (first | refine blk_drewN ?_ _ | refine blk_drew ?_ | refine blk_alloc ?_ _)); refine blk_far ?_ NB330_332.out _; (with_reducible repeat (first | refine blk_drewN ?_ _ | refine blk_drew ?_ | refine blk_alloc ?_ _)); exact BK330.out⟩, ⟨by (with_reducible repeat (first | refine blk_drewN ?_ _ | refine blk_drew ?_ | refine blk_alloc ?_ _)); refine blk_put (cs := #[.string ((rd_T29 l1 x5_1).f0), .string ((rd_T29 l1 x5_1).f1), .slice A331_2 ((rd_T29 l1 x5_1).f2).length c331_2, .slice A331_3 ((rd_T29 l1 x5_1).f3).length c331_3, .slice A331_4 ((rd_T29 l1 x5_1).f4).length c331_4, .int .i64 0]) ?_ 5 _ rfl; (with_reducible repeat (first | refine blk_drewN ?_ _ | refine blk_drew ?_ | refine blk_alloc ?_ _)); refine blk_put (cs := #[.string ((rd_T29 l1 x5_1).f0), .string ((rd_T29 l1 x5_1).f1), .slice A331_2 ((rd_T29 l1 x5_1).f2).length c331_2, .slice A331_3 ((rd_T29 l1 x5_1).f3).length c331_3, .slice none 0 0, .int .i64 0]) ?_ 4 _ rfl; (with_reducible repeat (first | refine blk_drewN ?_ _ | refine blk_drew ?_ | refine blk_alloc ?_ _)); refine blk_put (cs := #[.string ((rd_T29 l1 x5_1).f0), .string ((rd_T29 l1 x5_1).f1), .slice A331_2 ((rd_T29 l1 x5_1).f2).length c331_2, .slice none 0 0, .slice none 0 0, .int .i64 0]) ?_ 3 _ rfl; (with_reducible repeat (first | refine blk_drewN ?_ _ | refine blk_drew ?_ | refine blk_alloc ?_ _)); refine blk_put (cs := #[.string ((rd_T29 l1 x5_1).f0), .string ((rd_T29 l1 x5_1).f1), .slice none 0 0, .slice none 0 0, .slice none 0 0, .int .i64 0]) ?_ 2 _ rfl; (with_reducible repeat (first | refine blk_drewN ?_ _ | refine blk_drew ?_ | refine blk_alloc ?_ _)); refine blk_put (cs := #[.string ((rd_T29 l1 x5_1).f0), .string (⟨#[]⟩ : ByteArray), .slice none 0 0, .slice none 0 0, .slice none 0 0, .int .i64 0]) ?_ 1 _ rfl; (with_reducible repeat (first | refine blk_drewN ?_ _ | refine blk_drew ?_ | refine blk_alloc ?_ _)); refine blk_put (cs := #[.string (⟨#[]⟩ : ByteArray), .string (⟨#[]⟩ : ByteArray), .slice none 0 0, .slice none 0 0, .slice none 0 0, .int .i64 0]) ?_ 0 _ rfl; (with_reducible repeat (first | refine blk_drewN ?_ _ | refine blk_drew ?_ | refine blk_alloc ?_ _)); exact BK332.out⟩, ⟨by repeat (first | (with_reducible first | exact HB.out | apply below_alloc | apply pw_below_drewN | apply below_drew1 | refine below_set ?_ GE330.out | refine below_set ?_ GE332.out) | exact HB.out)⟩⟩
                  · rw [if_neg c14] at H
                    have c14b0 : (((rd_T29 l0 x5_1).f1).toList == ((rd_T29 l1 x5_1).f1).toList) = false := beq_eq_false_iff_ne.mpr c14
                    have c14b1 : (((rd_T29 l0 x5_1).f1).toList != ((rd_T29 l1 x5_1).f1).toList) = true := bne_iff_ne.mpr c14
                    have H' := Aside0.mk H
                    clear H
                    have hnb33 := NB330_332.out
                    have hnc33 := NB332_330.out
                    have hcz34_0 : w10.cell? ⟨gb330, 0, none⟩ = some (.string ((rd_T29 l0 x5_1).f0)) := (blk_cell BK330.out 0).trans rfl
                    have hcz34_1 : w10.cell? ⟨gb330, 1, none⟩ = some (.string ((rd_T29 l0 x5_1).f1)) := (blk_cell BK330.out 1).trans rfl
                    have hcz34_2 : w10.cell? ⟨gb330, 2, none⟩ = some (.slice A329_2 ((rd_T29 l0 x5_1).f2).length c329_2) := (blk_cell BK330.out 2).trans rfl
                    have hcz34_3 : w10.cell? ⟨gb330, 3, none⟩ = some (.slice A329_3 ((rd_T29 l0 x5_1).f3).length c329_3) := (blk_cell BK330.out 3).trans rfl
                    have hcz34_4 : w10.cell? ⟨gb330, 4, none⟩ = some (.slice A329_4 ((rd_T29 l0 x5_1).f4).length c329_4) := (blk_cell BK330.out 4).trans rfl
                    have hcz34_5 : w10.cell? ⟨gb330, 5, none⟩ = some (.int .i64 ((rd_T29 l0 x5_1).f5)) := (blk_cell BK330.out 5).trans rfl
                    have hfz34_0 := blk_frozen BK330.out 0
                    have hfz34_1 := blk_frozen BK330.out 1
                    have hfz34_2 := blk_frozen BK330.out 2
                    have hfz34_3 := blk_frozen BK330.out 3
                    have hfz34_4 := blk_frozen BK330.out 4
                    have hfz34_5 := blk_frozen BK330.out 5
                    have hcz35_0 : w10.cell? ⟨gb332, 0, none⟩ = some (.string (⟨#[]⟩ : ByteArray)) := (blk_cell BK332.out 0).trans rfl
                    have hcz35_1 : w10.cell? ⟨gb332, 1, none⟩ = some (.string (⟨#[]⟩ : ByteArray)) := (blk_cell BK332.out 1).trans rfl
                    have hcz35_2 : w10.cell? ⟨gb332, 2, none⟩ = some (.slice none 0 0) := (blk_cell BK332.out 2).trans rfl
                    have hcz35_3 : w10.cell? ⟨gb332, 3, none⟩ = some (.slice none 0 0) := (blk_cell BK332.out 3).trans rfl
                    have hcz35_4 : w10.cell? ⟨gb332, 4, none⟩ = some (.slice none 0 0) := (blk_cell BK332.out 4).trans rfl
                    have hcz35_5 : w10.cell? ⟨gb332, 5, none⟩ = some (.int .i64 0) := (blk_cell BK332.out 5).trans rfl
                    have hfz35_0 := blk_frozen BK332.out 0
                    have hfz35_1 := blk_frozen BK332.out 1
                    have hfz35_2 := blk_frozen BK332.out 2
                    have hfz35_3 := blk_frozen BK332.out 3
                    have hfz35_4 := blk_frozen BK332.out 4
                    have hfz35_5 := blk_frozen BK332.out 5
                    go_wp2
                    go_meet
                    case rel => exact ⟨_, (true), (by first | rfl | (simp; done) | (simp [*]; done)), H', ⟨by have := HK1.out; first | omega | exact Nat.le_refl _⟩, ⟨by (with_reducible repeat (first | refine blk_drewN ?_ _ | refine blk_drew ?_ | refine blk_alloc ?_ _)); refine blk_far ?_ NB330_332.out _; (with_reducible repeat (first | refine blk_drewN ?_ _ | refine blk_drew ?_ | refine blk_alloc ?_ _)); refine blk_far ?_ NB330_332.out _; (with_reducible repeat (first | refine blk_drewN ?_ _ | refine blk_drew ?_ | refine blk_alloc ?_ _)); refine blk_far ?_ NB330_332.out _; (with_reducible repeat (first | refine blk_drewN ?_ _ | refine blk_drew ?_ | refine blk_alloc ?_ _)); refine blk_far ?_ NB330_332.out _; (with_reducible repeat (first | refine blk_drewN ?_ _ | refine blk_drew ?_ | refine blk_alloc ?_ _)); refine blk_far ?_ NB330_332.out _; (with_reducible repeat (first | refine blk_drewN ?_ _ | refine blk_drew ?_ | refine blk_alloc ?_ _)); refine blk_far ?_ NB330_332.out _; (with_reducible repeat (first | refine blk_drewN ?_ _ | refine blk_drew ?_ | refine blk_alloc ?_ _)); exact BK330.out⟩, ⟨by (with_reducible repeat (first | refine blk_drewN ?_ _ | refine blk_drew ?_ | refine blk_alloc ?_ _)); refine blk_put (cs := #[.string ((rd_T29 l1 x5_1).f0), .string ((rd_T29 l1 x5_1).f1), .slice A331_2 ((rd_T29 l1 x5_1).f2).length c331_2, .slice A331_3 ((rd_T29 l1 x5_1).f3).length c331_3, .slice A331_4 ((rd_T29 l1 x5_1).f4).length c331_4, .int .i64 0]) ?_ 5 _ rfl; (with_reducible repeat (first | refine blk_drewN ?_ _ | refine blk_drew ?_ | refine blk_alloc ?_ _)); refine blk_put (cs := #[.string ((rd_T29 l1 x5_1).f0), .string ((rd_T29 l1 x5_1).f1), .slice A331_2 ((rd_T29 l1 x5_1).f2).length c331_2, .slice A331_3 ((rd_T29 l1 x5_1).f3).length c331_3, .slice none 0 0, .int .i64 0]) ?_ 4 _ rfl; (with_reducible repeat (first | refine blk_drewN ?_ _ | refine blk_drew ?_ | refine blk_alloc ?_ _)); refine blk_put (cs := #[.string ((rd_T29 l1 x5_1).f0), .string ((rd_T29 l1 x5_1).f1), .slice A331_2 ((rd_T29 l1 x5_1).f2).length c331_2, .slice none 0 0, .slice none 0 0, .int .i64 0]) ?_ 3 _ rfl; (with_reducible repeat (first | refine blk_drewN ?_ _ | refine blk_drew ?_ | refine blk_alloc ?_ _)); refine blk_put (cs := #[.string ((rd_T29 l1 x5_1).f0), .string ((rd_T29 l1 x5_1).f1), .slice none 0 0, .slice none 0 0, .slice none 0 0, .int .i64 0]) ?_ 2 _ rfl; (with_reducible repeat (first | refine blk_drewN ?_ _ | refine blk_drew ?_ | refine blk_alloc ?_ _)); refine blk_put (cs := #[.string ((rd_T29 l1 x5_1).f0), .string (⟨#[]⟩ : ByteArray), .slice none 0 0, .slice none 0 0, .slice none 0 0, .int .i64 0]) ?_ 1 _ rfl; (with_reducible repeat (first | refine blk_drewN ?_ _ | refine blk_drew ?_ | refine blk_alloc ?_ _)); refine blk_put (cs := #[.string (⟨#[]⟩ : ByteArray), .string (⟨#[]⟩ : ByteArray), .slice none 0 0, .slice none 0 0, .slice none 0 0, .int .i64 0]) ?_ 0 _ rfl; (with_reducible repeat (first | refine blk_drewN ?_ _ | refine blk_drew ?_ | refine blk_alloc ?_ _)); exact BK332.out⟩, ⟨by repeat (first | (with_reducible first | exact HB.out | apply below_alloc | apply pw_below_drewN | apply below_drew1 | refine below_set ?_ GE330.out | refine below_set ?_ GE332.out) | exact HB.out)⟩⟩
                · rw [if_neg c13] at H
                  have c13b0 : (((rd_T29 l0 x5_1).f0).toList == ((rd_T29 l1 x5_1).f0).toList) = false := beq_eq_false_iff_ne.mpr c13
                  have c13b1 : (((rd_T29 l0 x5_1).f0).toList != ((rd_T29 l1 x5_1).f0).toList) = true := bne_iff_ne.mpr c13
                  (first | rw [c13b0] | (simp only [i64_w, i32_w]; rw [c13b0]) | skip)
                  have H' := Aside0.mk H
                  clear H
                  have hnb36 := NB330_332.out
                  have hnc36 := NB332_330.out
                  have hcz37_0 : w10.cell? ⟨gb330, 0, none⟩ = some (.string ((rd_T29 l0 x5_1).f0)) := (blk_cell BK330.out 0).trans rfl
                  have hcz37_1 : w10.cell? ⟨gb330, 1, none⟩ = some (.string ((rd_T29 l0 x5_1).f1)) := (blk_cell BK330.out 1).trans rfl
                  have hcz37_2 : w10.cell? ⟨gb330, 2, none⟩ = some (.slice A329_2 ((rd_T29 l0 x5_1).f2).length c329_2) := (blk_cell BK330.out 2).trans rfl
                  have hcz37_3 : w10.cell? ⟨gb330, 3, none⟩ = some (.slice A329_3 ((rd_T29 l0 x5_1).f3).length c329_3) := (blk_cell BK330.out 3).trans rfl
                  have hcz37_4 : w10.cell? ⟨gb330, 4, none⟩ = some (.slice A329_4 ((rd_T29 l0 x5_1).f4).length c329_4) := (blk_cell BK330.out 4).trans rfl
                  have hcz37_5 : w10.cell? ⟨gb330, 5, none⟩ = some (.int .i64 ((rd_T29 l0 x5_1).f5)) := (blk_cell BK330.out 5).trans rfl
                  have hfz37_0 := blk_frozen BK330.out 0
                  have hfz37_1 := blk_frozen BK330.out 1
                  have hfz37_2 := blk_frozen BK330.out 2
                  have hfz37_3 := blk_frozen BK330.out 3
                  have hfz37_4 := blk_frozen BK330.out 4
                  have hfz37_5 := blk_frozen BK330.out 5
                  have hcz38_0 : w10.cell? ⟨gb332, 0, none⟩ = some (.string (⟨#[]⟩ : ByteArray)) := (blk_cell BK332.out 0).trans rfl
                  have hcz38_1 : w10.cell? ⟨gb332, 1, none⟩ = some (.string (⟨#[]⟩ : ByteArray)) := (blk_cell BK332.out 1).trans rfl
                  have hcz38_2 : w10.cell? ⟨gb332, 2, none⟩ = some (.slice none 0 0) := (blk_cell BK332.out 2).trans rfl
                  have hcz38_3 : w10.cell? ⟨gb332, 3, none⟩ = some (.slice none 0 0) := (blk_cell BK332.out 3).trans rfl
                  have hcz38_4 : w10.cell? ⟨gb332, 4, none⟩ = some (.slice none 0 0) := (blk_cell BK332.out 4).trans rfl
                  have hcz38_5 : w10.cell? ⟨gb332, 5, none⟩ = some (.int .i64 0) := (blk_cell BK332.out 5).trans rfl
                  have hfz38_0 := blk_frozen BK332.out 0
                  have hfz38_1 := blk_frozen BK332.out 1
                  have hfz38_2 := blk_frozen BK332.out 2
                  have hfz38_3 := blk_frozen BK332.out 3
                  have hfz38_4 := blk_frozen BK332.out 4
                  have hfz38_5 := blk_frozen BK332.out 5
                  go_wp2
                  go_meet
                  case rel => exact ⟨_, (true), (by first | rfl | (simp; done) | (simp [*]; done)), H', ⟨by have := HK1.out; first | omega | exact Nat.le_refl _⟩, ⟨by (with_reducible repeat (first | refine blk_drewN ?_ _ | refine blk_drew ?_ | refine blk_alloc ?_ _)); refine blk_far ?_ NB330_332.out _; (with_reducible repeat (first | refine blk_drewN ?_ _ | refine blk_drew ?_ | refine blk_alloc ?_ _)); refine blk_far ?_ NB330_332.out _; (with_reducible repeat (first | refine blk_drewN ?_ _ | refine blk_drew ?_ | refine blk_alloc ?_ _)); refine blk_far ?_ NB330_332.out _; (with_reducible repeat (first | refine blk_drewN ?_ _ | refine blk_drew ?_ | refine blk_alloc ?_ _)); refine blk_far ?_ NB330_332.out _; (with_reducible repeat (first | refine blk_drewN ?_ _ | refine blk_drew ?_ | refine blk_alloc ?_ _)); refine blk_far ?_ NB330_332.out _; (with_reducible repeat (first | refine blk_drewN ?_ _ | refine blk_drew ?_ | refine blk_alloc ?_ _)); refine blk_far ?_ NB330_332.out _; (with_reducible repeat (first | refine blk_drewN ?_ _ | refine blk_drew ?_ | refine blk_alloc ?_ _)); exact BK330.out⟩, ⟨by (with_reducible repeat (first | refine blk_drewN ?_ _ | refine blk_drew ?_ | refine blk_alloc ?_ _)); refine blk_put (cs := #[.string ((rd_T29 l1 x5_1).f0), .string ((rd_T29 l1 x5_1).f1), .slice A331_2 ((rd_T29 l1 x5_1).f2).length c331_2, .slice A331_3 ((rd_T29 l1 x5_1).f3).length c331_3, .slice A331_4 ((rd_T29 l1 x5_1).f4).length c331_4, .int .i64 0]) ?_ 5 _ rfl; (with_reducible repeat (first | refine blk_drewN ?_ _ | refine blk_drew ?_ | refine blk_alloc ?_ _)); refine blk_put (cs := #[.string ((rd_T29 l1 x5_1).f0), .string ((rd_T29 l1 x5_1).f1), .slice A331_2 ((rd_T29 l1 x5_1).f2).length c331_2, .slice A331_3 ((rd_T29 l1 x5_1).f3).length c331_3, .slice none 0 0, .int .i64 0]) ?_ 4 _ rfl; (with_reducible repeat (first | refine blk_drewN ?_ _ | refine blk_drew ?_ | refine blk_alloc ?_ _)); refine blk_put (cs := #[.string ((rd_T29 l1 x5_1).f0), .string ((rd_T29 l1 x5_1).f1), .slice A331_2 ((rd_T29 l1 x5_1).f2).length c331_2, .slice none 0 0, .slice none 0 0, .int .i64 0]) ?_ 3 _ rfl; (with_reducible repeat (first | refine blk_drewN ?_ _ | refine blk_drew ?_ | refine blk_alloc ?_ _)); refine blk_put (cs := #[.string ((rd_T29 l1 x5_1).f0), .string ((rd_T29 l1 x5_1).f1), .slice none 0 0, .slice none 0 0, .slice none 0 0, .int .i64 0]) ?_ 2 _ rfl; (with_reducible repeat (first | refine blk_drewN ?_ _ | refine blk_drew ?_ | refine blk_alloc ?_ _)); refine blk_put (cs := #[.string ((rd_T29 l1 x5_1).f0), .string (⟨#[]⟩ : ByteArray), .slice none 0 0, .slice none 0 0, .slice none 0 0, .int .i64 0]) ?_ 1 _ rfl; (with_reducible repeat (first | refine blk_drewN ?_ _ | refine blk_drew ?_ | refine blk_alloc ?_ _)); refine blk_put (cs := #[.string (⟨#[]⟩ : ByteArray), .string (⟨#[]⟩ : ByteArray), .slice none 0 0, .slice none 0 0, .slice none 0 0, .int .i64 0]) ?_ 0 _ rfl; (with_reducible repeat (first | refine blk_drewN ?_ _ | refine blk_drew ?_ | refine blk_alloc ?_ _)); exact BK332.out⟩, ⟨by repeat (first | (with_reducible first | exact HB.out | apply below_alloc | apply pw_below_drewN | apply below_drew1 | refine below_set ?_ GE330.out | refine below_set ?_ GE332.out) | exact HB.out)⟩⟩
              case rest =>
                clear HC7
                try clear c1
                try clear c2
                try clear p2
                try clear c3
                try clear c3b0
                try clear c3b1
                try clear c3b2
                try clear p3
                try clear q3
                try clear hx3
                try clear c4
                try clear c4b0
                try clear c5
                try clear c5b0
                try clear c6
                try clear c6b0
                try clear c11
                try clear c13
                try clear c13b0
                try clear c13b1
                try clear c14
                try clear c14b0
                try clear c14b1
                try clear c15
                try clear c15b0
                try clear c15b1
                try clear c15b2
                try clear c17
                try clear c19
                try clear c25
                try clear c26
                try clear c30
                try clear c32
                try clear p32
                try clear q32
                try clear hx32
                try clear c33
                try clear p33
                try clear q33
                try clear hx33
                try clear c36
                try clear hcz12_0
                try clear hcz12_1
                try clear hcz12_2
                try clear hcz12_3
                try clear hcz12_4
                try clear hcz12_5
                try clear hcz20_0
                try clear hcz20_1
                try clear hcz20_2
                try clear hcz20_3
                try clear hcz20_4
                try clear hcz20_5
                try clear hcz21_0
                try clear hcz21_1
                try clear hcz21_2
                try clear hcz21_3
                try clear hcz21_4
                try clear hcz21_5
                try clear hcz23_0
                try clear hcz23_1
                try clear hcz23_2
                try clear hcz23_3
                try clear hcz23_4
                try clear hcz23_5
                try clear hcz24_0
                try clear hcz24_1
                try clear hcz24_2
                try clear hcz24_3
                try clear hcz24_4
                try clear hcz24_5
                try clear hcz27_0
                try clear hcz27_1
                try clear hcz27_2
                try clear hcz27_3
                try clear hcz27_4
                try clear hcz27_5
                try clear hcz28_0
                try clear hcz28_1
                try clear hcz28_2
                try clear hcz28_3
                try clear hcz28_4
                try clear hcz28_5
                try clear hcz31_0
                try clear hcz31_1
                try clear hcz31_2
                try clear hcz31_3
                try clear hcz31_4
                try clear hcz31_5
                try clear hcz32_0
                try clear hcz32_1
                try clear hcz32_2
                try clear hcz32_3
                try clear hcz32_4
                try clear hcz32_5
                try clear hcz34_0
                try clear hcz34_1
                try clear hcz34_2
                try clear hcz34_3
                try clear hcz34_4
                try clear hcz34_5
                try clear hcz35_0
                try clear hcz35_1
                try clear hcz35_2
                try clear hcz35_3
                try clear hcz35_4
                try clear hcz35_5
                try clear hcz37_0
                try clear hcz37_1
                try clear hcz37_2
                try clear hcz37_3
                try clear hcz37_4
                try clear hcz37_5
                try clear hcz38_0
                try clear hcz38_1
                try clear hcz38_2
                try clear hcz38_3
                try clear hcz38_4
                try clear hcz38_5
                try clear hcz9_0
                try clear hcz9_1
                try clear hcz9_2
                try clear hcz9_3
                try clear hcz9_4
                try clear hcz9_5
                try clear hfz12_0
                try clear hfz12_1
                try clear hfz12_2
                try clear hfz12_3
                try clear hfz12_4
                try clear hfz12_5
                try clear hfz20_0
                try clear hfz20_1
                try clear hfz20_2
                try clear hfz20_3
                try clear hfz20_4
                try clear hfz20_5
                try clear hfz21_0
                try clear hfz21_1
                try clear hfz21_2
                try clear hfz21_3
                try clear hfz21_4
                try clear hfz21_5
                try clear hfz23_0
                try clear hfz23_1
                try clear hfz23_2
                try clear hfz23_3
                try clear hfz23_4
                try clear hfz23_5
                try clear hfz24_0
                try clear hfz24_1
                try clear hfz24_2
                try clear hfz24_3
                try clear hfz24_4
                try clear hfz24_5
                try clear hfz27_0
                try clear hfz27_1
                try clear hfz27_2
                try clear hfz27_3
                try clear hfz27_4
                try clear hfz27_5
                try clear hfz28_0
                try clear hfz28_1
                try clear hfz28_2
                try clear hfz28_3
                try clear hfz28_4
                try clear hfz28_5
                try clear hfz31_0
                try clear hfz31_1
                try clear hfz31_2
                try clear hfz31_3
                try clear hfz31_4
                try clear hfz31_5
                try clear hfz32_0
                try clear hfz32_1
                try clear hfz32_2
                try clear hfz32_3
                try clear hfz32_4
                try clear hfz32_5
                try clear hfz34_0
                try clear hfz34_1
                try clear hfz34_2
                try clear hfz34_3
                try clear hfz34_4
                try clear hfz34_5
                try clear hfz35_0
                try clear hfz35_1
                try clear hfz35_2
                try clear hfz35_3
                try clear hfz35_4
                try clear hfz35_5
                try clear hfz37_0
                try clear hfz37_1
                try clear hfz37_2
                try clear hfz37_3
                try clear hfz37_4
                try clear hfz37_5
                try clear hfz38_0
                try clear hfz38_1
                try clear hfz38_2
                try clear hfz38_3
                try clear hfz38_4
                try clear hfz38_5
                try clear hfz9_0
                try clear hfz9_1
                try clear hfz9_2
                try clear hfz9_3
                try clear hfz9_4
                try clear hfz9_5
                try clear hx329_0
                try clear hx329_1
                try clear hx329_2
                try clear hx329_3
                try clear hx329_4
                try clear hx329_5
                try clear hx331_0
                try clear hx331_1
                try clear hx331_2
                try clear hx331_3
                try clear hx331_4
                try clear hx331_5
                try clear p2
                try clear p329
                try clear p331
                try clear q329
                try clear q331
                obtain ⟨kq, x64_6, rfl, HA, HJ6, BK330, BK332, HB⟩ := hcut
                cases kq with
                | zero => exact absurd HA.out (by simp [helmsmanref12_SameStmts.j1])
                | succ kj6 =>
                  have H := HA.out
                  clear HA
                  simp only [helmsmanref12_SameStmts.j1] at H
                  by_cases c39 : x64_6 = true
                  · subst c39
                    have H1 : (some false) = some r := by rw [if_pos rfl] at H; exact H
                    clear H
                    have H := H1
                    clear H1
                    obtain rfl := Option.some.inj H
                    go_wp2
                    go_ret
                    exact ⟨by first | rfl | (simp [errW_none, errW_some] <;> rfl) | (simp [*, errW_none, errW_some] <;> rfl), by repeat (first | (with_reducible first | exact HB.out | apply below_alloc | apply pw_below_drewN | apply below_drew1 | refine below_set ?_ GE330.out | refine below_set ?_ GE332.out) | exact HB.out)⟩
                  · replace c39 := Bool.eq_false_iff.mpr c39
                    subst c39
                    have H1 : (helmsmanref12_SameStmts.l1 kj6 l0 l1 x5_1 0 ((rd_T29 l0 x5_1).f0) ((rd_T29 l0 x5_1).f1) ((rd_T29 l0 x5_1).f2) ((rd_T29 l0 x5_1).f3) ((rd_T29 l0 x5_1).f4) ((rd_T29 l0 x5_1).f5) ((rd_T29 l1 x5_1).f0) ((rd_T29 l1 x5_1).f1) ((rd_T29 l1 x5_1).f2) ((rd_T29 l1 x5_1).f3) ((rd_T29 l1 x5_1).f4) ((rd_T29 l1 x5_1).f5)) = some r := by rw [if_neg (show ¬ (false = true) by decide)] at H; exact H
                    clear H
                    have H := H1
                    clear H1
                    have H' := Aside0.mk H
                    clear H
                    go_wp2
                    (try simp only [Act.put, List.setIfInBounds_toArray, List.set_cons_succ, List.set_cons_zero])
                    go_loopg [8] kj6 (fun kq v8 w' => ∃ (x8_3 : Int), v8 = .int .i64 x8_3 ∧ Aside0 (helmsmanref12_SameStmts.l1 kq l0 l1 x5_1 x8_3 ((rd_T29 l0 x5_1).f0) ((rd_T29 l0 x5_1).f1) ((rd_T29 l0 x5_1).f2) ((rd_T29 l0 x5_1).f3) ((rd_T29 l0 x5_1).f4) ((rd_T29 l0 x5_1).f5) ((rd_T29 l1 x5_1).f0) ((rd_T29 l1 x5_1).f1) ((rd_T29 l1 x5_1).f2) ((rd_T29 l1 x5_1).f3) ((rd_T29 l1 x5_1).f4) ((rd_T29 l1 x5_1).f5) = some r) ∧ Aside0 (kq ≤ kj6) ∧ Aside0 (w'.heap[gb330]? = some (.cells #[.string ((rd_T29 l0 x5_1).f0), .string ((rd_T29 l0 x5_1).f1), (.slice A329_2 ((rd_T29 l0 x5_1).f2).length c329_2), (.slice A329_3 ((rd_T29 l0 x5_1).f3).length c329_3), (.slice A329_4 ((rd_T29 l0 x5_1).f4).length c329_4), .int .i64 ((rd_T29 l0 x5_1).f5)] 29 (0, 0))) ∧ Aside0 (w'.heap[gb332]? = some (.cells #[.string ((rd_T29 l1 x5_1).f0), .string ((rd_T29 l1 x5_1).f1), (.slice A331_2 ((rd_T29 l1 x5_1).f2).length c331_2), (.slice A331_3 ((rd_T29 l1 x5_1).f3).length c331_3), (.slice A331_4 ((rd_T29 l1 x5_1).f4).length c331_4), .int .i64 ((rd_T29 l1 x5_1).f5)] 29 (0, 0))) ∧ Aside0 (Below w.heap.size w w'))
                    case atStart => exact ⟨(0), (by first | rfl | (simp; done) | (simp [*]; done)), H', ⟨Nat.le_refl _⟩, ⟨by (with_reducible repeat (first | refine blk_drewN ?_ _ | refine blk_drew ?_ | refine blk_alloc ?_ _)); exact BK330.out⟩, ⟨by (with_reducible repeat (first | refine blk_drewN ?_ _ | refine blk_drew ?_ | refine blk_alloc ?_ _)); exact BK332.out⟩, ⟨by repeat (first | (with_reducible first | exact HB.out | apply below_alloc | apply pw_below_drewN | apply below_drew1 | refine below_set ?_ GE330.out | refine below_set ?_ GE332.out) | exact HB.out)⟩⟩
                    case round =>
                      clear H'
                      try clear c1
                      try clear c2
                      try clear p2
                      try clear c3
                      try clear c3b0
                      try clear c3b1
                      try clear c3b2
                      try clear p3
                      try clear q3
                      try clear hx3
                      try clear c4
                      try clear c4b0
                      try clear c5
                      try clear c5b0
                      try clear c6
                      try clear c6b0
                      try clear c11
                      try clear c13
                      try clear c13b0
                      try clear c13b1
                      try clear c14
                      try clear c14b0
                      try clear c14b1
                      try clear c15
                      try clear c15b0
                      try clear c15b1
                      try clear c15b2
                      try clear c17
                      try clear c19
                      try clear c25
                      try clear c26
                      try clear c30
                      try clear c32
                      try clear p32
                      try clear q32
                      try clear hx32
                      try clear c33
                      try clear p33
                      try clear q33
                      try clear hx33
                      try clear c36
                      try clear c39
                      try clear hcz12_0
                      try clear hcz12_1
                      try clear hcz12_2
                      try clear hcz12_3
                      try clear hcz12_4
                      try clear hcz12_5
                      try clear hcz20_0
                      try clear hcz20_1
                      try clear hcz20_2
                      try clear hcz20_3
                      try clear hcz20_4
                      try clear hcz20_5
                      try clear hcz21_0
                      try clear hcz21_1
                      try clear hcz21_2
                      try clear hcz21_3
                      try clear hcz21_4
                      try clear hcz21_5
                      try clear hcz23_0
                      try clear hcz23_1
                      try clear hcz23_2
                      try clear hcz23_3
                      try clear hcz23_4
                      try clear hcz23_5
                      try clear hcz24_0
                      try clear hcz24_1
                      try clear hcz24_2
                      try clear hcz24_3
                      try clear hcz24_4
                      try clear hcz24_5
                      try clear hcz27_0
                      try clear hcz27_1
                      try clear hcz27_2
                      try clear hcz27_3
                      try clear hcz27_4
                      try clear hcz27_5
                      try clear hcz28_0
                      try clear hcz28_1
                      try clear hcz28_2
                      try clear hcz28_3
                      try clear hcz28_4
                      try clear hcz28_5
                      try clear hcz31_0
                      try clear hcz31_1
                      try clear hcz31_2
                      try clear hcz31_3
                      try clear hcz31_4
                      try clear hcz31_5
                      try clear hcz32_0
                      try clear hcz32_1
                      try clear hcz32_2
                      try clear hcz32_3
                      try clear hcz32_4
                      try clear hcz32_5
                      try clear hcz34_0
                      try clear hcz34_1
                      try clear hcz34_2
                      try clear hcz34_3
                      try clear hcz34_4
                      try clear hcz34_5
                      try clear hcz35_0
                      try clear hcz35_1
                      try clear hcz35_2
                      try clear hcz35_3
                      try clear hcz35_4
                      try clear hcz35_5
                      try clear hcz37_0
                      try clear hcz37_1
                      try clear hcz37_2
                      try clear hcz37_3
                      try clear hcz37_4
                      try clear hcz37_5
                      try clear hcz38_0
                      try clear hcz38_1
                      try clear hcz38_2
                      try clear hcz38_3
                      try clear hcz38_4
                      try clear hcz38_5
                      try clear hcz9_0
                      try clear hcz9_1
                      try clear hcz9_2
                      try clear hcz9_3
                      try clear hcz9_4
                      try clear hcz9_5
                      try clear hfz12_0
                      try clear hfz12_1
                      try clear hfz12_2
                      try clear hfz12_3
                      try clear hfz12_4
                      try clear hfz12_5
                      try clear hfz20_0
                      try clear hfz20_1
                      try clear hfz20_2
                      try clear hfz20_3
                      try clear hfz20_4
                      try clear hfz20_5
                      try clear hfz21_0
                      try clear hfz21_1
                      try clear hfz21_2
                      try clear hfz21_3
                      try clear hfz21_4
                      try clear hfz21_5
                      try clear hfz23_0
                      try clear hfz23_1
                      try clear hfz23_2
                      try clear hfz23_3
                      try clear hfz23_4
                      try clear hfz23_5
                      try clear hfz24_0
                      try clear hfz24_1
                      try clear hfz24_2
                      try clear hfz24_3
                      try clear hfz24_4
                      try clear hfz24_5
                      try clear hfz27_0
                      try clear hfz27_1
                      try clear hfz27_2
                      try clear hfz27_3
                      try clear hfz27_4
                      try clear hfz27_5
                      try clear hfz28_0
                      try clear hfz28_1
                      try clear hfz28_2
                      try clear hfz28_3
                      try clear hfz28_4
                      try clear hfz28_5
                      try clear hfz31_0
                      try clear hfz31_1
                      try clear hfz31_2
                      try clear hfz31_3
                      try clear hfz31_4
                      try clear hfz31_5
                      try clear hfz32_0
                      try clear hfz32_1
                      try clear hfz32_2
                      try clear hfz32_3
                      try clear hfz32_4
                      try clear hfz32_5
                      try clear hfz34_0
                      try clear hfz34_1
                      try clear hfz34_2
                      try clear hfz34_3
                      try clear hfz34_4
                      try clear hfz34_5
                      try clear hfz35_0
                      try clear hfz35_1
                      try clear hfz35_2
                      try clear hfz35_3
                      try clear hfz35_4
                      try clear hfz35_5
                      try clear hfz37_0
                      try clear hfz37_1
                      try clear hfz37_2
                      try clear hfz37_3
                      try clear hfz37_4
                      try clear hfz37_5
                      try clear hfz38_0
                      try clear hfz38_1
                      try clear hfz38_2
                      try clear hfz38_3
                      try clear hfz38_4
                      try clear hfz38_5
                      try clear hfz9_0
                      try clear hfz9_1
                      try clear hfz9_2
                      try clear hfz9_3
                      try clear hfz9_4
                      try clear hfz9_5
                      try clear hx329_0
                      try clear hx329_1
                      try clear hx329_2
                      try clear hx329_3
                      try clear hx329_4
                      try clear hx329_5
                      try clear hx331_0
                      try clear hx331_1
                      try clear hx331_2
                      try clear hx331_3
                      try clear hx331_4
                      try clear hx331_5
                      try clear p2
                      try clear p3
                      try clear p32
                      try clear p329
                      try clear p33
                      try clear p331
                      try clear q3
                      try clear q32
                      try clear q329
                      try clear q33
                      try clear q331
                      obtain ⟨x8_3, rfl, HA, HK3, BK330, BK332, HB⟩ := hrel
                      cases gk with
                      | zero => exact absurd HA.out (by simp [helmsmanref12_SameStmts.l1])
                      | succ k3 =>
                        have H := HA.out
                        clear HA
                        simp only [helmsmanref12_SameStmts.l1] at H
                        by_cases c40 : x8_3 < (((rd_T29 l0 x5_1).f2).length : Int)
                        · rw [if_pos c40] at H
                          have c40b0 : decide (x8_3 < (((rd_T29 l0 x5_1).f2).length : Int)) = true := decide_eq_true c40
                          clear c40
                          by_cases c41 : 0 ≤ x8_3
                          · rw [if_pos c41] at H
                            have c41b0 : decide (0 ≤ x8_3) = true := decide_eq_true c41
                            clear c41
                            by_cases c42 : x8_3 < (((rd_T29 l1 x5_1).f2).length : Int)
                            · rw [if_pos c42] at H
                              have c42b0 : decide (x8_3 < (((rd_T29 l1 x5_1).f2).length : Int)) = true := decide_eq_true c42
                              clear c42
                              replace H := Option.bind_eq_some_iff.mp H
                              obtain ⟨t337, A430, H⟩ := H
                              replace H : (if t337 = true then (helmsmanref12_SameStmts.l1 k3 l0 l1 x5_1 (wrap64 (x8_3 + 1)) ((rd_T29 l0 x5_1).f0) ((rd_T29 l0 x5_1).f1) ((rd_T29 l0 x5_1).f2) ((rd_T29 l0 x5_1).f3) ((rd_T29 l0 x5_1).f4) ((rd_T29 l0 x5_1).f5) ((rd_T29 l1 x5_1).f0) ((rd_T29 l1 x5_1).f1) ((rd_T29 l1 x5_1).f2) ((rd_T29 l1 x5_1).f3) ((rd_T29 l1 x5_1).f4) ((rd_T29 l1 x5_1).f5)) else (some false)) = some r := H
                              have A43 := Aside0.mk A430
                              clear A430
                              by_cases c44 : t337 = true
                              · subst c44
                                have H1 : (helmsmanref12_SameStmts.l1 k3 l0 l1 x5_1 (wrap64 (x8_3 + 1)) ((rd_T29 l0 x5_1).f0) ((rd_T29 l0 x5_1).f1) ((rd_T29 l0 x5_1).f2) ((rd_T29 l0 x5_1).f3) ((rd_T29 l0 x5_1).f4) ((rd_T29 l0 x5_1).f5) ((rd_T29 l1 x5_1).f0) ((rd_T29 l1 x5_1).f1) ((rd_T29 l1 x5_1).f2) ((rd_T29 l1 x5_1).f3) ((rd_T29 l1 x5_1).f4) ((rd_T29 l1 x5_1).f5)) = some r := by rw [if_pos rfl] at H; exact H
                                clear H
                                have H := H1
                                clear H1
                                have H' := Aside0.mk H
                                clear H
                                have hnb45 := NB330_332.out
                                have hnc45 := NB332_330.out
                                have hcz46_0 : wr.cell? ⟨gb330, 0, none⟩ = some (.string ((rd_T29 l0 x5_1).f0)) := (blk_cell BK330.out 0).trans rfl
                                have hcz46_1 : wr.cell? ⟨gb330, 1, none⟩ = some (.string ((rd_T29 l0 x5_1).f1)) := (blk_cell BK330.out 1).trans rfl
                                have hcz46_2 : wr.cell? ⟨gb330, 2, none⟩ = some (.slice A329_2 ((rd_T29 l0 x5_1).f2).length c329_2) := (blk_cell BK330.out 2).trans rfl
                                have hcz46_3 : wr.cell? ⟨gb330, 3, none⟩ = some (.slice A329_3 ((rd_T29 l0 x5_1).f3).length c329_3) := (blk_cell BK330.out 3).trans rfl
                                have hcz46_4 : wr.cell? ⟨gb330, 4, none⟩ = some (.slice A329_4 ((rd_T29 l0 x5_1).f4).length c329_4) := (blk_cell BK330.out 4).trans rfl
                                have hcz46_5 : wr.cell? ⟨gb330, 5, none⟩ = some (.int .i64 ((rd_T29 l0 x5_1).f5)) := (blk_cell BK330.out 5).trans rfl
                                have hfz46_0 := blk_frozen BK330.out 0
                                have hfz46_1 := blk_frozen BK330.out 1
                                have hfz46_2 := blk_frozen BK330.out 2
                                have hfz46_3 := blk_frozen BK330.out 3
                                have hfz46_4 := blk_frozen BK330.out 4
                                have hfz46_5 := blk_frozen BK330.out 5
                                try go_wp2
                                have n0_ := Aside0.mk (blk_drew BK330.out)
                                have n1_ := Aside0.mk (blk_drew BK332.out)
                                have n2_ := Aside0.mk (below_drew1 HB.out)
                                clear BK330
                                clear BK332
                                clear HB
                                have BK330 := n0_
                                have BK332 := n1_
                                have HB := n2_
                                clear n0_ n1_ n2_
                                have p335 : 0 ≤ (x8_3 : Int) := of_decide_eq_true (by first | (with_reducible assumption) | assumption)
                                have q335 : x8_3 < (((rd_T29 l0 x5_1).f2).length : Int) := of_decide_eq_true (by first | (with_reducible assumption) | assumption)
                                obtain ⟨ad335, A335_3, c335_3, e335, hx335_0, hx335_1, hx335_2, hx335_3, hx335_4, hl335_3, hi335_3⟩ := at_T24 HR329_2.out x8_3 p335 q335
                                have hw335_4 := hx335_4
                                have hw335_3 := hx335_3
                                have hw335_2 := hx335_2
                                have hw335_1 := hx335_1
                                have hw335_0 := hx335_0
                                cases e335
                                replace hx335_0 := (HB.out.cell (World.block_lt_of_cell? w _ hx335_0)).trans hx335_0
                                replace hx335_1 := (HB.out.cell (World.block_lt_of_cell? w _ hx335_1)).trans hx335_1
                                replace hx335_2 := (HB.out.cell (World.block_lt_of_cell? w _ hx335_2)).trans hx335_2
                                replace hx335_3 := (HB.out.cell (World.block_lt_of_cell? w _ hx335_3)).trans hx335_3
                                replace hx335_4 := (HB.out.cell (World.block_lt_of_cell? w _ hx335_4)).trans hx335_4
                                have HR335_3 := Aside0.mk hi335_3
                                have HC335_3 := Aside0.mk hl335_3
                                clear hi335_3 hl335_3
                                replace p335 := eq_true p335
                                replace q335 := eq_true q335
                                have p336 : 0 ≤ (x8_3 : Int) := of_decide_eq_true (by first | (with_reducible assumption) | assumption)
                                have q336 : x8_3 < (((rd_T29 l1 x5_1).f2).length : Int) := of_decide_eq_true (by first | (with_reducible assumption) | assumption)
                                obtain ⟨ad336, A336_3, c336_3, e336, hx336_0, hx336_1, hx336_2, hx336_3, hx336_4, hl336_3, hi336_3⟩ := at_T24 HR331_2.out x8_3 p336 q336
                                have hw336_4 := hx336_4
                                have hw336_3 := hx336_3
                                have hw336_2 := hx336_2
                                have hw336_1 := hx336_1
                                have hw336_0 := hx336_0
                                cases e336
                                replace hx336_0 := (HB.out.cell (World.block_lt_of_cell? w _ hx336_0)).trans hx336_0
                                replace hx336_1 := (HB.out.cell (World.block_lt_of_cell? w _ hx336_1)).trans hx336_1
                                replace hx336_2 := (HB.out.cell (World.block_lt_of_cell? w _ hx336_2)).trans hx336_2
                                replace hx336_3 := (HB.out.cell (World.block_lt_of_cell? w _ hx336_3)).trans hx336_3
                                replace hx336_4 := (HB.out.cell (World.block_lt_of_cell? w _ hx336_4)).trans hx336_4
                                have HR336_3 := Aside0.mk hi336_3
                                have HC336_3 := Aside0.mk hl336_3
                                clear hi336_3 hl336_3
                                replace p336 := eq_true p336
                                replace q336 := eq_true q336
                                refine start_ (n := 12) (S := fun w' => w'.cell? ⟨gb330, 0, none⟩ = some (.string ((rd_T29 l0 x5_1).f0)) ∧ w'.cell? ⟨gb330, 1, none⟩ = some (.string ((rd_T29 l0 x5_1).f1)) ∧ w'.cell? ⟨gb330, 2, none⟩ = some (.slice (some ad335) ((rd_T29 l0 x5_1).f2).length c329_2) ∧ w'.cell? ⟨gb330, 3, none⟩ = some (.slice A329_3 ((rd_T29 l0 x5_1).f3).length c329_3) ∧ w'.cell? ⟨gb330, 4, none⟩ = some (.slice A329_4 ((rd_T29 l0 x5_1).f4).length c329_4) ∧ w'.cell? ⟨gb330, 5, none⟩ = some (.int .i64 ((rd_T29 l0 x5_1).f5)) ∧ w'.cell? ⟨gb332, 0, none⟩ = some (.string ((rd_T29 l1 x5_1).f0)) ∧ w'.cell? ⟨gb332, 1, none⟩ = some (.string ((rd_T29 l1 x5_1).f1)) ∧ w'.cell? ⟨gb332, 2, none⟩ = some (.slice (some ad336) ((rd_T29 l1 x5_1).f2).length c331_2) ∧ w'.cell? ⟨gb332, 3, none⟩ = some (.slice A331_3 ((rd_T29 l1 x5_1).f3).length c331_3) ∧ w'.cell? ⟨gb332, 4, none⟩ = some (.slice A331_4 ((rd_T29 l1 x5_1).f4).length c331_4) ∧ w'.cell? ⟨gb332, 5, none⟩ = some (.int .i64 ((rd_T29 l1 x5_1).f5)) ∧ w'.cell? (ad335.add ((x8_3).toNat * 5)) = some (.string ((rd_T24 ((rd_T29 l0 x5_1).f2) x8_3).f0)) ∧ w'.cell? ⟨(ad335.add ((x8_3).toNat * 5)).block, (ad335.add ((x8_3).toNat * 5)).off + 1, none⟩ = some (.string ((rd_T24 ((rd_T29 l0 x5_1).f2) x8_3).f1)) ∧ w'.cell? ⟨(ad335.add ((x8_3).toNat * 5)).block, (ad335.add ((x8_3).toNat * 5)).off + 2, none⟩ = some (.int .i64 ((rd_T24 ((rd_T29 l0 x5_1).f2) x8_3).f2)) ∧ w'.cell? ⟨(ad335.add ((x8_3).toNat * 5)).block, (ad335.add ((x8_3).toNat * 5)).off + 3, none⟩ = some (.slice A335_3 ((rd_T24 ((rd_T29 l0 x5_1).f2) x8_3).f3).length c335_3) ∧ w'.cell? ⟨(ad335.add ((x8_3).toNat * 5)).block, (ad335.add ((x8_3).toNat * 5)).off + 4, none⟩ = some (.int .i64 ((rd_T24 ((rd_T29 l0 x5_1).f2) x8_3).f4)) ∧ w'.cell? (ad336.add ((x8_3).toNat * 5)) = some (.string ((rd_T24 ((rd_T29 l1 x5_1).f2) x8_3).f0)) ∧ w'.cell? ⟨(ad336.add ((x8_3).toNat * 5)).block, (ad336.add ((x8_3).toNat * 5)).off + 1, none⟩ = some (.string ((rd_T24 ((rd_T29 l1 x5_1).f2) x8_3).f1)) ∧ w'.cell? ⟨(ad336.add ((x8_3).toNat * 5)).block, (ad336.add ((x8_3).toNat * 5)).off + 2, none⟩ = some (.int .i64 ((rd_T24 ((rd_T29 l1 x5_1).f2) x8_3).f2)) ∧ w'.cell? ⟨(ad336.add ((x8_3).toNat * 5)).block, (ad336.add ((x8_3).toNat * 5)).off + 3, none⟩ = some (.slice A336_3 ((rd_T24 ((rd_T29 l1 x5_1).f2) x8_3).f3).length c336_3) ∧ w'.cell? ⟨(ad336.add ((x8_3).toNat * 5)).block, (ad336.add ((x8_3).toNat * 5)).off + 4, none⟩ = some (.int .i64 ((rd_T24 ((rd_T29 l1 x5_1).f2) x8_3).f4))) (ds := []) #[false, false, false, false, false, false, false, false, false, false, false, false] (by kernel_rfl) rfl rfl ⟨(blk_cell BK330.out 0).trans rfl, (blk_cell BK330.out 1).trans rfl, (blk_cell BK330.out 2).trans rfl, (blk_cell BK330.out 3).trans rfl, (blk_cell BK330.out 4).trans rfl, (blk_cell BK330.out 5).trans rfl, (blk_cell BK332.out 0).trans rfl, (blk_cell BK332.out 1).trans rfl, (blk_cell BK332.out 2).trans rfl, (blk_cell BK332.out 3).trans rfl, (blk_cell BK332.out 4).trans rfl, (blk_cell BK332.out 5).trans rfl, ((HB.out.cell (World.block_lt_of_cell? w _ hw335_0)).trans hw335_0), ((HB.out.cell (World.block_lt_of_cell? w _ hw335_1)).trans hw335_1), ((HB.out.cell (World.block_lt_of_cell? w _ hw335_2)).trans hw335_2), ((HB.out.cell (World.block_lt_of_cell? w _ hw335_3)).trans hw335_3), ((HB.out.cell (World.block_lt_of_cell? w _ hw335_4)).trans hw335_4), ((HB.out.cell (World.block_lt_of_cell? w _ hw336_0)).trans hw336_0), ((HB.out.cell (World.block_lt_of_cell? w _ hw336_1)).trans hw336_1), ((HB.out.cell (World.block_lt_of_cell? w _ hw336_2)).trans hw336_2), ((HB.out.cell (World.block_lt_of_cell? w _ hw336_3)).trans hw336_3), ((HB.out.cell (World.block_lt_of_cell? w _ hw336_4)).trans hw336_4)⟩ (fun hHeld => ?_); refine with_tabW helmsmanref12_SameStmts.tab13 helmsmanref12_SameStmts.bits13 (fun HT_ HW_ => ?_)
                                generalize wr.drew = w47 at BK330 BK332 HB HR335_3 HR336_3 hx335_0 hx335_1 hx335_2 hx335_3 hx335_4 hx336_0 hx336_1 hx336_2 hx336_3 hx336_4 hHeld ⊢
                                refine pure_ (i := 0) (N := some 72) (v := ?_) (a' := ?_) #[true, false, false, false, false, false, false, false, false, false, false, false] rfl rfl (any_of HT_.out (by kernel_rfl)) (fun _ _ _ h => h) (Or.inl ⟨by rfl, ?_⟩) ?_ ?_
                                rotate_left
                                · intro w'
                                  go_simp
                                  with_reducible rfl
                                rotate_left
                                · simp only [Act.put, List.setIfInBounds_toArray, List.set_cons_zero, List.set_cons_succ, i64_w, i32_w]
                                  rfl
                                refine pure_ (i := 2) (N := some 74) (v := ?_) (a' := ?_) #[true, false, true, false, false, false, false, false, false, false, false, false] rfl rfl (any_of HT_.out (by kernel_rfl)) (fun _ _ _ h => h) (Or.inl ⟨by rfl, ?_⟩) ?_ ?_
                                rotate_left
                                · intro w'
                                  go_simp
                                  with_reducible rfl
                                rotate_left
                                · simp only [Act.put, List.setIfInBounds_toArray, List.set_cons_zero, List.set_cons_succ, i64_w, i32_w]
                                  rfl
                                refine pure_ (i := 5) (N := some 77) (v := ?_) (a' := ?_) #[true, false, true, false, false, true, false, false, false, false, false, false] rfl rfl (any_of HT_.out (by kernel_rfl)) (fun _ _ _ h => h) (Or.inl ⟨by rfl, ?_⟩) ?_ ?_
                                rotate_left
                                · intro w'
                                  go_simp
                                  with_reducible rfl
                                rotate_left
                                · simp only [Act.put, List.setIfInBounds_toArray, List.set_cons_zero, List.set_cons_succ, i64_w, i32_w]
                                  rfl
                                refine pure_ (i := 7) (N := some 79) (v := ?_) (a' := ?_) #[true, false, true, false, false, true, false, true, false, false, false, false] rfl rfl (any_of HT_.out (by kernel_rfl)) (fun _ _ _ h => h) (Or.inl ⟨by rfl, ?_⟩) ?_ ?_
                                rotate_left
                                · intro w'
                                  go_simp
                                  with_reducible rfl
                                rotate_left
                                · simp only [Act.put, List.setIfInBounds_toArray, List.set_cons_zero, List.set_cons_succ, i64_w, i32_w]
                                  rfl
                                refine take_ (i := 1) (N := some 73) (v := ?_) (a' := ?_) #[true, true, true, false, false, true, false, true, false, false, false, false] rfl rfl (take_ofW HT_.out HW_.out (by kernel_rfl)) (fun _ _ _ h => h) (Or.inl ⟨by rfl, ?_⟩) hHeld ?_ ?_
                                rotate_left
                                · rintro w' ⟨s0, s1, s2, s3, s4, s5, s6, s7, s8, s9, s10, s11, s12, s13, s14, s15, s16, s17, s18, s19, s20, s21⟩
                                  go_simp
                                  with_reducible rfl
                                rotate_left
                                · simp only [Act.put, List.setIfInBounds_toArray, List.set_cons_zero, List.set_cons_succ, i64_w, i32_w]
                                  rfl
                                refine pure_ (i := 3) (N := some 75) (v := ?_) (a' := ?_) #[true, true, true, true, false, true, false, true, false, false, false, false] rfl rfl (any_of HT_.out (by kernel_rfl)) (fun _ _ _ h => h) (Or.inl ⟨by rfl, ?_⟩) ?_ ?_
                                rotate_left
                                · intro w'
                                  go_simp
                                  with_reducible rfl
                                rotate_left
                                · simp only [Act.put, List.setIfInBounds_toArray, List.set_cons_zero, List.set_cons_succ, i64_w, i32_w]
                                  rfl
                                refine take_ (i := 4) (N := some 76) (v := ?_) (a' := ?_) #[true, true, true, true, true, true, false, true, false, false, false, false] rfl rfl (take_ofW HT_.out HW_.out (by kernel_rfl)) (fun _ _ _ h => h) (Or.inl ⟨by rfl, ?_⟩) hHeld ?_ ?_
                                rotate_left
                                · rintro w' ⟨s0, s1, s2, s3, s4, s5, s6, s7, s8, s9, s10, s11, s12, s13, s14, s15, s16, s17, s18, s19, s20, s21⟩
                                  go_simp
                                  with_reducible rfl
                                rotate_left
                                · simp only [Act.put, List.setIfInBounds_toArray, List.set_cons_zero, List.set_cons_succ, i64_w, i32_w]
                                  rfl
                                refine take_ (i := 6) (N := some 78) (v := ?_) (a' := ?_) #[true, true, true, true, true, true, true, true, false, false, false, false] rfl rfl (take_ofW HT_.out HW_.out (by kernel_rfl)) (fun _ _ _ h => h) (Or.inl ⟨by rfl, ?_⟩) hHeld ?_ ?_
                                rotate_left
                                · rintro w' ⟨s0, s1, s2, s3, s4, s5, s6, s7, s8, s9, s10, s11, s12, s13, s14, s15, s16, s17, s18, s19, s20, s21⟩
                                  go_simp
                                  with_reducible rfl
                                rotate_left
                                · simp only [Act.put, List.setIfInBounds_toArray, List.set_cons_zero, List.set_cons_succ, i64_w, i32_w]
                                  rfl
                                refine pure_ (i := 8) (N := some 80) (v := ?_) (a' := ?_) #[true, true, true, true, true, true, true, true, true, false, false, false] rfl rfl (any_of HT_.out (by kernel_rfl)) (fun _ _ _ h => h) (Or.inl ⟨by rfl, ?_⟩) ?_ ?_
                                rotate_left
                                · intro w'
                                  go_simp
                                  with_reducible rfl
                                rotate_left
                                · simp only [Act.put, List.setIfInBounds_toArray, List.set_cons_zero, List.set_cons_succ, i64_w, i32_w]
                                  rfl
                                refine take_ (i := 9) (N := some 81) (v := ?_) (a' := ?_) #[true, true, true, true, true, true, true, true, true, true, false, false] rfl rfl (take_ofW HT_.out HW_.out (by kernel_rfl)) (fun _ _ _ h => h) (Or.inl ⟨by rfl, ?_⟩) hHeld ?_ ?_
                                rotate_left
                                · rintro w' ⟨s0, s1, s2, s3, s4, s5, s6, s7, s8, s9, s10, s11, s12, s13, s14, s15, s16, s17, s18, s19, s20, s21⟩
                                  go_simp
                                  with_reducible rfl
                                rotate_left
                                · simp only [Act.put, List.setIfInBounds_toArray, List.set_cons_zero, List.set_cons_succ, i64_w, i32_w]
                                  rfl
                                refine one_ (i := 10) (N := some 82) #[true, true, true, true, true, true, true, true, true, true, true, false] rfl rfl (one_of HT_.out (by kernel_rfl)) (by decide) (fun K hK => ?_)
                                refine goes_ Tryd.func27 (by kernel_rfl) rfl #[.agg #[.string ((rd_T24 ((rd_T29 l0 x5_1).f2) x8_3).f0), .string ((rd_T24 ((rd_T29 l0 x5_1).f2) x8_3).f1), .int .i64 ((rd_T24 ((rd_T29 l0 x5_1).f2) x8_3).f2), .slice A335_3 ((rd_T24 ((rd_T29 l0 x5_1).f2) x8_3).f3).length c335_3, .int .i64 ((rd_T24 ((rd_T29 l0 x5_1).f2) x8_3).f4)], .agg #[.string ((rd_T24 ((rd_T29 l1 x5_1).f2) x8_3).f0), .string ((rd_T24 ((rd_T29 l1 x5_1).f2) x8_3).f1), .int .i64 ((rd_T24 ((rd_T29 l1 x5_1).f2) x8_3).f2), .slice A336_3 ((rd_T24 ((rd_T29 l1 x5_1).f2) x8_3).f3).length c336_3, .int .i64 ((rd_T24 ((rd_T29 l1 x5_1).f2) x8_3).f4)]] (by rfl) rfl rfl (by (try simp only [List.map_toArray, List.map_cons, List.map_nil]); first | done | rfl | (simp only [List.length_drop, List.length_take]; rfl)) ?_
                                with_reducible refine (helmsmanref12_SameExpr.calls k3 ((rd_T24 ((rd_T29 l0 x5_1).f2) x8_3).f0) ((rd_T24 ((rd_T29 l0 x5_1).f2) x8_3).f1) ((rd_T24 ((rd_T29 l0 x5_1).f2) x8_3).f2) _ _ ((rd_T24 ((rd_T29 l0 x5_1).f2) x8_3).f3) ((rd_T24 ((rd_T29 l0 x5_1).f2) x8_3).f4) ((rd_T24 ((rd_T29 l1 x5_1).f2) x8_3).f0) ((rd_T24 ((rd_T29 l1 x5_1).f2) x8_3).f1) ((rd_T24 ((rd_T29 l1 x5_1).f2) x8_3).f2) _ _ ((rd_T24 ((rd_T29 l1 x5_1).f2) x8_3).f3) ((rd_T24 ((rd_T29 l1 x5_1).f2) x8_3).f4) true _ ?side1 ?side2 ?side3 ?side4 A43.out).mono ?_
                                (case side1 => repeat (first | exact (Kd.C_below HR335_3.out HB.out) | (with_reducible refine Kd.C_alloc ?_ _) | (with_reducible refine Kd.C_drewN ?_ _) | (with_reducible refine Kd.C_drew ?_)))
                                (case side2 => exact HC335_3.out)
                                (case side3 => repeat (first | exact (Kd.C_below HR336_3.out HB.out) | (with_reducible refine Kd.C_alloc ?_ _) | (with_reducible refine Kd.C_drewN ?_ _) | (with_reducible refine Kd.C_drew ?_)))
                                (case side4 => exact HC336_3.out)
                                rintro e w48 ⟨rfl, hb⟩
                                refine ⟨_, rfl, ?_⟩
                                have n0_ := Aside0.mk (blk_below (g := gb330) (o := .cells #[.string ((rd_T29 l0 x5_1).f0), .string ((rd_T29 l0 x5_1).f1), .slice (some ad335) ((rd_T29 l0 x5_1).f2).length c329_2, .slice A329_3 ((rd_T29 l0 x5_1).f3).length c329_3, .slice A329_4 ((rd_T29 l0 x5_1).f4).length c329_4, .int .i64 ((rd_T29 l0 x5_1).f5)] 29 (0, 0)) (by (with_reducible repeat (first | refine blk_drewN ?_ _ | refine blk_drew ?_ | refine blk_alloc ?_ _)); exact BK330.out) hb)
                                have n1_ := Aside0.mk (blk_below (g := gb332) (o := .cells #[.string ((rd_T29 l1 x5_1).f0), .string ((rd_T29 l1 x5_1).f1), .slice (some ad336) ((rd_T29 l1 x5_1).f2).length c331_2, .slice A331_3 ((rd_T29 l1 x5_1).f3).length c331_3, .slice A331_4 ((rd_T29 l1 x5_1).f4).length c331_4, .int .i64 ((rd_T29 l1 x5_1).f5)] 29 (0, 0)) (by (with_reducible repeat (first | refine blk_drewN ?_ _ | refine blk_drew ?_ | refine blk_alloc ?_ _)); exact BK332.out) hb)
                                have n2_ := Aside0.mk (below_step (by repeat (first | (with_reducible first | exact HB.out | apply below_alloc | apply pw_below_drewN | apply below_drew1 | refine below_set ?_ GE330.out | refine below_set ?_ GE332.out) | exact HB.out)) hb)
                                clear BK330
                                clear BK332
                                clear HB
                                have BK330 := n0_
                                have BK332 := n1_
                                have HB := n2_
                                clear n0_ n1_ n2_
                                (try clear hb)
                                (try clear hb2)
                                (try clear hk)
                                (try clear hi)
                                refine hK.out _ _ ⟨(blk_cell BK330.out 0).trans rfl, (blk_cell BK330.out 1).trans rfl, (blk_cell BK330.out 2).trans rfl, (blk_cell BK330.out 3).trans rfl, (blk_cell BK330.out 4).trans rfl, (blk_cell BK330.out 5).trans rfl, (blk_cell BK332.out 0).trans rfl, (blk_cell BK332.out 1).trans rfl, (blk_cell BK332.out 2).trans rfl, (blk_cell BK332.out 3).trans rfl, (blk_cell BK332.out 4).trans rfl, (blk_cell BK332.out 5).trans rfl, ((HB.out.cell (World.block_lt_of_cell? w _ hw335_0)).trans hw335_0), ((HB.out.cell (World.block_lt_of_cell? w _ hw335_1)).trans hw335_1), ((HB.out.cell (World.block_lt_of_cell? w _ hw335_2)).trans hw335_2), ((HB.out.cell (World.block_lt_of_cell? w _ hw335_3)).trans hw335_3), ((HB.out.cell (World.block_lt_of_cell? w _ hw335_4)).trans hw335_4), ((HB.out.cell (World.block_lt_of_cell? w _ hw336_0)).trans hw336_0), ((HB.out.cell (World.block_lt_of_cell? w _ hw336_1)).trans hw336_1), ((HB.out.cell (World.block_lt_of_cell? w _ hw336_2)).trans hw336_2), ((HB.out.cell (World.block_lt_of_cell? w _ hw336_3)).trans hw336_3), ((HB.out.cell (World.block_lt_of_cell? w _ hw336_4)).trans hw336_4)⟩ (fun hHeld => ?_)
                                clear hK K
                                refine norm_ (a' := ?_) ?_ ?_
                                rotate_left
                                · show Act.put _ (some 82) _ = _
                                  simp only [Act.put, List.setIfInBounds_toArray, List.set_cons_zero, List.set_cons_succ, i64_w, i32_w]
                                  rfl
                                refine pure_ (i := 11) (N := some 83) (v := ?_) (a' := ?_) #[true, true, true, true, true, true, true, true, true, true, true, true] rfl rfl (any_of HT_.out (by kernel_rfl)) (fun _ _ _ h => h) (Or.inl ⟨by rfl, ?_⟩) ?_ ?_
                                rotate_left
                                · intro w'
                                  go_simp
                                  with_reducible rfl
                                rotate_left
                                · simp only [Act.put, List.setIfInBounds_toArray, List.set_cons_zero, List.set_cons_succ, i64_w, i32_w]
                                  rfl
                                refine done_ (done_of HT_.out (by kernel_rfl)) ?_
                                try go_wp2
                                go_roundg k3
                                case measure => have := HK1.out; have := HJ6.out; have := HK3.out; omega
                                case rel => exact ⟨(wrap64 (x8_3 + 1)), (by first | rfl | (simp; done) | (simp [*]; done)), H', ⟨by have := HK1.out; have := HJ6.out; have := HK3.out; omega⟩, ⟨by (with_reducible repeat (first | refine blk_drewN ?_ _ | refine blk_drew ?_ | refine blk_alloc ?_ _)); exact BK330.out⟩, ⟨by (with_reducible repeat (first | refine blk_drewN ?_ _ | refine blk_drew ?_ | refine blk_alloc ?_ _)); exact BK332.out⟩, ⟨by repeat (first | (with_reducible first | exact HB.out | apply below_alloc | apply pw_below_drewN | apply below_drew1 | refine below_set ?_ GE330.out | refine below_set ?_ GE332.out) | exact HB.out)⟩⟩
                              · replace c44 := Bool.eq_false_iff.mpr c44
                                subst c44
                                have H1 : (some false) = some r := by rw [if_neg (show ¬ (false = true) by decide)] at H; exact H
                                clear H
                                have H := H1
                                clear H1
                                obtain rfl := Option.some.inj H
                                have hnb49 := NB330_332.out
                                have hnc49 := NB332_330.out
                                have hcz50_0 : wr.cell? ⟨gb330, 0, none⟩ = some (.string ((rd_T29 l0 x5_1).f0)) := (blk_cell BK330.out 0).trans rfl
                                have hcz50_1 : wr.cell? ⟨gb330, 1, none⟩ = some (.string ((rd_T29 l0 x5_1).f1)) := (blk_cell BK330.out 1).trans rfl
                                have hcz50_2 : wr.cell? ⟨gb330, 2, none⟩ = some (.slice A329_2 ((rd_T29 l0 x5_1).f2).length c329_2) := (blk_cell BK330.out 2).trans rfl
                                have hcz50_3 : wr.cell? ⟨gb330, 3, none⟩ = some (.slice A329_3 ((rd_T29 l0 x5_1).f3).length c329_3) := (blk_cell BK330.out 3).trans rfl
                                have hcz50_4 : wr.cell? ⟨gb330, 4, none⟩ = some (.slice A329_4 ((rd_T29 l0 x5_1).f4).length c329_4) := (blk_cell BK330.out 4).trans rfl
                                have hcz50_5 : wr.cell? ⟨gb330, 5, none⟩ = some (.int .i64 ((rd_T29 l0 x5_1).f5)) := (blk_cell BK330.out 5).trans rfl
                                have hfz50_0 := blk_frozen BK330.out 0
                                have hfz50_1 := blk_frozen BK330.out 1
                                have hfz50_2 := blk_frozen BK330.out 2
                                have hfz50_3 := blk_frozen BK330.out 3
                                have hfz50_4 := blk_frozen BK330.out 4
                                have hfz50_5 := blk_frozen BK330.out 5
                                try go_wp2
                                have n0_ := Aside0.mk (blk_drew BK330.out)
                                have n1_ := Aside0.mk (blk_drew BK332.out)
                                have n2_ := Aside0.mk (below_drew1 HB.out)
                                clear BK330
                                clear BK332
                                clear HB
                                have BK330 := n0_
                                have BK332 := n1_
                                have HB := n2_
                                clear n0_ n1_ n2_
                                have p335 : 0 ≤ (x8_3 : Int) := of_decide_eq_true (by first | (with_reducible assumption) | assumption)
                                have q335 : x8_3 < (((rd_T29 l0 x5_1).f2).length : Int) := of_decide_eq_true (by first | (with_reducible assumption) | assumption)
                                obtain ⟨ad335, A335_3, c335_3, e335, hx335_0, hx335_1, hx335_2, hx335_3, hx335_4, hl335_3, hi335_3⟩ := at_T24 HR329_2.out x8_3 p335 q335
                                have hw335_4 := hx335_4
                                have hw335_3 := hx335_3
                                have hw335_2 := hx335_2
                                have hw335_1 := hx335_1
                                have hw335_0 := hx335_0
                                cases e335
                                replace hx335_0 := (HB.out.cell (World.block_lt_of_cell? w _ hx335_0)).trans hx335_0
                                replace hx335_1 := (HB.out.cell (World.block_lt_of_cell? w _ hx335_1)).trans hx335_1
                                replace hx335_2 := (HB.out.cell (World.block_lt_of_cell? w _ hx335_2)).trans hx335_2
                                replace hx335_3 := (HB.out.cell (World.block_lt_of_cell? w _ hx335_3)).trans hx335_3
                                replace hx335_4 := (HB.out.cell (World.block_lt_of_cell? w _ hx335_4)).trans hx335_4
                                have HR335_3 := Aside0.mk hi335_3
                                have HC335_3 := Aside0.mk hl335_3
                                clear hi335_3 hl335_3
                                replace p335 := eq_true p335
                                replace q335 := eq_true q335
                                have p336 : 0 ≤ (x8_3 : Int) := of_decide_eq_true (by first | (with_reducible assumption) | assumption)
                                have q336 : x8_3 < (((rd_T29 l1 x5_1).f2).length : Int) := of_decide_eq_true (by first | (with_reducible assumption) | assumption)
                                obtain ⟨ad336, A336_3, c336_3, e336, hx336_0, hx336_1, hx336_2, hx336_3, hx336_4, hl336_3, hi336_3⟩ := at_T24 HR331_2.out x8_3 p336 q336
                                have hw336_4 := hx336_4
                                have hw336_3 := hx336_3
                                have hw336_2 := hx336_2
                                have hw336_1 := hx336_1
                                have hw336_0 := hx336_0
                                cases e336
                                replace hx336_0 := (HB.out.cell (World.block_lt_of_cell? w _ hx336_0)).trans hx336_0
                                replace hx336_1 := (HB.out.cell (World.block_lt_of_cell? w _ hx336_1)).trans hx336_1
                                replace hx336_2 := (HB.out.cell (World.block_lt_of_cell? w _ hx336_2)).trans hx336_2
                                replace hx336_3 := (HB.out.cell (World.block_lt_of_cell? w _ hx336_3)).trans hx336_3
                                replace hx336_4 := (HB.out.cell (World.block_lt_of_cell? w _ hx336_4)).trans hx336_4
                                have HR336_3 := Aside0.mk hi336_3
                                have HC336_3 := Aside0.mk hl336_3
                                clear hi336_3 hl336_3
                                replace p336 := eq_true p336
                                replace q336 := eq_true q336
                                refine start_ (n := 12) (S := fun w' => w'.cell? ⟨gb330, 0, none⟩ = some (.string ((rd_T29 l0 x5_1).f0)) ∧ w'.cell? ⟨gb330, 1, none⟩ = some (.string ((rd_T29 l0 x5_1).f1)) ∧ w'.cell? ⟨gb330, 2, none⟩ = some (.slice (some ad335) ((rd_T29 l0 x5_1).f2).length c329_2) ∧ w'.cell? ⟨gb330, 3, none⟩ = some (.slice A329_3 ((rd_T29 l0 x5_1).f3).length c329_3) ∧ w'.cell? ⟨gb330, 4, none⟩ = some (.slice A329_4 ((rd_T29 l0 x5_1).f4).length c329_4) ∧ w'.cell? ⟨gb330, 5, none⟩ = some (.int .i64 ((rd_T29 l0 x5_1).f5)) ∧ w'.cell? ⟨gb332, 0, none⟩ = some (.string ((rd_T29 l1 x5_1).f0)) ∧ w'.cell? ⟨gb332, 1, none⟩ = some (.string ((rd_T29 l1 x5_1).f1)) ∧ w'.cell? ⟨gb332, 2, none⟩ = some (.slice (some ad336) ((rd_T29 l1 x5_1).f2).length c331_2) ∧ w'.cell? ⟨gb332, 3, none⟩ = some (.slice A331_3 ((rd_T29 l1 x5_1).f3).length c331_3) ∧ w'.cell? ⟨gb332, 4, none⟩ = some (.slice A331_4 ((rd_T29 l1 x5_1).f4).length c331_4) ∧ w'.cell? ⟨gb332, 5, none⟩ = some (.int .i64 ((rd_T29 l1 x5_1).f5)) ∧ w'.cell? (ad335.add ((x8_3).toNat * 5)) = some (.string ((rd_T24 ((rd_T29 l0 x5_1).f2) x8_3).f0)) ∧ w'.cell? ⟨(ad335.add ((x8_3).toNat * 5)).block, (ad335.add ((x8_3).toNat * 5)).off + 1, none⟩ = some (.string ((rd_T24 ((rd_T29 l0 x5_1).f2) x8_3).f1)) ∧ w'.cell? ⟨(ad335.add ((x8_3).toNat * 5)).block, (ad335.add ((x8_3).toNat * 5)).off + 2, none⟩ = some (.int .i64 ((rd_T24 ((rd_T29 l0 x5_1).f2) x8_3).f2)) ∧ w'.cell? ⟨(ad335.add ((x8_3).toNat * 5)).block, (ad335.add ((x8_3).toNat * 5)).off + 3, none⟩ = some (.slice A335_3 ((rd_T24 ((rd_T29 l0 x5_1).f2) x8_3).f3).length c335_3) ∧ w'.cell? ⟨(ad335.add ((x8_3).toNat * 5)).block, (ad335.add ((x8_3).toNat * 5)).off + 4, none⟩ = some (.int .i64 ((rd_T24 ((rd_T29 l0 x5_1).f2) x8_3).f4)) ∧ w'.cell? (ad336.add ((x8_3).toNat * 5)) = some (.string ((rd_T24 ((rd_T29 l1 x5_1).f2) x8_3).f0)) ∧ w'.cell? ⟨(ad336.add ((x8_3).toNat * 5)).block, (ad336.add ((x8_3).toNat * 5)).off + 1, none⟩ = some (.string ((rd_T24 ((rd_T29 l1 x5_1).f2) x8_3).f1)) ∧ w'.cell? ⟨(ad336.add ((x8_3).toNat * 5)).block, (ad336.add ((x8_3).toNat * 5)).off + 2, none⟩ = some (.int .i64 ((rd_T24 ((rd_T29 l1 x5_1).f2) x8_3).f2)) ∧ w'.cell? ⟨(ad336.add ((x8_3).toNat * 5)).block, (ad336.add ((x8_3).toNat * 5)).off + 3, none⟩ = some (.slice A336_3 ((rd_T24 ((rd_T29 l1 x5_1).f2) x8_3).f3).length c336_3) ∧ w'.cell? ⟨(ad336.add ((x8_3).toNat * 5)).block, (ad336.add ((x8_3).toNat * 5)).off + 4, none⟩ = some (.int .i64 ((rd_T24 ((rd_T29 l1 x5_1).f2) x8_3).f4))) (ds := []) #[false, false, false, false, false, false, false, false, false, false, false, false] (by kernel_rfl) rfl rfl ⟨(blk_cell BK330.out 0).trans rfl, (blk_cell BK330.out 1).trans rfl, (blk_cell BK330.out 2).trans rfl, (blk_cell BK330.out 3).trans rfl, (blk_cell BK330.out 4).trans rfl, (blk_cell BK330.out 5).trans rfl, (blk_cell BK332.out 0).trans rfl, (blk_cell BK332.out 1).trans rfl, (blk_cell BK332.out 2).trans rfl, (blk_cell BK332.out 3).trans rfl, (blk_cell BK332.out 4).trans rfl, (blk_cell BK332.out 5).trans rfl, ((HB.out.cell (World.block_lt_of_cell? w _ hw335_0)).trans hw335_0), ((HB.out.cell (World.block_lt_of_cell? w _ hw335_1)).trans hw335_1), ((HB.out.cell (World.block_lt_of_cell? w _ hw335_2)).trans hw335_2), ((HB.out.cell (World.block_lt_of_cell? w _ hw335_3)).trans hw335_3), ((HB.out.cell (World.block_lt_of_cell? w _ hw335_4)).trans hw335_4), ((HB.out.cell (World.block_lt_of_cell? w _ hw336_0)).trans hw336_0), ((HB.out.cell (World.block_lt_of_cell? w _ hw336_1)).trans hw336_1), ((HB.out.cell (World.block_lt_of_cell? w _ hw336_2)).trans hw336_2), ((HB.out.cell (World.block_lt_of_cell? w _ hw336_3)).trans hw336_3), ((HB.out.cell (World.block_lt_of_cell? w _ hw336_4)).trans hw336_4)⟩ (fun hHeld => ?_); refine with_tabW helmsmanref12_SameStmts.tab13 helmsmanref12_SameStmts.bits13 (fun HT_ HW_ => ?_)
                                generalize wr.drew = w51 at BK330 BK332 HB HR335_3 HR336_3 hx335_0 hx335_1 hx335_2 hx335_3 hx335_4 hx336_0 hx336_1 hx336_2 hx336_3 hx336_4 hHeld ⊢
                                refine pure_ (i := 0) (N := some 72) (v := ?_) (a' := ?_) #[true, false, false, false, false, false, false, false, false, false, false, false] rfl rfl (any_of HT_.out (by kernel_rfl)) (fun _ _ _ h => h) (Or.inl ⟨by rfl, ?_⟩) ?_ ?_
                                rotate_left
                                · intro w'
                                  go_simp
                                  with_reducible rfl
                                rotate_left
                                · simp only [Act.put, List.setIfInBounds_toArray, List.set_cons_zero, List.set_cons_succ, i64_w, i32_w]
                                  rfl
                                refine pure_ (i := 2) (N := some 74) (v := ?_) (a' := ?_) #[true, false, true, false, false, false, false, false, false, false, false, false] rfl rfl (any_of HT_.out (by kernel_rfl)) (fun _ _ _ h => h) (Or.inl ⟨by rfl, ?_⟩) ?_ ?_
                                rotate_left
                                · intro w'
                                  go_simp
                                  with_reducible rfl
                                rotate_left
                                · simp only [Act.put, List.setIfInBounds_toArray, List.set_cons_zero, List.set_cons_succ, i64_w, i32_w]
                                  rfl
                                refine pure_ (i := 5) (N := some 77) (v := ?_) (a' := ?_) #[true, false, true, false, false, true, false, false, false, false, false, false] rfl rfl (any_of HT_.out (by kernel_rfl)) (fun _ _ _ h => h) (Or.inl ⟨by rfl, ?_⟩) ?_ ?_
                                rotate_left
                                · intro w'
                                  go_simp
                                  with_reducible rfl
                                rotate_left
                                · simp only [Act.put, List.setIfInBounds_toArray, List.set_cons_zero, List.set_cons_succ, i64_w, i32_w]
                                  rfl
                                refine pure_ (i := 7) (N := some 79) (v := ?_) (a' := ?_) #[true, false, true, false, false, true, false, true, false, false, false, false] rfl rfl (any_of HT_.out (by kernel_rfl)) (fun _ _ _ h => h) (Or.inl ⟨by rfl, ?_⟩) ?_ ?_
                                rotate_left
                                · intro w'
                                  go_simp
                                  with_reducible rfl
                                rotate_left
                                · simp only [Act.put, List.setIfInBounds_toArray, List.set_cons_zero, List.set_cons_succ, i64_w, i32_w]
                                  rfl
                                refine take_ (i := 1) (N := some 73) (v := ?_) (a' := ?_) #[true, true, true, false, false, true, false, true, false, false, false, false] rfl rfl (take_ofW HT_.out HW_.out (by kernel_rfl)) (fun _ _ _ h => h) (Or.inl ⟨by rfl, ?_⟩) hHeld ?_ ?_
                                rotate_left
                                · rintro w' ⟨s0, s1, s2, s3, s4, s5, s6, s7, s8, s9, s10, s11, s12, s13, s14, s15, s16, s17, s18, s19, s20, s21⟩
                                  go_simp
                                  with_reducible rfl
                                rotate_left
                                · simp only [Act.put, List.setIfInBounds_toArray, List.set_cons_zero, List.set_cons_succ, i64_w, i32_w]
                                  rfl
                                refine pure_ (i := 3) (N := some 75) (v := ?_) (a' := ?_) #[true, true, true, true, false, true, false, true, false, false, false, false] rfl rfl (any_of HT_.out (by kernel_rfl)) (fun _ _ _ h => h) (Or.inl ⟨by rfl, ?_⟩) ?_ ?_
                                rotate_left
                                · intro w'
                                  go_simp
                                  with_reducible rfl
                                rotate_left
                                · simp only [Act.put, List.setIfInBounds_toArray, List.set_cons_zero, List.set_cons_succ, i64_w, i32_w]
                                  rfl
                                refine take_ (i := 4) (N := some 76) (v := ?_) (a' := ?_) #[true, true, true, true, true, true, false, true, false, false, false, false] rfl rfl (take_ofW HT_.out HW_.out (by kernel_rfl)) (fun _ _ _ h => h) (Or.inl ⟨by rfl, ?_⟩) hHeld ?_ ?_
                                rotate_left
                                · rintro w' ⟨s0, s1, s2, s3, s4, s5, s6, s7, s8, s9, s10, s11, s12, s13, s14, s15, s16, s17, s18, s19, s20, s21⟩
                                  go_simp
                                  with_reducible rfl
                                rotate_left
                                · simp only [Act.put, List.setIfInBounds_toArray, List.set_cons_zero, List.set_cons_succ, i64_w, i32_w]
                                  rfl
                                refine take_ (i := 6) (N := some 78) (v := ?_) (a' := ?_) #[true, true, true, true, true, true, true, true, false, false, false, false] rfl rfl (take_ofW HT_.out HW_.out (by kernel_rfl)) (fun _ _ _ h => h) (Or.inl ⟨by rfl, ?_⟩) hHeld ?_ ?_
                                rotate_left
                                · rintro w' ⟨s0, s1, s2, s3, s4, s5, s6, s7, s8, s9, s10, s11, s12, s13, s14, s15, s16, s17, s18, s19, s20, s21⟩
                                  go_simp
                                  with_reducible rfl
                                rotate_left
                                · simp only [Act.put, List.setIfInBounds_toArray, List.set_cons_zero, List.set_cons_succ, i64_w, i32_w]
                                  rfl
                                refine pure_ (i := 8) (N := some 80) (v := ?_) (a' := ?_) #[true, true, true, true, true, true, true, true, true, false, false, false] rfl rfl (any_of HT_.out (by kernel_rfl)) (fun _ _ _ h => h) (Or.inl ⟨by rfl, ?_⟩) ?_ ?_
                                rotate_left
                                · intro w'
                                  go_simp
                                  with_reducible rfl
                                rotate_left
                                · simp only [Act.put, List.setIfInBounds_toArray, List.set_cons_zero, List.set_cons_succ, i64_w, i32_w]
                                  rfl
                                refine take_ (i := 9) (N := some 81) (v := ?_) (a' := ?_) #[true, true, true, true, true, true, true, true, true, true, false, false] rfl rfl (take_ofW HT_.out HW_.out (by kernel_rfl)) (fun _ _ _ h => h) (Or.inl ⟨by rfl, ?_⟩) hHeld ?_ ?_
                                rotate_left
                                · rintro w' ⟨s0, s1, s2, s3, s4, s5, s6, s7, s8, s9, s10, s11, s12, s13, s14, s15, s16, s17, s18, s19, s20, s21⟩
                                  go_simp
                                  with_reducible rfl
                                rotate_left
                                · simp only [Act.put, List.setIfInBounds_toArray, List.set_cons_zero, List.set_cons_succ, i64_w, i32_w]
                                  rfl
                                refine one_ (i := 10) (N := some 82) #[true, true, true, true, true, true, true, true, true, true, true, false] rfl rfl (one_of HT_.out (by kernel_rfl)) (by decide) (fun K hK => ?_)
                                refine goes_ Tryd.func27 (by kernel_rfl) rfl #[.agg #[.string ((rd_T24 ((rd_T29 l0 x5_1).f2) x8_3).f0), .string ((rd_T24 ((rd_T29 l0 x5_1).f2) x8_3).f1), .int .i64 ((rd_T24 ((rd_T29 l0 x5_1).f2) x8_3).f2), .slice A335_3 ((rd_T24 ((rd_T29 l0 x5_1).f2) x8_3).f3).length c335_3, .int .i64 ((rd_T24 ((rd_T29 l0 x5_1).f2) x8_3).f4)], .agg #[.string ((rd_T24 ((rd_T29 l1 x5_1).f2) x8_3).f0), .string ((rd_T24 ((rd_T29 l1 x5_1).f2) x8_3).f1), .int .i64 ((rd_T24 ((rd_T29 l1 x5_1).f2) x8_3).f2), .slice A336_3 ((rd_T24 ((rd_T29 l1 x5_1).f2) x8_3).f3).length c336_3, .int .i64 ((rd_T24 ((rd_T29 l1 x5_1).f2) x8_3).f4)]] (by rfl) rfl rfl (by (try simp only [List.map_toArray, List.map_cons, List.map_nil]); first | done | rfl | (simp only [List.length_drop, List.length_take]; rfl)) ?_
                                with_reducible refine (helmsmanref12_SameExpr.calls k3 ((rd_T24 ((rd_T29 l0 x5_1).f2) x8_3).f0) ((rd_T24 ((rd_T29 l0 x5_1).f2) x8_3).f1) ((rd_T24 ((rd_T29 l0 x5_1).f2) x8_3).f2) _ _ ((rd_T24 ((rd_T29 l0 x5_1).f2) x8_3).f3) ((rd_T24 ((rd_T29 l0 x5_1).f2) x8_3).f4) ((rd_T24 ((rd_T29 l1 x5_1).f2) x8_3).f0) ((rd_T24 ((rd_T29 l1 x5_1).f2) x8_3).f1) ((rd_T24 ((rd_T29 l1 x5_1).f2) x8_3).f2) _ _ ((rd_T24 ((rd_T29 l1 x5_1).f2) x8_3).f3) ((rd_T24 ((rd_T29 l1 x5_1).f2) x8_3).f4) false _ ?side1 ?side2 ?side3 ?side4 A43.out).mono ?_
                                (case side1 => repeat (first | exact (Kd.C_below HR335_3.out HB.out) | (with_reducible refine Kd.C_alloc ?_ _) | (with_reducible refine Kd.C_drewN ?_ _) | (with_reducible refine Kd.C_drew ?_)))
                                (case side2 => exact HC335_3.out)
                                (case side3 => repeat (first | exact (Kd.C_below HR336_3.out HB.out) | (with_reducible refine Kd.C_alloc ?_ _) | (with_reducible refine Kd.C_drewN ?_ _) | (with_reducible refine Kd.C_drew ?_)))
                                (case side4 => exact HC336_3.out)
                                rintro e w52 ⟨rfl, hb⟩
                                refine ⟨_, rfl, ?_⟩
                                have n0_ := Aside0.mk (blk_below (g := gb330) (o := .cells #[.string ((rd_T29 l0 x5_1).f0), .string ((rd_T29 l0 x5_1).f1), .slice (some ad335) ((rd_T29 l0 x5_1).f2).length c329_2, .slice A329_3 ((rd_T29 l0 x5_1).f3).length c329_3, .slice A329_4 ((rd_T29 l0 x5_1).f4).length c329_4, .int .i64 ((rd_T29 l0 x5_1).f5)] 29 (0, 0)) (by (with_reducible repeat (first | refine blk_drewN ?_ _ | refine blk_drew ?_ | refine blk_alloc ?_ _)); exact BK330.out) hb)
                                have n1_ := Aside0.mk (blk_below (g := gb332) (o := .cells #[.string ((rd_T29 l1 x5_1).f0), .string ((rd_T29 l1 x5_1).f1), .slice (some ad336) ((rd_T29 l1 x5_1).f2).length c331_2, .slice A331_3 ((rd_T29 l1 x5_1).f3).length c331_3, .slice A331_4 ((rd_T29 l1 x5_1).f4).length c331_4, .int .i64 ((rd_T29 l1 x5_1).f5)] 29 (0, 0)) (by (with_reducible repeat (first | refine blk_drewN ?_ _ | refine blk_drew ?_ | refine blk_alloc ?_ _)); exact BK332.out) hb)
                                have n2_ := Aside0.mk (below_step (by repeat (first | (with_reducible first | exact HB.out | apply below_alloc | apply pw_below_drewN | apply below_drew1 | refine below_set ?_ GE330.out | refine below_set ?_ GE332.out) | exact HB.out)) hb)
                                clear BK330
                                clear BK332
                                clear HB
                                have BK330 := n0_
                                have BK332 := n1_
                                have HB := n2_
                                clear n0_ n1_ n2_
                                (try clear hb)
                                (try clear hb2)
                                (try clear hk)
                                (try clear hi)
                                refine hK.out _ _ ⟨(blk_cell BK330.out 0).trans rfl, (blk_cell BK330.out 1).trans rfl, (blk_cell BK330.out 2).trans rfl, (blk_cell BK330.out 3).trans rfl, (blk_cell BK330.out 4).trans rfl, (blk_cell BK330.out 5).trans rfl, (blk_cell BK332.out 0).trans rfl, (blk_cell BK332.out 1).trans rfl, (blk_cell BK332.out 2).trans rfl, (blk_cell BK332.out 3).trans rfl, (blk_cell BK332.out 4).trans rfl, (blk_cell BK332.out 5).trans rfl, ((HB.out.cell (World.block_lt_of_cell? w _ hw335_0)).trans hw335_0), ((HB.out.cell (World.block_lt_of_cell? w _ hw335_1)).trans hw335_1), ((HB.out.cell (World.block_lt_of_cell? w _ hw335_2)).trans hw335_2), ((HB.out.cell (World.block_lt_of_cell? w _ hw335_3)).trans hw335_3), ((HB.out.cell (World.block_lt_of_cell? w _ hw335_4)).trans hw335_4), ((HB.out.cell (World.block_lt_of_cell? w _ hw336_0)).trans hw336_0), ((HB.out.cell (World.block_lt_of_cell? w _ hw336_1)).trans hw336_1), ((HB.out.cell (World.block_lt_of_cell? w _ hw336_2)).trans hw336_2), ((HB.out.cell (World.block_lt_of_cell? w _ hw336_3)).trans hw336_3), ((HB.out.cell (World.block_lt_of_cell? w _ hw336_4)).trans hw336_4)⟩ (fun hHeld => ?_)
                                clear hK K
                                refine norm_ (a' := ?_) ?_ ?_
                                rotate_left
                                · show Act.put _ (some 82) _ = _
                                  simp only [Act.put, List.setIfInBounds_toArray, List.set_cons_zero, List.set_cons_succ, i64_w, i32_w]
                                  rfl
                                refine pure_ (i := 11) (N := some 83) (v := ?_) (a' := ?_) #[true, true, true, true, true, true, true, true, true, true, true, true] rfl rfl (any_of HT_.out (by kernel_rfl)) (fun _ _ _ h => h) (Or.inl ⟨by rfl, ?_⟩) ?_ ?_
                                rotate_left
                                · intro w'
                                  go_simp
                                  with_reducible rfl
                                rotate_left
                                · simp only [Act.put, List.setIfInBounds_toArray, List.set_cons_zero, List.set_cons_succ, i64_w, i32_w]
                                  rfl
                                refine done_ (done_of HT_.out (by kernel_rfl)) ?_
                                try go_wp2
                                go_ret
                                exact ⟨by first | rfl | (simp [errW_none, errW_some] <;> rfl) | (simp [*, errW_none, errW_some] <;> rfl), by repeat (first | (with_reducible first | exact HB.out | apply below_alloc | apply pw_below_drewN | apply below_drew1 | refine below_set ?_ GE330.out | refine below_set ?_ GE332.out) | exact HB.out)⟩
                            · rw [if_neg c42] at H
                              exact absurd H (by simp)
                          · rw [if_neg c41] at H
                            exact absurd H (by simp)
                        · rw [if_neg c40] at H
                          have c40b0 : decide (x8_3 < (((rd_T29 l0 x5_1).f2).length : Int)) = false := decide_eq_false c40
                          clear c40
                          have H' := Aside0.mk H
                          clear H
                          have hnb53 := NB330_332.out
                          have hnc53 := NB332_330.out
                          have hcz54_0 : wr.cell? ⟨gb330, 0, none⟩ = some (.string ((rd_T29 l0 x5_1).f0)) := (blk_cell BK330.out 0).trans rfl
                          have hcz54_1 : wr.cell? ⟨gb330, 1, none⟩ = some (.string ((rd_T29 l0 x5_1).f1)) := (blk_cell BK330.out 1).trans rfl
                          have hcz54_2 : wr.cell? ⟨gb330, 2, none⟩ = some (.slice A329_2 ((rd_T29 l0 x5_1).f2).length c329_2) := (blk_cell BK330.out 2).trans rfl
                          have hcz54_3 : wr.cell? ⟨gb330, 3, none⟩ = some (.slice A329_3 ((rd_T29 l0 x5_1).f3).length c329_3) := (blk_cell BK330.out 3).trans rfl
                          have hcz54_4 : wr.cell? ⟨gb330, 4, none⟩ = some (.slice A329_4 ((rd_T29 l0 x5_1).f4).length c329_4) := (blk_cell BK330.out 4).trans rfl
                          have hcz54_5 : wr.cell? ⟨gb330, 5, none⟩ = some (.int .i64 ((rd_T29 l0 x5_1).f5)) := (blk_cell BK330.out 5).trans rfl
                          have hfz54_0 := blk_frozen BK330.out 0
                          have hfz54_1 := blk_frozen BK330.out 1
                          have hfz54_2 := blk_frozen BK330.out 2
                          have hfz54_3 := blk_frozen BK330.out 3
                          have hfz54_4 := blk_frozen BK330.out 4
                          have hfz54_5 := blk_frozen BK330.out 5
                          go_wp2
                          go_roundg k3
                          case measure => have := HK1.out; have := HJ6.out; have := HK3.out; omega
                          case rel => exact ⟨(wrap64 (x5_1 + 1)), (by first | rfl | (simp; done) | (simp [*]; done)), H', ⟨by have := HK1.out; have := HJ6.out; have := HK3.out; omega⟩, ⟨by repeat (first | (with_reducible first | exact HB.out | apply below_alloc | apply pw_below_drewN | apply below_drew1 | refine below_set ?_ GE330.out | refine below_set ?_ GE332.out) | exact HB.out)⟩⟩
            · rw [if_neg c6] at H
              exact absurd H (by simp)
          · rw [if_neg c5] at H
            exact absurd H (by simp)
        · rw [if_neg c4] at H
          have c4b0 : decide (x5_1 < (l0.length : Int)) = false := decide_eq_false c4
          clear c4
          obtain rfl := Option.some.inj H
          go_wp2
          go_ret
          exact ⟨by first | rfl | (simp [errW_none, errW_some] <;> rfl) | (simp [*, errW_none, errW_some] <;> rfl), by repeat (first | (with_reducible first | exact HB.out | apply below_alloc | apply pw_below_drewN | apply below_drew1) | exact HB.out)⟩
  · rw [if_neg c3] at H
    have c3b0 : ((l0.length : Int) == (l1.length : Int)) = false := beq_eq_false_iff_ne.mpr c3
    have c3b1 : ((l0.length : Int) != (l1.length : Int)) = true := bne_iff_ne.mpr c3
    have c3b2 : (l0.length == l1.length) = false := by first | simpa using c3 | (simp at c3 ⊢; omega)
    obtain rfl := Option.some.inj H
    go_enter Tryd.func25, Tryd.ntmps25
    go_wp2
    go_ret
    exact ⟨by first | rfl | (simp [errW_none, errW_some] <;> rfl) | (simp [*, errW_none, errW_some] <;> rfl), by repeat (first | (with_reducible first | exact HB.out | apply below_alloc | apply pw_below_drewN | apply below_drew1) | exact HB.out)⟩

end Go.Proofs.YtnnbbeloifhofaaDoor.P
end
