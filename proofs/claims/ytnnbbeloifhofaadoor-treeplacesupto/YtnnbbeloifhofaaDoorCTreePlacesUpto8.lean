/- Texts of this claim, joined: Pxf6. -/
import Derived.Test.YtnnbbeloifhofaaDoorCTreePlacesUpto0
import Derived.Test.YtnnbbeloifhofaaDoorCTreePlacesUpto7
import Derived.Test.YtnnbbeloifhofaaDoorCTreePlacesUpto6
import Derived.Test.YtnnbbeloifhofaaDoorCTreePlacesUpto3
import Derived.Test.YtnnbbeloifhofaaDoorCTreePlacesUpto4
section
namespace Go.Proofs.YtnnbbeloifhofaaDoor.P
open Go.RowKit Go.Proofs.YtnnbbeloifhofaaDoorW.PrintWords Go.Proofs.YtnnbbeloifhofaaDoorW.PrintLast Go.Proofs.YtnnbbeloifhofaaDoorW.PrintMore
attribute [local go_sem] max2_int min2_int max_two min_two max_three min_three max_four min_four   -- for this text's walks alone
set_option linter.unusedVariables false
set_option linter.unusedSimpArgs false

/-! ### helmsmanlaw12_TreePlaces: function 6 -/
mutual
def helmsmanlaw12_TreePlaces.j0 : Nat → Int → Bool → List (S72) → List (S56) → List (S69) → List (S29) → Option (Bool)
 | 0, _, _, _, _, _, _ => none
 | k + 1, x1, x19, x449000, x449001, x449002, x449003 => if x19 = true then ((helmsmanlaw12_alive.f).bind fun t450 => (some t450)) else ((helmsmanlaw12_Prog.f k x449000 x449001 x449002 x449003).bind fun bt451 => ((helmsmanlaw12_moved.f k bt451.2.2.2 x1).bind fun t464 => (helmsmanlaw12_TreePlaces.l0 k x1 bt451.2.2.1 (bt451.2.2.1.length : Int) 0 bt451.1 bt451.2.1 bt451.2.2.1 bt451.2.2.2 bt451.1 bt451.2.1 ([] : List (S66)) t464)))
def helmsmanlaw12_TreePlaces.l0 : Nat → Int → List (S66) → Int → Int → List (S79) → List (S80) → List (S66) → List (S76) → List (S79) → List (S80) → List (S66) → List (S76) → Option (Bool)
 | 0, _, _, _, _, _, _, _, _, _, _, _, _ => none
 | k + 1, x1, x33, x34, x35, x464000, x464001, x464002, x464003, x468000, x468001, x468002, x468003 => if x35 < x34 then (if 0 ≤ x35 then (if x35 < (x33.length : Int) then ((helmsmanlaw12_moved.f k ((rd_T66 x33 x35).f1) x1).bind fun t470 => (if x468002.length < 3518437208883 then (helmsmanlaw12_TreePlaces.l0 k x1 x33 x34 (wrap64 (x35 + 1)) x464000 x464001 x464002 x464003 x468000 x468001 (x468002 ++ [(⟨(rd_T66 x33 x35).f0, t470⟩ : S66)]) x468003) else (none))) else (none)) else (none)) else ((helmsmanlaw12_alive.f).bind fun t476 => (if t476 = true then ((tree_Same.f k x464000 x464001 x464002 x464003 x468000 x468001 x468002 x468003).bind fun t477 => (if t477 = true then ((tree_Same.f k x464000 x464001 x464002 x464003 x464000 x464001 x464002 x464003).bind fun t478 => (if t478 = true then ((tree_Print.f x464000 x464001 x464002 x464003).bind fun t479 => ((tree_Print.f x468000 x468001 x468002 x468003).bind fun t480 => (some (t479.toList == t480.toList)))) else (some false))) else (some false))) else (some false)))
end
def helmsmanlaw12_TreePlaces.f (k : Nat) (l0_0 : List (S72)) (l0_1 : List (S56)) (l0_2 : List (S69)) (l0_3 : List (S29)) (a1 : Int) : Option (Bool) := (helmsmanref12_Sized.f k l0_0 l0_1 l0_2 l0_3).bind fun t449 => (if t449 > 300 then (helmsmanlaw12_TreePlaces.j0 k a1 true l0_0 l0_1 l0_2 l0_3) else (if a1 < (-1000) then (helmsmanlaw12_TreePlaces.j0 k a1 true l0_0 l0_1 l0_2 l0_3) else (helmsmanlaw12_TreePlaces.j0 k a1 (decide (a1 > 1000)) l0_0 l0_1 l0_2 l0_3)))
theorem helmsmanlaw12_TreePlaces.mono_l : ∀ k, (∀ y0 y1 y2 y3 y4 y5, LeO (helmsmanlaw12_TreePlaces.j0 k y0 y1 y2 y3 y4 y5) (helmsmanlaw12_TreePlaces.j0 (k + 1) y0 y1 y2 y3 y4 y5)) ∧ (∀ y0 y1 y2 y3 y4 y5 y6 y7 y8 y9 y10 y11, LeO (helmsmanlaw12_TreePlaces.l0 k y0 y1 y2 y3 y4 y5 y6 y7 y8 y9 y10 y11) (helmsmanlaw12_TreePlaces.l0 (k + 1) y0 y1 y2 y3 y4 y5 y6 y7 y8 y9 y10 y11))
 | 0 => ⟨fun _ _ _ _ _ _ r h => by simp [helmsmanlaw12_TreePlaces.j0] at h, fun _ _ _ _ _ _ _ _ _ _ _ _ r h => by simp [helmsmanlaw12_TreePlaces.l0] at h⟩
 | k + 1 => by
  obtain ⟨ih0, ih1⟩ := helmsmanlaw12_TreePlaces.mono_l k
  refine ⟨?_, ?_⟩
  ·intro y0 y1 y2 y3 y4 y5
   unfold helmsmanlaw12_TreePlaces.j0
   repeat' first
   | (with_reducible exact ih0 _ _ _ _ _ _)
   | (with_reducible exact ih1 _ _ _ _ _ _ _ _ _ _ _ _)
   | (with_reducible exact helmsmanlaw12_Prog.mono _ _ _ _ _)
   | (with_reducible exact helmsmanlaw12_moved.mono _ _ _)
   | (with_reducible exact helmsmanref12_Sized.mono _ _ _ _ _)
   | (with_reducible exact tree_Same.mono _ _ _ _ _ _ _ _ _)
   | (with_reducible exact LeO.refl _)
   | (with_reducible exact LeO.none _)
   | (with_reducible refine LeO.ite ?_ ?_)
   | (with_reducible refine LeO.bind ?_ (fun _ => ?_))
   | exact ih0 _ _ _ _ _ _
   | exact ih1 _ _ _ _ _ _ _ _ _ _ _ _
   | exact helmsmanlaw12_Prog.mono _ _ _ _ _
   | exact helmsmanlaw12_moved.mono _ _ _
   | exact helmsmanref12_Sized.mono _ _ _ _ _
   | exact tree_Same.mono _ _ _ _ _ _ _ _ _
   | exact LeO.none _
   | refine LeO.ite ?_ ?_
   | refine LeO.bind ?_ (fun _ => ?_)
  ·intro y0 y1 y2 y3 y4 y5 y6 y7 y8 y9 y10 y11
   unfold helmsmanlaw12_TreePlaces.l0
   repeat' first
   | (with_reducible exact ih0 _ _ _ _ _ _)
   | (with_reducible exact ih1 _ _ _ _ _ _ _ _ _ _ _ _)
   | (with_reducible exact helmsmanlaw12_Prog.mono _ _ _ _ _)
   | (with_reducible exact helmsmanlaw12_moved.mono _ _ _)
   | (with_reducible exact helmsmanref12_Sized.mono _ _ _ _ _)
   | (with_reducible exact tree_Same.mono _ _ _ _ _ _ _ _ _)
   | (with_reducible exact LeO.refl _)
   | (with_reducible exact LeO.none _)
   | (with_reducible refine LeO.ite ?_ ?_)
   | (with_reducible refine LeO.bind ?_ (fun _ => ?_))
   | exact ih0 _ _ _ _ _ _
   | exact ih1 _ _ _ _ _ _ _ _ _ _ _ _
   | exact helmsmanlaw12_Prog.mono _ _ _ _ _
   | exact helmsmanlaw12_moved.mono _ _ _
   | exact helmsmanref12_Sized.mono _ _ _ _ _
   | exact tree_Same.mono _ _ _ _ _ _ _ _ _
   | exact LeO.none _
   | refine LeO.ite ?_ ?_
   | refine LeO.bind ?_ (fun _ => ?_)
theorem helmsmanlaw12_TreePlaces.mono : ∀ a0 a1 a2 a3 a4 k, LeO (helmsmanlaw12_TreePlaces.f k a0 a1 a2 a3 a4) (helmsmanlaw12_TreePlaces.f (k + 1) a0 a1 a2 a3 a4) := by
 intro a0 a1 a2 a3 a4 k
 obtain ⟨ih0, ih1⟩ := helmsmanlaw12_TreePlaces.mono_l k
 unfold helmsmanlaw12_TreePlaces.f
 repeat' first
   | (with_reducible exact ih0 _ _ _ _ _ _)
   | (with_reducible exact ih1 _ _ _ _ _ _ _ _ _ _ _ _)
   | (with_reducible exact helmsmanlaw12_Prog.mono _ _ _ _ _)
   | (with_reducible exact helmsmanlaw12_moved.mono _ _ _)
   | (with_reducible exact helmsmanref12_Sized.mono _ _ _ _ _)
   | (with_reducible exact tree_Same.mono _ _ _ _ _ _ _ _ _)
   | (with_reducible exact LeO.refl _)
   | (with_reducible exact LeO.none _)
   | (with_reducible refine LeO.ite ?_ ?_)
   | (with_reducible refine LeO.bind ?_ (fun _ => ?_))
   | exact ih0 _ _ _ _ _ _
   | exact ih1 _ _ _ _ _ _ _ _ _ _ _ _
   | exact helmsmanlaw12_Prog.mono _ _ _ _ _
   | exact helmsmanlaw12_moved.mono _ _ _
   | exact helmsmanref12_Sized.mono _ _ _ _ _
   | exact tree_Same.mono _ _ _ _ _ _ _ _ _
   | exact LeO.none _
   | refine LeO.ite ?_ ?_
   | refine LeO.bind ?_ (fun _ => ?_)
def helmsmanlaw12_TreePlaces.T4 : Bool × List (List Nat × List Nat) := (true, [([], []), ([0], [0]), ([], []), ([2], [2]), ([], []), ([4], [4]), ([], []), ([5, 6], [5, 6]), ([1, 3, 7], [1, 3, 7]), ([], []), ([9, 8, 7, 0, 1, 2, 3, 4, 5, 6, 7, 8, 9], [8, 9])])
def helmsmanlaw12_TreePlaces.B4 : List Nat := [0, 1, 0, 4, 0, 16, 0, 112, 255, 0, 1023]
theorem helmsmanlaw12_TreePlaces.tab4 : rtab .any (opsOf Tryd.f6 4) = helmsmanlaw12_TreePlaces.T4 := by kernel_rfl
theorem helmsmanlaw12_TreePlaces.bits4 : waitsOk helmsmanlaw12_TreePlaces.T4.2 helmsmanlaw12_TreePlaces.B4 = true := by kernel_rfl
def helmsmanlaw12_TreePlaces.T8 : Bool × List (List Nat × List Nat) := (true, [([], []), ([0], [0]), ([], []), ([2], [2]), ([], []), ([4], [4]), ([], []), ([5, 6], [5, 6]), ([3, 7], [3, 7]), ([8], [8]), ([1, 9, 7], [1, 9]), ([0, 1, 2, 3, 4, 5, 6, 7, 8, 9, 10], []), ([11, 10, 10, 0, 1, 2, 3, 4, 5, 6, 7, 8, 9, 10], [10, 11])])
def helmsmanlaw12_TreePlaces.B8 : List Nat := [0, 1, 0, 4, 0, 16, 0, 112, 252, 508, 1023, 2047, 4095]
theorem helmsmanlaw12_TreePlaces.tab8 : rtab .any (opsOf Tryd.f6 8) = helmsmanlaw12_TreePlaces.T8 := by kernel_rfl
theorem helmsmanlaw12_TreePlaces.bits8 : waitsOk helmsmanlaw12_TreePlaces.T8.2 helmsmanlaw12_TreePlaces.B8 = true := by kernel_rfl
def helmsmanlaw12_TreePlaces.T10 : Bool × List (List Nat × List Nat) := (true, [([], []), ([0, 0], [0]), ([1], [1]), ([1], [1]), ([2, 3, 1, 1], [1, 2, 3]), ([1, 4], [1, 4]), ([5, 4], [5]), ([6], [6]), ([6], [6]), ([7, 8, 6, 6], [6, 7, 8]), ([6, 9], [6, 9]), ([10, 9], [10]), ([11], [11]), ([12, 11, 11], [11, 12]), ([11], [11]), ([14, 13, 11], [11, 14]), ([13, 15, 11], [11, 13, 15]), ([11, 16], [11, 16]), ([17, 15, 0, 1, 2, 3, 4, 5, 6, 7, 8, 9, 10, 11, 12, 13, 14, 15, 16, 17], [17])])
def helmsmanlaw12_TreePlaces.B10 : List Nat := [0, 1, 3, 3, 15, 31, 63, 127, 127, 511, 1023, 2047, 4095, 8191, 4095, 32767, 65535, 131071, 262143]
theorem helmsmanlaw12_TreePlaces.tab10 : rtab .any (opsOf Tryd.f6 10) = helmsmanlaw12_TreePlaces.T10 := by kernel_rfl
theorem helmsmanlaw12_TreePlaces.bits10 : waitsOk helmsmanlaw12_TreePlaces.T10.2 helmsmanlaw12_TreePlaces.B10 = true := by kernel_rfl
set_option maxHeartbeats 8000000 in
set_option maxRecDepth 100000 in
theorem helmsmanlaw12_TreePlaces.calls (k : Nat) (A0_0 : Option Addr) (c0_0 : Nat) (l0_0 : List (S72)) (A0_1 : Option Addr) (c0_1 : Nat) (l0_1 : List (S56)) (A0_2 : Option Addr) (c0_2 : Nat) (l0_2 : List (S69)) (A0_3 : Option Addr) (c0_3 : Nat) (l0_3 : List (S29)) (a1 : Int) (r : Bool) (w : World) (hT : TabT w) (hr0_0 : Kd.C k72 w A0_0 l0_0.length l0_0) (hc0_0 : l0_0.length ≤ c0_0) (hr0_1 : Kd.C k56 w A0_1 l0_1.length l0_1) (hc0_1 : l0_1.length ≤ c0_1) (hr0_2 : Kd.C k69 w A0_2 l0_2.length l0_2) (hc0_2 : l0_2.length ≤ c0_2) (hr0_3 : Kd.C k29 w A0_3 l0_3.length l0_3) (hc0_3 : l0_3.length ≤ c0_3) (h : helmsmanlaw12_TreePlaces.f k l0_0 l0_1 l0_2 l0_3 a1 = some r) :
  Calls Tryd.prog 6 #[.agg #[.slice A0_0 l0_0.length c0_0, .slice A0_1 l0_1.length c0_1, .slice A0_2 l0_2.length c0_2, .slice A0_3 l0_3.length c0_3], .int .i64 a1] w fun e w' => e = .returned (.bool r) ∧ Below w.heap.size w w' := by
 have hu43 := Tryd.underlying43
 have hu50 := Tryd.underlying50
 have hu66 := Tryd.underlying66
 have HR0_0 := Aside0.mk hr0_0
 have HC0_0 := Aside0.mk hc0_0
 clear hr0_0 hc0_0
 have HR0_1 := Aside0.mk hr0_1
 have HC0_1 := Aside0.mk hc0_1
 clear hr0_1 hc0_1
 have HR0_2 := Aside0.mk hr0_2
 have HC0_2 := Aside0.mk hc0_2
 clear hr0_2 hc0_2
 have HR0_3 := Aside0.mk hr0_3
 have HC0_3 := Aside0.mk hc0_3
 clear hr0_3 hc0_3
 have HB := Aside0.mk (Below.refl w.heap.size w)
 have H : ((helmsmanref12_Sized.f k l0_0 l0_1 l0_2 l0_3).bind fun t449 => (if t449 > 300 then (helmsmanlaw12_TreePlaces.j0 k a1 true l0_0 l0_1 l0_2 l0_3) else (if a1 < (-1000) then (helmsmanlaw12_TreePlaces.j0 k a1 true l0_0 l0_1 l0_2 l0_3) else (helmsmanlaw12_TreePlaces.j0 k a1 (decide (a1 > 1000)) l0_0 l0_1 l0_2 l0_3)))) = some r := h
 clear h
 have HC3 := Aside0.mk H
 clear H
 go_enter Tryd.func6, Tryd.ntmps6
 go_upto_region 1 with (first | ((with_reducible refine gate_dst (N := 2) rfl ?_); refine box_event ?hg (N := 2) ?hd (cs := #[.slice A0_0 l0_0.length c0_0, .slice A0_1 l0_1.length c0_1, .slice A0_2 l0_2.length c0_2, .slice A0_3 l0_3.length c0_3]) (t := 43) ?hr ?_; (case hd => rfl); (case hg => rfl); (case hr => first | (go_simp; done) | (go_simp; rfl)); intro gb448 hg w4 hbox hb; have n0_ := Aside0.mk (below_step (by repeat (first | (with_reducible first | exact HB.out | apply below_alloc | apply pw_below_drewN | apply below_drew1) | exact HB.out)) hb); have n1_ := Aside0.mk (hbox); have n2_ := Aside0.mk ((by rw [hg]; exact (below_size (by repeat (first | (with_reducible first | exact HB.out | apply below_alloc | apply pw_below_drewN | apply below_drew1) | exact HB.out))) : w.heap.size ≤ gb448)); have n3_ := Aside0.mk ((by rw [hg]; exact (below_size (by repeat (first | (with_reducible first | exact HB.out | apply below_alloc | apply pw_below_drewN | apply below_drew1) | exact HB.out))) : w.heap.size ≤ gb448)); clear HB; have HB := n0_; have BK448 := n1_; have GW448 := n2_; have GE448 := n3_; clear n0_ n1_ n2_ n3_; clear hb hbox hg))
 (try simp only [Act.put, List.setIfInBounds_toArray, List.set_cons_zero, List.set_cons_succ])
 go_cut [19] (fun v19 wc => ∃ (kq : Nat) (x19_2 : Bool), v19 = .bool x19_2 ∧ Aside0 (helmsmanlaw12_TreePlaces.j0 kq a1 x19_2 l0_0 l0_1 l0_2 l0_3 = some r) ∧ Aside0 (kq ≤ k) ∧ Aside0 (wc.heap[gb448]? = some (.cells #[(.slice A0_0 l0_0.length c0_0), (.slice A0_1 l0_1.length c0_1), (.slice A0_2 l0_2.length c0_2), (.slice A0_3 l0_3.length c0_3)] 43 (0, 0))) ∧ Aside0 (Below w.heap.size w wc))
 case first => as_aux_lemma =>
  have H := HC3.out
  clear HC3
  replace H := Option.bind_eq_some_iff.mp H
  obtain ⟨t449, A50, H⟩ := H
  replace H : (if t449 > 300 then (helmsmanlaw12_TreePlaces.j0 k a1 true l0_0 l0_1 l0_2 l0_3) else (if a1 < (-1000) then (helmsmanlaw12_TreePlaces.j0 k a1 true l0_0 l0_1 l0_2 l0_3) else (helmsmanlaw12_TreePlaces.j0 k a1 (decide (a1 > 1000)) l0_0 l0_1 l0_2 l0_3))) = some r := H
  have A5 := Aside0.mk A50
  clear A50
  by_cases c6 : t449 > 300
  ·rw [if_pos c6] at H
   have c6b0 : decide (300 < t449) = true := decide_eq_true c6
   clear c6
   (first | rw [c6b0] | (simp only [i64_w, i32_w]; rw [c6b0]) | skip)
   have H' := Aside0.mk H
   clear H
   have hcz7_0 : w4.cell? ⟨gb448, 0, none⟩ = some (.slice A0_0 l0_0.length c0_0) := (blk_cell BK448.out 0).trans rfl
   have hcz7_1 : w4.cell? ⟨gb448, 1, none⟩ = some (.slice A0_1 l0_1.length c0_1) := (blk_cell BK448.out 1).trans rfl
   have hcz7_2 : w4.cell? ⟨gb448, 2, none⟩ = some (.slice A0_2 l0_2.length c0_2) := (blk_cell BK448.out 2).trans rfl
   have hcz7_3 : w4.cell? ⟨gb448, 3, none⟩ = some (.slice A0_3 l0_3.length c0_3) := (blk_cell BK448.out 3).trans rfl
   have hfz7_0 := blk_frozen BK448.out 0
   have hfz7_1 := blk_frozen BK448.out 1
   have hfz7_2 := blk_frozen BK448.out 2
   have hfz7_3 := blk_frozen BK448.out 3
   go_wp2_with (first | ((with_reducible refine gate_callee (f := 16) rfl ?_); refine goesL_ (some 10) rfl rfl Tryd.func16 (by kernel_rfl) rfl #[.agg #[.slice A0_0 l0_0.length c0_0, .slice A0_1 l0_1.length c0_1, .slice A0_2 l0_2.length c0_2, .slice A0_3 l0_3.length c0_3]] rfl (by (try simp only [List.map_toArray, List.map_cons, List.map_nil]); first | done | rfl | (simp only [List.length_drop, List.length_take]; rfl)) ?_; (with_reducible refine (helmsmanref12_Sized.calls k _ _ l0_0 _ _ l0_1 _ _ l0_2 _ _ l0_3 t449 _ ?side1 ?side2 ?side3 ?side4 ?side5 ?side6 ?side7 ?side8 A5.out).mono ?_); (case side1 => repeat (first | exact (Kd.C_below HR0_0.out HB.out) | (with_reducible refine Kd.C_alloc ?_ _) | (with_reducible refine Kd.C_drewN ?_ _) | (with_reducible refine Kd.C_drew ?_))); (case side2 => exact HC0_0.out); (case side3 => repeat (first | exact (Kd.C_below HR0_1.out HB.out) | (with_reducible refine Kd.C_alloc ?_ _) | (with_reducible refine Kd.C_drewN ?_ _) | (with_reducible refine Kd.C_drew ?_))); (case side4 => exact HC0_1.out); (case side5 => repeat (first | exact (Kd.C_below HR0_2.out HB.out) | (with_reducible refine Kd.C_alloc ?_ _) | (with_reducible refine Kd.C_drewN ?_ _) | (with_reducible refine Kd.C_drew ?_))); (case side6 => exact HC0_2.out); (case side7 => repeat (first | exact (Kd.C_below HR0_3.out HB.out) | (with_reducible refine Kd.C_alloc ?_ _) | (with_reducible refine Kd.C_drewN ?_ _) | (with_reducible refine Kd.C_drew ?_))); (case side8 => exact HC0_3.out); rintro e w8 ⟨rfl, hb⟩; refine ⟨_, rfl, ?_⟩; have n0_ := Aside0.mk (blk_below (g := gb448) (o := .cells #[.slice A0_0 l0_0.length c0_0, .slice A0_1 l0_1.length c0_1, .slice A0_2 l0_2.length c0_2, .slice A0_3 l0_3.length c0_3] 43 (0, 0)) (by (with_reducible repeat (first | refine blk_drewN ?_ _ | refine blk_drew ?_ | refine blk_alloc ?_ _)); exact BK448.out) hb); have n1_ := Aside0.mk (below_step (by repeat (first | (with_reducible first | exact HB.out | apply below_alloc | apply pw_below_drewN | apply below_drew1 | refine below_set ?_ GE448.out) | exact HB.out)) hb); clear BK448; clear HB; have BK448 := n0_; have HB := n1_; clear n0_ n1_; (try clear hb); (try clear hb2); (try clear hk); (try clear hi)))
   go_meet
   case rel => exact ⟨_, (true), (by first | rfl | (simp; done) | (simp [*]; done)), H', ⟨by first | omega | exact Nat.le_refl _⟩, ⟨by (with_reducible repeat (first | refine blk_drewN ?_ _ | refine blk_drew ?_ | refine blk_alloc ?_ _)); exact BK448.out⟩, ⟨by repeat (first | (with_reducible first | exact HB.out | apply below_alloc | apply pw_below_drewN | apply below_drew1 | refine below_set ?_ GE448.out) | exact HB.out)⟩⟩
  ·rw [if_neg c6] at H
   have c6b0 : decide (300 < t449) = false := decide_eq_false c6
   clear c6
   (first | rw [c6b0] | (simp only [i64_w, i32_w]; rw [c6b0]) | skip)
   by_cases c9 : a1 < (-1000)
   ·rw [if_pos c9] at H
    have c9b0 : decide (a1 < (-1000)) = true := decide_eq_true c9
    clear c9
    have H' := Aside0.mk H
    clear H
    have hcz10_0 : w4.cell? ⟨gb448, 0, none⟩ = some (.slice A0_0 l0_0.length c0_0) := (blk_cell BK448.out 0).trans rfl
    have hcz10_1 : w4.cell? ⟨gb448, 1, none⟩ = some (.slice A0_1 l0_1.length c0_1) := (blk_cell BK448.out 1).trans rfl
    have hcz10_2 : w4.cell? ⟨gb448, 2, none⟩ = some (.slice A0_2 l0_2.length c0_2) := (blk_cell BK448.out 2).trans rfl
    have hcz10_3 : w4.cell? ⟨gb448, 3, none⟩ = some (.slice A0_3 l0_3.length c0_3) := (blk_cell BK448.out 3).trans rfl
    have hfz10_0 := blk_frozen BK448.out 0
    have hfz10_1 := blk_frozen BK448.out 1
    have hfz10_2 := blk_frozen BK448.out 2
    have hfz10_3 := blk_frozen BK448.out 3
    go_wp2_with (first | ((with_reducible refine gate_callee (f := 16) rfl ?_); refine goesL_ (some 10) rfl rfl Tryd.func16 (by kernel_rfl) rfl #[.agg #[.slice A0_0 l0_0.length c0_0, .slice A0_1 l0_1.length c0_1, .slice A0_2 l0_2.length c0_2, .slice A0_3 l0_3.length c0_3]] rfl (by (try simp only [List.map_toArray, List.map_cons, List.map_nil]); first | done | rfl | (simp only [List.length_drop, List.length_take]; rfl)) ?_; (with_reducible refine (helmsmanref12_Sized.calls k _ _ l0_0 _ _ l0_1 _ _ l0_2 _ _ l0_3 t449 _ ?side1 ?side2 ?side3 ?side4 ?side5 ?side6 ?side7 ?side8 A5.out).mono ?_); (case side1 => repeat (first | exact (Kd.C_below HR0_0.out HB.out) | (with_reducible refine Kd.C_alloc ?_ _) | (with_reducible refine Kd.C_drewN ?_ _) | (with_reducible refine Kd.C_drew ?_))); (case side2 => exact HC0_0.out); (case side3 => repeat (first | exact (Kd.C_below HR0_1.out HB.out) | (with_reducible refine Kd.C_alloc ?_ _) | (with_reducible refine Kd.C_drewN ?_ _) | (with_reducible refine Kd.C_drew ?_))); (case side4 => exact HC0_1.out); (case side5 => repeat (first | exact (Kd.C_below HR0_2.out HB.out) | (with_reducible refine Kd.C_alloc ?_ _) | (with_reducible refine Kd.C_drewN ?_ _) | (with_reducible refine Kd.C_drew ?_))); (case side6 => exact HC0_2.out); (case side7 => repeat (first | exact (Kd.C_below HR0_3.out HB.out) | (with_reducible refine Kd.C_alloc ?_ _) | (with_reducible refine Kd.C_drewN ?_ _) | (with_reducible refine Kd.C_drew ?_))); (case side8 => exact HC0_3.out); rintro e w11 ⟨rfl, hb⟩; refine ⟨_, rfl, ?_⟩; have n0_ := Aside0.mk (blk_below (g := gb448) (o := .cells #[.slice A0_0 l0_0.length c0_0, .slice A0_1 l0_1.length c0_1, .slice A0_2 l0_2.length c0_2, .slice A0_3 l0_3.length c0_3] 43 (0, 0)) (by (with_reducible repeat (first | refine blk_drewN ?_ _ | refine blk_drew ?_ | refine blk_alloc ?_ _)); exact BK448.out) hb); have n1_ := Aside0.mk (below_step (by repeat (first | (with_reducible first | exact HB.out | apply below_alloc | apply pw_below_drewN | apply below_drew1 | refine below_set ?_ GE448.out) | exact HB.out)) hb); clear BK448; clear HB; have BK448 := n0_; have HB := n1_; clear n0_ n1_; (try clear hb); (try clear hb2); (try clear hk); (try clear hi)))
    go_meet
    case rel => exact ⟨_, (true), (by first | rfl | (simp; done) | (simp [*]; done)), H', ⟨by first | omega | exact Nat.le_refl _⟩, ⟨by (with_reducible repeat (first | refine blk_drewN ?_ _ | refine blk_drew ?_ | refine blk_alloc ?_ _)); exact BK448.out⟩, ⟨by repeat (first | (with_reducible first | exact HB.out | apply below_alloc | apply pw_below_drewN | apply below_drew1 | refine below_set ?_ GE448.out) | exact HB.out)⟩⟩
   ·rw [if_neg c9] at H
    have c9b0 : decide (a1 < (-1000)) = false := decide_eq_false c9
    clear c9
    have H' := Aside0.mk H
    clear H
    have hcz12_0 : w4.cell? ⟨gb448, 0, none⟩ = some (.slice A0_0 l0_0.length c0_0) := (blk_cell BK448.out 0).trans rfl
    have hcz12_1 : w4.cell? ⟨gb448, 1, none⟩ = some (.slice A0_1 l0_1.length c0_1) := (blk_cell BK448.out 1).trans rfl
    have hcz12_2 : w4.cell? ⟨gb448, 2, none⟩ = some (.slice A0_2 l0_2.length c0_2) := (blk_cell BK448.out 2).trans rfl
    have hcz12_3 : w4.cell? ⟨gb448, 3, none⟩ = some (.slice A0_3 l0_3.length c0_3) := (blk_cell BK448.out 3).trans rfl
    have hfz12_0 := blk_frozen BK448.out 0
    have hfz12_1 := blk_frozen BK448.out 1
    have hfz12_2 := blk_frozen BK448.out 2
    have hfz12_3 := blk_frozen BK448.out 3
    go_wp2_with (first | ((with_reducible refine gate_callee (f := 16) rfl ?_); refine goesL_ (some 10) rfl rfl Tryd.func16 (by kernel_rfl) rfl #[.agg #[.slice A0_0 l0_0.length c0_0, .slice A0_1 l0_1.length c0_1, .slice A0_2 l0_2.length c0_2, .slice A0_3 l0_3.length c0_3]] rfl (by (try simp only [List.map_toArray, List.map_cons, List.map_nil]); first | done | rfl | (simp only [List.length_drop, List.length_take]; rfl)) ?_; (with_reducible refine (helmsmanref12_Sized.calls k _ _ l0_0 _ _ l0_1 _ _ l0_2 _ _ l0_3 t449 _ ?side1 ?side2 ?side3 ?side4 ?side5 ?side6 ?side7 ?side8 A5.out).mono ?_); (case side1 => repeat (first | exact (Kd.C_below HR0_0.out HB.out) | (with_reducible refine Kd.C_alloc ?_ _) | (with_reducible refine Kd.C_drewN ?_ _) | (with_reducible refine Kd.C_drew ?_))); (case side2 => exact HC0_0.out); (case side3 => repeat (first | exact (Kd.C_below HR0_1.out HB.out) | (with_reducible refine Kd.C_alloc ?_ _) | (with_reducible refine Kd.C_drewN ?_ _) | (with_reducible refine Kd.C_drew ?_))); (case side4 => exact HC0_1.out); (case side5 => repeat (first | exact (Kd.C_below HR0_2.out HB.out) | (with_reducible refine Kd.C_alloc ?_ _) | (with_reducible refine Kd.C_drewN ?_ _) | (with_reducible refine Kd.C_drew ?_))); (case side6 => exact HC0_2.out); (case side7 => repeat (first | exact (Kd.C_below HR0_3.out HB.out) | (with_reducible refine Kd.C_alloc ?_ _) | (with_reducible refine Kd.C_drewN ?_ _) | (with_reducible refine Kd.C_drew ?_))); (case side8 => exact HC0_3.out); rintro e w13 ⟨rfl, hb⟩; refine ⟨_, rfl, ?_⟩; have n0_ := Aside0.mk (blk_below (g := gb448) (o := .cells #[.slice A0_0 l0_0.length c0_0, .slice A0_1 l0_1.length c0_1, .slice A0_2 l0_2.length c0_2, .slice A0_3 l0_3.length c0_3] 43 (0, 0)) (by (with_reducible repeat (first | refine blk_drewN ?_ _ | refine blk_drew ?_ | refine blk_alloc ?_ _)); exact BK448.out) hb); have n1_ := Aside0.mk (below_step (by repeat (first | (with_reducible first | exact HB.out | apply below_alloc | apply pw_below_drewN | apply below_drew1 | refine below_set ?_ GE448.out) | exact HB.out)) hb); clear BK448; clear HB; have BK448 := n0_; have HB := n1_; clear n0_ n1_; (try clear hb); (try clear hb2); (try clear hk); (try clear hi)))
    go_meet
    case rel => exact ⟨_, (decide (a1 > 1000)), (by first | rfl | (simp; done) | (simp [*]; done)), H', ⟨by first | omega | exact Nat.le_refl _⟩, ⟨by (with_reducible repeat (first | refine blk_drewN ?_ _ | refine blk_drew ?_ | refine blk_alloc ?_ _)); exact BK448.out⟩, ⟨by repeat (first | (with_reducible first | exact HB.out | apply below_alloc | apply pw_below_drewN | apply below_drew1 | refine below_set ?_ GE448.out) | exact HB.out)⟩⟩
 case rest => as_aux_lemma =>
  clear HC3
  (try clear c1); (try clear p2); (try clear c6); (try clear c6b0); (try clear c9); (try clear c9b0); (try clear hcz10_0); (try clear hcz10_1); (try clear hcz10_2); (try clear hcz10_3); (try clear hcz12_0); (try clear hcz12_1); (try clear hcz12_2); (try clear hcz12_3); (try clear hcz7_0); (try clear hcz7_1); (try clear hcz7_2); (try clear hcz7_3); (try clear hfz10_0); (try clear hfz10_1); (try clear hfz10_2); (try clear hfz10_3); (try clear hfz12_0); (try clear hfz12_1); (try clear hfz12_2); (try clear hfz12_3); (try clear hfz7_0); (try clear hfz7_1); (try clear hfz7_2); (try clear hfz7_3)
  obtain ⟨kq, x19_2, rfl, HA, HJ2, BK448, HB⟩ := hcut
  cases kq with
  | zero => exact absurd HA.out (by simp [helmsmanlaw12_TreePlaces.j0])
  | succ kj2 =>
   have H := HA.out
   clear HA
   simp only [helmsmanlaw12_TreePlaces.j0] at H
   by_cases c14 : x19_2 = true
   ·subst c14
    have H1 : ((helmsmanlaw12_alive.f).bind fun t450 => (some t450)) = some r := by rw [if_pos rfl] at H; exact H
    clear H
    have H := H1
    clear H1
    replace H := Option.bind_eq_some_iff.mp H
    obtain ⟨t450, A150, H⟩ := H
    replace H : (some t450) = some r := H
    have A15 := Aside0.mk A150
    clear A150
    obtain rfl := Option.some.inj H
    go_wp2_with (first | ((with_reducible refine gate_callee (f := 10) rfl ?_); refine goesL_ (some 20) rfl rfl Tryd.func10 (by kernel_rfl) rfl #[] rfl (by (try simp only [List.map_toArray, List.map_cons, List.map_nil]); first | done | rfl | (simp only [List.length_drop, List.length_take]; rfl)) ?_; (with_reducible refine (helmsmanlaw12_alive.calls  t450 _ ?side1 A15.out).mono ?_); (case side1 => exact hT.later (by repeat (first | (with_reducible first | exact HB.out | apply below_alloc | apply pw_below_drewN | apply below_drew1 | refine below_set ?_ GE448.out) | exact HB.out))); rintro e w16 ⟨rfl, hb⟩; refine ⟨_, rfl, ?_⟩; have n0_ := Aside0.mk (blk_below (g := gb448) (o := .cells #[.slice A0_0 l0_0.length c0_0, .slice A0_1 l0_1.length c0_1, .slice A0_2 l0_2.length c0_2, .slice A0_3 l0_3.length c0_3] 43 (0, 0)) (by (with_reducible repeat (first | refine blk_drewN ?_ _ | refine blk_drew ?_ | refine blk_alloc ?_ _)); exact BK448.out) hb); have n1_ := Aside0.mk (below_step (by repeat (first | (with_reducible first | exact HB.out | apply below_alloc | apply pw_below_drewN | apply below_drew1 | refine below_set ?_ GE448.out) | exact HB.out)) hb); clear BK448; clear HB; have BK448 := n0_; have HB := n1_; clear n0_ n1_; (try clear hb); (try clear hb2); (try clear hk); (try clear hi)))
    go_ret
    exact ⟨by first | rfl | (simp [errW_none, errW_some] <;> rfl) | (simp [*, errW_none, errW_some] <;> rfl), by repeat (first | (with_reducible first | exact HB.out | apply below_alloc | apply pw_below_drewN | apply below_drew1 | refine below_set ?_ GE448.out) | exact HB.out)⟩
   ·replace c14 := Bool.eq_false_iff.mpr c14
    subst c14
    have H1 : ((helmsmanlaw12_Prog.f kj2 l0_0 l0_1 l0_2 l0_3).bind fun bt451 => ((helmsmanlaw12_moved.f kj2 bt451.2.2.2 a1).bind fun t464 => (helmsmanlaw12_TreePlaces.l0 kj2 a1 bt451.2.2.1 (bt451.2.2.1.length : Int) 0 bt451.1 bt451.2.1 bt451.2.2.1 bt451.2.2.2 bt451.1 bt451.2.1 ([] : List (S66)) t464))) = some r := by rw [if_neg (show ¬ (false = true) by decide)] at H; exact H
    clear H
    have H := H1
    clear H1
    replace H := Option.bind_eq_some_iff.mp H
    obtain ⟨⟨t451, t454, t457, t460⟩, A170, H⟩ := H
    replace H : ((helmsmanlaw12_moved.f kj2 t460 a1).bind fun t464 => (helmsmanlaw12_TreePlaces.l0 kj2 a1 t457 (t457.length : Int) 0 t451 t454 t457 t460 t451 t454 ([] : List (S66)) t464)) = some r := H
    have A17 := Aside0.mk A170
    clear A170
    replace H := Option.bind_eq_some_iff.mp H
    obtain ⟨t464, A180, H⟩ := H
    replace H : (helmsmanlaw12_TreePlaces.l0 kj2 a1 t457 (t457.length : Int) 0 t451 t454 t457 t460 t451 t454 ([] : List (S66)) t464) = some r := H
    have A18 := Aside0.mk A180
    clear A180
    have H' := Aside0.mk H
    clear H
    have hcz19_0 : wc.cell? ⟨gb448, 0, none⟩ = some (.slice A0_0 l0_0.length c0_0) := (blk_cell BK448.out 0).trans rfl
    have hcz19_1 : wc.cell? ⟨gb448, 1, none⟩ = some (.slice A0_1 l0_1.length c0_1) := (blk_cell BK448.out 1).trans rfl
    have hcz19_2 : wc.cell? ⟨gb448, 2, none⟩ = some (.slice A0_2 l0_2.length c0_2) := (blk_cell BK448.out 2).trans rfl
    have hcz19_3 : wc.cell? ⟨gb448, 3, none⟩ = some (.slice A0_3 l0_3.length c0_3) := (blk_cell BK448.out 3).trans rfl
    have hfz19_0 := blk_frozen BK448.out 0
    have hfz19_1 := blk_frozen BK448.out 1
    have hfz19_2 := blk_frozen BK448.out 2
    have hfz19_3 := blk_frozen BK448.out 3
    try go_wp2_with (first | ((with_reducible refine gate_callee (f := 17) rfl ?_); refine goesL_ (some 22) rfl rfl Tryd.func17 (by kernel_rfl) rfl #[.agg #[.slice A0_0 l0_0.length c0_0, .slice A0_1 l0_1.length c0_1, .slice A0_2 l0_2.length c0_2, .slice A0_3 l0_3.length c0_3]] rfl (by (try simp only [List.map_toArray, List.map_cons, List.map_nil]); first | done | rfl | (simp only [List.length_drop, List.length_take]; rfl)) ?_; (with_reducible refine (helmsmanlaw12_Prog.calls kj2 (fun k_ => k_ < w.heap.size) _ _ l0_0 _ _ l0_1 _ _ l0_2 _ _ l0_3 t451 t454 t457 t460 _ ?side1 ?side2 ?side3 ?side4 ?side5 ?side6 ?side7 A17.out).mono ?_); (case side1 => exact Kd.V_mk HC0_0.out (Kd.F_below (Kd.C_F k72_heap HR0_0.out) (by repeat (first | (with_reducible first | exact HB.out | apply below_alloc | apply pw_below_drewN | apply below_drew1 | refine below_set ?_ GE448.out) | exact HB.out)))); (case side2 => repeat (first | exact (Kd.C_below HR0_1.out HB.out) | (with_reducible refine Kd.C_alloc ?_ _) | (with_reducible refine Kd.C_drewN ?_ _) | (with_reducible refine Kd.C_drew ?_))); (case side3 => exact HC0_1.out); (case side4 => repeat (first | exact (Kd.C_below HR0_2.out HB.out) | (with_reducible refine Kd.C_alloc ?_ _) | (with_reducible refine Kd.C_drewN ?_ _) | (with_reducible refine Kd.C_drew ?_))); (case side5 => exact HC0_2.out); (case side6 => repeat (first | exact (Kd.C_below HR0_3.out HB.out) | (with_reducible refine Kd.C_alloc ?_ _) | (with_reducible refine Kd.C_drewN ?_ _) | (with_reducible refine Kd.C_drew ?_))); (case side7 => exact HC0_3.out); rintro e w20 ⟨v452, v455, v458, v461, rfl, ho0, ho1, ho2, ho3, hb⟩; refine ⟨_, rfl, ?_⟩; have n0_ := Aside0.mk (Kd.N_lower (Kd.N_mono (ok' := fun k_ => some k_ ≠ (v455 : Value).ownBlock ∧ some k_ ≠ (v458 : Value).ownBlock ∧ some k_ ≠ (v461 : Value).ownBlock ∧ k_ ≠ gb448) ho0 (fun k_ hk_ => ⟨hk_.2.1, hk_.2.2.1, hk_.2.2.2, Or.elim hk_.1 (fun hs_ => fun e_ => Nat.not_le.2 hs_ (by rw [e_]; exact GW448.out)) (fun hn_ => (Kd.freshB (g := gb448) (o := .cells #[.slice A0_0 l0_0.length c0_0, .slice A0_1 l0_1.length c0_1, .slice A0_2 l0_2.length c0_2, .slice A0_3 l0_3.length c0_3] 43 (0, 0)) (by (with_reducible repeat (first | refine blk_drewN ?_ _ | refine blk_drew ?_ | refine blk_alloc ?_ _)); exact BK448.out) k_ hn_))⟩)) (below_size (by repeat (first | (with_reducible first | exact HB.out | apply below_alloc | apply pw_below_drewN | apply below_drew1 | refine below_set ?_ GE448.out) | exact HB.out)))); have n1_ := Aside0.mk (Kd.R_lower (Kd.R_mono (ok' := fun k_ => True) ho1 (fun _ hk_ => trivial)) (below_size (by repeat (first | (with_reducible first | exact HB.out | apply below_alloc | apply pw_below_drewN | apply below_drew1 | refine below_set ?_ GE448.out) | exact HB.out)))); have n2_ := Aside0.mk (Kd.N_lower (Kd.N_mono (ok' := fun k_ => some k_ ≠ (v452 : Value).ownBlock ∧ some k_ ≠ (v455 : Value).ownBlock ∧ some k_ ≠ (v461 : Value).ownBlock ∧ k_ ≠ gb448) ho2 (fun k_ hk_ => ⟨hk_.2.1, hk_.2.2.1, hk_.2.2.2, Or.elim hk_.1 (fun hs_ => fun e_ => Nat.not_le.2 hs_ (by rw [e_]; exact GW448.out)) (fun hn_ => (Kd.freshB (g := gb448) (o := .cells #[.slice A0_0 l0_0.length c0_0, .slice A0_1 l0_1.length c0_1, .slice A0_2 l0_2.length c0_2, .slice A0_3 l0_3.length c0_3] 43 (0, 0)) (by (with_reducible repeat (first | refine blk_drewN ?_ _ | refine blk_drew ?_ | refine blk_alloc ?_ _)); exact BK448.out) k_ hn_))⟩)) (below_size (by repeat (first | (with_reducible first | exact HB.out | apply below_alloc | apply pw_below_drewN | apply below_drew1 | refine below_set ?_ GE448.out) | exact HB.out)))); have n3_ := Aside0.mk (Kd.N_lower (Kd.N_mono (ok' := fun k_ => some k_ ≠ (v452 : Value).ownBlock ∧ some k_ ≠ (v455 : Value).ownBlock ∧ some k_ ≠ (v458 : Value).ownBlock ∧ k_ ≠ gb448) ho3 (fun k_ hk_ => ⟨hk_.2.1, hk_.2.2.1, hk_.2.2.2, Or.elim hk_.1 (fun hs_ => fun e_ => Nat.not_le.2 hs_ (by rw [e_]; exact GW448.out)) (fun hn_ => (Kd.freshB (g := gb448) (o := .cells #[.slice A0_0 l0_0.length c0_0, .slice A0_1 l0_1.length c0_1, .slice A0_2 l0_2.length c0_2, .slice A0_3 l0_3.length c0_3] 43 (0, 0)) (by (with_reducible repeat (first | refine blk_drewN ?_ _ | refine blk_drew ?_ | refine blk_alloc ?_ _)); exact BK448.out) k_ hn_))⟩)) (below_size (by repeat (first | (with_reducible first | exact HB.out | apply below_alloc | apply pw_below_drewN | apply below_drew1 | refine below_set ?_ GE448.out) | exact HB.out)))); have n4_ := Aside0.mk (blk_below (g := gb448) (o := .cells #[.slice A0_0 l0_0.length c0_0, .slice A0_1 l0_1.length c0_1, .slice A0_2 l0_2.length c0_2, .slice A0_3 l0_3.length c0_3] 43 (0, 0)) (by (with_reducible repeat (first | refine blk_drewN ?_ _ | refine blk_drew ?_ | refine blk_alloc ?_ _)); exact BK448.out) hb); have n5_ := Aside0.mk (below_step (by repeat (first | (with_reducible first | exact HB.out | apply below_alloc | apply pw_below_drewN | apply below_drew1 | refine below_set ?_ GE448.out) | exact HB.out)) hb); clear BK448; clear HB; have HO453 := n0_; have HO456 := n1_; have HO459 := n2_; have HO462 := n3_; have BK448 := n4_; have HB := n5_; clear n0_ n1_ n2_ n3_ n4_ n5_; (try clear hb); (try clear hb2); (try clear hk); (try clear hi); (try clear ho0); (try clear ho1); (try clear ho2); (try clear ho3)) | ((with_reducible refine gate_dst (N := 5) rfl ?_); refine box_event ?hg (N := 5) ?hd (cs := #[.slice none 0 0, .slice none 0 0, .slice none 0 0, .slice none 0 0]) (t := 50) ?hr ?_; (case hd => rfl); (case hg => rfl); (case hr => first | (go_simp; done) | (go_simp; rfl)); intro gb463 hg w21 hbox hb; have n0_ := Aside0.mk (Kd.N_below (Kd.N_elderB (by (with_reducible repeat (first | apply Kd.N_alloc | apply Kd.N_drewN | apply Kd.N_drew)); exact HO453.out) gb463 (Nat.le_of_eq hg.symm)) hb); have n1_ := Aside0.mk (Kd.R_below (by (with_reducible repeat (first | apply Kd.R_alloc | apply Kd.R_drewN | apply Kd.R_drew)); exact HO456.out) hb); have n2_ := Aside0.mk (Kd.N_below (Kd.N_elderB (by (with_reducible repeat (first | apply Kd.N_alloc | apply Kd.N_drewN | apply Kd.N_drew)); exact HO459.out) gb463 (Nat.le_of_eq hg.symm)) hb); have n3_ := Aside0.mk (Kd.N_below (Kd.N_elderB (by (with_reducible repeat (first | apply Kd.N_alloc | apply Kd.N_drewN | apply Kd.N_drew)); exact HO462.out) gb463 (Nat.le_of_eq hg.symm)) hb); have n4_ := Aside0.mk (blk_below (g := gb448) (o := .cells #[.slice A0_0 l0_0.length c0_0, .slice A0_1 l0_1.length c0_1, .slice A0_2 l0_2.length c0_2, .slice A0_3 l0_3.length c0_3] 43 (0, 0)) (by (with_reducible repeat (first | refine blk_drewN ?_ _ | refine blk_drew ?_ | refine blk_alloc ?_ _)); exact BK448.out) hb); have n5_ := Aside0.mk (below_step (by repeat (first | (with_reducible first | exact HB.out | apply below_alloc | apply pw_below_drewN | apply below_drew1 | refine below_set ?_ GE448.out) | exact HB.out)) hb); have n6_ := Aside0.mk (hbox); have n7_ := Aside0.mk ((by rw [hg]; exact (below_size (by repeat (first | (with_reducible first | exact HB.out | apply below_alloc | apply pw_below_drewN | apply below_drew1 | refine below_set ?_ GE448.out) | exact HB.out))) : w.heap.size ≤ gb463)); have n8_ := Aside0.mk ((by rw [hg]; exact (below_size (by repeat (first | (with_reducible first | exact HB.out | apply below_alloc | apply pw_below_drewN | apply below_drew1 | refine below_set ?_ GE448.out) | exact HB.out))) : w.heap.size ≤ gb463)); have n9_ := Aside0.mk ((by rw [hg]; exact Nat.ne_of_lt (blk_lt (g := gb448) (o := .cells #[.slice A0_0 l0_0.length c0_0, .slice A0_1 l0_1.length c0_1, .slice A0_2 l0_2.length c0_2, .slice A0_3 l0_3.length c0_3] 43 (0, 0)) (by (with_reducible repeat (first | refine blk_drewN ?_ _ | refine blk_drew ?_ | refine blk_alloc ?_ _)); exact BK448.out)) : gb448 ≠ gb463)); have n10_ := Aside0.mk ((by rw [hg]; exact Nat.ne_of_gt (blk_lt (g := gb448) (o := .cells #[.slice A0_0 l0_0.length c0_0, .slice A0_1 l0_1.length c0_1, .slice A0_2 l0_2.length c0_2, .slice A0_3 l0_3.length c0_3] 43 (0, 0)) (by (with_reducible repeat (first | refine blk_drewN ?_ _ | refine blk_drew ?_ | refine blk_alloc ?_ _)); exact BK448.out)) : gb463 ≠ gb448)); clear HO453; clear HO456; clear HO459; clear HO462; clear BK448; clear HB; have HO453 := n0_; have HO456 := n1_; have HO459 := n2_; have HO462 := n3_; have BK448 := n4_; have HB := n5_; have BK463 := n6_; have GW463 := n7_; have GE463 := n8_; have NB448_463 := n9_; have NB463_448 := n10_; clear n0_ n1_ n2_ n3_ n4_ n5_ n6_ n7_ n8_ n9_ n10_; clear hb hbox hg; obtain ⟨Ao22, co22, eo22⟩ := Kd.N_slice HO453.out; subst eo22; have hnb23 := NB463_448.out; have hnc23 := NB448_463.out; have hcz24_0 : w21.cell? ⟨gb463, 0, none⟩ = some (.slice none 0 0) := (blk_cell BK463.out 0).trans rfl; have hcz24_1 : w21.cell? ⟨gb463, 1, none⟩ = some (.slice none 0 0) := (blk_cell BK463.out 1).trans rfl; have hcz24_2 : w21.cell? ⟨gb463, 2, none⟩ = some (.slice none 0 0) := (blk_cell BK463.out 2).trans rfl; have hcz24_3 : w21.cell? ⟨gb463, 3, none⟩ = some (.slice none 0 0) := (blk_cell BK463.out 3).trans rfl; have hfz24_0 := blk_frozen BK463.out 0; have hfz24_1 := blk_frozen BK463.out 1; have hfz24_2 := blk_frozen BK463.out 2; have hfz24_3 := blk_frozen BK463.out 3; obtain ⟨Ao25, co25, eo25⟩ := Kd.R_slice HO456.out; subst eo25; obtain ⟨Ao26, co26, eo26⟩ := Kd.N_slice HO459.out; subst eo26; obtain ⟨Ao27, co27, eo27⟩ := Kd.N_slice HO462.out; subst eo27))
    have n0_ : Aside0 (Kd.N k79 79 ((((w21.setCell ⟨gb463, 0, none⟩ (.slice Ao22 t451.length co22)).setCell ⟨gb463, 1, none⟩ (.slice Ao25 t454.length co25)).setCell ⟨gb463, 2, none⟩ (.slice Ao26 t457.length co26)).setCell ⟨gb463, 3, none⟩ (.slice Ao27 t460.length co27)) w.heap.size (fun k_ => some k_ ≠ (.slice Ao25 t454.length co25 : Value).ownBlock ∧ some k_ ≠ (.slice Ao26 t457.length co26 : Value).ownBlock ∧ some k_ ≠ (.slice Ao27 t460.length co27 : Value).ownBlock ∧ k_ ≠ gb448 ∧ k_ ≠ gb463) (.slice Ao22 t451.length co22) t451) := ⟨by (with_reducible repeat (first | apply Kd.N_alloc | apply Kd.N_drewN | apply Kd.N_drew)); exact Kd.N_mono (Kd.N_far (p := ⟨gb463, 3, none⟩) (Kd.N_far (p := ⟨gb463, 2, none⟩) (Kd.N_far (p := ⟨gb463, 1, none⟩) (Kd.N_far (p := ⟨gb463, 0, none⟩) (Kd.N_mono HO453.out (fun k_ hk => (⟨hk, hk.2⟩ : _ ∧ k_ ≠ gb463))) (fun _ hk => hk.2) (.slice Ao22 t451.length co22)) (fun _ hk => hk.2) (.slice Ao25 t454.length co25)) (fun _ hk => hk.2) (.slice Ao26 t457.length co26)) (fun _ hk => hk.2) (.slice Ao27 t460.length co27)) (fun _ hk => ⟨hk.1.1.1, ⟨hk.1.1.2.1, ⟨hk.1.1.2.2.1, ⟨hk.1.1.2.2.2, hk.1.2⟩⟩⟩⟩)⟩
    have n1_ : Aside0 (Kd.R k80 80 ((((w21.setCell ⟨gb463, 0, none⟩ (.slice Ao22 t451.length co22)).setCell ⟨gb463, 1, none⟩ (.slice Ao25 t454.length co25)).setCell ⟨gb463, 2, none⟩ (.slice Ao26 t457.length co26)).setCell ⟨gb463, 3, none⟩ (.slice Ao27 t460.length co27)) w.heap.size (fun _ => True) (.slice Ao25 t454.length co25) t454) := ⟨by (with_reducible repeat (first | apply Kd.R_alloc | apply Kd.R_drewN | apply Kd.R_drew)); exact Kd.R_mono (Kd.R_far (p := ⟨gb463, 3, none⟩) (Kd.R_far (p := ⟨gb463, 2, none⟩) (Kd.R_far (p := ⟨gb463, 1, none⟩) (Kd.R_far (p := ⟨gb463, 0, none⟩) (Kd.R_types HO456.out BK463.out (by decide)) (fun _ hk => hk.2) (.slice Ao22 t451.length co22)) (fun _ hk => hk.2) (.slice Ao25 t454.length co25)) (fun _ hk => hk.2) (.slice Ao26 t457.length co26)) (fun _ hk => hk.2) (.slice Ao27 t460.length co27)) (fun _ hk => trivial)⟩
    have n2_ : Aside0 (Kd.N k66 66 ((((w21.setCell ⟨gb463, 0, none⟩ (.slice Ao22 t451.length co22)).setCell ⟨gb463, 1, none⟩ (.slice Ao25 t454.length co25)).setCell ⟨gb463, 2, none⟩ (.slice Ao26 t457.length co26)).setCell ⟨gb463, 3, none⟩ (.slice Ao27 t460.length co27)) w.heap.size (fun k_ => some k_ ≠ (.slice Ao22 t451.length co22 : Value).ownBlock ∧ some k_ ≠ (.slice Ao25 t454.length co25 : Value).ownBlock ∧ some k_ ≠ (.slice Ao27 t460.length co27 : Value).ownBlock ∧ k_ ≠ gb448 ∧ k_ ≠ gb463) (.slice Ao26 t457.length co26) t457) := ⟨by (with_reducible repeat (first | apply Kd.N_alloc | apply Kd.N_drewN | apply Kd.N_drew)); exact Kd.N_mono (Kd.N_far (p := ⟨gb463, 3, none⟩) (Kd.N_far (p := ⟨gb463, 2, none⟩) (Kd.N_far (p := ⟨gb463, 1, none⟩) (Kd.N_far (p := ⟨gb463, 0, none⟩) (Kd.N_mono HO459.out (fun k_ hk => (⟨hk, hk.2⟩ : _ ∧ k_ ≠ gb463))) (fun _ hk => hk.2) (.slice Ao22 t451.length co22)) (fun _ hk => hk.2) (.slice Ao25 t454.length co25)) (fun _ hk => hk.2) (.slice Ao26 t457.length co26)) (fun _ hk => hk.2) (.slice Ao27 t460.length co27)) (fun _ hk => ⟨hk.1.1.1, ⟨hk.1.1.2.1, ⟨hk.1.1.2.2.1, ⟨hk.1.1.2.2.2, hk.1.2⟩⟩⟩⟩)⟩
    have n3_ : Aside0 (Kd.N k76 76 ((((w21.setCell ⟨gb463, 0, none⟩ (.slice Ao22 t451.length co22)).setCell ⟨gb463, 1, none⟩ (.slice Ao25 t454.length co25)).setCell ⟨gb463, 2, none⟩ (.slice Ao26 t457.length co26)).setCell ⟨gb463, 3, none⟩ (.slice Ao27 t460.length co27)) w.heap.size (fun k_ => some k_ ≠ (.slice Ao22 t451.length co22 : Value).ownBlock ∧ some k_ ≠ (.slice Ao25 t454.length co25 : Value).ownBlock ∧ some k_ ≠ (.slice Ao26 t457.length co26 : Value).ownBlock ∧ k_ ≠ gb448 ∧ k_ ≠ gb463) (.slice Ao27 t460.length co27) t460) := ⟨by (with_reducible repeat (first | apply Kd.N_alloc | apply Kd.N_drewN | apply Kd.N_drew)); exact Kd.N_mono (Kd.N_far (p := ⟨gb463, 3, none⟩) (Kd.N_far (p := ⟨gb463, 2, none⟩) (Kd.N_far (p := ⟨gb463, 1, none⟩) (Kd.N_far (p := ⟨gb463, 0, none⟩) (Kd.N_mono HO462.out (fun k_ hk => (⟨hk, hk.2⟩ : _ ∧ k_ ≠ gb463))) (fun _ hk => hk.2) (.slice Ao22 t451.length co22)) (fun _ hk => hk.2) (.slice Ao25 t454.length co25)) (fun _ hk => hk.2) (.slice Ao26 t457.length co26)) (fun _ hk => hk.2) (.slice Ao27 t460.length co27)) (fun _ hk => ⟨hk.1.1.1, ⟨hk.1.1.2.1, ⟨hk.1.1.2.2.1, ⟨hk.1.1.2.2.2, hk.1.2⟩⟩⟩⟩)⟩
    have n4_ : Aside0 (((((w21.setCell ⟨gb463, 0, none⟩ (.slice Ao22 t451.length co22)).setCell ⟨gb463, 1, none⟩ (.slice Ao25 t454.length co25)).setCell ⟨gb463, 2, none⟩ (.slice Ao26 t457.length co26)).setCell ⟨gb463, 3, none⟩ (.slice Ao27 t460.length co27)).heap[gb448]? = some (.cells #[.slice A0_0 l0_0.length c0_0, .slice A0_1 l0_1.length c0_1, .slice A0_2 l0_2.length c0_2, .slice A0_3 l0_3.length c0_3] 43 (0, 0))) := ⟨by (with_reducible repeat (first | refine blk_drewN ?_ _ | refine blk_drew ?_ | refine blk_alloc ?_ _)); refine blk_far ?_ NB448_463.out _; (with_reducible repeat (first | refine blk_drewN ?_ _ | refine blk_drew ?_ | refine blk_alloc ?_ _)); refine blk_far ?_ NB448_463.out _; (with_reducible repeat (first | refine blk_drewN ?_ _ | refine blk_drew ?_ | refine blk_alloc ?_ _)); refine blk_far ?_ NB448_463.out _; (with_reducible repeat (first | refine blk_drewN ?_ _ | refine blk_drew ?_ | refine blk_alloc ?_ _)); refine blk_far ?_ NB448_463.out _; (with_reducible repeat (first | refine blk_drewN ?_ _ | refine blk_drew ?_ | refine blk_alloc ?_ _)); exact BK448.out⟩
    have n5_ : Aside0 (((((w21.setCell ⟨gb463, 0, none⟩ (.slice Ao22 t451.length co22)).setCell ⟨gb463, 1, none⟩ (.slice Ao25 t454.length co25)).setCell ⟨gb463, 2, none⟩ (.slice Ao26 t457.length co26)).setCell ⟨gb463, 3, none⟩ (.slice Ao27 t460.length co27)).heap[gb463]? = some (.cells #[.slice Ao22 t451.length co22, .slice Ao25 t454.length co25, .slice Ao26 t457.length co26, .slice Ao27 t460.length co27] 50 (0, 0))) := ⟨by (with_reducible repeat (first | refine blk_drewN ?_ _ | refine blk_drew ?_ | refine blk_alloc ?_ _)); refine blk_put (cs := #[.slice Ao22 t451.length co22, .slice Ao25 t454.length co25, .slice Ao26 t457.length co26, .slice none 0 0]) ?_ 3 _ rfl; (with_reducible repeat (first | refine blk_drewN ?_ _ | refine blk_drew ?_ | refine blk_alloc ?_ _)); refine blk_put (cs := #[.slice Ao22 t451.length co22, .slice Ao25 t454.length co25, .slice none 0 0, .slice none 0 0]) ?_ 2 _ rfl; (with_reducible repeat (first | refine blk_drewN ?_ _ | refine blk_drew ?_ | refine blk_alloc ?_ _)); refine blk_put (cs := #[.slice Ao22 t451.length co22, .slice none 0 0, .slice none 0 0, .slice none 0 0]) ?_ 1 _ rfl; (with_reducible repeat (first | refine blk_drewN ?_ _ | refine blk_drew ?_ | refine blk_alloc ?_ _)); refine blk_put (cs := #[.slice none 0 0, .slice none 0 0, .slice none 0 0, .slice none 0 0]) ?_ 0 _ rfl; (with_reducible repeat (first | refine blk_drewN ?_ _ | refine blk_drew ?_ | refine blk_alloc ?_ _)); exact BK463.out⟩
    have n6_ : Aside0 (Below w.heap.size w ((((w21.setCell ⟨gb463, 0, none⟩ (.slice Ao22 t451.length co22)).setCell ⟨gb463, 1, none⟩ (.slice Ao25 t454.length co25)).setCell ⟨gb463, 2, none⟩ (.slice Ao26 t457.length co26)).setCell ⟨gb463, 3, none⟩ (.slice Ao27 t460.length co27))) := ⟨by repeat (first | (with_reducible first | exact HB.out | apply below_alloc | apply pw_below_drewN | apply below_drew1 | refine below_set ?_ GE448.out | refine below_set ?_ GE463.out) | exact HB.out)⟩
    (try clear HO453)
    (try clear HO456)
    (try clear HO459)
    (try clear HO462)
    (try clear BK448)
    (try clear BK463)
    (try clear HB)
    generalize ((((w21.setCell ⟨gb463, 0, none⟩ (.slice Ao22 t451.length co22)).setCell ⟨gb463, 1, none⟩ (.slice Ao25 t454.length co25)).setCell ⟨gb463, 2, none⟩ (.slice Ao26 t457.length co26)).setCell ⟨gb463, 3, none⟩ (.slice Ao27 t460.length co27)) = w28 at n0_ n1_ n2_ n3_ n4_ n5_ n6_ ⊢
    have HO453 := n0_
    have HO456 := n1_
    have HO459 := n2_
    have HO462 := n3_
    have BK448 := n4_
    have BK463 := n5_
    have HB := n6_
    clear n0_ n1_ n2_ n3_ n4_ n5_ n6_
    have n0_ := Aside0.mk (Kd.N_drew HO453.out)
    have n1_ := Aside0.mk (Kd.R_drew HO456.out)
    have n2_ := Aside0.mk (Kd.N_drew HO459.out)
    have n3_ := Aside0.mk (Kd.N_drew HO462.out)
    have n4_ := Aside0.mk (blk_drew BK448.out)
    have n5_ := Aside0.mk (blk_drew BK463.out)
    have n6_ := Aside0.mk (below_drew1 HB.out)
    clear HO453
    clear HO456
    clear HO459
    clear HO462
    clear BK448
    clear BK463
    clear HB
    have HO453 := n0_
    have HO456 := n1_
    have HO459 := n2_
    have HO462 := n3_
    have BK448 := n4_
    have BK463 := n5_
    have HB := n6_
    clear n0_ n1_ n2_ n3_ n4_ n5_ n6_
    refine start_ (n := 11) (S := fun w' => w'.cell? ⟨gb463, 0, none⟩ = some (.slice Ao22 t451.length co22) ∧ w'.cell? ⟨gb463, 1, none⟩ = some (.slice Ao25 t454.length co25) ∧ w'.cell? ⟨gb463, 2, none⟩ = some (.slice Ao26 t457.length co26) ∧ w'.cell? ⟨gb463, 3, none⟩ = some (.slice Ao27 t460.length co27)) (ds := []) (flg 11 0) (by kernel_rfl) rfl (by kernel_rfl) ⟨(blk_cell BK463.out 0).trans rfl, (blk_cell BK463.out 1).trans rfl, (blk_cell BK463.out 2).trans rfl, (blk_cell BK463.out 3).trans rfl⟩ (fun hHeld => ?_); refine with_tabW helmsmanlaw12_TreePlaces.tab4 helmsmanlaw12_TreePlaces.bits4 (fun HT_ HW_ => ?_)
    generalize w28.drew = w29 at HO453 HO456 HO459 HO462 BK448 BK463 HB hHeld ⊢
    refine pure_ (i := 0) (N := some 23) (v := ?_) (a' := ?_) (flg 11 1) rfl rfl (any_of HT_.out (by kernel_rfl)) (fun _ _ _ h => h) (Or.inl ⟨by rfl, ?_⟩) ?_ ?_; rotate_left; intro w'; go_simp; with_reducible rfl; rotate_left; (simp only [Act.put, pA_, pB_, pC_, i64_w, i32_w]; rfl)
    refine pure_ (i := 2) (N := some 25) (v := ?_) (a' := ?_) (flg 11 5) rfl rfl (any_of HT_.out (by kernel_rfl)) (fun _ _ _ h => h) (Or.inl ⟨by rfl, ?_⟩) ?_ ?_; rotate_left; intro w'; go_simp; with_reducible rfl; rotate_left; (simp only [Act.put, pA_, pB_, pC_, i64_w, i32_w]; rfl)
    refine pure_ (i := 4) (N := some 27) (v := ?_) (a' := ?_) (flg 11 21) rfl rfl (any_of HT_.out (by kernel_rfl)) (fun _ _ _ h => h) (Or.inl ⟨by rfl, ?_⟩) ?_ ?_; rotate_left; intro w'; go_simp; with_reducible rfl; rotate_left; (simp only [Act.put, pA_, pB_, pC_, i64_w, i32_w]; rfl)
    refine pure_ (i := 6) (N := some 29) (v := ?_) (a' := ?_) (flg 11 85) rfl rfl (any_of HT_.out (by kernel_rfl)) (fun _ _ _ h => h) (Or.inl ⟨by rfl, ?_⟩) ?_ ?_; rotate_left; intro w'; go_simp; with_reducible rfl; rotate_left; (simp only [Act.put, pA_, pB_, pC_, i64_w, i32_w]; rfl)
    refine take_ (i := 1) (N := some 24) (v := ?_) (a' := ?_) (flg 11 87) rfl rfl (take_ofW HT_.out HW_.out (by kernel_rfl)) (fun _ _ _ h => h) (Or.inl ⟨by rfl, ?_⟩) hHeld ?_ ?_; rotate_left; rintro w' ⟨s0, s1, s2, s3⟩; go_simp; with_reducible rfl; rotate_left; (simp only [Act.put, pA_, pB_, pC_, i64_w, i32_w]; rfl)
    refine take_ (i := 3) (N := some 26) (v := ?_) (a' := ?_) (flg 11 95) rfl rfl (take_ofW HT_.out HW_.out (by kernel_rfl)) (fun _ _ _ h => h) (Or.inl ⟨by rfl, ?_⟩) hHeld ?_ ?_; rotate_left; rintro w' ⟨s0, s1, s2, s3⟩; go_simp; with_reducible rfl; rotate_left; (simp only [Act.put, pA_, pB_, pC_, i64_w, i32_w]; rfl)
    refine take_ (i := 5) (N := some 28) (v := ?_) (a' := ?_) (flg 11 127) rfl rfl (take_ofW HT_.out HW_.out (by kernel_rfl)) (fun _ _ _ h => h) (Or.inl ⟨by rfl, ?_⟩) hHeld ?_ ?_; rotate_left; rintro w' ⟨s0, s1, s2, s3⟩; go_simp; with_reducible rfl; rotate_left; (simp only [Act.put, pA_, pB_, pC_, i64_w, i32_w]; rfl)
    refine join_ (σ := Value × Nat) 1 (flg 11 1023) (fun s_ => [(30, s_.1), (6, .pointer (some ⟨s_.2, 0, none⟩)), (31, .agg #[.slice Ao22 t451.length co22, .slice Ao25 t454.length co25, .slice none 0 0, s_.1])]) (fun s_ w' => (w'.cell? ⟨gb463, 0, none⟩ = some (.slice Ao22 t451.length co22) ∧ w'.cell? ⟨gb463, 1, none⟩ = some (.slice Ao25 t454.length co25) ∧ w'.cell? ⟨gb463, 2, none⟩ = some (.slice Ao26 t457.length co26) ∧ w'.cell? ⟨gb463, 3, none⟩ = some (.slice Ao27 t460.length co27)) ∧ (Kd.N k79 79 w' w.heap.size (fun k_ => some k_ ≠ (.slice Ao25 t454.length co25 : Value).ownBlock ∧ some k_ ≠ (.slice Ao26 t457.length co26 : Value).ownBlock ∧ some k_ ≠ (.slice Ao27 t460.length co27 : Value).ownBlock ∧ some k_ ≠ (s_.1 : Value).ownBlock ∧ k_ ≠ gb448 ∧ k_ ≠ gb463 ∧ k_ ≠ s_.2) (.slice Ao22 t451.length co22) t451) ∧ (Kd.R k80 80 w' w.heap.size (fun _ => True) (.slice Ao25 t454.length co25) t454) ∧ (Kd.N k66 66 w' w.heap.size (fun k_ => some k_ ≠ (.slice Ao22 t451.length co22 : Value).ownBlock ∧ some k_ ≠ (.slice Ao25 t454.length co25 : Value).ownBlock ∧ some k_ ≠ (.slice Ao27 t460.length co27 : Value).ownBlock ∧ some k_ ≠ (s_.1 : Value).ownBlock ∧ k_ ≠ gb448 ∧ k_ ≠ gb463 ∧ k_ ≠ s_.2) (.slice Ao26 t457.length co26) t457) ∧ (Kd.N k76 76 w' w.heap.size (fun k_ => some k_ ≠ (.slice Ao22 t451.length co22 : Value).ownBlock ∧ some k_ ≠ (.slice Ao25 t454.length co25 : Value).ownBlock ∧ some k_ ≠ (.slice Ao26 t457.length co26 : Value).ownBlock ∧ some k_ ≠ (s_.1 : Value).ownBlock ∧ k_ ≠ gb448 ∧ k_ ≠ gb463 ∧ k_ ≠ s_.2) (.slice Ao27 t460.length co27) t460) ∧ (Kd.N k76 76 w' w.heap.size (fun k_ => some k_ ≠ (.slice Ao22 t451.length co22 : Value).ownBlock ∧ some k_ ≠ (.slice Ao25 t454.length co25 : Value).ownBlock ∧ some k_ ≠ (.slice Ao26 t457.length co26 : Value).ownBlock ∧ some k_ ≠ (.slice Ao27 t460.length co27 : Value).ownBlock ∧ k_ ≠ gb448 ∧ k_ ≠ gb463 ∧ k_ ≠ s_.2) s_.1 t464) ∧ (w'.heap[gb448]? = some (.cells #[.slice A0_0 l0_0.length c0_0, .slice A0_1 l0_1.length c0_1, .slice A0_2 l0_2.length c0_2, .slice A0_3 l0_3.length c0_3] 43 (0, 0))) ∧ (w'.heap[gb463]? = some (.cells #[.slice Ao22 t451.length co22, .slice Ao25 t454.length co25, .slice Ao26 t457.length co26, .slice Ao27 t460.length co27] 50 (0, 0))) ∧ (w'.heap[s_.2]? = some (.cells #[.slice none 0 0, .slice none 0 0, .slice none 0 0, .slice none 0 0] 50 (0, 0))) ∧ (w.heap.size ≤ s_.2) ∧ (w.heap.size ≤ s_.2) ∧ (gb448 ≠ s_.2) ∧ (s_.2 ≠ gb448) ∧ (gb463 ≠ s_.2) ∧ (s_.2 ≠ gb463) ∧ (Below w.heap.size w w')) ?_ ?_
    rotate_left
    ·intro hCont
     refine two_ (i := 7) (j := 9) (Ni := some 30) (Nj := some 6) (flg 11 255) (flg 11 639) rfl rfl rfl rfl (two_of HT_.out (by kernel_rfl)) (by decide) (by decide) (fun K hK => ?_) (fun K hK => ?_)
     ·skip
      refine goes_ Tryd.func29 (by kernel_rfl) rfl #[.slice Ao27 t460.length co27, .int .i64 a1] (by rfl) rfl rfl (by (try simp only [List.map_toArray, List.map_cons, List.map_nil]); first | done | rfl | (simp only [List.length_drop, List.length_take]; rfl)) ?_
      with_reducible refine (helmsmanlaw12_moved.calls kj2 _ _ t460 a1 t464 _ ?side1 ?side2 A18.out).mono ?_
      (case side1 => repeat (first | exact (Kd.N_reads' HO462.out).2.2 | (with_reducible refine Kd.C_alloc ?_ _) | (with_reducible refine Kd.C_drewN ?_ _) | (with_reducible refine Kd.C_drew ?_)))
      (case side2 => exact (Kd.N_reads' HO462.out).2.1)
      rintro e w30 ⟨v465, rfl, ho0, hb⟩
      refine ⟨_, rfl, ?_⟩
      have n0_ := Aside0.mk (Kd.N_elder' (by (with_reducible repeat (first | apply Kd.N_alloc | apply Kd.N_drewN | apply Kd.N_drew)); exact HO453.out) (by first | exact Kd.N_base ho0 | exact Kd.N_base (Kd.R_N ho0) | exact Kd.N_base (Kd.R_N (Kd.R_bound ho0))) hb)
      have n1_ := Aside0.mk (Kd.R_below (by (with_reducible repeat (first | apply Kd.R_alloc | apply Kd.R_drewN | apply Kd.R_drew)); exact HO456.out) hb)
      have n2_ := Aside0.mk (Kd.N_elder' (by (with_reducible repeat (first | apply Kd.N_alloc | apply Kd.N_drewN | apply Kd.N_drew)); exact HO459.out) (by first | exact Kd.N_base ho0 | exact Kd.N_base (Kd.R_N ho0) | exact Kd.N_base (Kd.R_N (Kd.R_bound ho0))) hb)
      have n3_ := Aside0.mk (Kd.N_elder' (by (with_reducible repeat (first | apply Kd.N_alloc | apply Kd.N_drewN | apply Kd.N_drew)); exact HO462.out) (by first | exact Kd.N_base ho0 | exact Kd.N_base (Kd.R_N ho0) | exact Kd.N_base (Kd.R_N (Kd.R_bound ho0))) hb)
      have n4_ := Aside0.mk (Kd.N_lower (Kd.N_mono (ok' := fun k_ => some k_ ≠ (.slice Ao22 t451.length co22 : Value).ownBlock ∧ some k_ ≠ (.slice Ao25 t454.length co25 : Value).ownBlock ∧ some k_ ≠ (.slice Ao26 t457.length co26 : Value).ownBlock ∧ some k_ ≠ (.slice Ao27 t460.length co27 : Value).ownBlock ∧ k_ ≠ gb448 ∧ k_ ≠ gb463) (Kd.R_N (Kd.R_bound ho0)) (fun k_ hk_ => ⟨(Kd.fresh' (Kd.N_lt (by (with_reducible repeat (first | apply Kd.N_alloc | apply Kd.N_drewN | apply Kd.N_drew)); exact HO453.out)) k_ hk_.2.1), (Kd.fresh' (Kd.R_lt (by (with_reducible repeat (first | apply Kd.R_alloc | apply Kd.R_drewN | apply Kd.R_drew)); exact HO456.out)) k_ hk_.2.1), (Kd.fresh' (Kd.N_lt (by (with_reducible repeat (first | apply Kd.N_alloc | apply Kd.N_drewN | apply Kd.N_drew)); exact HO459.out)) k_ hk_.2.1), (Kd.fresh' (Kd.N_lt (by (with_reducible repeat (first | apply Kd.N_alloc | apply Kd.N_drewN | apply Kd.N_drew)); exact HO462.out)) k_ hk_.2.1), (Kd.freshB (g := gb448) (o := .cells #[.slice A0_0 l0_0.length c0_0, .slice A0_1 l0_1.length c0_1, .slice A0_2 l0_2.length c0_2, .slice A0_3 l0_3.length c0_3] 43 (0, 0)) (by (with_reducible repeat (first | refine blk_drewN ?_ _ | refine blk_drew ?_ | refine blk_alloc ?_ _)); exact BK448.out) k_ hk_.2.1), (Kd.freshB (g := gb463) (o := .cells #[.slice Ao22 t451.length co22, .slice Ao25 t454.length co25, .slice Ao26 t457.length co26, .slice Ao27 t460.length co27] 50 (0, 0)) (by (with_reducible repeat (first | refine blk_drewN ?_ _ | refine blk_drew ?_ | refine blk_alloc ?_ _)); exact BK463.out) k_ hk_.2.1)⟩)) (below_size (by repeat (first | (with_reducible first | exact HB.out | apply below_alloc | apply pw_below_drewN | apply below_drew1 | refine below_set ?_ GE448.out | refine below_set ?_ GE463.out) | exact HB.out))))
      have n5_ := Aside0.mk (blk_below (g := gb448) (o := .cells #[.slice A0_0 l0_0.length c0_0, .slice A0_1 l0_1.length c0_1, .slice A0_2 l0_2.length c0_2, .slice A0_3 l0_3.length c0_3] 43 (0, 0)) (by (with_reducible repeat (first | refine blk_drewN ?_ _ | refine blk_drew ?_ | refine blk_alloc ?_ _)); exact BK448.out) hb)
      have n6_ := Aside0.mk (blk_below (g := gb463) (o := .cells #[.slice Ao22 t451.length co22, .slice Ao25 t454.length co25, .slice Ao26 t457.length co26, .slice Ao27 t460.length co27] 50 (0, 0)) (by (with_reducible repeat (first | refine blk_drewN ?_ _ | refine blk_drew ?_ | refine blk_alloc ?_ _)); exact BK463.out) hb)
      have n7_ := Aside0.mk (below_step (by repeat (first | (with_reducible first | exact HB.out | apply below_alloc | apply pw_below_drewN | apply below_drew1 | refine below_set ?_ GE448.out | refine below_set ?_ GE463.out) | exact HB.out)) hb)
      clear HO453
      clear HO456
      clear HO459
      clear HO462
      clear BK448
      clear BK463
      clear HB
      have HO453 := n0_
      have HO456 := n1_
      have HO459 := n2_
      have HO462 := n3_
      have HO466 := n4_
      have BK448 := n5_
      have BK463 := n6_
      have HB := n7_
      clear n0_ n1_ n2_ n3_ n4_ n5_ n6_ n7_
      (try clear hb)
      (try clear hb2)
      (try clear hk)
      (try clear hi)
      (try clear ho0)
      obtain ⟨Ao31, co31, eo31⟩ := Kd.N_slice HO466.out
      (first | subst eo31 | (injection eo31 with f1_ f2_ f3_; have f4_ := f1_.symm; have f5_ := f3_.symm; clear f1_ f2_ f3_; subst f4_; subst f5_))
      refine hK.out _ _ ⟨(blk_cell BK463.out 0).trans rfl, (blk_cell BK463.out 1).trans rfl, (blk_cell BK463.out 2).trans rfl, (blk_cell BK463.out 3).trans rfl⟩ (fun hHeld => ?_)
      clear hK K
      refine norm_ (a' := ?_) ?_ ?_
      rotate_left
      ·show Act.put _ (some 30) _ = _
       simp only [Act.put, List.setIfInBounds_toArray, List.set_cons_zero, List.set_cons_succ, i64_w, i32_w]
       rfl
      refine pure_ (i := 8) (N := some 31) (v := ?_) (a' := ?_) (flg 11 511) rfl rfl (any_of HT_.out (by kernel_rfl)) (fun _ _ _ h => h) (Or.inl ⟨by rfl, ?_⟩) ?_ ?_; rotate_left; intro w'; go_simp; with_reducible rfl; rotate_left; (simp only [Act.put, pA_, pB_, pC_, i64_w, i32_w]; rfl)
      refine one_ (i := 9) (N := some 6) (flg 11 1023) rfl rfl (one_of HT_.out (by kernel_rfl)) (by decide) (fun K hK => ?_)
      refine box_step ?hg (N := 6) ?hd (cs := #[.slice none 0 0, .slice none 0 0, .slice none 0 0, .slice none 0 0]) (t := 50) ?hr ?_; (case hd => rfl); (case hg => rfl); (case hr => first | (go_simp; done) | (go_simp; rfl))
      intro gb467 hg w32 hbox hb
      have n0_ := Aside0.mk (Kd.N_below (Kd.N_elderB (by (with_reducible repeat (first | apply Kd.N_alloc | apply Kd.N_drewN | apply Kd.N_drew)); exact HO453.out) gb467 (Nat.le_of_eq hg.symm)) hb)
      have n1_ := Aside0.mk (Kd.R_below (by (with_reducible repeat (first | apply Kd.R_alloc | apply Kd.R_drewN | apply Kd.R_drew)); exact HO456.out) hb)
      have n2_ := Aside0.mk (Kd.N_below (Kd.N_elderB (by (with_reducible repeat (first | apply Kd.N_alloc | apply Kd.N_drewN | apply Kd.N_drew)); exact HO459.out) gb467 (Nat.le_of_eq hg.symm)) hb)
      have n3_ := Aside0.mk (Kd.N_below (Kd.N_elderB (by (with_reducible repeat (first | apply Kd.N_alloc | apply Kd.N_drewN | apply Kd.N_drew)); exact HO462.out) gb467 (Nat.le_of_eq hg.symm)) hb)
      have n4_ := Aside0.mk (Kd.N_below (Kd.N_elderB (by (with_reducible repeat (first | apply Kd.N_alloc | apply Kd.N_drewN | apply Kd.N_drew)); exact HO466.out) gb467 (Nat.le_of_eq hg.symm)) hb)
      have n5_ := Aside0.mk (blk_below (g := gb448) (o := .cells #[.slice A0_0 l0_0.length c0_0, .slice A0_1 l0_1.length c0_1, .slice A0_2 l0_2.length c0_2, .slice A0_3 l0_3.length c0_3] 43 (0, 0)) (by (with_reducible repeat (first | refine blk_drewN ?_ _ | refine blk_drew ?_ | refine blk_alloc ?_ _)); exact BK448.out) hb)
      have n6_ := Aside0.mk (blk_below (g := gb463) (o := .cells #[.slice Ao22 t451.length co22, .slice Ao25 t454.length co25, .slice Ao26 t457.length co26, .slice Ao27 t460.length co27] 50 (0, 0)) (by (with_reducible repeat (first | refine blk_drewN ?_ _ | refine blk_drew ?_ | refine blk_alloc ?_ _)); exact BK463.out) hb)
      have n7_ := Aside0.mk (below_step (by repeat (first | (with_reducible first | exact HB.out | apply below_alloc | apply pw_below_drewN | apply below_drew1 | refine below_set ?_ GE448.out | refine below_set ?_ GE463.out) | exact HB.out)) hb)
      have n8_ := Aside0.mk (hbox)
      have n9_ := Aside0.mk ((by rw [hg]; exact (below_size (by repeat (first | (with_reducible first | exact HB.out | apply below_alloc | apply pw_below_drewN | apply below_drew1 | refine below_set ?_ GE448.out | refine below_set ?_ GE463.out) | exact HB.out))) : w.heap.size ≤ gb467))
      have n10_ := Aside0.mk ((by rw [hg]; exact (below_size (by repeat (first | (with_reducible first | exact HB.out | apply below_alloc | apply pw_below_drewN | apply below_drew1 | refine below_set ?_ GE448.out | refine below_set ?_ GE463.out) | exact HB.out))) : w.heap.size ≤ gb467))
      have n11_ := Aside0.mk ((by rw [hg]; exact Nat.ne_of_lt (blk_lt (g := gb448) (o := .cells #[.slice A0_0 l0_0.length c0_0, .slice A0_1 l0_1.length c0_1, .slice A0_2 l0_2.length c0_2, .slice A0_3 l0_3.length c0_3] 43 (0, 0)) (by (with_reducible repeat (first | refine blk_drewN ?_ _ | refine blk_drew ?_ | refine blk_alloc ?_ _)); exact BK448.out)) : gb448 ≠ gb467))
      have n12_ := Aside0.mk ((by rw [hg]; exact Nat.ne_of_gt (blk_lt (g := gb448) (o := .cells #[.slice A0_0 l0_0.length c0_0, .slice A0_1 l0_1.length c0_1, .slice A0_2 l0_2.length c0_2, .slice A0_3 l0_3.length c0_3] 43 (0, 0)) (by (with_reducible repeat (first | refine blk_drewN ?_ _ | refine blk_drew ?_ | refine blk_alloc ?_ _)); exact BK448.out)) : gb467 ≠ gb448))
      have n13_ := Aside0.mk ((by rw [hg]; exact Nat.ne_of_lt (blk_lt (g := gb463) (o := .cells #[.slice Ao22 t451.length co22, .slice Ao25 t454.length co25, .slice Ao26 t457.length co26, .slice Ao27 t460.length co27] 50 (0, 0)) (by (with_reducible repeat (first | refine blk_drewN ?_ _ | refine blk_drew ?_ | refine blk_alloc ?_ _)); exact BK463.out)) : gb463 ≠ gb467))
      have n14_ := Aside0.mk ((by rw [hg]; exact Nat.ne_of_gt (blk_lt (g := gb463) (o := .cells #[.slice Ao22 t451.length co22, .slice Ao25 t454.length co25, .slice Ao26 t457.length co26, .slice Ao27 t460.length co27] 50 (0, 0)) (by (with_reducible repeat (first | refine blk_drewN ?_ _ | refine blk_drew ?_ | refine blk_alloc ?_ _)); exact BK463.out)) : gb467 ≠ gb463))
      clear HO453
      clear HO456
      clear HO459
      clear HO462
      clear HO466
      clear BK448
      clear BK463
      clear HB
      have HO453 := n0_
      have HO456 := n1_
      have HO459 := n2_
      have HO462 := n3_
      have HO466 := n4_
      have BK448 := n5_
      have BK463 := n6_
      have HB := n7_
      have BK467 := n8_
      have GW467 := n9_
      have GE467 := n10_
      have NB448_467 := n11_
      have NB467_448 := n12_
      have NB463_467 := n13_
      have NB467_463 := n14_
      clear n0_ n1_ n2_ n3_ n4_ n5_ n6_ n7_ n8_ n9_ n10_ n11_ n12_ n13_ n14_
      clear hb hbox hg
      refine hK.out _ _ ⟨(blk_cell BK463.out 0).trans rfl, (blk_cell BK463.out 1).trans rfl, (blk_cell BK463.out 2).trans rfl, (blk_cell BK463.out 3).trans rfl⟩ (fun hHeld => ?_)
      clear hK K
      refine norm_ (a' := ?_) ?_ ?_
      rotate_left
      ·show Act.put _ (some 6) _ = _
       simp only [Act.put, List.setIfInBounds_toArray, List.set_cons_zero, List.set_cons_succ, i64_w, i32_w]
       rfl
      exact norm_ (by simp only [putAll, Act.put, List.setIfInBounds_toArray, List.set_cons_zero, List.set_cons_succ]) (hCont (.slice Ao31 t464.length co31, gb467) _ ⟨hHeld, (by (with_reducible repeat (first | apply Kd.N_alloc | apply Kd.N_drewN | apply Kd.N_drew)); exact Kd.N_mono HO453.out (fun _ hk => ⟨hk.1.1.1, ⟨hk.1.1.2.1, ⟨hk.1.1.2.2.1, ⟨hk.1.2, ⟨hk.1.1.2.2.2.1, ⟨hk.1.1.2.2.2.2, hk.2⟩⟩⟩⟩⟩⟩)), (by (with_reducible repeat (first | apply Kd.R_alloc | apply Kd.R_drewN | apply Kd.R_drew)); exact HO456.out), (by (with_reducible repeat (first | apply Kd.N_alloc | apply Kd.N_drewN | apply Kd.N_drew)); exact Kd.N_mono HO459.out (fun _ hk => ⟨hk.1.1.1, ⟨hk.1.1.2.1, ⟨hk.1.1.2.2.1, ⟨hk.1.2, ⟨hk.1.1.2.2.2.1, ⟨hk.1.1.2.2.2.2, hk.2⟩⟩⟩⟩⟩⟩)), (by (with_reducible repeat (first | apply Kd.N_alloc | apply Kd.N_drewN | apply Kd.N_drew)); exact Kd.N_mono HO462.out (fun _ hk => ⟨hk.1.1.1, ⟨hk.1.1.2.1, ⟨hk.1.1.2.2.1, ⟨hk.1.2, ⟨hk.1.1.2.2.2.1, ⟨hk.1.1.2.2.2.2, hk.2⟩⟩⟩⟩⟩⟩)), (by (with_reducible repeat (first | apply Kd.N_alloc | apply Kd.N_drewN | apply Kd.N_drew)); exact Kd.N_mono HO466.out (fun _ hk => ⟨hk.1.1, ⟨hk.1.2.1, ⟨hk.1.2.2.1, ⟨hk.1.2.2.2.1, ⟨hk.1.2.2.2.2.1, ⟨hk.1.2.2.2.2.2, hk.2⟩⟩⟩⟩⟩⟩)), (by (with_reducible repeat (first | refine blk_drewN ?_ _ | refine blk_drew ?_ | refine blk_alloc ?_ _)); exact BK448.out), (by (with_reducible repeat (first | refine blk_drewN ?_ _ | refine blk_drew ?_ | refine blk_alloc ?_ _)); exact BK463.out), (by (with_reducible repeat (first | refine blk_drewN ?_ _ | refine blk_drew ?_ | refine blk_alloc ?_ _)); exact BK467.out), GW467.out, GE467.out, NB448_467.out, NB467_448.out, NB463_467.out, NB467_463.out, (by repeat (first | (with_reducible first | exact HB.out | apply below_alloc | apply pw_below_drewN | apply below_drew1 | refine below_set ?_ GE448.out | refine below_set ?_ GE463.out | refine below_set ?_ GE467.out) | exact HB.out))⟩)
     ·skip
      refine box_step ?hg (N := 6) ?hd (cs := #[.slice none 0 0, .slice none 0 0, .slice none 0 0, .slice none 0 0]) (t := 50) ?hr ?_; (case hd => rfl); (case hg => rfl); (case hr => first | (go_simp; done) | (go_simp; rfl))
      intro gb467 hg w30 hbox hb
      have n0_ := Aside0.mk (Kd.N_below (Kd.N_elderB (by (with_reducible repeat (first | apply Kd.N_alloc | apply Kd.N_drewN | apply Kd.N_drew)); exact HO453.out) gb467 (Nat.le_of_eq hg.symm)) hb)
      have n1_ := Aside0.mk (Kd.R_below (by (with_reducible repeat (first | apply Kd.R_alloc | apply Kd.R_drewN | apply Kd.R_drew)); exact HO456.out) hb)
      have n2_ := Aside0.mk (Kd.N_below (Kd.N_elderB (by (with_reducible repeat (first | apply Kd.N_alloc | apply Kd.N_drewN | apply Kd.N_drew)); exact HO459.out) gb467 (Nat.le_of_eq hg.symm)) hb)
      have n3_ := Aside0.mk (Kd.N_below (Kd.N_elderB (by (with_reducible repeat (first | apply Kd.N_alloc | apply Kd.N_drewN | apply Kd.N_drew)); exact HO462.out) gb467 (Nat.le_of_eq hg.symm)) hb)
      have n4_ := Aside0.mk (blk_below (g := gb448) (o := .cells #[.slice A0_0 l0_0.length c0_0, .slice A0_1 l0_1.length c0_1, .slice A0_2 l0_2.length c0_2, .slice A0_3 l0_3.length c0_3] 43 (0, 0)) (by (with_reducible repeat (first | refine blk_drewN ?_ _ | refine blk_drew ?_ | refine blk_alloc ?_ _)); exact BK448.out) hb)
      have n5_ := Aside0.mk (blk_below (g := gb463) (o := .cells #[.slice Ao22 t451.length co22, .slice Ao25 t454.length co25, .slice Ao26 t457.length co26, .slice Ao27 t460.length co27] 50 (0, 0)) (by (with_reducible repeat (first | refine blk_drewN ?_ _ | refine blk_drew ?_ | refine blk_alloc ?_ _)); exact BK463.out) hb)
      have n6_ := Aside0.mk (below_step (by repeat (first | (with_reducible first | exact HB.out | apply below_alloc | apply pw_below_drewN | apply below_drew1 | refine below_set ?_ GE448.out | refine below_set ?_ GE463.out) | exact HB.out)) hb)
      have n7_ := Aside0.mk (hbox)
      have n8_ := Aside0.mk ((by rw [hg]; exact (below_size (by repeat (first | (with_reducible first | exact HB.out | apply below_alloc | apply pw_below_drewN | apply below_drew1 | refine below_set ?_ GE448.out | refine below_set ?_ GE463.out) | exact HB.out))) : w.heap.size ≤ gb467))
      have n9_ := Aside0.mk ((by rw [hg]; exact (below_size (by repeat (first | (with_reducible first | exact HB.out | apply below_alloc | apply pw_below_drewN | apply below_drew1 | refine below_set ?_ GE448.out | refine below_set ?_ GE463.out) | exact HB.out))) : w.heap.size ≤ gb467))
      have n10_ := Aside0.mk ((by rw [hg]; exact Nat.ne_of_lt (blk_lt (g := gb448) (o := .cells #[.slice A0_0 l0_0.length c0_0, .slice A0_1 l0_1.length c0_1, .slice A0_2 l0_2.length c0_2, .slice A0_3 l0_3.length c0_3] 43 (0, 0)) (by (with_reducible repeat (first | refine blk_drewN ?_ _ | refine blk_drew ?_ | refine blk_alloc ?_ _)); exact BK448.out)) : gb448 ≠ gb467))
      have n11_ := Aside0.mk ((by rw [hg]; exact Nat.ne_of_gt (blk_lt (g := gb448) (o := .cells #[.slice A0_0 l0_0.length c0_0, .slice A0_1 l0_1.length c0_1, .slice A0_2 l0_2.length c0_2, .slice A0_3 l0_3.length c0_3] 43 (0, 0)) (by (with_reducible repeat (first | refine blk_drewN ?_ _ | refine blk_drew ?_ | refine blk_alloc ?_ _)); exact BK448.out)) : gb467 ≠ gb448))
      have n12_ := Aside0.mk ((by rw [hg]; exact Nat.ne_of_lt (blk_lt (g := gb463) (o := .cells #[.slice Ao22 t451.length co22, .slice Ao25 t454.length co25, .slice Ao26 t457.length co26, .slice Ao27 t460.length co27] 50 (0, 0)) (by (with_reducible repeat (first | refine blk_drewN ?_ _ | refine blk_drew ?_ | refine blk_alloc ?_ _)); exact BK463.out)) : gb463 ≠ gb467))
      have n13_ := Aside0.mk ((by rw [hg]; exact Nat.ne_of_gt (blk_lt (g := gb463) (o := .cells #[.slice Ao22 t451.length co22, .slice Ao25 t454.length co25, .slice Ao26 t457.length co26, .slice Ao27 t460.length co27] 50 (0, 0)) (by (with_reducible repeat (first | refine blk_drewN ?_ _ | refine blk_drew ?_ | refine blk_alloc ?_ _)); exact BK463.out)) : gb467 ≠ gb463))
      clear HO453
      clear HO456
      clear HO459
      clear HO462
      clear BK448
      clear BK463
      clear HB
      have HO453 := n0_
      have HO456 := n1_
      have HO459 := n2_
      have HO462 := n3_
      have BK448 := n4_
      have BK463 := n5_
      have HB := n6_
      have BK467 := n7_
      have GW467 := n8_
      have GE467 := n9_
      have NB448_467 := n10_
      have NB467_448 := n11_
      have NB463_467 := n12_
      have NB467_463 := n13_
      clear n0_ n1_ n2_ n3_ n4_ n5_ n6_ n7_ n8_ n9_ n10_ n11_ n12_ n13_
      clear hb hbox hg
      refine hK.out _ _ ⟨(blk_cell BK463.out 0).trans rfl, (blk_cell BK463.out 1).trans rfl, (blk_cell BK463.out 2).trans rfl, (blk_cell BK463.out 3).trans rfl⟩ (fun hHeld => ?_)
      clear hK K
      refine norm_ (a' := ?_) ?_ ?_
      rotate_left
      ·show Act.put _ (some 6) _ = _
       simp only [Act.put, List.setIfInBounds_toArray, List.set_cons_zero, List.set_cons_succ, i64_w, i32_w]
       rfl
      refine one_ (i := 7) (N := some 30) (flg 11 767) rfl rfl (one_of HT_.out (by kernel_rfl)) (by decide) (fun K hK => ?_)
      refine goes_ Tryd.func29 (by kernel_rfl) rfl #[.slice Ao27 t460.length co27, .int .i64 a1] (by rfl) rfl rfl (by (try simp only [List.map_toArray, List.map_cons, List.map_nil]); first | done | rfl | (simp only [List.length_drop, List.length_take]; rfl)) ?_
      with_reducible refine (helmsmanlaw12_moved.calls kj2 _ _ t460 a1 t464 _ ?side1 ?side2 A18.out).mono ?_
      (case side1 => repeat (first | exact (Kd.N_reads' HO462.out).2.2 | (with_reducible refine Kd.C_alloc ?_ _) | (with_reducible refine Kd.C_drewN ?_ _) | (with_reducible refine Kd.C_drew ?_)))
      (case side2 => exact (Kd.N_reads' HO462.out).2.1)
      rintro e w31 ⟨v465, rfl, ho0, hb⟩
      refine ⟨_, rfl, ?_⟩
      have n0_ := Aside0.mk (Kd.N_elder' (by (with_reducible repeat (first | apply Kd.N_alloc | apply Kd.N_drewN | apply Kd.N_drew)); exact HO453.out) (by first | exact Kd.N_base ho0 | exact Kd.N_base (Kd.R_N ho0) | exact Kd.N_base (Kd.R_N (Kd.R_bound ho0))) hb)
      have n1_ := Aside0.mk (Kd.R_below (by (with_reducible repeat (first | apply Kd.R_alloc | apply Kd.R_drewN | apply Kd.R_drew)); exact HO456.out) hb)
      have n2_ := Aside0.mk (Kd.N_elder' (by (with_reducible repeat (first | apply Kd.N_alloc | apply Kd.N_drewN | apply Kd.N_drew)); exact HO459.out) (by first | exact Kd.N_base ho0 | exact Kd.N_base (Kd.R_N ho0) | exact Kd.N_base (Kd.R_N (Kd.R_bound ho0))) hb)
      have n3_ := Aside0.mk (Kd.N_elder' (by (with_reducible repeat (first | apply Kd.N_alloc | apply Kd.N_drewN | apply Kd.N_drew)); exact HO462.out) (by first | exact Kd.N_base ho0 | exact Kd.N_base (Kd.R_N ho0) | exact Kd.N_base (Kd.R_N (Kd.R_bound ho0))) hb)
      have n4_ := Aside0.mk (Kd.N_lower (Kd.N_mono (ok' := fun k_ => some k_ ≠ (.slice Ao22 t451.length co22 : Value).ownBlock ∧ some k_ ≠ (.slice Ao25 t454.length co25 : Value).ownBlock ∧ some k_ ≠ (.slice Ao26 t457.length co26 : Value).ownBlock ∧ some k_ ≠ (.slice Ao27 t460.length co27 : Value).ownBlock ∧ k_ ≠ gb448 ∧ k_ ≠ gb463 ∧ k_ ≠ gb467) (Kd.R_N (Kd.R_bound ho0)) (fun k_ hk_ => ⟨(Kd.fresh' (Kd.N_lt (by (with_reducible repeat (first | apply Kd.N_alloc | apply Kd.N_drewN | apply Kd.N_drew)); exact HO453.out)) k_ hk_.2.1), (Kd.fresh' (Kd.R_lt (by (with_reducible repeat (first | apply Kd.R_alloc | apply Kd.R_drewN | apply Kd.R_drew)); exact HO456.out)) k_ hk_.2.1), (Kd.fresh' (Kd.N_lt (by (with_reducible repeat (first | apply Kd.N_alloc | apply Kd.N_drewN | apply Kd.N_drew)); exact HO459.out)) k_ hk_.2.1), (Kd.fresh' (Kd.N_lt (by (with_reducible repeat (first | apply Kd.N_alloc | apply Kd.N_drewN | apply Kd.N_drew)); exact HO462.out)) k_ hk_.2.1), (Kd.freshB (g := gb448) (o := .cells #[.slice A0_0 l0_0.length c0_0, .slice A0_1 l0_1.length c0_1, .slice A0_2 l0_2.length c0_2, .slice A0_3 l0_3.length c0_3] 43 (0, 0)) (by (with_reducible repeat (first | refine blk_drewN ?_ _ | refine blk_drew ?_ | refine blk_alloc ?_ _)); exact BK448.out) k_ hk_.2.1), (Kd.freshB (g := gb463) (o := .cells #[.slice Ao22 t451.length co22, .slice Ao25 t454.length co25, .slice Ao26 t457.length co26, .slice Ao27 t460.length co27] 50 (0, 0)) (by (with_reducible repeat (first | refine blk_drewN ?_ _ | refine blk_drew ?_ | refine blk_alloc ?_ _)); exact BK463.out) k_ hk_.2.1), (Kd.freshB (g := gb467) (o := .cells #[.slice none 0 0, .slice none 0 0, .slice none 0 0, .slice none 0 0] 50 (0, 0)) (by (with_reducible repeat (first | refine blk_drewN ?_ _ | refine blk_drew ?_ | refine blk_alloc ?_ _)); exact BK467.out) k_ hk_.2.1)⟩)) (below_size (by repeat (first | (with_reducible first | exact HB.out | apply below_alloc | apply pw_below_drewN | apply below_drew1 | refine below_set ?_ GE448.out | refine below_set ?_ GE463.out | refine below_set ?_ GE467.out) | exact HB.out))))
      have n5_ := Aside0.mk (blk_below (g := gb448) (o := .cells #[.slice A0_0 l0_0.length c0_0, .slice A0_1 l0_1.length c0_1, .slice A0_2 l0_2.length c0_2, .slice A0_3 l0_3.length c0_3] 43 (0, 0)) (by (with_reducible repeat (first | refine blk_drewN ?_ _ | refine blk_drew ?_ | refine blk_alloc ?_ _)); exact BK448.out) hb)
      have n6_ := Aside0.mk (blk_below (g := gb463) (o := .cells #[.slice Ao22 t451.length co22, .slice Ao25 t454.length co25, .slice Ao26 t457.length co26, .slice Ao27 t460.length co27] 50 (0, 0)) (by (with_reducible repeat (first | refine blk_drewN ?_ _ | refine blk_drew ?_ | refine blk_alloc ?_ _)); exact BK463.out) hb)
      have n7_ := Aside0.mk (blk_below (g := gb467) (o := .cells #[.slice none 0 0, .slice none 0 0, .slice none 0 0, .slice none 0 0] 50 (0, 0)) (by (with_reducible repeat (first | refine blk_drewN ?_ _ | refine blk_drew ?_ | refine blk_alloc ?_ _)); exact BK467.out) hb)
      have n8_ := Aside0.mk (below_step (by repeat (first | (with_reducible first | exact HB.out | apply below_alloc | apply pw_below_drewN | apply below_drew1 | refine below_set ?_ GE448.out | refine below_set ?_ GE463.out | refine below_set ?_ GE467.out) | exact HB.out)) hb)
      clear HO453
      clear HO456
      clear HO459
      clear HO462
      clear BK448
      clear BK463
      clear BK467
      clear HB
      have HO453 := n0_
      have HO456 := n1_
      have HO459 := n2_
      have HO462 := n3_
      have HO466 := n4_
      have BK448 := n5_
      have BK463 := n6_
      have BK467 := n7_
      have HB := n8_
      clear n0_ n1_ n2_ n3_ n4_ n5_ n6_ n7_ n8_
      (try clear hb)
      (try clear hb2)
      (try clear hk)
      (try clear hi)
      (try clear ho0)
      obtain ⟨Ao32, co32, eo32⟩ := Kd.N_slice HO466.out
      (first | subst eo32 | (injection eo32 with f1_ f2_ f3_; have f4_ := f1_.symm; have f5_ := f3_.symm; clear f1_ f2_ f3_; subst f4_; subst f5_))
      refine hK.out _ _ ⟨(blk_cell BK463.out 0).trans rfl, (blk_cell BK463.out 1).trans rfl, (blk_cell BK463.out 2).trans rfl, (blk_cell BK463.out 3).trans rfl⟩ (fun hHeld => ?_)
      clear hK K
      refine norm_ (a' := ?_) ?_ ?_
      rotate_left
      ·show Act.put _ (some 30) _ = _
       simp only [Act.put, List.setIfInBounds_toArray, List.set_cons_zero, List.set_cons_succ, i64_w, i32_w]
       rfl
      refine pure_ (i := 8) (N := some 31) (v := ?_) (a' := ?_) (flg 11 1023) rfl rfl (any_of HT_.out (by kernel_rfl)) (fun _ _ _ h => h) (Or.inl ⟨by rfl, ?_⟩) ?_ ?_; rotate_left; intro w'; go_simp; with_reducible rfl; rotate_left; (simp only [Act.put, pA_, pB_, pC_, i64_w, i32_w]; rfl)
      exact norm_ (by simp only [putAll, Act.put, List.setIfInBounds_toArray, List.set_cons_zero, List.set_cons_succ]) (hCont (.slice Ao32 t464.length co32, gb467) _ ⟨hHeld, (by (with_reducible repeat (first | apply Kd.N_alloc | apply Kd.N_drewN | apply Kd.N_drew)); exact Kd.N_mono HO453.out (fun _ hk => ⟨hk.1.1.1, ⟨hk.1.1.2.1, ⟨hk.1.1.2.2.1, ⟨hk.2, ⟨hk.1.1.2.2.2.1, ⟨hk.1.1.2.2.2.2, hk.1.2⟩⟩⟩⟩⟩⟩)), (by (with_reducible repeat (first | apply Kd.R_alloc | apply Kd.R_drewN | apply Kd.R_drew)); exact HO456.out), (by (with_reducible repeat (first | apply Kd.N_alloc | apply Kd.N_drewN | apply Kd.N_drew)); exact Kd.N_mono HO459.out (fun _ hk => ⟨hk.1.1.1, ⟨hk.1.1.2.1, ⟨hk.1.1.2.2.1, ⟨hk.2, ⟨hk.1.1.2.2.2.1, ⟨hk.1.1.2.2.2.2, hk.1.2⟩⟩⟩⟩⟩⟩)), (by (with_reducible repeat (first | apply Kd.N_alloc | apply Kd.N_drewN | apply Kd.N_drew)); exact Kd.N_mono HO462.out (fun _ hk => ⟨hk.1.1.1, ⟨hk.1.1.2.1, ⟨hk.1.1.2.2.1, ⟨hk.2, ⟨hk.1.1.2.2.2.1, ⟨hk.1.1.2.2.2.2, hk.1.2⟩⟩⟩⟩⟩⟩)), (by (with_reducible repeat (first | apply Kd.N_alloc | apply Kd.N_drewN | apply Kd.N_drew)); exact HO466.out), (by (with_reducible repeat (first | refine blk_drewN ?_ _ | refine blk_drew ?_ | refine blk_alloc ?_ _)); exact BK448.out), (by (with_reducible repeat (first | refine blk_drewN ?_ _ | refine blk_drew ?_ | refine blk_alloc ?_ _)); exact BK463.out), (by (with_reducible repeat (first | refine blk_drewN ?_ _ | refine blk_drew ?_ | refine blk_alloc ?_ _)); exact BK467.out), GW467.out, GE467.out, NB448_467.out, NB467_448.out, NB463_467.out, NB467_463.out, (by repeat (first | (with_reducible first | exact HB.out | apply below_alloc | apply pw_below_drewN | apply below_drew1 | refine below_set ?_ GE448.out | refine below_set ?_ GE463.out | refine below_set ?_ GE467.out) | exact HB.out))⟩)
    rintro ⟨v465, gb467⟩ w33 ⟨hS_, h0_, h1_, h2_, h3_, h4_, h5_, h6_, h7_, h8_, h9_, h10_, h11_, h12_, h13_, h14_⟩
    have n0_ : Aside0 (Kd.N k79 79 w33 w.heap.size (fun k_ => some k_ ≠ (.slice Ao25 t454.length co25 : Value).ownBlock ∧ some k_ ≠ (.slice Ao26 t457.length co26 : Value).ownBlock ∧ some k_ ≠ (.slice Ao27 t460.length co27 : Value).ownBlock ∧ some k_ ≠ (v465 : Value).ownBlock ∧ k_ ≠ gb448 ∧ k_ ≠ gb463 ∧ k_ ≠ gb467) (.slice Ao22 t451.length co22) t451) := ⟨h0_⟩
    have n1_ : Aside0 (Kd.R k80 80 w33 w.heap.size (fun _ => True) (.slice Ao25 t454.length co25) t454) := ⟨h1_⟩
    have n2_ : Aside0 (Kd.N k66 66 w33 w.heap.size (fun k_ => some k_ ≠ (.slice Ao22 t451.length co22 : Value).ownBlock ∧ some k_ ≠ (.slice Ao25 t454.length co25 : Value).ownBlock ∧ some k_ ≠ (.slice Ao27 t460.length co27 : Value).ownBlock ∧ some k_ ≠ (v465 : Value).ownBlock ∧ k_ ≠ gb448 ∧ k_ ≠ gb463 ∧ k_ ≠ gb467) (.slice Ao26 t457.length co26) t457) := ⟨h2_⟩
    have n3_ : Aside0 (Kd.N k76 76 w33 w.heap.size (fun k_ => some k_ ≠ (.slice Ao22 t451.length co22 : Value).ownBlock ∧ some k_ ≠ (.slice Ao25 t454.length co25 : Value).ownBlock ∧ some k_ ≠ (.slice Ao26 t457.length co26 : Value).ownBlock ∧ some k_ ≠ (v465 : Value).ownBlock ∧ k_ ≠ gb448 ∧ k_ ≠ gb463 ∧ k_ ≠ gb467) (.slice Ao27 t460.length co27) t460) := ⟨h3_⟩
    have n4_ : Aside0 (Kd.N k76 76 w33 w.heap.size (fun k_ => some k_ ≠ (.slice Ao22 t451.length co22 : Value).ownBlock ∧ some k_ ≠ (.slice Ao25 t454.length co25 : Value).ownBlock ∧ some k_ ≠ (.slice Ao26 t457.length co26 : Value).ownBlock ∧ some k_ ≠ (.slice Ao27 t460.length co27 : Value).ownBlock ∧ k_ ≠ gb448 ∧ k_ ≠ gb463 ∧ k_ ≠ gb467) v465 t464) := ⟨h4_⟩
    have n5_ : Aside0 (w33.heap[gb448]? = some (.cells #[.slice A0_0 l0_0.length c0_0, .slice A0_1 l0_1.length c0_1, .slice A0_2 l0_2.length c0_2, .slice A0_3 l0_3.length c0_3] 43 (0, 0))) := ⟨h5_⟩
    have n6_ : Aside0 (w33.heap[gb463]? = some (.cells #[.slice Ao22 t451.length co22, .slice Ao25 t454.length co25, .slice Ao26 t457.length co26, .slice Ao27 t460.length co27] 50 (0, 0))) := ⟨h6_⟩
    have n7_ : Aside0 (w33.heap[gb467]? = some (.cells #[.slice none 0 0, .slice none 0 0, .slice none 0 0, .slice none 0 0] 50 (0, 0))) := ⟨h7_⟩
    have n8_ : Aside0 (w.heap.size ≤ gb467) := ⟨h8_⟩
    have n9_ : Aside0 (w.heap.size ≤ gb467) := ⟨h9_⟩
    have n10_ : Aside0 (gb448 ≠ gb467) := ⟨h10_⟩
    have n11_ : Aside0 (gb467 ≠ gb448) := ⟨h11_⟩
    have n12_ : Aside0 (gb463 ≠ gb467) := ⟨h12_⟩
    have n13_ : Aside0 (gb467 ≠ gb463) := ⟨h13_⟩
    have n14_ : Aside0 (Below w.heap.size w w33) := ⟨h14_⟩
    clear HO453
    clear HO456
    clear HO459
    clear HO462
    clear BK448
    clear BK463
    clear HB
    clear h0_ h1_ h2_ h3_ h4_ h5_ h6_ h7_ h8_ h9_ h10_ h11_ h12_ h13_ h14_
    have HO453 := n0_
    have HO456 := n1_
    have HO459 := n2_
    have HO462 := n3_
    have HO466 := n4_
    have BK448 := n5_
    have BK463 := n6_
    have BK467 := n7_
    have GW467 := n8_
    have GE467 := n9_
    have NB448_467 := n10_
    have NB467_448 := n11_
    have NB463_467 := n12_
    have NB467_463 := n13_
    have HB := n14_
    clear n0_ n1_ n2_ n3_ n4_ n5_ n6_ n7_ n8_ n9_ n10_ n11_ n12_ n13_ n14_
    have hHeld : w33.cell? ⟨gb463, 0, none⟩ = some (.slice Ao22 t451.length co22) ∧ w33.cell? ⟨gb463, 1, none⟩ = some (.slice Ao25 t454.length co25) ∧ w33.cell? ⟨gb463, 2, none⟩ = some (.slice Ao26 t457.length co26) ∧ w33.cell? ⟨gb463, 3, none⟩ = some (.slice Ao27 t460.length co27) := hS_
    obtain ⟨Ao34, co34, eo34⟩ := Kd.N_slice HO466.out
    (first | subst eo34 | (injection eo34 with f1_ f2_ f3_; have f4_ := f1_.symm; have f5_ := f3_.symm; clear f1_ f2_ f3_; subst f4_; subst f5_))
    refine norm_ (a' := ?_) ?_ ?_
    rotate_left
    ·simp only [putAll, Act.put, List.setIfInBounds_toArray, List.set_cons_zero, List.set_cons_succ]
     rfl
    refine one_ (i := 10) (N := none) (flg 11 2047) rfl rfl (one_of HT_.out (by kernel_rfl)) (by decide) (fun K hK => ?_)
    have hs35 : w33.cell? ⟨gb467, 0, none⟩ = some (.slice none 0 0) := (blk_cell BK467.out 0).trans rfl
    have hfs35 := blk_frozen BK467.out 0
    have hns35_0 := NB448_467.out
    have hns35_1 := NB463_467.out
    have hms35_0 := NB467_448.out
    have hms35_1 := NB467_463.out
    have hs36 : w33.cell? ⟨gb467, 1, none⟩ = some (.slice none 0 0) := (blk_cell BK467.out 1).trans rfl
    have hfs36 := blk_frozen BK467.out 1
    have hns36_0 := NB448_467.out
    have hns36_1 := NB463_467.out
    have hms36_0 := NB467_448.out
    have hms36_1 := NB467_463.out
    have hs37 : w33.cell? ⟨gb467, 2, none⟩ = some (.slice none 0 0) := (blk_cell BK467.out 2).trans rfl
    have hfs37 := blk_frozen BK467.out 2
    have hns37_0 := NB448_467.out
    have hns37_1 := NB463_467.out
    have hms37_0 := NB467_448.out
    have hms37_1 := NB467_463.out
    have hs38 : w33.cell? ⟨gb467, 3, none⟩ = some (.slice none 0 0) := (blk_cell BK467.out 3).trans rfl
    have hfs38 := blk_frozen BK467.out 3
    have hns38_0 := NB448_467.out
    have hns38_1 := NB463_467.out
    have hms38_0 := NB467_448.out
    have hms38_1 := NB467_463.out
    refine skip_ (w1 := ?_) (by rfl) rfl ?_ ?_
    rotate_left
    ·go_simp
     rfl
    refine hK.out _ _ ⟨((cell_far (p := ⟨gb467, _, none⟩) NB463_467.out _).trans (((cell_far (p := ⟨gb467, _, none⟩) NB463_467.out _).trans (((cell_far (p := ⟨gb467, _, none⟩) NB463_467.out _).trans (((cell_far (p := ⟨gb467, _, none⟩) NB463_467.out _).trans (hHeld.1)))))))), ((cell_far (p := ⟨gb467, _, none⟩) NB463_467.out _).trans (((cell_far (p := ⟨gb467, _, none⟩) NB463_467.out _).trans (((cell_far (p := ⟨gb467, _, none⟩) NB463_467.out _).trans (((cell_far (p := ⟨gb467, _, none⟩) NB463_467.out _).trans (hHeld.2.1)))))))), ((cell_far (p := ⟨gb467, _, none⟩) NB463_467.out _).trans (((cell_far (p := ⟨gb467, _, none⟩) NB463_467.out _).trans (((cell_far (p := ⟨gb467, _, none⟩) NB463_467.out _).trans (((cell_far (p := ⟨gb467, _, none⟩) NB463_467.out _).trans (hHeld.2.2.1)))))))), ((cell_far (p := ⟨gb467, _, none⟩) NB463_467.out _).trans (((cell_far (p := ⟨gb467, _, none⟩) NB463_467.out _).trans (((cell_far (p := ⟨gb467, _, none⟩) NB463_467.out _).trans (((cell_far (p := ⟨gb467, _, none⟩) NB463_467.out _).trans (hHeld.2.2.2))))))))⟩ (fun hHeld => ?_)
    clear hK K
    refine done_ (done_of HT_.out (by kernel_rfl)) ?_
    have hnb39 := NB463_467.out
    have hnc39 := NB467_463.out
    have hcz40_0 : w33.cell? ⟨gb463, 0, none⟩ = some (.slice Ao22 t451.length co22) := (blk_cell BK463.out 0).trans rfl
    have hcz40_1 : w33.cell? ⟨gb463, 1, none⟩ = some (.slice Ao25 t454.length co25) := (blk_cell BK463.out 1).trans rfl
    have hcz40_2 : w33.cell? ⟨gb463, 2, none⟩ = some (.slice Ao26 t457.length co26) := (blk_cell BK463.out 2).trans rfl
    have hcz40_3 : w33.cell? ⟨gb463, 3, none⟩ = some (.slice Ao27 t460.length co27) := (blk_cell BK463.out 3).trans rfl
    have hfz40_0 := blk_frozen BK463.out 0
    have hfz40_1 := blk_frozen BK463.out 1
    have hfz40_2 := blk_frozen BK463.out 2
    have hfz40_3 := blk_frozen BK463.out 3
    try go_wp2
    (try simp only [Act.put, List.setIfInBounds_toArray, List.set_cons_succ, List.set_cons_zero])
    go_loopg [35] kj2 (fun kq v35 w' => ∃ (x35_2 : Int) (x468002_2 : List (S66)) (u468002 : Value), v35 = .int .i64 x35_2 ∧ Aside0 (helmsmanlaw12_TreePlaces.l0 kq a1 t457 (t457.length : Int) x35_2 t451 t454 t457 t460 t451 t454 x468002_2 t464 = some r) ∧ Aside0 (kq ≤ kj2) ∧ Aside0 (Kd.N k66 66 w' w.heap.size (fun k_ => some k_ ≠ ((.slice Ao22 t451.length co22) : Value).ownBlock ∧ some k_ ≠ ((.slice Ao25 t454.length co25) : Value).ownBlock ∧ some k_ ≠ ((.slice Ao27 t460.length co27) : Value).ownBlock ∧ some k_ ≠ ((.slice Ao22 t451.length co22) : Value).ownBlock ∧ some k_ ≠ ((.slice Ao25 t454.length co25) : Value).ownBlock ∧ some k_ ≠ (u468002 : Value).ownBlock ∧ some k_ ≠ ((.slice Ao34 t464.length co34) : Value).ownBlock ∧ k_ ≠ gb448 ∧ k_ ≠ gb463 ∧ k_ ≠ gb467) (.slice Ao26 t457.length co26) t457) ∧ Aside0 (Kd.N k79 79 w' w.heap.size (fun k_ => some k_ ≠ ((.slice Ao26 t457.length co26) : Value).ownBlock ∧ some k_ ≠ ((.slice Ao25 t454.length co25) : Value).ownBlock ∧ some k_ ≠ ((.slice Ao26 t457.length co26) : Value).ownBlock ∧ some k_ ≠ ((.slice Ao27 t460.length co27) : Value).ownBlock ∧ some k_ ≠ ((.slice Ao25 t454.length co25) : Value).ownBlock ∧ some k_ ≠ (u468002 : Value).ownBlock ∧ some k_ ≠ ((.slice Ao34 t464.length co34) : Value).ownBlock ∧ k_ ≠ gb448 ∧ k_ ≠ gb463 ∧ k_ ≠ gb467) (.slice Ao22 t451.length co22) t451) ∧ Aside0 (Kd.R k80 80 w' w.heap.size (fun _ => True) (.slice Ao25 t454.length co25) t454) ∧ Aside0 (Kd.N k66 66 w' w.heap.size (fun k_ => some k_ ≠ ((.slice Ao22 t451.length co22) : Value).ownBlock ∧ some k_ ≠ ((.slice Ao25 t454.length co25) : Value).ownBlock ∧ some k_ ≠ ((.slice Ao27 t460.length co27) : Value).ownBlock ∧ some k_ ≠ ((.slice Ao22 t451.length co22) : Value).ownBlock ∧ some k_ ≠ ((.slice Ao25 t454.length co25) : Value).ownBlock ∧ some k_ ≠ (u468002 : Value).ownBlock ∧ some k_ ≠ ((.slice Ao34 t464.length co34) : Value).ownBlock ∧ k_ ≠ gb448 ∧ k_ ≠ gb463 ∧ k_ ≠ gb467) (.slice Ao26 t457.length co26) t457) ∧ Aside0 (Kd.N k76 76 w' w.heap.size (fun k_ => some k_ ≠ ((.slice Ao26 t457.length co26) : Value).ownBlock ∧ some k_ ≠ ((.slice Ao22 t451.length co22) : Value).ownBlock ∧ some k_ ≠ ((.slice Ao25 t454.length co25) : Value).ownBlock ∧ some k_ ≠ ((.slice Ao26 t457.length co26) : Value).ownBlock ∧ some k_ ≠ ((.slice Ao22 t451.length co22) : Value).ownBlock ∧ some k_ ≠ ((.slice Ao25 t454.length co25) : Value).ownBlock ∧ some k_ ≠ (u468002 : Value).ownBlock ∧ some k_ ≠ ((.slice Ao34 t464.length co34) : Value).ownBlock ∧ k_ ≠ gb448 ∧ k_ ≠ gb463 ∧ k_ ≠ gb467) (.slice Ao27 t460.length co27) t460) ∧ Aside0 (Kd.N k79 79 w' w.heap.size (fun k_ => some k_ ≠ ((.slice Ao26 t457.length co26) : Value).ownBlock ∧ some k_ ≠ ((.slice Ao25 t454.length co25) : Value).ownBlock ∧ some k_ ≠ ((.slice Ao26 t457.length co26) : Value).ownBlock ∧ some k_ ≠ ((.slice Ao27 t460.length co27) : Value).ownBlock ∧ some k_ ≠ ((.slice Ao25 t454.length co25) : Value).ownBlock ∧ some k_ ≠ (u468002 : Value).ownBlock ∧ some k_ ≠ ((.slice Ao34 t464.length co34) : Value).ownBlock ∧ k_ ≠ gb448 ∧ k_ ≠ gb463 ∧ k_ ≠ gb467) (.slice Ao22 t451.length co22) t451) ∧ Aside0 (Kd.R k80 80 w' w.heap.size (fun _ => True) (.slice Ao25 t454.length co25) t454) ∧ Aside0 (Kd.N k66 66 w' w.heap.size (fun k_ => some k_ ≠ ((.slice Ao26 t457.length co26) : Value).ownBlock ∧ some k_ ≠ ((.slice Ao22 t451.length co22) : Value).ownBlock ∧ some k_ ≠ ((.slice Ao25 t454.length co25) : Value).ownBlock ∧ some k_ ≠ ((.slice Ao26 t457.length co26) : Value).ownBlock ∧ some k_ ≠ ((.slice Ao27 t460.length co27) : Value).ownBlock ∧ some k_ ≠ ((.slice Ao22 t451.length co22) : Value).ownBlock ∧ some k_ ≠ ((.slice Ao25 t454.length co25) : Value).ownBlock ∧ some k_ ≠ ((.slice Ao34 t464.length co34) : Value).ownBlock ∧ k_ ≠ gb448 ∧ k_ ≠ gb463 ∧ k_ ≠ gb467) u468002 x468002_2) ∧ Aside0 (Kd.N k76 76 w' w.heap.size (fun k_ => some k_ ≠ ((.slice Ao26 t457.length co26) : Value).ownBlock ∧ some k_ ≠ ((.slice Ao22 t451.length co22) : Value).ownBlock ∧ some k_ ≠ ((.slice Ao25 t454.length co25) : Value).ownBlock ∧ some k_ ≠ ((.slice Ao26 t457.length co26) : Value).ownBlock ∧ some k_ ≠ ((.slice Ao27 t460.length co27) : Value).ownBlock ∧ some k_ ≠ ((.slice Ao22 t451.length co22) : Value).ownBlock ∧ some k_ ≠ ((.slice Ao25 t454.length co25) : Value).ownBlock ∧ some k_ ≠ (u468002 : Value).ownBlock ∧ k_ ≠ gb448 ∧ k_ ≠ gb463 ∧ k_ ≠ gb467) (.slice Ao34 t464.length co34) t464) ∧ Aside0 (w'.heap[gb448]? = some (.cells #[(.slice A0_0 l0_0.length c0_0), (.slice A0_1 l0_1.length c0_1), (.slice A0_2 l0_2.length c0_2), (.slice A0_3 l0_3.length c0_3)] 43 (0, 0))) ∧ Aside0 (w'.heap[gb463]? = some (.cells #[(.slice Ao22 t451.length co22), (.slice Ao25 t454.length co25), (.slice Ao26 t457.length co26), (.slice Ao27 t460.length co27)] 50 (0, 0))) ∧ Aside0 (w'.heap[gb467]? = some (.cells #[(.slice Ao22 t451.length co22), (.slice Ao25 t454.length co25), u468002, (.slice Ao34 t464.length co34)] 50 (0, 0))) ∧ Aside0 (Below w.heap.size w w'))
    case atStart => exact ⟨(0), (([] : List (S66))), (.slice none 0 0), (by first | rfl | (simp; done) | (simp [*]; done)), H', ⟨Nat.le_refl _⟩, ⟨by (with_reducible repeat (first | apply Kd.N_alloc | apply Kd.N_drewN | apply Kd.N_drew)); exact Kd.N_mono (Kd.N_far (p := ⟨gb467, 3, none⟩) (Kd.N_far (p := ⟨gb467, 2, none⟩) (Kd.N_far (p := ⟨gb467, 1, none⟩) (Kd.N_far (p := ⟨gb467, 0, none⟩) (Kd.N_mono HO459.out (fun k_ hk => (⟨hk, hk.2.2.2.2.2.2⟩ : _ ∧ k_ ≠ gb467))) (fun _ hk => hk.2) (.slice Ao22 t451.length co22)) (fun _ hk => hk.2) (.slice Ao25 t454.length co25)) (fun _ hk => hk.2) (.slice none 0 0)) (fun _ hk => hk.2) (.slice Ao34 t464.length co34)) (fun _ hk => ⟨hk.1.1, ⟨hk.1.2.1, ⟨hk.1.2.2.1, ⟨hk.1.1, ⟨hk.1.2.1, ⟨(by simp [Value.ownBlock]), ⟨hk.1.2.2.2.1, ⟨hk.1.2.2.2.2.1, ⟨hk.1.2.2.2.2.2.1, hk.1.2.2.2.2.2.2⟩⟩⟩⟩⟩⟩⟩⟩⟩)⟩, ⟨by (with_reducible repeat (first | apply Kd.N_alloc | apply Kd.N_drewN | apply Kd.N_drew)); exact Kd.N_mono (Kd.N_far (p := ⟨gb467, 3, none⟩) (Kd.N_far (p := ⟨gb467, 2, none⟩) (Kd.N_far (p := ⟨gb467, 1, none⟩) (Kd.N_far (p := ⟨gb467, 0, none⟩) (Kd.N_mono HO453.out (fun k_ hk => (⟨hk, hk.2.2.2.2.2.2⟩ : _ ∧ k_ ≠ gb467))) (fun _ hk => hk.2) (.slice Ao22 t451.length co22)) (fun _ hk => hk.2) (.slice Ao25 t454.length co25)) (fun _ hk => hk.2) (.slice none 0 0)) (fun _ hk => hk.2) (.slice Ao34 t464.length co34)) (fun _ hk => ⟨hk.1.2.1, ⟨hk.1.1, ⟨hk.1.2.1, ⟨hk.1.2.2.1, ⟨hk.1.1, ⟨(by simp [Value.ownBlock]), ⟨hk.1.2.2.2.1, ⟨hk.1.2.2.2.2.1, ⟨hk.1.2.2.2.2.2.1, hk.1.2.2.2.2.2.2⟩⟩⟩⟩⟩⟩⟩⟩⟩)⟩, ⟨by (with_reducible repeat (first | apply Kd.R_alloc | apply Kd.R_drewN | apply Kd.R_drew)); exact Kd.R_mono (Kd.R_far (p := ⟨gb467, 3, none⟩) (Kd.R_far (p := ⟨gb467, 2, none⟩) (Kd.R_far (p := ⟨gb467, 1, none⟩) (Kd.R_far (p := ⟨gb467, 0, none⟩) (Kd.R_types HO456.out BK467.out (by decide)) (fun _ hk => hk.2) (.slice Ao22 t451.length co22)) (fun _ hk => hk.2) (.slice Ao25 t454.length co25)) (fun _ hk => hk.2) (.slice none 0 0)) (fun _ hk => hk.2) (.slice Ao34 t464.length co34)) (fun _ hk => trivial)⟩, ⟨by (with_reducible repeat (first | apply Kd.N_alloc | apply Kd.N_drewN | apply Kd.N_drew)); exact Kd.N_mono (Kd.N_far (p := ⟨gb467, 3, none⟩) (Kd.N_far (p := ⟨gb467, 2, none⟩) (Kd.N_far (p := ⟨gb467, 1, none⟩) (Kd.N_far (p := ⟨gb467, 0, none⟩) (Kd.N_mono HO459.out (fun k_ hk => (⟨hk, hk.2.2.2.2.2.2⟩ : _ ∧ k_ ≠ gb467))) (fun _ hk => hk.2) (.slice Ao22 t451.length co22)) (fun _ hk => hk.2) (.slice Ao25 t454.length co25)) (fun _ hk => hk.2) (.slice none 0 0)) (fun _ hk => hk.2) (.slice Ao34 t464.length co34)) (fun _ hk => ⟨hk.1.1, ⟨hk.1.2.1, ⟨hk.1.2.2.1, ⟨hk.1.1, ⟨hk.1.2.1, ⟨(by simp [Value.ownBlock]), ⟨hk.1.2.2.2.1, ⟨hk.1.2.2.2.2.1, ⟨hk.1.2.2.2.2.2.1, hk.1.2.2.2.2.2.2⟩⟩⟩⟩⟩⟩⟩⟩⟩)⟩, ⟨by (with_reducible repeat (first | apply Kd.N_alloc | apply Kd.N_drewN | apply Kd.N_drew)); exact Kd.N_mono (Kd.N_far (p := ⟨gb467, 3, none⟩) (Kd.N_far (p := ⟨gb467, 2, none⟩) (Kd.N_far (p := ⟨gb467, 1, none⟩) (Kd.N_far (p := ⟨gb467, 0, none⟩) (Kd.N_mono HO462.out (fun k_ hk => (⟨hk, hk.2.2.2.2.2.2⟩ : _ ∧ k_ ≠ gb467))) (fun _ hk => hk.2) (.slice Ao22 t451.length co22)) (fun _ hk => hk.2) (.slice Ao25 t454.length co25)) (fun _ hk => hk.2) (.slice none 0 0)) (fun _ hk => hk.2) (.slice Ao34 t464.length co34)) (fun _ hk => ⟨hk.1.2.2.1, ⟨hk.1.1, ⟨hk.1.2.1, ⟨hk.1.2.2.1, ⟨hk.1.1, ⟨hk.1.2.1, ⟨(by simp [Value.ownBlock]), ⟨hk.1.2.2.2.1, ⟨hk.1.2.2.2.2.1, ⟨hk.1.2.2.2.2.2.1, hk.1.2.2.2.2.2.2⟩⟩⟩⟩⟩⟩⟩⟩⟩⟩)⟩, ⟨by (with_reducible repeat (first | apply Kd.N_alloc | apply Kd.N_drewN | apply Kd.N_drew)); exact Kd.N_mono (Kd.N_far (p := ⟨gb467, 3, none⟩) (Kd.N_far (p := ⟨gb467, 2, none⟩) (Kd.N_far (p := ⟨gb467, 1, none⟩) (Kd.N_far (p := ⟨gb467, 0, none⟩) (Kd.N_mono HO453.out (fun k_ hk => (⟨hk, hk.2.2.2.2.2.2⟩ : _ ∧ k_ ≠ gb467))) (fun _ hk => hk.2) (.slice Ao22 t451.length co22)) (fun _ hk => hk.2) (.slice Ao25 t454.length co25)) (fun _ hk => hk.2) (.slice none 0 0)) (fun _ hk => hk.2) (.slice Ao34 t464.length co34)) (fun _ hk => ⟨hk.1.2.1, ⟨hk.1.1, ⟨hk.1.2.1, ⟨hk.1.2.2.1, ⟨hk.1.1, ⟨(by simp [Value.ownBlock]), ⟨hk.1.2.2.2.1, ⟨hk.1.2.2.2.2.1, ⟨hk.1.2.2.2.2.2.1, hk.1.2.2.2.2.2.2⟩⟩⟩⟩⟩⟩⟩⟩⟩)⟩, ⟨by (with_reducible repeat (first | apply Kd.R_alloc | apply Kd.R_drewN | apply Kd.R_drew)); exact Kd.R_mono (Kd.R_far (p := ⟨gb467, 3, none⟩) (Kd.R_far (p := ⟨gb467, 2, none⟩) (Kd.R_far (p := ⟨gb467, 1, none⟩) (Kd.R_far (p := ⟨gb467, 0, none⟩) (Kd.R_types HO456.out BK467.out (by decide)) (fun _ hk => hk.2) (.slice Ao22 t451.length co22)) (fun _ hk => hk.2) (.slice Ao25 t454.length co25)) (fun _ hk => hk.2) (.slice none 0 0)) (fun _ hk => hk.2) (.slice Ao34 t464.length co34)) (fun _ hk => trivial)⟩, ⟨by first | exact Kd.R_nil _ _ _ _ _ | exact Kd.N_nil _ _ _ _ _ | exact Kd.V_nil _ _ _ _ _ | exact Kd.Q_nil _ _ _ _ _ | exact Kd.S_nil _ _ _ _ _⟩, ⟨by (with_reducible repeat (first | apply Kd.N_alloc | apply Kd.N_drewN | apply Kd.N_drew)); exact Kd.N_mono (Kd.N_far (p := ⟨gb467, 3, none⟩) (Kd.N_far (p := ⟨gb467, 2, none⟩) (Kd.N_far (p := ⟨gb467, 1, none⟩) (Kd.N_far (p := ⟨gb467, 0, none⟩) (Kd.N_mono HO466.out (fun k_ hk => (⟨hk, hk.2.2.2.2.2.2⟩ : _ ∧ k_ ≠ gb467))) (fun _ hk => hk.2) (.slice Ao22 t451.length co22)) (fun _ hk => hk.2) (.slice Ao25 t454.length co25)) (fun _ hk => hk.2) (.slice none 0 0)) (fun _ hk => hk.2) (.slice Ao34 t464.length co34)) (fun _ hk => ⟨hk.1.2.2.1, ⟨hk.1.1, ⟨hk.1.2.1, ⟨hk.1.2.2.1, ⟨hk.1.2.2.2.1, ⟨hk.1.1, ⟨hk.1.2.1, ⟨(by simp [Value.ownBlock]), ⟨hk.1.2.2.2.2.1, ⟨hk.1.2.2.2.2.2.1, hk.1.2.2.2.2.2.2⟩⟩⟩⟩⟩⟩⟩⟩⟩⟩)⟩, ⟨by (with_reducible repeat (first | refine blk_drewN ?_ _ | refine blk_drew ?_ | refine blk_alloc ?_ _)); refine blk_far ?_ NB448_467.out _; (with_reducible repeat (first | refine blk_drewN ?_ _ | refine blk_drew ?_ | refine blk_alloc ?_ _)); refine blk_far ?_ NB448_467.out _; (with_reducible repeat (first | refine blk_drewN ?_ _ | refine blk_drew ?_ | refine blk_alloc ?_ _)); refine blk_far ?_ NB448_467.out _; (with_reducible repeat (first | refine blk_drewN ?_ _ | refine blk_drew ?_ | refine blk_alloc ?_ _)); refine blk_far ?_ NB448_467.out _; (with_reducible repeat (first | refine blk_drewN ?_ _ | refine blk_drew ?_ | refine blk_alloc ?_ _)); exact BK448.out⟩, ⟨by (with_reducible repeat (first | refine blk_drewN ?_ _ | refine blk_drew ?_ | refine blk_alloc ?_ _)); refine blk_far ?_ NB463_467.out _; (with_reducible repeat (first | refine blk_drewN ?_ _ | refine blk_drew ?_ | refine blk_alloc ?_ _)); refine blk_far ?_ NB463_467.out _; (with_reducible repeat (first | refine blk_drewN ?_ _ | refine blk_drew ?_ | refine blk_alloc ?_ _)); refine blk_far ?_ NB463_467.out _; (with_reducible repeat (first | refine blk_drewN ?_ _ | refine blk_drew ?_ | refine blk_alloc ?_ _)); refine blk_far ?_ NB463_467.out _; (with_reducible repeat (first | refine blk_drewN ?_ _ | refine blk_drew ?_ | refine blk_alloc ?_ _)); exact BK463.out⟩, ⟨by (with_reducible repeat (first | refine blk_drewN ?_ _ | refine blk_drew ?_ | refine blk_alloc ?_ _)); refine blk_put (cs := #[.slice Ao22 t451.length co22, .slice Ao25 t454.length co25, .slice none 0 0, .slice none 0 0]) ?_ 3 _ rfl; (with_reducible repeat (first | refine blk_drewN ?_ _ | refine blk_drew ?_ | refine blk_alloc ?_ _)); refine blk_put (cs := #[.slice Ao22 t451.length co22, .slice Ao25 t454.length co25, .slice none 0 0, .slice none 0 0]) ?_ 2 _ rfl; (with_reducible repeat (first | refine blk_drewN ?_ _ | refine blk_drew ?_ | refine blk_alloc ?_ _)); refine blk_put (cs := #[.slice Ao22 t451.length co22, .slice none 0 0, .slice none 0 0, .slice none 0 0]) ?_ 1 _ rfl; (with_reducible repeat (first | refine blk_drewN ?_ _ | refine blk_drew ?_ | refine blk_alloc ?_ _)); refine blk_put (cs := #[.slice none 0 0, .slice none 0 0, .slice none 0 0, .slice none 0 0]) ?_ 0 _ rfl; (with_reducible repeat (first | refine blk_drewN ?_ _ | refine blk_drew ?_ | refine blk_alloc ?_ _)); exact BK467.out⟩, ⟨by repeat (first | (with_reducible first | exact HB.out | apply below_alloc | apply pw_below_drewN | apply below_drew1 | refine below_set ?_ GE448.out | refine below_set ?_ GE463.out | refine below_set ?_ GE467.out) | exact HB.out)⟩⟩
    case round => as_aux_lemma =>
     clear H'
     (try clear c1); (try clear c2); (try clear p2); (try clear c3); (try clear c6); (try clear c6b0); (try clear c9); (try clear c9b0); (try clear c10); (try clear c14); (try clear c16); (try clear c17); (try clear c23); (try clear c29); (try clear c39); (try clear hcz10_0); (try clear hcz10_1); (try clear hcz10_2); (try clear hcz10_3); (try clear hcz12_0); (try clear hcz12_1); (try clear hcz12_2); (try clear hcz12_3); (try clear hcz19_0); (try clear hcz19_1); (try clear hcz19_2); (try clear hcz19_3); (try clear hcz24_0); (try clear hcz24_1); (try clear hcz24_2); (try clear hcz24_3); (try clear hcz40_0); (try clear hcz40_1); (try clear hcz40_2); (try clear hcz40_3); (try clear hcz7_0); (try clear hcz7_1); (try clear hcz7_2); (try clear hcz7_3); (try clear hfz10_0); (try clear hfz10_1); (try clear hfz10_2); (try clear hfz10_3); (try clear hfz12_0); (try clear hfz12_1); (try clear hfz12_2); (try clear hfz12_3); (try clear hfz19_0); (try clear hfz19_1); (try clear hfz19_2); (try clear hfz19_3); (try clear hfz24_0); (try clear hfz24_1); (try clear hfz24_2); (try clear hfz24_3); (try clear hfz40_0); (try clear hfz40_1); (try clear hfz40_2); (try clear hfz40_3); (try clear hfz7_0); (try clear hfz7_1); (try clear hfz7_2); (try clear hfz7_3); (try clear p2)
     obtain ⟨x35_2, x468002_2, u468002, rfl, HA, HK2, HO_33, HO_464000, HO_464001, HO_464002, HO_464003, HO_468000, HO_468001, HO_468002, HO_468003, BK448, BK463, BK467, HB⟩ := hrel
     cases gk with
     | zero => exact absurd HA.out (by simp [helmsmanlaw12_TreePlaces.l0])
     | succ k2 =>
      have H := HA.out
      clear HA
      simp only [helmsmanlaw12_TreePlaces.l0] at H
      by_cases c41 : x35_2 < (t457.length : Int)
      ·rw [if_pos c41] at H
       have c41b0 : decide (x35_2 < (t457.length : Int)) = true := decide_eq_true c41
       clear c41
       by_cases c42 : 0 ≤ x35_2
       ·rw [if_pos c42] at H
        have c42b0 : decide (0 ≤ x35_2) = true := decide_eq_true c42
        clear c42
        by_cases c43 : x35_2 < (t457.length : Int)
        ·rw [if_pos c43] at H
         have c43b0 : decide (x35_2 < (t457.length : Int)) = true := decide_eq_true c43
         clear c43
         replace H := Option.bind_eq_some_iff.mp H
         obtain ⟨t470, A440, H⟩ := H
         replace H : (if x468002_2.length < 3518437208883 then (helmsmanlaw12_TreePlaces.l0 k2 a1 t457 (t457.length : Int) (wrap64 (x35_2 + 1)) t451 t454 t457 t460 t451 t454 (x468002_2 ++ [(⟨(rd_T66 t457 x35_2).f0, t470⟩ : S66)]) t464) else (none)) = some r := H
         have A44 := Aside0.mk A440
         clear A440
         by_cases c45 : x468002_2.length < 3518437208883
         ·rw [if_pos c45] at H
          have LMc45 := Aside0.mk c45
          clear c45
          obtain ⟨y473, hy473⟩ : ∃ y_ : List (S66), y_ = (x468002_2 ++ [(⟨(rd_T66 t457 x35_2).f0, t470⟩ : S66)]) := ⟨_, rfl⟩
          replace H : (helmsmanlaw12_TreePlaces.l0 k2 a1 t457 (t457.length : Int) (wrap64 (x35_2 + 1)) t451 t454 t457 t460 t451 t454 y473 t464) = some r := by first | (rw [hy473]; with_reducible exact H) | (have H2_ := (Option.bind_some _ _).symm.trans H; rw [hy473]; with_reducible exact H2_) | (have H2_ := (Option.bind_some _ _).symm.trans H; with_reducible exact H2_) | with_reducible exact H | (rw [hy473]; exact H) | exact H
          have Ny473 := Aside0.mk hy473
          clear hy473
          have H' := Aside0.mk H
          clear H
          have p468 : 0 ≤ (x35_2 : Int) := of_decide_eq_true (by first | (with_reducible assumption) | assumption)
          have q468 : x35_2 < (t457.length : Int) := of_decide_eq_true (by first | (with_reducible assumption) | assumption)
          obtain ⟨ad468, A468_1, c468_1, e468, hx468_0, hx468_1, hl468_1, hi468_1⟩ := at_T66 (Kd.N_reads' HO_33.out).2.2 x35_2 p468 q468
          cases e468
          obtain ⟨ce468, hce468, hMe468, hcc468⟩ := Kd.N_get HO_33.out z66 x35_2 p468 (by first | exact q468 | exact of_decide_eq_true (by first | (with_reducible assumption) | assumption) | (have e_ := (Kd.N_reads' HO_33.out).1; omega))
          obtain ⟨ua468_1, uc468_1, rfl, ul468_1, ge468_1⟩ := k66_openF hMe468
          have hv468_1 := hcc468 1 _ rfl
          rw [add_field _ _ 1 (by omega)] at hv468_1
          replace hv468_1 := Option.some.inj (hv468_1.symm.trans hx468_1)
          injection hv468_1 with hva_ hvn_ hvc_
          rw [hva_] at ge468_1
          rw [hvc_] at ul468_1
          have HL468_1 := Aside0.mk (show Kd.V k76 76 _ w.heap.size _ _ ((rd_T66 t457 x35_2).f1) from Kd.V_mk ul468_1 ge468_1)
          clear hva_ hvn_ hvc_ ge468_1 ul468_1
          clear hcc468 hce468
          have HR468_1 := Aside0.mk hi468_1
          have HC468_1 := Aside0.mk hl468_1
          clear hi468_1 hl468_1
          replace p468 := eq_true p468
          replace q468 := eq_true q468
          try go_wp2_with (first | ((with_reducible refine gate_dst (N := 8) rfl ?_); refine box_event ?hg (N := 8) ?hd (cs := #[.string (⟨#[]⟩ : ByteArray), .slice none 0 0]) (t := 66) ?hr ?_; (case hd => rfl); (case hg => rfl); (case hr => first | (go_simp; done) | (go_simp; rfl)); intro gb469 hg w46 hbox hb; have n0_ := Aside0.mk (Kd.N_below (Kd.N_elderB (by (with_reducible repeat (first | apply Kd.N_alloc | apply Kd.N_drewN | apply Kd.N_drew)); exact HO_33.out) gb469 (Nat.le_of_eq hg.symm)) hb); have n1_ := Aside0.mk (Kd.N_below (Kd.N_elderB (by (with_reducible repeat (first | apply Kd.N_alloc | apply Kd.N_drewN | apply Kd.N_drew)); exact HO_464000.out) gb469 (Nat.le_of_eq hg.symm)) hb); have n2_ := Aside0.mk (Kd.R_below (by (with_reducible repeat (first | apply Kd.R_alloc | apply Kd.R_drewN | apply Kd.R_drew)); exact HO_464001.out) hb); have n3_ := Aside0.mk (Kd.N_below (Kd.N_elderB (by (with_reducible repeat (first | apply Kd.N_alloc | apply Kd.N_drewN | apply Kd.N_drew)); exact HO_464002.out) gb469 (Nat.le_of_eq hg.symm)) hb); have n4_ := Aside0.mk (Kd.N_below (Kd.N_elderB (by (with_reducible repeat (first | apply Kd.N_alloc | apply Kd.N_drewN | apply Kd.N_drew)); exact HO_464003.out) gb469 (Nat.le_of_eq hg.symm)) hb); have n5_ := Aside0.mk (Kd.N_below (Kd.N_elderB (by (with_reducible repeat (first | apply Kd.N_alloc | apply Kd.N_drewN | apply Kd.N_drew)); exact HO_468000.out) gb469 (Nat.le_of_eq hg.symm)) hb); have n6_ := Aside0.mk (Kd.R_below (by (with_reducible repeat (first | apply Kd.R_alloc | apply Kd.R_drewN | apply Kd.R_drew)); exact HO_468001.out) hb); have n7_ := Aside0.mk (Kd.N_below (Kd.N_elderB (by (with_reducible repeat (first | apply Kd.N_alloc | apply Kd.N_drewN | apply Kd.N_drew)); exact HO_468002.out) gb469 (Nat.le_of_eq hg.symm)) hb); have n8_ := Aside0.mk (Kd.N_below (Kd.N_elderB (by (with_reducible repeat (first | apply Kd.N_alloc | apply Kd.N_drewN | apply Kd.N_drew)); exact HO_468003.out) gb469 (Nat.le_of_eq hg.symm)) hb); have n9_ := Aside0.mk (Kd.V_below (Kd.V_elderB (by (with_reducible repeat (first | apply Kd.V_alloc | apply Kd.V_drewN | apply Kd.V_drew)); exact HL468_1.out) gb469 (Nat.le_of_eq hg.symm)) hb); have n10_ := Aside0.mk (blk_below (g := gb448) (o := .cells #[.slice A0_0 l0_0.length c0_0, .slice A0_1 l0_1.length c0_1, .slice A0_2 l0_2.length c0_2, .slice A0_3 l0_3.length c0_3] 43 (0, 0)) (by (with_reducible repeat (first | refine blk_drewN ?_ _ | refine blk_drew ?_ | refine blk_alloc ?_ _)); exact BK448.out) hb); have n11_ := Aside0.mk (blk_below (g := gb463) (o := .cells #[.slice Ao22 t451.length co22, .slice Ao25 t454.length co25, .slice (some ad468) t457.length co26, .slice Ao27 t460.length co27] 50 (0, 0)) (by (with_reducible repeat (first | refine blk_drewN ?_ _ | refine blk_drew ?_ | refine blk_alloc ?_ _)); exact BK463.out) hb); have n12_ := Aside0.mk (blk_below (g := gb467) (o := .cells #[.slice Ao22 t451.length co22, .slice Ao25 t454.length co25, u468002, .slice Ao34 t464.length co34] 50 (0, 0)) (by (with_reducible repeat (first | refine blk_drewN ?_ _ | refine blk_drew ?_ | refine blk_alloc ?_ _)); exact BK467.out) hb); have n13_ := Aside0.mk (Kd.C_below (by repeat (first | (with_reducible exact HR468_1.out) | (with_reducible refine Kd.C_alloc ?_ _) | (with_reducible refine Kd.C_drewN ?_ _) | (with_reducible refine Kd.C_drew ?_) | exact HR468_1.out)) hb); have n14_ := Aside0.mk (below_step (by repeat (first | (with_reducible first | exact HB.out | apply below_alloc | apply pw_below_drewN | apply below_drew1 | refine below_set ?_ GE448.out | refine below_set ?_ GE463.out | refine below_set ?_ GE467.out) | exact HB.out)) hb); have n15_ := Aside0.mk (hbox); have n16_ := Aside0.mk ((by rw [hg]; exact (below_size (by repeat (first | (with_reducible first | exact HB.out | apply below_alloc | apply pw_below_drewN | apply below_drew1 | refine below_set ?_ GE448.out | refine below_set ?_ GE463.out | refine below_set ?_ GE467.out) | exact HB.out))) : w.heap.size ≤ gb469)); have n17_ := Aside0.mk ((by rw [hg]; exact (below_size (by repeat (first | (with_reducible first | exact HB.out | apply below_alloc | apply pw_below_drewN | apply below_drew1 | refine below_set ?_ GE448.out | refine below_set ?_ GE463.out | refine below_set ?_ GE467.out) | exact HB.out))) : w.heap.size ≤ gb469)); have n18_ := Aside0.mk ((by rw [hg]; exact Nat.ne_of_lt (blk_lt (g := gb448) (o := .cells #[.slice A0_0 l0_0.length c0_0, .slice A0_1 l0_1.length c0_1, .slice A0_2 l0_2.length c0_2, .slice A0_3 l0_3.length c0_3] 43 (0, 0)) (by (with_reducible repeat (first | refine blk_drewN ?_ _ | refine blk_drew ?_ | refine blk_alloc ?_ _)); exact BK448.out)) : gb448 ≠ gb469)); have n19_ := Aside0.mk ((by rw [hg]; exact Nat.ne_of_gt (blk_lt (g := gb448) (o := .cells #[.slice A0_0 l0_0.length c0_0, .slice A0_1 l0_1.length c0_1, .slice A0_2 l0_2.length c0_2, .slice A0_3 l0_3.length c0_3] 43 (0, 0)) (by (with_reducible repeat (first | refine blk_drewN ?_ _ | refine blk_drew ?_ | refine blk_alloc ?_ _)); exact BK448.out)) : gb469 ≠ gb448)); have n20_ := Aside0.mk ((by rw [hg]; exact Nat.ne_of_lt (blk_lt (g := gb463) (o := .cells #[.slice Ao22 t451.length co22, .slice Ao25 t454.length co25, .slice (some ad468) t457.length co26, .slice Ao27 t460.length co27] 50 (0, 0)) (by (with_reducible repeat (first | refine blk_drewN ?_ _ | refine blk_drew ?_ | refine blk_alloc ?_ _)); exact BK463.out)) : gb463 ≠ gb469)); have n21_ := Aside0.mk ((by rw [hg]; exact Nat.ne_of_gt (blk_lt (g := gb463) (o := .cells #[.slice Ao22 t451.length co22, .slice Ao25 t454.length co25, .slice (some ad468) t457.length co26, .slice Ao27 t460.length co27] 50 (0, 0)) (by (with_reducible repeat (first | refine blk_drewN ?_ _ | refine blk_drew ?_ | refine blk_alloc ?_ _)); exact BK463.out)) : gb469 ≠ gb463)); have n22_ := Aside0.mk ((by rw [hg]; exact Nat.ne_of_lt (blk_lt (g := gb467) (o := .cells #[.slice Ao22 t451.length co22, .slice Ao25 t454.length co25, u468002, .slice Ao34 t464.length co34] 50 (0, 0)) (by (with_reducible repeat (first | refine blk_drewN ?_ _ | refine blk_drew ?_ | refine blk_alloc ?_ _)); exact BK467.out)) : gb467 ≠ gb469)); have n23_ := Aside0.mk ((by rw [hg]; exact Nat.ne_of_gt (blk_lt (g := gb467) (o := .cells #[.slice Ao22 t451.length co22, .slice Ao25 t454.length co25, u468002, .slice Ao34 t464.length co34] 50 (0, 0)) (by (with_reducible repeat (first | refine blk_drewN ?_ _ | refine blk_drew ?_ | refine blk_alloc ?_ _)); exact BK467.out)) : gb469 ≠ gb467)); clear HO_33; clear HO_464000; clear HO_464001; clear HO_464002; clear HO_464003; clear HO_468000; clear HO_468001; clear HO_468002; clear HO_468003; clear HL468_1; clear BK448; clear BK463; clear BK467; clear HR468_1; clear HB; have HO_33 := n0_; have HO_464000 := n1_; have HO_464001 := n2_; have HO_464002 := n3_; have HO_464003 := n4_; have HO_468000 := n5_; have HO_468001 := n6_; have HO_468002 := n7_; have HO_468003 := n8_; have HL468_1 := n9_; have BK448 := n10_; have BK463 := n11_; have BK467 := n12_; have HR468_1 := n13_; have HB := n14_; have BK469 := n15_; have GW469 := n16_; have GE469 := n17_; have NB448_469 := n18_; have NB469_448 := n19_; have NB463_469 := n20_; have NB469_463 := n21_; have NB467_469 := n22_; have NB469_467 := n23_; clear n0_ n1_ n2_ n3_ n4_ n5_ n6_ n7_ n8_ n9_ n10_ n11_ n12_ n13_ n14_ n15_ n16_ n17_ n18_ n19_ n20_ n21_ n22_ n23_; clear hb hbox hg; have hnb47 := NB469_448.out; have hnc47 := NB448_469.out; have hnb48 := NB469_463.out; have hnc48 := NB463_469.out; have hnb49 := NB469_467.out; have hnc49 := NB467_469.out; have hcz50_0 : w46.cell? ⟨gb469, 0, none⟩ = some (.string (⟨#[]⟩ : ByteArray)) := (blk_cell BK469.out 0).trans rfl; have hcz50_1 : w46.cell? ⟨gb469, 1, none⟩ = some (.slice none 0 0) := (blk_cell BK469.out 1).trans rfl; have hfz50_0 := blk_frozen BK469.out 0; have hfz50_1 := blk_frozen BK469.out 1))
          have n0_ : Aside0 (Kd.N k66 66 ((w46.setCell ⟨gb469, 0, none⟩ (.string ((rd_T66 t457 x35_2).f0))).setCell ⟨gb469, 1, none⟩ (.slice A468_1 ((rd_T66 t457 x35_2).f1).length c468_1)) w.heap.size (fun k_ => some k_ ≠ (.slice Ao22 t451.length co22 : Value).ownBlock ∧ some k_ ≠ (.slice Ao25 t454.length co25 : Value).ownBlock ∧ some k_ ≠ (.slice Ao27 t460.length co27 : Value).ownBlock ∧ some k_ ≠ (.slice Ao22 t451.length co22 : Value).ownBlock ∧ some k_ ≠ (.slice Ao25 t454.length co25 : Value).ownBlock ∧ some k_ ≠ (u468002 : Value).ownBlock ∧ some k_ ≠ (.slice Ao34 t464.length co34 : Value).ownBlock ∧ k_ ≠ gb448 ∧ k_ ≠ gb463 ∧ k_ ≠ gb467 ∧ k_ ≠ gb469) (.slice (some ad468) t457.length co26) t457) := ⟨by (with_reducible repeat (first | apply Kd.N_alloc | apply Kd.N_drewN | apply Kd.N_drew)); exact Kd.N_mono (Kd.N_far (p := ⟨gb469, 1, none⟩) (Kd.N_far (p := ⟨gb469, 0, none⟩) (Kd.N_mono HO_33.out (fun k_ hk => (⟨hk, hk.2⟩ : _ ∧ k_ ≠ gb469))) (fun _ hk => hk.2) (.string ((rd_T66 t457 x35_2).f0))) (fun _ hk => hk.2) (.slice A468_1 ((rd_T66 t457 x35_2).f1).length c468_1)) (fun _ hk => ⟨hk.1.1.1, ⟨hk.1.1.2.1, ⟨hk.1.1.2.2.1, ⟨hk.1.1.2.2.2.1, ⟨hk.1.1.2.2.2.2.1, ⟨hk.1.1.2.2.2.2.2.1, ⟨hk.1.1.2.2.2.2.2.2.1, ⟨hk.1.1.2.2.2.2.2.2.2.1, ⟨hk.1.1.2.2.2.2.2.2.2.2.1, ⟨hk.1.1.2.2.2.2.2.2.2.2.2, hk.1.2⟩⟩⟩⟩⟩⟩⟩⟩⟩⟩)⟩
          have n1_ : Aside0 (Kd.N k79 79 ((w46.setCell ⟨gb469, 0, none⟩ (.string ((rd_T66 t457 x35_2).f0))).setCell ⟨gb469, 1, none⟩ (.slice A468_1 ((rd_T66 t457 x35_2).f1).length c468_1)) w.heap.size (fun k_ => some k_ ≠ (.slice (some ad468) t457.length co26 : Value).ownBlock ∧ some k_ ≠ (.slice Ao25 t454.length co25 : Value).ownBlock ∧ some k_ ≠ (.slice (some ad468) t457.length co26 : Value).ownBlock ∧ some k_ ≠ (.slice Ao27 t460.length co27 : Value).ownBlock ∧ some k_ ≠ (.slice Ao25 t454.length co25 : Value).ownBlock ∧ some k_ ≠ (u468002 : Value).ownBlock ∧ some k_ ≠ (.slice Ao34 t464.length co34 : Value).ownBlock ∧ k_ ≠ gb448 ∧ k_ ≠ gb463 ∧ k_ ≠ gb467 ∧ k_ ≠ gb469) (.slice Ao22 t451.length co22) t451) := ⟨by (with_reducible repeat (first | apply Kd.N_alloc | apply Kd.N_drewN | apply Kd.N_drew)); exact Kd.N_mono (Kd.N_far (p := ⟨gb469, 1, none⟩) (Kd.N_far (p := ⟨gb469, 0, none⟩) (Kd.N_mono HO_464000.out (fun k_ hk => (⟨hk, hk.2⟩ : _ ∧ k_ ≠ gb469))) (fun _ hk => hk.2) (.string ((rd_T66 t457 x35_2).f0))) (fun _ hk => hk.2) (.slice A468_1 ((rd_T66 t457 x35_2).f1).length c468_1)) (fun _ hk => ⟨hk.1.1.1, ⟨hk.1.1.2.1, ⟨hk.1.1.2.2.1, ⟨hk.1.1.2.2.2.1, ⟨hk.1.1.2.2.2.2.1, ⟨hk.1.1.2.2.2.2.2.1, ⟨hk.1.1.2.2.2.2.2.2.1, ⟨hk.1.1.2.2.2.2.2.2.2.1, ⟨hk.1.1.2.2.2.2.2.2.2.2.1, ⟨hk.1.1.2.2.2.2.2.2.2.2.2, hk.1.2⟩⟩⟩⟩⟩⟩⟩⟩⟩⟩)⟩
          have n2_ : Aside0 (Kd.R k80 80 ((w46.setCell ⟨gb469, 0, none⟩ (.string ((rd_T66 t457 x35_2).f0))).setCell ⟨gb469, 1, none⟩ (.slice A468_1 ((rd_T66 t457 x35_2).f1).length c468_1)) w.heap.size (fun _ => True) (.slice Ao25 t454.length co25) t454) := ⟨by (with_reducible repeat (first | apply Kd.R_alloc | apply Kd.R_drewN | apply Kd.R_drew)); exact Kd.R_mono (Kd.R_far (p := ⟨gb469, 1, none⟩) (Kd.R_far (p := ⟨gb469, 0, none⟩) (Kd.R_types HO_464001.out BK469.out (by decide)) (fun _ hk => hk.2) (.string ((rd_T66 t457 x35_2).f0))) (fun _ hk => hk.2) (.slice A468_1 ((rd_T66 t457 x35_2).f1).length c468_1)) (fun _ hk => trivial)⟩
          have n3_ : Aside0 (Kd.N k66 66 ((w46.setCell ⟨gb469, 0, none⟩ (.string ((rd_T66 t457 x35_2).f0))).setCell ⟨gb469, 1, none⟩ (.slice A468_1 ((rd_T66 t457 x35_2).f1).length c468_1)) w.heap.size (fun k_ => some k_ ≠ (.slice Ao22 t451.length co22 : Value).ownBlock ∧ some k_ ≠ (.slice Ao25 t454.length co25 : Value).ownBlock ∧ some k_ ≠ (.slice Ao27 t460.length co27 : Value).ownBlock ∧ some k_ ≠ (.slice Ao22 t451.length co22 : Value).ownBlock ∧ some k_ ≠ (.slice Ao25 t454.length co25 : Value).ownBlock ∧ some k_ ≠ (u468002 : Value).ownBlock ∧ some k_ ≠ (.slice Ao34 t464.length co34 : Value).ownBlock ∧ k_ ≠ gb448 ∧ k_ ≠ gb463 ∧ k_ ≠ gb467 ∧ k_ ≠ gb469) (.slice (some ad468) t457.length co26) t457) := ⟨by (with_reducible repeat (first | apply Kd.N_alloc | apply Kd.N_drewN | apply Kd.N_drew)); exact Kd.N_mono (Kd.N_far (p := ⟨gb469, 1, none⟩) (Kd.N_far (p := ⟨gb469, 0, none⟩) (Kd.N_mono HO_464002.out (fun k_ hk => (⟨hk, hk.2⟩ : _ ∧ k_ ≠ gb469))) (fun _ hk => hk.2) (.string ((rd_T66 t457 x35_2).f0))) (fun _ hk => hk.2) (.slice A468_1 ((rd_T66 t457 x35_2).f1).length c468_1)) (fun _ hk => ⟨hk.1.1.1, ⟨hk.1.1.2.1, ⟨hk.1.1.2.2.1, ⟨hk.1.1.2.2.2.1, ⟨hk.1.1.2.2.2.2.1, ⟨hk.1.1.2.2.2.2.2.1, ⟨hk.1.1.2.2.2.2.2.2.1, ⟨hk.1.1.2.2.2.2.2.2.2.1, ⟨hk.1.1.2.2.2.2.2.2.2.2.1, ⟨hk.1.1.2.2.2.2.2.2.2.2.2, hk.1.2⟩⟩⟩⟩⟩⟩⟩⟩⟩⟩)⟩
          have n4_ : Aside0 (Kd.N k76 76 ((w46.setCell ⟨gb469, 0, none⟩ (.string ((rd_T66 t457 x35_2).f0))).setCell ⟨gb469, 1, none⟩ (.slice A468_1 ((rd_T66 t457 x35_2).f1).length c468_1)) w.heap.size (fun k_ => some k_ ≠ (.slice (some ad468) t457.length co26 : Value).ownBlock ∧ some k_ ≠ (.slice Ao22 t451.length co22 : Value).ownBlock ∧ some k_ ≠ (.slice Ao25 t454.length co25 : Value).ownBlock ∧ some k_ ≠ (.slice (some ad468) t457.length co26 : Value).ownBlock ∧ some k_ ≠ (.slice Ao22 t451.length co22 : Value).ownBlock ∧ some k_ ≠ (.slice Ao25 t454.length co25 : Value).ownBlock ∧ some k_ ≠ (u468002 : Value).ownBlock ∧ some k_ ≠ (.slice Ao34 t464.length co34 : Value).ownBlock ∧ k_ ≠ gb448 ∧ k_ ≠ gb463 ∧ k_ ≠ gb467 ∧ k_ ≠ gb469) (.slice Ao27 t460.length co27) t460) := ⟨by (with_reducible repeat (first | apply Kd.N_alloc | apply Kd.N_drewN | apply Kd.N_drew)); exact Kd.N_mono (Kd.N_far (p := ⟨gb469, 1, none⟩) (Kd.N_far (p := ⟨gb469, 0, none⟩) (Kd.N_mono HO_464003.out (fun k_ hk => (⟨hk, hk.2⟩ : _ ∧ k_ ≠ gb469))) (fun _ hk => hk.2) (.string ((rd_T66 t457 x35_2).f0))) (fun _ hk => hk.2) (.slice A468_1 ((rd_T66 t457 x35_2).f1).length c468_1)) (fun _ hk => ⟨hk.1.1.1, ⟨hk.1.1.2.1, ⟨hk.1.1.2.2.1, ⟨hk.1.1.2.2.2.1, ⟨hk.1.1.2.2.2.2.1, ⟨hk.1.1.2.2.2.2.2.1, ⟨hk.1.1.2.2.2.2.2.2.1, ⟨hk.1.1.2.2.2.2.2.2.2.1, ⟨hk.1.1.2.2.2.2.2.2.2.2.1, ⟨hk.1.1.2.2.2.2.2.2.2.2.2.1, ⟨hk.1.1.2.2.2.2.2.2.2.2.2.2, hk.1.2⟩⟩⟩⟩⟩⟩⟩⟩⟩⟩⟩)⟩
          have n5_ : Aside0 (Kd.N k79 79 ((w46.setCell ⟨gb469, 0, none⟩ (.string ((rd_T66 t457 x35_2).f0))).setCell ⟨gb469, 1, none⟩ (.slice A468_1 ((rd_T66 t457 x35_2).f1).length c468_1)) w.heap.size (fun k_ => some k_ ≠ (.slice (some ad468) t457.length co26 : Value).ownBlock ∧ some k_ ≠ (.slice Ao25 t454.length co25 : Value).ownBlock ∧ some k_ ≠ (.slice (some ad468) t457.length co26 : Value).ownBlock ∧ some k_ ≠ (.slice Ao27 t460.length co27 : Value).ownBlock ∧ some k_ ≠ (.slice Ao25 t454.length co25 : Value).ownBlock ∧ some k_ ≠ (u468002 : Value).ownBlock ∧ some k_ ≠ (.slice Ao34 t464.length co34 : Value).ownBlock ∧ k_ ≠ gb448 ∧ k_ ≠ gb463 ∧ k_ ≠ gb467 ∧ k_ ≠ gb469) (.slice Ao22 t451.length co22) t451) := ⟨by (with_reducible repeat (first | apply Kd.N_alloc | apply Kd.N_drewN | apply Kd.N_drew)); exact Kd.N_mono (Kd.N_far (p := ⟨gb469, 1, none⟩) (Kd.N_far (p := ⟨gb469, 0, none⟩) (Kd.N_mono HO_468000.out (fun k_ hk => (⟨hk, hk.2⟩ : _ ∧ k_ ≠ gb469))) (fun _ hk => hk.2) (.string ((rd_T66 t457 x35_2).f0))) (fun _ hk => hk.2) (.slice A468_1 ((rd_T66 t457 x35_2).f1).length c468_1)) (fun _ hk => ⟨hk.1.1.1, ⟨hk.1.1.2.1, ⟨hk.1.1.2.2.1, ⟨hk.1.1.2.2.2.1, ⟨hk.1.1.2.2.2.2.1, ⟨hk.1.1.2.2.2.2.2.1, ⟨hk.1.1.2.2.2.2.2.2.1, ⟨hk.1.1.2.2.2.2.2.2.2.1, ⟨hk.1.1.2.2.2.2.2.2.2.2.1, ⟨hk.1.1.2.2.2.2.2.2.2.2.2, hk.1.2⟩⟩⟩⟩⟩⟩⟩⟩⟩⟩)⟩
          have n6_ : Aside0 (Kd.R k80 80 ((w46.setCell ⟨gb469, 0, none⟩ (.string ((rd_T66 t457 x35_2).f0))).setCell ⟨gb469, 1, none⟩ (.slice A468_1 ((rd_T66 t457 x35_2).f1).length c468_1)) w.heap.size (fun _ => True) (.slice Ao25 t454.length co25) t454) := ⟨by (with_reducible repeat (first | apply Kd.R_alloc | apply Kd.R_drewN | apply Kd.R_drew)); exact Kd.R_mono (Kd.R_far (p := ⟨gb469, 1, none⟩) (Kd.R_far (p := ⟨gb469, 0, none⟩) (Kd.R_types HO_468001.out BK469.out (by decide)) (fun _ hk => hk.2) (.string ((rd_T66 t457 x35_2).f0))) (fun _ hk => hk.2) (.slice A468_1 ((rd_T66 t457 x35_2).f1).length c468_1)) (fun _ hk => trivial)⟩
          have n7_ : Aside0 (Kd.N k66 66 ((w46.setCell ⟨gb469, 0, none⟩ (.string ((rd_T66 t457 x35_2).f0))).setCell ⟨gb469, 1, none⟩ (.slice A468_1 ((rd_T66 t457 x35_2).f1).length c468_1)) w.heap.size (fun k_ => some k_ ≠ (.slice (some ad468) t457.length co26 : Value).ownBlock ∧ some k_ ≠ (.slice Ao22 t451.length co22 : Value).ownBlock ∧ some k_ ≠ (.slice Ao25 t454.length co25 : Value).ownBlock ∧ some k_ ≠ (.slice (some ad468) t457.length co26 : Value).ownBlock ∧ some k_ ≠ (.slice Ao27 t460.length co27 : Value).ownBlock ∧ some k_ ≠ (.slice Ao22 t451.length co22 : Value).ownBlock ∧ some k_ ≠ (.slice Ao25 t454.length co25 : Value).ownBlock ∧ some k_ ≠ (.slice Ao34 t464.length co34 : Value).ownBlock ∧ k_ ≠ gb448 ∧ k_ ≠ gb463 ∧ k_ ≠ gb467 ∧ k_ ≠ gb469) u468002 x468002_2) := ⟨by (with_reducible repeat (first | apply Kd.N_alloc | apply Kd.N_drewN | apply Kd.N_drew)); exact Kd.N_mono (Kd.N_far (p := ⟨gb469, 1, none⟩) (Kd.N_far (p := ⟨gb469, 0, none⟩) (Kd.N_mono HO_468002.out (fun k_ hk => (⟨hk, hk.2⟩ : _ ∧ k_ ≠ gb469))) (fun _ hk => hk.2) (.string ((rd_T66 t457 x35_2).f0))) (fun _ hk => hk.2) (.slice A468_1 ((rd_T66 t457 x35_2).f1).length c468_1)) (fun _ hk => ⟨hk.1.1.1, ⟨hk.1.1.2.1, ⟨hk.1.1.2.2.1, ⟨hk.1.1.2.2.2.1, ⟨hk.1.1.2.2.2.2.1, ⟨hk.1.1.2.2.2.2.2.1, ⟨hk.1.1.2.2.2.2.2.2.1, ⟨hk.1.1.2.2.2.2.2.2.2.1, ⟨hk.1.1.2.2.2.2.2.2.2.2.1, ⟨hk.1.1.2.2.2.2.2.2.2.2.2.1, ⟨hk.1.1.2.2.2.2.2.2.2.2.2.2, hk.1.2⟩⟩⟩⟩⟩⟩⟩⟩⟩⟩⟩)⟩
          have n8_ : Aside0 (Kd.N k76 76 ((w46.setCell ⟨gb469, 0, none⟩ (.string ((rd_T66 t457 x35_2).f0))).setCell ⟨gb469, 1, none⟩ (.slice A468_1 ((rd_T66 t457 x35_2).f1).length c468_1)) w.heap.size (fun k_ => some k_ ≠ (.slice (some ad468) t457.length co26 : Value).ownBlock ∧ some k_ ≠ (.slice Ao22 t451.length co22 : Value).ownBlock ∧ some k_ ≠ (.slice Ao25 t454.length co25 : Value).ownBlock ∧ some k_ ≠ (.slice (some ad468) t457.length co26 : Value).ownBlock ∧ some k_ ≠ (.slice Ao27 t460.length co27 : Value).ownBlock ∧ some k_ ≠ (.slice Ao22 t451.length co22 : Value).ownBlock ∧ some k_ ≠ (.slice Ao25 t454.length co25 : Value).ownBlock ∧ some k_ ≠ (u468002 : Value).ownBlock ∧ k_ ≠ gb448 ∧ k_ ≠ gb463 ∧ k_ ≠ gb467 ∧ k_ ≠ gb469) (.slice Ao34 t464.length co34) t464) := ⟨by (with_reducible repeat (first | apply Kd.N_alloc | apply Kd.N_drewN | apply Kd.N_drew)); exact Kd.N_mono (Kd.N_far (p := ⟨gb469, 1, none⟩) (Kd.N_far (p := ⟨gb469, 0, none⟩) (Kd.N_mono HO_468003.out (fun k_ hk => (⟨hk, hk.2⟩ : _ ∧ k_ ≠ gb469))) (fun _ hk => hk.2) (.string ((rd_T66 t457 x35_2).f0))) (fun _ hk => hk.2) (.slice A468_1 ((rd_T66 t457 x35_2).f1).length c468_1)) (fun _ hk => ⟨hk.1.1.1, ⟨hk.1.1.2.1, ⟨hk.1.1.2.2.1, ⟨hk.1.1.2.2.2.1, ⟨hk.1.1.2.2.2.2.1, ⟨hk.1.1.2.2.2.2.2.1, ⟨hk.1.1.2.2.2.2.2.2.1, ⟨hk.1.1.2.2.2.2.2.2.2.1, ⟨hk.1.1.2.2.2.2.2.2.2.2.1, ⟨hk.1.1.2.2.2.2.2.2.2.2.2.1, ⟨hk.1.1.2.2.2.2.2.2.2.2.2.2, hk.1.2⟩⟩⟩⟩⟩⟩⟩⟩⟩⟩⟩)⟩
          have n9_ : Aside0 (Kd.V k76 76 ((w46.setCell ⟨gb469, 0, none⟩ (.string ((rd_T66 t457 x35_2).f0))).setCell ⟨gb469, 1, none⟩ (.slice A468_1 ((rd_T66 t457 x35_2).f1).length c468_1)) w.heap.size (fun k_ => some k_ ≠ (.slice (some ad468) t457.length co26 : Value).ownBlock ∧ some k_ ≠ (.slice Ao22 t451.length co22 : Value).ownBlock ∧ some k_ ≠ (.slice Ao25 t454.length co25 : Value).ownBlock ∧ some k_ ≠ (.slice Ao27 t460.length co27 : Value).ownBlock ∧ some k_ ≠ (.slice Ao22 t451.length co22 : Value).ownBlock ∧ some k_ ≠ (.slice Ao25 t454.length co25 : Value).ownBlock ∧ some k_ ≠ (u468002 : Value).ownBlock ∧ some k_ ≠ (.slice Ao34 t464.length co34 : Value).ownBlock ∧ k_ ≠ gb448 ∧ k_ ≠ gb463 ∧ k_ ≠ gb467 ∧ k_ ≠ gb469) (.slice A468_1 ((rd_T66 t457 x35_2).f1).length c468_1) ((rd_T66 t457 x35_2).f1)) := ⟨by (with_reducible repeat (first | apply Kd.V_alloc | apply Kd.V_drewN | apply Kd.V_drew)); exact Kd.V_mono (Kd.V_far (p := ⟨gb469, 1, none⟩) (Kd.V_far (p := ⟨gb469, 0, none⟩) (Kd.V_mono HL468_1.out (fun k_ hk => (⟨hk, hk.2⟩ : _ ∧ k_ ≠ gb469))) (fun _ hk => hk.2) (.string ((rd_T66 t457 x35_2).f0))) (fun _ hk => hk.2) (.slice A468_1 ((rd_T66 t457 x35_2).f1).length c468_1)) (fun _ hk => ⟨hk.1.1.2, ⟨hk.1.1.1.1, ⟨hk.1.1.1.2.1, ⟨hk.1.1.1.2.2.1, ⟨hk.1.1.1.2.2.2.1, ⟨hk.1.1.1.2.2.2.2.1, ⟨hk.1.1.1.2.2.2.2.2.1, ⟨hk.1.1.1.2.2.2.2.2.2.1, ⟨hk.1.1.1.2.2.2.2.2.2.2.1, ⟨hk.1.1.1.2.2.2.2.2.2.2.2.1, ⟨hk.1.1.1.2.2.2.2.2.2.2.2.2, hk.1.2⟩⟩⟩⟩⟩⟩⟩⟩⟩⟩⟩)⟩
          have n10_ : Aside0 (((w46.setCell ⟨gb469, 0, none⟩ (.string ((rd_T66 t457 x35_2).f0))).setCell ⟨gb469, 1, none⟩ (.slice A468_1 ((rd_T66 t457 x35_2).f1).length c468_1)).heap[gb448]? = some (.cells #[.slice A0_0 l0_0.length c0_0, .slice A0_1 l0_1.length c0_1, .slice A0_2 l0_2.length c0_2, .slice A0_3 l0_3.length c0_3] 43 (0, 0))) := ⟨by (with_reducible repeat (first | refine blk_drewN ?_ _ | refine blk_drew ?_ | refine blk_alloc ?_ _)); refine blk_far ?_ NB448_469.out _; (with_reducible repeat (first | refine blk_drewN ?_ _ | refine blk_drew ?_ | refine blk_alloc ?_ _)); refine blk_far ?_ NB448_469.out _; (with_reducible repeat (first | refine blk_drewN ?_ _ | refine blk_drew ?_ | refine blk_alloc ?_ _)); exact BK448.out⟩
          have n11_ : Aside0 (((w46.setCell ⟨gb469, 0, none⟩ (.string ((rd_T66 t457 x35_2).f0))).setCell ⟨gb469, 1, none⟩ (.slice A468_1 ((rd_T66 t457 x35_2).f1).length c468_1)).heap[gb463]? = some (.cells #[.slice Ao22 t451.length co22, .slice Ao25 t454.length co25, .slice (some ad468) t457.length co26, .slice Ao27 t460.length co27] 50 (0, 0))) := ⟨by (with_reducible repeat (first | refine blk_drewN ?_ _ | refine blk_drew ?_ | refine blk_alloc ?_ _)); refine blk_far ?_ NB463_469.out _; (with_reducible repeat (first | refine blk_drewN ?_ _ | refine blk_drew ?_ | refine blk_alloc ?_ _)); refine blk_far ?_ NB463_469.out _; (with_reducible repeat (first | refine blk_drewN ?_ _ | refine blk_drew ?_ | refine blk_alloc ?_ _)); exact BK463.out⟩
          have n12_ : Aside0 (((w46.setCell ⟨gb469, 0, none⟩ (.string ((rd_T66 t457 x35_2).f0))).setCell ⟨gb469, 1, none⟩ (.slice A468_1 ((rd_T66 t457 x35_2).f1).length c468_1)).heap[gb467]? = some (.cells #[.slice Ao22 t451.length co22, .slice Ao25 t454.length co25, u468002, .slice Ao34 t464.length co34] 50 (0, 0))) := ⟨by (with_reducible repeat (first | refine blk_drewN ?_ _ | refine blk_drew ?_ | refine blk_alloc ?_ _)); refine blk_far ?_ NB467_469.out _; (with_reducible repeat (first | refine blk_drewN ?_ _ | refine blk_drew ?_ | refine blk_alloc ?_ _)); refine blk_far ?_ NB467_469.out _; (with_reducible repeat (first | refine blk_drewN ?_ _ | refine blk_drew ?_ | refine blk_alloc ?_ _)); exact BK467.out⟩
          have n13_ : Aside0 (((w46.setCell ⟨gb469, 0, none⟩ (.string ((rd_T66 t457 x35_2).f0))).setCell ⟨gb469, 1, none⟩ (.slice A468_1 ((rd_T66 t457 x35_2).f1).length c468_1)).heap[gb469]? = some (.cells #[.string ((rd_T66 t457 x35_2).f0), .slice A468_1 ((rd_T66 t457 x35_2).f1).length c468_1] 66 (0, 0))) := ⟨by (with_reducible repeat (first | refine blk_drewN ?_ _ | refine blk_drew ?_ | refine blk_alloc ?_ _)); refine blk_put (cs := #[.string ((rd_T66 t457 x35_2).f0), .slice none 0 0]) ?_ 1 _ rfl; (with_reducible repeat (first | refine blk_drewN ?_ _ | refine blk_drew ?_ | refine blk_alloc ?_ _)); refine blk_put (cs := #[.string (⟨#[]⟩ : ByteArray), .slice none 0 0]) ?_ 0 _ rfl; (with_reducible repeat (first | refine blk_drewN ?_ _ | refine blk_drew ?_ | refine blk_alloc ?_ _)); exact BK469.out⟩
          have n14_ : Aside0 (Below w.heap.size w ((w46.setCell ⟨gb469, 0, none⟩ (.string ((rd_T66 t457 x35_2).f0))).setCell ⟨gb469, 1, none⟩ (.slice A468_1 ((rd_T66 t457 x35_2).f1).length c468_1))) := ⟨by repeat (first | (with_reducible first | exact HB.out | apply below_alloc | apply pw_below_drewN | apply below_drew1 | refine below_set ?_ GE448.out | refine below_set ?_ GE463.out | refine below_set ?_ GE467.out | refine below_set ?_ GE469.out) | exact HB.out)⟩
          (try clear HO_33)
          (try clear HO_464000)
          (try clear HO_464001)
          (try clear HO_464002)
          (try clear HO_464003)
          (try clear HO_468000)
          (try clear HO_468001)
          (try clear HO_468002)
          (try clear HO_468003)
          (try clear HL468_1)
          (try clear BK448)
          (try clear BK463)
          (try clear BK467)
          (try clear BK469)
          (try clear HB)
          generalize ((w46.setCell ⟨gb469, 0, none⟩ (.string ((rd_T66 t457 x35_2).f0))).setCell ⟨gb469, 1, none⟩ (.slice A468_1 ((rd_T66 t457 x35_2).f1).length c468_1)) = w51 at n0_ n1_ n2_ n3_ n4_ n5_ n6_ n7_ n8_ n9_ n10_ n11_ n12_ n13_ n14_ ⊢
          have HO_33 := n0_
          have HO_464000 := n1_
          have HO_464001 := n2_
          have HO_464002 := n3_
          have HO_464003 := n4_
          have HO_468000 := n5_
          have HO_468001 := n6_
          have HO_468002 := n7_
          have HO_468003 := n8_
          have HL468_1 := n9_
          have BK448 := n10_
          have BK463 := n11_
          have BK467 := n12_
          have BK469 := n13_
          have HB := n14_
          clear n0_ n1_ n2_ n3_ n4_ n5_ n6_ n7_ n8_ n9_ n10_ n11_ n12_ n13_ n14_
          have n0_ := Aside0.mk (Kd.N_drew HO_33.out)
          have n1_ := Aside0.mk (Kd.N_drew HO_464000.out)
          have n2_ := Aside0.mk (Kd.R_drew HO_464001.out)
          have n3_ := Aside0.mk (Kd.N_drew HO_464002.out)
          have n4_ := Aside0.mk (Kd.N_drew HO_464003.out)
          have n5_ := Aside0.mk (Kd.N_drew HO_468000.out)
          have n6_ := Aside0.mk (Kd.R_drew HO_468001.out)
          have n7_ := Aside0.mk (Kd.N_drew HO_468002.out)
          have n8_ := Aside0.mk (Kd.N_drew HO_468003.out)
          have n9_ := Aside0.mk (Kd.V_drew HL468_1.out)
          have n10_ := Aside0.mk (blk_drew BK448.out)
          have n11_ := Aside0.mk (blk_drew BK463.out)
          have n12_ := Aside0.mk (blk_drew BK467.out)
          have n13_ := Aside0.mk (blk_drew BK469.out)
          have n14_ := Aside0.mk (below_drew1 HB.out)
          clear HO_33
          clear HO_464000
          clear HO_464001
          clear HO_464002
          clear HO_464003
          clear HO_468000
          clear HO_468001
          clear HO_468002
          clear HO_468003
          clear HL468_1
          clear BK448
          clear BK463
          clear BK467
          clear BK469
          clear HB
          have HO_33 := n0_
          have HO_464000 := n1_
          have HO_464001 := n2_
          have HO_464002 := n3_
          have HO_464003 := n4_
          have HO_468000 := n5_
          have HO_468001 := n6_
          have HO_468002 := n7_
          have HO_468003 := n8_
          have HL468_1 := n9_
          have BK448 := n10_
          have BK463 := n11_
          have BK467 := n12_
          have BK469 := n13_
          have HB := n14_
          clear n0_ n1_ n2_ n3_ n4_ n5_ n6_ n7_ n8_ n9_ n10_ n11_ n12_ n13_ n14_
          refine start_ (n := 13) (S := fun w' => w'.cell? ⟨gb467, 0, none⟩ = some (.slice Ao22 t451.length co22) ∧ w'.cell? ⟨gb467, 1, none⟩ = some (.slice Ao25 t454.length co25) ∧ w'.cell? ⟨gb467, 2, none⟩ = some (u468002) ∧ w'.cell? ⟨gb467, 3, none⟩ = some (.slice Ao34 t464.length co34) ∧ w'.cell? ⟨gb469, 0, none⟩ = some (.string ((rd_T66 t457 x35_2).f0)) ∧ w'.cell? ⟨gb469, 1, none⟩ = some (.slice A468_1 ((rd_T66 t457 x35_2).f1).length c468_1)) (ds := [12]) (flg 13 0) (by kernel_rfl) rfl (by kernel_rfl) ⟨(blk_cell BK467.out 0).trans rfl, (blk_cell BK467.out 1).trans rfl, (blk_cell BK467.out 2).trans rfl, (blk_cell BK467.out 3).trans rfl, (blk_cell BK469.out 0).trans rfl, (blk_cell BK469.out 1).trans rfl⟩ (fun hHeld => ?_); refine with_tabW helmsmanlaw12_TreePlaces.tab8 helmsmanlaw12_TreePlaces.bits8 (fun HT_ HW_ => ?_)
          generalize w51.drew = w52 at HO_33 HO_464000 HO_464001 HO_464002 HO_464003 HO_468000 HO_468001 HO_468002 HO_468003 HL468_1 BK448 BK463 BK467 BK469 HB hHeld ⊢
          refine pure_ (i := 0) (N := some 39) (v := ?_) (a' := ?_) (flg 13 1) rfl rfl (any_of HT_.out (by kernel_rfl)) (fun _ _ _ h => h) (Or.inl ⟨by rfl, ?_⟩) ?_ ?_; rotate_left; intro w'; go_simp; with_reducible rfl; rotate_left; (simp only [Act.put, pA_, pB_, pC_, i64_w, i32_w]; rfl)
          refine pure_ (i := 2) (N := some 41) (v := ?_) (a' := ?_) (flg 13 5) rfl rfl (any_of HT_.out (by kernel_rfl)) (fun _ _ _ h => h) (Or.inl ⟨by rfl, ?_⟩) ?_ ?_; rotate_left; intro w'; go_simp; with_reducible rfl; rotate_left; (simp only [Act.put, pA_, pB_, pC_, i64_w, i32_w]; rfl)
          refine pure_ (i := 4) (N := some 43) (v := ?_) (a' := ?_) (flg 13 21) rfl rfl (any_of HT_.out (by kernel_rfl)) (fun _ _ _ h => h) (Or.inl ⟨by rfl, ?_⟩) ?_ ?_; rotate_left; intro w'; go_simp; with_reducible rfl; rotate_left; (simp only [Act.put, pA_, pB_, pC_, i64_w, i32_w]; rfl)
          refine pure_ (i := 6) (N := some 45) (v := ?_) (a' := ?_) (flg 13 85) rfl rfl (any_of HT_.out (by kernel_rfl)) (fun _ _ _ h => h) (Or.inl ⟨by rfl, ?_⟩) ?_ ?_; rotate_left; intro w'; go_simp; with_reducible rfl; rotate_left; (simp only [Act.put, pA_, pB_, pC_, i64_w, i32_w]; rfl)
          refine take_ (i := 1) (N := some 40) (v := ?_) (a' := ?_) (flg 13 87) rfl rfl (take_ofW HT_.out HW_.out (by kernel_rfl)) (fun _ _ _ h => h) (Or.inl ⟨by rfl, ?_⟩) hHeld ?_ ?_; rotate_left; rintro w' ⟨s0, s1, s2, s3, s4, s5⟩; go_simp; with_reducible rfl; rotate_left; (simp only [Act.put, pA_, pB_, pC_, i64_w, i32_w]; rfl)
          refine take_ (i := 3) (N := some 42) (v := ?_) (a' := ?_) (flg 13 95) rfl rfl (take_ofW HT_.out HW_.out (by kernel_rfl)) (fun _ _ _ h => h) (Or.inl ⟨by rfl, ?_⟩) hHeld ?_ ?_; rotate_left; rintro w' ⟨s0, s1, s2, s3, s4, s5⟩; go_simp; with_reducible rfl; rotate_left; (simp only [Act.put, pA_, pB_, pC_, i64_w, i32_w]; rfl)
          refine take_ (i := 5) (N := some 44) (v := ?_) (a' := ?_) (flg 13 127) rfl rfl (take_ofW HT_.out HW_.out (by kernel_rfl)) (fun _ _ _ h => h) (Or.inl ⟨by rfl, ?_⟩) hHeld ?_ ?_; rotate_left; rintro w' ⟨s0, s1, s2, s3, s4, s5⟩; go_simp; with_reducible rfl; rotate_left; (simp only [Act.put, pA_, pB_, pC_, i64_w, i32_w]; rfl)
          refine one_ (i := 7) (N := some 46) (flg 13 255) rfl rfl (one_of HT_.out (by kernel_rfl)) (by decide) (fun K hK => ?_)
          refine goes_ Tryd.func29 (by kernel_rfl) rfl #[.slice A468_1 ((rd_T66 t457 x35_2).f1).length c468_1, .int .i64 a1] (by rfl) rfl rfl (by (try simp only [List.map_toArray, List.map_cons, List.map_nil]); first | done | rfl | (simp only [List.length_drop, List.length_take]; rfl)) ?_
          with_reducible refine (helmsmanlaw12_moved.calls k2 _ _ ((rd_T66 t457 x35_2).f1) a1 t470 _ ?side1 ?side2 A44.out).mono ?_
          (case side1 => repeat (first | exact ((Kd.V_reads' (by (with_reducible repeat (first | apply Kd.V_alloc | apply Kd.V_drewN | apply Kd.V_drew)); exact HL468_1.out)).2.2) | (with_reducible refine Kd.C_alloc ?_ _) | (with_reducible refine Kd.C_drewN ?_ _) | (with_reducible refine Kd.C_drew ?_)))
          (case side2 => exact HC468_1.out)
          rintro e w53 ⟨v471, rfl, ho0, hb⟩
          refine ⟨_, rfl, ?_⟩
          have n0_ := Aside0.mk (Kd.N_elder' (by (with_reducible repeat (first | apply Kd.N_alloc | apply Kd.N_drewN | apply Kd.N_drew)); exact HO_33.out) (by first | exact Kd.N_base ho0 | exact Kd.N_base (Kd.R_N ho0) | exact Kd.N_base (Kd.R_N (Kd.R_bound ho0))) hb)
          have n1_ := Aside0.mk (Kd.N_elder' (by (with_reducible repeat (first | apply Kd.N_alloc | apply Kd.N_drewN | apply Kd.N_drew)); exact HO_464000.out) (by first | exact Kd.N_base ho0 | exact Kd.N_base (Kd.R_N ho0) | exact Kd.N_base (Kd.R_N (Kd.R_bound ho0))) hb)
          have n2_ := Aside0.mk (Kd.R_below (by (with_reducible repeat (first | apply Kd.R_alloc | apply Kd.R_drewN | apply Kd.R_drew)); exact HO_464001.out) hb)
          have n3_ := Aside0.mk (Kd.N_elder' (by (with_reducible repeat (first | apply Kd.N_alloc | apply Kd.N_drewN | apply Kd.N_drew)); exact HO_464002.out) (by first | exact Kd.N_base ho0 | exact Kd.N_base (Kd.R_N ho0) | exact Kd.N_base (Kd.R_N (Kd.R_bound ho0))) hb)
          have n4_ := Aside0.mk (Kd.N_elder' (by (with_reducible repeat (first | apply Kd.N_alloc | apply Kd.N_drewN | apply Kd.N_drew)); exact HO_464003.out) (by first | exact Kd.N_base ho0 | exact Kd.N_base (Kd.R_N ho0) | exact Kd.N_base (Kd.R_N (Kd.R_bound ho0))) hb)
          have n5_ := Aside0.mk (Kd.N_elder' (by (with_reducible repeat (first | apply Kd.N_alloc | apply Kd.N_drewN | apply Kd.N_drew)); exact HO_468000.out) (by first | exact Kd.N_base ho0 | exact Kd.N_base (Kd.R_N ho0) | exact Kd.N_base (Kd.R_N (Kd.R_bound ho0))) hb)
          have n6_ := Aside0.mk (Kd.R_below (by (with_reducible repeat (first | apply Kd.R_alloc | apply Kd.R_drewN | apply Kd.R_drew)); exact HO_468001.out) hb)
          have n7_ := Aside0.mk (Kd.N_elder' (by (with_reducible repeat (first | apply Kd.N_alloc | apply Kd.N_drewN | apply Kd.N_drew)); exact HO_468002.out) (by first | exact Kd.N_base ho0 | exact Kd.N_base (Kd.R_N ho0) | exact Kd.N_base (Kd.R_N (Kd.R_bound ho0))) hb)
          have n8_ := Aside0.mk (Kd.N_elder' (by (with_reducible repeat (first | apply Kd.N_alloc | apply Kd.N_drewN | apply Kd.N_drew)); exact HO_468003.out) (by first | exact Kd.N_base ho0 | exact Kd.N_base (Kd.R_N ho0) | exact Kd.N_base (Kd.R_N (Kd.R_bound ho0))) hb)
          have n9_ := Aside0.mk (Kd.V_elder' (by (with_reducible repeat (first | apply Kd.V_alloc | apply Kd.V_drewN | apply Kd.V_drew)); exact HL468_1.out) (by first | exact Kd.N_base ho0 | exact Kd.N_base (Kd.R_N ho0) | exact Kd.N_base (Kd.R_N (Kd.R_bound ho0))) hb)
          have n10_ := Aside0.mk (Kd.N_lower (Kd.N_mono (ok' := fun k_ => some k_ ≠ (.slice (some ad468) t457.length co26 : Value).ownBlock ∧ some k_ ≠ (.slice Ao22 t451.length co22 : Value).ownBlock ∧ some k_ ≠ (.slice Ao25 t454.length co25 : Value).ownBlock ∧ some k_ ≠ (.slice (some ad468) t457.length co26 : Value).ownBlock ∧ some k_ ≠ (.slice Ao27 t460.length co27 : Value).ownBlock ∧ some k_ ≠ (.slice Ao22 t451.length co22 : Value).ownBlock ∧ some k_ ≠ (.slice Ao25 t454.length co25 : Value).ownBlock ∧ some k_ ≠ (u468002 : Value).ownBlock ∧ some k_ ≠ (.slice Ao34 t464.length co34 : Value).ownBlock ∧ k_ ≠ gb448 ∧ k_ ≠ gb463 ∧ k_ ≠ gb467 ∧ k_ ≠ gb469) (Kd.R_N (Kd.R_bound ho0)) (fun k_ hk_ => ⟨(Kd.fresh' (Kd.N_lt (by (with_reducible repeat (first | apply Kd.N_alloc | apply Kd.N_drewN | apply Kd.N_drew)); exact HO_33.out)) k_ hk_.2.1), (Kd.fresh' (Kd.N_lt (by (with_reducible repeat (first | apply Kd.N_alloc | apply Kd.N_drewN | apply Kd.N_drew)); exact HO_464000.out)) k_ hk_.2.1), (Kd.fresh' (Kd.R_lt (by (with_reducible repeat (first | apply Kd.R_alloc | apply Kd.R_drewN | apply Kd.R_drew)); exact HO_464001.out)) k_ hk_.2.1), (Kd.fresh' (Kd.N_lt (by (with_reducible repeat (first | apply Kd.N_alloc | apply Kd.N_drewN | apply Kd.N_drew)); exact HO_464002.out)) k_ hk_.2.1), (Kd.fresh' (Kd.N_lt (by (with_reducible repeat (first | apply Kd.N_alloc | apply Kd.N_drewN | apply Kd.N_drew)); exact HO_464003.out)) k_ hk_.2.1), (Kd.fresh' (Kd.N_lt (by (with_reducible repeat (first | apply Kd.N_alloc | apply Kd.N_drewN | apply Kd.N_drew)); exact HO_468000.out)) k_ hk_.2.1), (Kd.fresh' (Kd.R_lt (by (with_reducible repeat (first | apply Kd.R_alloc | apply Kd.R_drewN | apply Kd.R_drew)); exact HO_468001.out)) k_ hk_.2.1), (Kd.fresh' (Kd.N_lt (by (with_reducible repeat (first | apply Kd.N_alloc | apply Kd.N_drewN | apply Kd.N_drew)); exact HO_468002.out)) k_ hk_.2.1), (Kd.fresh' (Kd.N_lt (by (with_reducible repeat (first | apply Kd.N_alloc | apply Kd.N_drewN | apply Kd.N_drew)); exact HO_468003.out)) k_ hk_.2.1), (Kd.freshB (g := gb448) (o := .cells #[.slice A0_0 l0_0.length c0_0, .slice A0_1 l0_1.length c0_1, .slice A0_2 l0_2.length c0_2, .slice A0_3 l0_3.length c0_3] 43 (0, 0)) (by (with_reducible repeat (first | refine blk_drewN ?_ _ | refine blk_drew ?_ | refine blk_alloc ?_ _)); exact BK448.out) k_ hk_.2.1), (Kd.freshB (g := gb463) (o := .cells #[.slice Ao22 t451.length co22, .slice Ao25 t454.length co25, .slice (some ad468) t457.length co26, .slice Ao27 t460.length co27] 50 (0, 0)) (by (with_reducible repeat (first | refine blk_drewN ?_ _ | refine blk_drew ?_ | refine blk_alloc ?_ _)); exact BK463.out) k_ hk_.2.1), (Kd.freshB (g := gb467) (o := .cells #[.slice Ao22 t451.length co22, .slice Ao25 t454.length co25, u468002, .slice Ao34 t464.length co34] 50 (0, 0)) (by (with_reducible repeat (first | refine blk_drewN ?_ _ | refine blk_drew ?_ | refine blk_alloc ?_ _)); exact BK467.out) k_ hk_.2.1), (Kd.freshB (g := gb469) (o := .cells #[.string ((rd_T66 t457 x35_2).f0), .slice A468_1 ((rd_T66 t457 x35_2).f1).length c468_1] 66 (0, 0)) (by (with_reducible repeat (first | refine blk_drewN ?_ _ | refine blk_drew ?_ | refine blk_alloc ?_ _)); exact BK469.out) k_ hk_.2.1)⟩)) (below_size (by repeat (first | (with_reducible first | exact HB.out | apply below_alloc | apply pw_below_drewN | apply below_drew1 | refine below_set ?_ GE448.out | refine below_set ?_ GE463.out | refine below_set ?_ GE467.out | refine below_set ?_ GE469.out) | exact HB.out))))
          have n11_ := Aside0.mk (blk_below (g := gb448) (o := .cells #[.slice A0_0 l0_0.length c0_0, .slice A0_1 l0_1.length c0_1, .slice A0_2 l0_2.length c0_2, .slice A0_3 l0_3.length c0_3] 43 (0, 0)) (by (with_reducible repeat (first | refine blk_drewN ?_ _ | refine blk_drew ?_ | refine blk_alloc ?_ _)); exact BK448.out) hb)
          have n12_ := Aside0.mk (blk_below (g := gb463) (o := .cells #[.slice Ao22 t451.length co22, .slice Ao25 t454.length co25, .slice (some ad468) t457.length co26, .slice Ao27 t460.length co27] 50 (0, 0)) (by (with_reducible repeat (first | refine blk_drewN ?_ _ | refine blk_drew ?_ | refine blk_alloc ?_ _)); exact BK463.out) hb)
          have n13_ := Aside0.mk (blk_below (g := gb467) (o := .cells #[.slice Ao22 t451.length co22, .slice Ao25 t454.length co25, u468002, .slice Ao34 t464.length co34] 50 (0, 0)) (by (with_reducible repeat (first | refine blk_drewN ?_ _ | refine blk_drew ?_ | refine blk_alloc ?_ _)); exact BK467.out) hb)
          have n14_ := Aside0.mk (blk_below (g := gb469) (o := .cells #[.string ((rd_T66 t457 x35_2).f0), .slice A468_1 ((rd_T66 t457 x35_2).f1).length c468_1] 66 (0, 0)) (by (with_reducible repeat (first | refine blk_drewN ?_ _ | refine blk_drew ?_ | refine blk_alloc ?_ _)); exact BK469.out) hb)
          have n15_ := Aside0.mk (below_step (by repeat (first | (with_reducible first | exact HB.out | apply below_alloc | apply pw_below_drewN | apply below_drew1 | refine below_set ?_ GE448.out | refine below_set ?_ GE463.out | refine below_set ?_ GE467.out | refine below_set ?_ GE469.out) | exact HB.out)) hb)
          clear HO_33
          clear HO_464000
          clear HO_464001
          clear HO_464002
          clear HO_464003
          clear HO_468000
          clear HO_468001
          clear HO_468002
          clear HO_468003
          clear HL468_1
          clear BK448
          clear BK463
          clear BK467
          clear BK469
          clear HB
          have HO_33 := n0_
          have HO_464000 := n1_
          have HO_464001 := n2_
          have HO_464002 := n3_
          have HO_464003 := n4_
          have HO_468000 := n5_
          have HO_468001 := n6_
          have HO_468002 := n7_
          have HO_468003 := n8_
          have HL468_1 := n9_
          have HO472 := n10_
          have BK448 := n11_
          have BK463 := n12_
          have BK467 := n13_
          have BK469 := n14_
          have HB := n15_
          clear n0_ n1_ n2_ n3_ n4_ n5_ n6_ n7_ n8_ n9_ n10_ n11_ n12_ n13_ n14_ n15_
          (try clear hb)
          (try clear hb2)
          (try clear hk)
          (try clear hi)
          (try clear ho0)
          obtain ⟨Ao54, co54, eo54⟩ := Kd.N_slice HO472.out
          (first | subst eo54 | (injection eo54 with f1_ f2_ f3_; have f4_ := f1_.symm; have f5_ := f3_.symm; clear f1_ f2_ f3_; subst f4_; subst f5_))
          refine hK.out _ _ ⟨(blk_cell BK467.out 0).trans rfl, (blk_cell BK467.out 1).trans rfl, (blk_cell BK467.out 2).trans rfl, (blk_cell BK467.out 3).trans rfl, (blk_cell BK469.out 0).trans rfl, (blk_cell BK469.out 1).trans rfl⟩ (fun hHeld => ?_)
          clear hK K
          refine norm_ (a' := ?_) ?_ ?_
          rotate_left
          ·show Act.put _ (some 46) _ = _
           simp only [Act.put, List.setIfInBounds_toArray, List.set_cons_zero, List.set_cons_succ, i64_w, i32_w]
           rfl
          refine pure_ (i := 8) (N := some 47) (v := ?_) (a' := ?_) (flg 13 511) rfl rfl (any_of HT_.out (by kernel_rfl)) (fun _ _ _ h => h) (Or.inl ⟨by rfl, ?_⟩) ?_ ?_; rotate_left; intro w'; go_simp; with_reducible rfl; rotate_left; (simp only [Act.put, pA_, pB_, pC_, i64_w, i32_w]; rfl)
          refine one_ (i := 9) (N := some 48) (flg 13 1023) rfl rfl (one_of HT_.out (by kernel_rfl)) (by decide) (fun K hK => ?_)
          refine value_ (w1 := ?_) (v := ?_) (by rfl) rfl ?_ ?_
          rotate_left 2
          ·go_simp
           constructor
           ·rfl
           ·rfl
          refine hK.out _ _ ⟨(blk_cell (blk_alloc BK467.out _) 0).trans rfl, (blk_cell (blk_alloc BK467.out _) 1).trans rfl, (blk_cell (blk_alloc BK467.out _) 2).trans rfl, (blk_cell (blk_alloc BK467.out _) 3).trans rfl, (blk_cell (blk_alloc BK469.out _) 0).trans rfl, (blk_cell (blk_alloc BK469.out _) 1).trans rfl⟩ (fun hHeld => ?_)
          clear hK K
          refine norm_ (a' := ?_) ?_ ?_
          rotate_left
          ·show Act.put _ (some 48) _ = _
           simp only [Act.put, List.setIfInBounds_toArray, List.set_cons_zero, List.set_cons_succ, i64_w, i32_w]
           rfl
          refine one_ (i := 10) (N := some 49) (flg 13 2047) rfl rfl (one_of HT_.out (by kernel_rfl)) (by decide) (fun K hK => ?_)
          refine Kd.N_append_step k66 (w0 := w) w.heap.size (by rfl) (.tmp 40) (.tmp 48) 47 66 (.agg #[(.string ⟨#[]⟩), (.slice none 0 0)]) 40 rfl Tryd.underlying47 info66 rfl (by decide) (by omega) u468002 x468002_2 (⟨(rd_T66 t457 x35_2).f0, t470⟩ : S66) [.string ((rd_T66 t457 x35_2).f0), .slice Ao54 t470.length co54] (fun k_ => some k_ ≠ (.slice (some ad468) t457.length co26 : Value).ownBlock ∧ some k_ ≠ (.slice Ao22 t451.length co22 : Value).ownBlock ∧ some k_ ≠ (.slice Ao25 t454.length co25 : Value).ownBlock ∧ some k_ ≠ (.slice (some ad468) t457.length co26 : Value).ownBlock ∧ some k_ ≠ (.slice Ao27 t460.length co27 : Value).ownBlock ∧ some k_ ≠ (.slice Ao22 t451.length co22 : Value).ownBlock ∧ some k_ ≠ (.slice Ao25 t454.length co25 : Value).ownBlock ∧ some k_ ≠ (.slice Ao34 t464.length co34 : Value).ownBlock ∧ k_ ≠ gb448 ∧ k_ ≠ gb463 ∧ k_ ≠ gb467 ∧ k_ ≠ gb469) (fun k_ => ((fun k_ => some k_ ≠ (.slice (some ad468) t457.length co26 : Value).ownBlock ∧ some k_ ≠ (.slice Ao22 t451.length co22 : Value).ownBlock ∧ some k_ ≠ (.slice Ao25 t454.length co25 : Value).ownBlock ∧ some k_ ≠ (.slice (some ad468) t457.length co26 : Value).ownBlock ∧ some k_ ≠ (.slice Ao27 t460.length co27 : Value).ownBlock ∧ some k_ ≠ (.slice Ao22 t451.length co22 : Value).ownBlock ∧ some k_ ≠ (.slice Ao25 t454.length co25 : Value).ownBlock ∧ some k_ ≠ (.slice Ao34 t464.length co34 : Value).ownBlock ∧ k_ ≠ gb448 ∧ k_ ≠ gb463 ∧ k_ ≠ gb467 ∧ k_ ≠ gb469)) k_ ∧ some k_ ≠ (u468002 : Value).ownBlock) rfl rfl ?aP (fun _ hk => hk) ?aF ?aO ?aB ?aS ?aL ?_
          (case aP => exact (k66_mkF _ _ (⟨(rd_T66 t457 x35_2).f0, t470⟩ : S66) (Kd.N_reads' (Kd.N_mono (ok' := (fun k_ => ((fun k_ => some k_ ≠ (.slice (some ad468) t457.length co26 : Value).ownBlock ∧ some k_ ≠ (.slice Ao22 t451.length co22 : Value).ownBlock ∧ some k_ ≠ (.slice Ao25 t454.length co25 : Value).ownBlock ∧ some k_ ≠ (.slice (some ad468) t457.length co26 : Value).ownBlock ∧ some k_ ≠ (.slice Ao27 t460.length co27 : Value).ownBlock ∧ some k_ ≠ (.slice Ao22 t451.length co22 : Value).ownBlock ∧ some k_ ≠ (.slice Ao25 t454.length co25 : Value).ownBlock ∧ some k_ ≠ (.slice Ao34 t464.length co34 : Value).ownBlock ∧ k_ ≠ gb448 ∧ k_ ≠ gb463 ∧ k_ ≠ gb467 ∧ k_ ≠ gb469)) k_ ∧ some k_ ≠ (u468002 : Value).ownBlock)) (HO472.out) (fun k_ hk => ⟨⟨hk.1, ⟨hk.2.1, ⟨hk.2.2.1, ⟨hk.2.2.2.1, ⟨hk.2.2.2.2.1, ⟨hk.2.2.2.2.2.1, ⟨hk.2.2.2.2.2.2.1, ⟨hk.2.2.2.2.2.2.2.2.1, ⟨hk.2.2.2.2.2.2.2.2.2.1, ⟨hk.2.2.2.2.2.2.2.2.2.2.1, ⟨hk.2.2.2.2.2.2.2.2.2.2.2.1, hk.2.2.2.2.2.2.2.2.2.2.2.2⟩⟩⟩⟩⟩⟩⟩⟩⟩⟩⟩, hk.2.2.2.2.2.2.2.1⟩))).2.1 (Kd.N_F (Kd.N_mono (ok' := (fun k_ => ((fun k_ => some k_ ≠ (.slice (some ad468) t457.length co26 : Value).ownBlock ∧ some k_ ≠ (.slice Ao22 t451.length co22 : Value).ownBlock ∧ some k_ ≠ (.slice Ao25 t454.length co25 : Value).ownBlock ∧ some k_ ≠ (.slice (some ad468) t457.length co26 : Value).ownBlock ∧ some k_ ≠ (.slice Ao27 t460.length co27 : Value).ownBlock ∧ some k_ ≠ (.slice Ao22 t451.length co22 : Value).ownBlock ∧ some k_ ≠ (.slice Ao25 t454.length co25 : Value).ownBlock ∧ some k_ ≠ (.slice Ao34 t464.length co34 : Value).ownBlock ∧ k_ ≠ gb448 ∧ k_ ≠ gb463 ∧ k_ ≠ gb467 ∧ k_ ≠ gb469)) k_ ∧ some k_ ≠ (u468002 : Value).ownBlock)) (HO472.out) (fun k_ hk => ⟨⟨hk.1, ⟨hk.2.1, ⟨hk.2.2.1, ⟨hk.2.2.2.1, ⟨hk.2.2.2.2.1, ⟨hk.2.2.2.2.2.1, ⟨hk.2.2.2.2.2.2.1, ⟨hk.2.2.2.2.2.2.2.2.1, ⟨hk.2.2.2.2.2.2.2.2.2.1, ⟨hk.2.2.2.2.2.2.2.2.2.2.1, ⟨hk.2.2.2.2.2.2.2.2.2.2.2.1, hk.2.2.2.2.2.2.2.2.2.2.2.2⟩⟩⟩⟩⟩⟩⟩⟩⟩⟩⟩, hk.2.2.2.2.2.2.2.1⟩)))))
          (case aB => exact (by repeat (first | (with_reducible first | exact HB.out | apply below_alloc | apply pw_below_drewN | apply below_drew1 | refine below_set ?_ GE448.out | refine below_set ?_ GE463.out | refine below_set ?_ GE467.out | refine below_set ?_ GE469.out) | exact HB.out)))
          (case aF => exact (fun k_ hk => ⟨Kd.fresh' (Kd.N_lt (by (with_reducible repeat (first | apply Kd.N_alloc | apply Kd.N_drewN | apply Kd.N_drew)); exact HO_33.out)) k_ hk, Kd.fresh' (Kd.N_lt (by (with_reducible repeat (first | apply Kd.N_alloc | apply Kd.N_drewN | apply Kd.N_drew)); exact HO_464000.out)) k_ hk, Kd.fresh' (Kd.R_lt (by (with_reducible repeat (first | apply Kd.R_alloc | apply Kd.R_drewN | apply Kd.R_drew)); exact HO_464001.out)) k_ hk, Kd.fresh' (Kd.N_lt (by (with_reducible repeat (first | apply Kd.N_alloc | apply Kd.N_drewN | apply Kd.N_drew)); exact HO_464002.out)) k_ hk, Kd.fresh' (Kd.N_lt (by (with_reducible repeat (first | apply Kd.N_alloc | apply Kd.N_drewN | apply Kd.N_drew)); exact HO_464003.out)) k_ hk, Kd.fresh' (Kd.N_lt (by (with_reducible repeat (first | apply Kd.N_alloc | apply Kd.N_drewN | apply Kd.N_drew)); exact HO_468000.out)) k_ hk, Kd.fresh' (Kd.R_lt (by (with_reducible repeat (first | apply Kd.R_alloc | apply Kd.R_drewN | apply Kd.R_drew)); exact HO_468001.out)) k_ hk, Kd.fresh' (Kd.N_lt (by (with_reducible repeat (first | apply Kd.N_alloc | apply Kd.N_drewN | apply Kd.N_drew)); exact HO_468003.out)) k_ hk, Kd.freshB (g := gb448) (o := .cells #[.slice A0_0 l0_0.length c0_0, .slice A0_1 l0_1.length c0_1, .slice A0_2 l0_2.length c0_2, .slice A0_3 l0_3.length c0_3] 43 (0, 0)) (by (with_reducible repeat (first | refine blk_drewN ?_ _ | refine blk_drew ?_ | refine blk_alloc ?_ _)); exact BK448.out) k_ hk, Kd.freshB (g := gb463) (o := .cells #[.slice Ao22 t451.length co22, .slice Ao25 t454.length co25, .slice (some ad468) t457.length co26, .slice Ao27 t460.length co27] 50 (0, 0)) (by (with_reducible repeat (first | refine blk_drewN ?_ _ | refine blk_drew ?_ | refine blk_alloc ?_ _)); exact BK463.out) k_ hk, Kd.freshB (g := gb467) (o := .cells #[.slice Ao22 t451.length co22, .slice Ao25 t454.length co25, u468002, .slice Ao34 t464.length co34] 50 (0, 0)) (by (with_reducible repeat (first | refine blk_drewN ?_ _ | refine blk_drew ?_ | refine blk_alloc ?_ _)); exact BK467.out) k_ hk, Kd.freshB (g := gb469) (o := .cells #[.string ((rd_T66 t457 x35_2).f0), .slice A468_1 ((rd_T66 t457 x35_2).f1).length c468_1] 66 (0, 0)) (by (with_reducible repeat (first | refine blk_drewN ?_ _ | refine blk_drew ?_ | refine blk_alloc ?_ _)); exact BK469.out) k_ hk⟩))
          (case aO => exact (by (with_reducible repeat (first | apply Kd.N_alloc | apply Kd.N_drewN | apply Kd.N_drew)); exact Kd.N_mono HO_468002.out (fun _ hk => ⟨hk.1.1, ⟨hk.1.2.1, ⟨hk.1.2.2.1, ⟨hk.1.2.2.2.1, ⟨hk.1.2.2.2.2.1, ⟨hk.1.2.2.2.2.2.1, ⟨hk.1.2.2.2.2.2.2.1, ⟨hk.1.2.2.2.2.2.2.2.1, ⟨hk.1.2.2.2.2.2.2.2.2.1, ⟨hk.1.2.2.2.2.2.2.2.2.2.1, ⟨hk.1.2.2.2.2.2.2.2.2.2.2.1, hk.1.2.2.2.2.2.2.2.2.2.2.2⟩⟩⟩⟩⟩⟩⟩⟩⟩⟩⟩)))
          (case aS => exact (below_size (by repeat (first | (with_reducible first | exact HB.out | apply below_alloc | apply pw_below_drewN | apply below_drew1 | refine below_set ?_ GE448.out | refine below_set ?_ GE463.out | refine below_set ?_ GE467.out | refine below_set ?_ GE469.out) | exact HB.out))))
          (case aL => have := LMc45.out; omega)
          intro v474 w55 ho hb hg hat
          rw [← Ny473.out] at ho
          have n0_ := Aside0.mk (Kd.N_afterv (ok := (fun k_ => some k_ ≠ (.slice Ao22 t451.length co22 : Value).ownBlock ∧ some k_ ≠ (.slice Ao25 t454.length co25 : Value).ownBlock ∧ some k_ ≠ (.slice Ao27 t460.length co27 : Value).ownBlock ∧ some k_ ≠ (.slice Ao22 t451.length co22 : Value).ownBlock ∧ some k_ ≠ (.slice Ao25 t454.length co25 : Value).ownBlock ∧ some k_ ≠ (.slice Ao34 t464.length co34 : Value).ownBlock ∧ some k_ ≠ (.slice Ao54 t470.length co54 : Value).ownBlock ∧ k_ ≠ gb448 ∧ k_ ≠ gb463 ∧ k_ ≠ gb467 ∧ k_ ≠ gb469)) (by (with_reducible repeat (first | apply Kd.N_alloc | apply Kd.N_drewN | apply Kd.N_drew)); exact Kd.N_mono HO_33.out (fun _ hk => ⟨⟨hk.1.1, ⟨hk.1.2.1, ⟨hk.1.2.2.1, ⟨hk.1.2.2.2.1, ⟨hk.1.2.2.2.2.1, ⟨hk.1.2.2.2.2.2.2.1, ⟨hk.2, ⟨hk.1.2.2.2.2.2.2.2.1, ⟨hk.1.2.2.2.2.2.2.2.2.1, ⟨hk.1.2.2.2.2.2.2.2.2.2.1, hk.1.2.2.2.2.2.2.2.2.2.2⟩⟩⟩⟩⟩⟩⟩⟩⟩⟩, hk.1.2.2.2.2.2.1⟩)) hg hat)
          have n1_ := Aside0.mk (Kd.N_afterv (ok := (fun k_ => some k_ ≠ (.slice (some ad468) t457.length co26 : Value).ownBlock ∧ some k_ ≠ (.slice Ao25 t454.length co25 : Value).ownBlock ∧ some k_ ≠ (.slice (some ad468) t457.length co26 : Value).ownBlock ∧ some k_ ≠ (.slice Ao27 t460.length co27 : Value).ownBlock ∧ some k_ ≠ (.slice Ao25 t454.length co25 : Value).ownBlock ∧ some k_ ≠ (.slice Ao34 t464.length co34 : Value).ownBlock ∧ some k_ ≠ (.slice Ao54 t470.length co54 : Value).ownBlock ∧ k_ ≠ gb448 ∧ k_ ≠ gb463 ∧ k_ ≠ gb467 ∧ k_ ≠ gb469)) (by (with_reducible repeat (first | apply Kd.N_alloc | apply Kd.N_drewN | apply Kd.N_drew)); exact Kd.N_mono HO_464000.out (fun _ hk => ⟨⟨hk.1.1, ⟨hk.1.2.1, ⟨hk.1.2.2.1, ⟨hk.1.2.2.2.1, ⟨hk.1.2.2.2.2.1, ⟨hk.1.2.2.2.2.2.2.1, ⟨hk.2, ⟨hk.1.2.2.2.2.2.2.2.1, ⟨hk.1.2.2.2.2.2.2.2.2.1, ⟨hk.1.2.2.2.2.2.2.2.2.2.1, hk.1.2.2.2.2.2.2.2.2.2.2⟩⟩⟩⟩⟩⟩⟩⟩⟩⟩, hk.1.2.2.2.2.2.1⟩)) hg hat)
          have n2_ := Aside0.mk (Kd.R_over' (by (with_reducible repeat (first | apply Kd.R_alloc | apply Kd.R_drewN | apply Kd.R_drew)); exact HO_464001.out) (Kd.N_typed (by (with_reducible repeat (first | apply Kd.N_alloc | apply Kd.N_drewN | apply Kd.N_drew)); exact HO_468002.out)) (by decide) hg)
          have n3_ := Aside0.mk (Kd.N_afterv (ok := (fun k_ => some k_ ≠ (.slice Ao22 t451.length co22 : Value).ownBlock ∧ some k_ ≠ (.slice Ao25 t454.length co25 : Value).ownBlock ∧ some k_ ≠ (.slice Ao27 t460.length co27 : Value).ownBlock ∧ some k_ ≠ (.slice Ao22 t451.length co22 : Value).ownBlock ∧ some k_ ≠ (.slice Ao25 t454.length co25 : Value).ownBlock ∧ some k_ ≠ (.slice Ao34 t464.length co34 : Value).ownBlock ∧ some k_ ≠ (.slice Ao54 t470.length co54 : Value).ownBlock ∧ k_ ≠ gb448 ∧ k_ ≠ gb463 ∧ k_ ≠ gb467 ∧ k_ ≠ gb469)) (by (with_reducible repeat (first | apply Kd.N_alloc | apply Kd.N_drewN | apply Kd.N_drew)); exact Kd.N_mono HO_464002.out (fun _ hk => ⟨⟨hk.1.1, ⟨hk.1.2.1, ⟨hk.1.2.2.1, ⟨hk.1.2.2.2.1, ⟨hk.1.2.2.2.2.1, ⟨hk.1.2.2.2.2.2.2.1, ⟨hk.2, ⟨hk.1.2.2.2.2.2.2.2.1, ⟨hk.1.2.2.2.2.2.2.2.2.1, ⟨hk.1.2.2.2.2.2.2.2.2.2.1, hk.1.2.2.2.2.2.2.2.2.2.2⟩⟩⟩⟩⟩⟩⟩⟩⟩⟩, hk.1.2.2.2.2.2.1⟩)) hg hat)
          have n4_ := Aside0.mk (Kd.N_afterv (ok := (fun k_ => some k_ ≠ (.slice (some ad468) t457.length co26 : Value).ownBlock ∧ some k_ ≠ (.slice Ao22 t451.length co22 : Value).ownBlock ∧ some k_ ≠ (.slice Ao25 t454.length co25 : Value).ownBlock ∧ some k_ ≠ (.slice (some ad468) t457.length co26 : Value).ownBlock ∧ some k_ ≠ (.slice Ao22 t451.length co22 : Value).ownBlock ∧ some k_ ≠ (.slice Ao25 t454.length co25 : Value).ownBlock ∧ some k_ ≠ (.slice Ao34 t464.length co34 : Value).ownBlock ∧ some k_ ≠ (.slice Ao54 t470.length co54 : Value).ownBlock ∧ k_ ≠ gb448 ∧ k_ ≠ gb463 ∧ k_ ≠ gb467 ∧ k_ ≠ gb469)) (by (with_reducible repeat (first | apply Kd.N_alloc | apply Kd.N_drewN | apply Kd.N_drew)); exact Kd.N_mono HO_464003.out (fun _ hk => ⟨⟨hk.1.1, ⟨hk.1.2.1, ⟨hk.1.2.2.1, ⟨hk.1.2.2.2.1, ⟨hk.1.2.2.2.2.1, ⟨hk.1.2.2.2.2.2.1, ⟨hk.1.2.2.2.2.2.2.2.1, ⟨hk.2, ⟨hk.1.2.2.2.2.2.2.2.2.1, ⟨hk.1.2.2.2.2.2.2.2.2.2.1, ⟨hk.1.2.2.2.2.2.2.2.2.2.2.1, hk.1.2.2.2.2.2.2.2.2.2.2.2⟩⟩⟩⟩⟩⟩⟩⟩⟩⟩⟩, hk.1.2.2.2.2.2.2.1⟩)) hg hat)
          have n5_ := Aside0.mk (Kd.N_afterv (ok := (fun k_ => some k_ ≠ (.slice (some ad468) t457.length co26 : Value).ownBlock ∧ some k_ ≠ (.slice Ao25 t454.length co25 : Value).ownBlock ∧ some k_ ≠ (.slice (some ad468) t457.length co26 : Value).ownBlock ∧ some k_ ≠ (.slice Ao27 t460.length co27 : Value).ownBlock ∧ some k_ ≠ (.slice Ao25 t454.length co25 : Value).ownBlock ∧ some k_ ≠ (.slice Ao34 t464.length co34 : Value).ownBlock ∧ some k_ ≠ (.slice Ao54 t470.length co54 : Value).ownBlock ∧ k_ ≠ gb448 ∧ k_ ≠ gb463 ∧ k_ ≠ gb467 ∧ k_ ≠ gb469)) (by (with_reducible repeat (first | apply Kd.N_alloc | apply Kd.N_drewN | apply Kd.N_drew)); exact Kd.N_mono HO_468000.out (fun _ hk => ⟨⟨hk.1.1, ⟨hk.1.2.1, ⟨hk.1.2.2.1, ⟨hk.1.2.2.2.1, ⟨hk.1.2.2.2.2.1, ⟨hk.1.2.2.2.2.2.2.1, ⟨hk.2, ⟨hk.1.2.2.2.2.2.2.2.1, ⟨hk.1.2.2.2.2.2.2.2.2.1, ⟨hk.1.2.2.2.2.2.2.2.2.2.1, hk.1.2.2.2.2.2.2.2.2.2.2⟩⟩⟩⟩⟩⟩⟩⟩⟩⟩, hk.1.2.2.2.2.2.1⟩)) hg hat)
          have n6_ := Aside0.mk (Kd.R_over' (by (with_reducible repeat (first | apply Kd.R_alloc | apply Kd.R_drewN | apply Kd.R_drew)); exact HO_468001.out) (Kd.N_typed (by (with_reducible repeat (first | apply Kd.N_alloc | apply Kd.N_drewN | apply Kd.N_drew)); exact HO_468002.out)) (by decide) hg)
          have n7_ := Aside0.mk (Kd.N_afterv (ok := (fun k_ => some k_ ≠ (.slice (some ad468) t457.length co26 : Value).ownBlock ∧ some k_ ≠ (.slice Ao22 t451.length co22 : Value).ownBlock ∧ some k_ ≠ (.slice Ao25 t454.length co25 : Value).ownBlock ∧ some k_ ≠ (.slice (some ad468) t457.length co26 : Value).ownBlock ∧ some k_ ≠ (.slice Ao27 t460.length co27 : Value).ownBlock ∧ some k_ ≠ (.slice Ao22 t451.length co22 : Value).ownBlock ∧ some k_ ≠ (.slice Ao25 t454.length co25 : Value).ownBlock ∧ some k_ ≠ (.slice Ao54 t470.length co54 : Value).ownBlock ∧ k_ ≠ gb448 ∧ k_ ≠ gb463 ∧ k_ ≠ gb467 ∧ k_ ≠ gb469)) (by (with_reducible repeat (first | apply Kd.N_alloc | apply Kd.N_drewN | apply Kd.N_drew)); exact Kd.N_mono HO_468003.out (fun _ hk => ⟨⟨hk.1.1, ⟨hk.1.2.1, ⟨hk.1.2.2.1, ⟨hk.1.2.2.2.1, ⟨hk.1.2.2.2.2.1, ⟨hk.1.2.2.2.2.2.1, ⟨hk.1.2.2.2.2.2.2.1, ⟨hk.2, ⟨hk.1.2.2.2.2.2.2.2.2.1, ⟨hk.1.2.2.2.2.2.2.2.2.2.1, ⟨hk.1.2.2.2.2.2.2.2.2.2.2.1, hk.1.2.2.2.2.2.2.2.2.2.2.2⟩⟩⟩⟩⟩⟩⟩⟩⟩⟩⟩, hk.1.2.2.2.2.2.2.2.1⟩)) hg hat)
          have n8_ := Aside0.mk (blk_grown (g := gb448) (o := .cells #[.slice A0_0 l0_0.length c0_0, .slice A0_1 l0_1.length c0_1, .slice A0_2 l0_2.length c0_2, .slice A0_3 l0_3.length c0_3] 43 (0, 0)) (by (with_reducible repeat (first | refine blk_drewN ?_ _ | refine blk_drew ?_ | refine blk_alloc ?_ _)); exact BK448.out) hg (Kd.N_ne HO_468002.out BK448.out (by decide)))
          have n9_ := Aside0.mk (blk_grown (g := gb463) (o := .cells #[.slice Ao22 t451.length co22, .slice Ao25 t454.length co25, .slice (some ad468) t457.length co26, .slice Ao27 t460.length co27] 50 (0, 0)) (by (with_reducible repeat (first | refine blk_drewN ?_ _ | refine blk_drew ?_ | refine blk_alloc ?_ _)); exact BK463.out) hg (Kd.N_ne HO_468002.out BK463.out (by decide)))
          have n10_ := Aside0.mk (blk_grown (g := gb467) (o := .cells #[.slice Ao22 t451.length co22, .slice Ao25 t454.length co25, u468002, .slice Ao34 t464.length co34] 50 (0, 0)) (by (with_reducible repeat (first | refine blk_drewN ?_ _ | refine blk_drew ?_ | refine blk_alloc ?_ _)); exact BK467.out) hg (Kd.N_ne HO_468002.out BK467.out (by decide)))
          have n11_ := Aside0.mk (Kd.V_afterv (ok := (fun k_ => some k_ ≠ (.slice (some ad468) t457.length co26 : Value).ownBlock ∧ some k_ ≠ (.slice Ao22 t451.length co22 : Value).ownBlock ∧ some k_ ≠ (.slice Ao25 t454.length co25 : Value).ownBlock ∧ some k_ ≠ (.slice Ao27 t460.length co27 : Value).ownBlock ∧ some k_ ≠ (.slice Ao22 t451.length co22 : Value).ownBlock ∧ some k_ ≠ (.slice Ao25 t454.length co25 : Value).ownBlock ∧ some k_ ≠ (.slice Ao34 t464.length co34 : Value).ownBlock ∧ some k_ ≠ (.slice Ao54 t470.length co54 : Value).ownBlock ∧ k_ ≠ gb448 ∧ k_ ≠ gb463 ∧ k_ ≠ gb467 ∧ k_ ≠ gb469)) (by (with_reducible repeat (first | apply Kd.V_alloc | apply Kd.V_drewN | apply Kd.V_drew)); exact Kd.V_mono HL468_1.out (fun _ hk => ⟨⟨hk.1.1, ⟨hk.1.2.1, ⟨hk.1.2.2.1, ⟨hk.1.2.2.2.1, ⟨hk.1.2.2.2.2.1, ⟨hk.1.2.2.2.2.2.1, ⟨hk.1.2.2.2.2.2.2.2.1, ⟨hk.2, ⟨hk.1.2.2.2.2.2.2.2.2.1, ⟨hk.1.2.2.2.2.2.2.2.2.2.1, ⟨hk.1.2.2.2.2.2.2.2.2.2.2.1, hk.1.2.2.2.2.2.2.2.2.2.2.2⟩⟩⟩⟩⟩⟩⟩⟩⟩⟩⟩, hk.1.2.2.2.2.2.2.1⟩)) hg hat)
          have n12_ := Aside0.mk (blk_grown (g := gb469) (o := .cells #[.string ((rd_T66 t457 x35_2).f0), .slice A468_1 ((rd_T66 t457 x35_2).f1).length c468_1] 66 (0, 0)) (by (with_reducible repeat (first | refine blk_drewN ?_ _ | refine blk_drew ?_ | refine blk_alloc ?_ _)); exact BK469.out) hg (Kd.N_away HO_468002.out (fun _ hk => hk.1.2.2.2.2.2.2.2.2.2.2.2)))
          have n13_ := Aside0.mk (hb)
          have n14_ := Aside0.mk (ho)
          clear HO_33
          clear HO_464000
          clear HO_464001
          clear HO_464002
          clear HO_464003
          clear HO_468000
          clear HO_468001
          clear HO_468003
          clear BK448
          clear BK463
          clear BK467
          clear HL468_1
          clear BK469
          clear HB
          clear HO_468002
          clear HO472
          have HO_33 := n0_
          have HO_464000 := n1_
          have HO_464001 := n2_
          have HO_464002 := n3_
          have HO_464003 := n4_
          have HO_468000 := n5_
          have HO_468001 := n6_
          have HO_468003 := n7_
          have BK448 := n8_
          have BK463 := n9_
          have BK467 := n10_
          have HL468_1 := n11_
          have BK469 := n12_
          have HB := n13_
          have HO475 := n14_
          clear n0_ n1_ n2_ n3_ n4_ n5_ n6_ n7_ n8_ n9_ n10_ n11_ n12_ n13_ n14_
          clear ho hb hg hat
          obtain ⟨Ao56, co56, eo56⟩ := Kd.N_slice HO475.out
          (first | subst eo56 | (injection eo56 with f1_ f2_ f3_; have f4_ := f1_.symm; have f5_ := f3_.symm; clear f1_ f2_ f3_; subst f4_; subst f5_))
          refine hK.out _ _ ⟨(blk_cell BK467.out 0).trans rfl, (blk_cell BK467.out 1).trans rfl, (blk_cell BK467.out 2).trans rfl, (blk_cell BK467.out 3).trans rfl, (blk_cell BK469.out 0).trans rfl, (blk_cell BK469.out 1).trans rfl⟩ (fun hHeld => ?_)
          clear hK K
          refine norm_ (a' := ?_) ?_ ?_
          rotate_left
          ·show Act.put _ (some 49) _ = _
           simp only [Act.put, List.setIfInBounds_toArray, List.set_cons_zero, List.set_cons_succ, i64_w, i32_w]
           rfl
          refine pure_ (i := 11) (N := some 50) (v := ?_) (a' := ?_) (flg 13 4095) rfl rfl (any_of HT_.out (by kernel_rfl)) (fun _ _ _ h => h) (Or.inl ⟨by rfl, ?_⟩) ?_ ?_; rotate_left; intro w'; go_simp; with_reducible rfl; rotate_left; (simp only [Act.put, pA_, pB_, pC_, i64_w, i32_w]; rfl)
          refine last_ (i := 12) (N := none) (flg 13 8191) rfl rfl (one_of HT_.out (by kernel_rfl)) (by decide) (fun K hK => ?_)
          have hs57 : w55.cell? ⟨gb467, 2, none⟩ = some (u468002) := (blk_cell BK467.out 2).trans rfl
          have hfs57 := blk_frozen BK467.out 2
          have hns57_0 := NB448_467.out
          have hns57_1 := NB463_467.out
          have hns57_3 := NB469_467.out
          have hms57_0 := NB467_448.out
          have hms57_1 := NB467_463.out
          have hms57_3 := NB467_469.out
          refine skip_ (w1 := ?_) (by rfl) rfl ?_ ?_
          rotate_left
          ·go_simp
           rfl
          refine hK.out _ _ ?_
          clear hK K
          refine done_ (done_of HT_.out (by kernel_rfl)) ?_
          try go_wp2
          go_roundg k2
          case measure => have := HJ2.out; have := HK2.out; omega
          case rel => exact ⟨(wrap64 (x35_2 + 1)), (y473), (.slice Ao56 y473.length co56), (by first | rfl | (simp; done) | (simp [*]; done)), H', ⟨by have := HJ2.out; have := HK2.out; omega⟩, ⟨by (with_reducible repeat (first | apply Kd.N_alloc | apply Kd.N_drewN | apply Kd.N_drew)); exact Kd.N_mono (Kd.N_far (p := ⟨gb467, 2, none⟩) (Kd.N_mono HO_33.out (fun k_ hk => (⟨hk, hk.1.2.2.2.2.2.2.2.2.2.1⟩ : _ ∧ k_ ≠ gb467))) (fun _ hk => hk.2) (.slice Ao56 y473.length co56)) (fun _ hk => ⟨hk.1.1.1, ⟨hk.1.1.2.1, ⟨hk.1.1.2.2.1, ⟨hk.1.1.2.2.2.1, ⟨hk.1.1.2.2.2.2.1, ⟨hk.1.2, ⟨hk.1.1.2.2.2.2.2.1, ⟨hk.1.1.2.2.2.2.2.2.2.1, ⟨hk.1.1.2.2.2.2.2.2.2.2.1, hk.1.1.2.2.2.2.2.2.2.2.2.1⟩⟩⟩⟩⟩⟩⟩⟩⟩)⟩, ⟨by (with_reducible repeat (first | apply Kd.N_alloc | apply Kd.N_drewN | apply Kd.N_drew)); exact Kd.N_mono (Kd.N_far (p := ⟨gb467, 2, none⟩) (Kd.N_mono HO_464000.out (fun k_ hk => (⟨hk, hk.1.2.2.2.2.2.2.2.2.2.1⟩ : _ ∧ k_ ≠ gb467))) (fun _ hk => hk.2) (.slice Ao56 y473.length co56)) (fun _ hk => ⟨hk.1.1.1, ⟨hk.1.1.2.1, ⟨hk.1.1.2.2.1, ⟨hk.1.1.2.2.2.1, ⟨hk.1.1.2.2.2.2.1, ⟨hk.1.2, ⟨hk.1.1.2.2.2.2.2.1, ⟨hk.1.1.2.2.2.2.2.2.2.1, ⟨hk.1.1.2.2.2.2.2.2.2.2.1, hk.1.1.2.2.2.2.2.2.2.2.2.1⟩⟩⟩⟩⟩⟩⟩⟩⟩)⟩, ⟨by (with_reducible repeat (first | apply Kd.R_alloc | apply Kd.R_drewN | apply Kd.R_drew)); exact Kd.R_mono (Kd.R_far (p := ⟨gb467, 2, none⟩) (Kd.R_types HO_464001.out BK467.out (by decide)) (fun _ hk => hk.2) (.slice Ao56 y473.length co56)) (fun _ hk => trivial)⟩, ⟨by (with_reducible repeat (first | apply Kd.N_alloc | apply Kd.N_drewN | apply Kd.N_drew)); exact Kd.N_mono (Kd.N_far (p := ⟨gb467, 2, none⟩) (Kd.N_mono HO_464002.out (fun k_ hk => (⟨hk, hk.1.2.2.2.2.2.2.2.2.2.1⟩ : _ ∧ k_ ≠ gb467))) (fun _ hk => hk.2) (.slice Ao56 y473.length co56)) (fun _ hk => ⟨hk.1.1.1, ⟨hk.1.1.2.1, ⟨hk.1.1.2.2.1, ⟨hk.1.1.2.2.2.1, ⟨hk.1.1.2.2.2.2.1, ⟨hk.1.2, ⟨hk.1.1.2.2.2.2.2.1, ⟨hk.1.1.2.2.2.2.2.2.2.1, ⟨hk.1.1.2.2.2.2.2.2.2.2.1, hk.1.1.2.2.2.2.2.2.2.2.2.1⟩⟩⟩⟩⟩⟩⟩⟩⟩)⟩, ⟨by (with_reducible repeat (first | apply Kd.N_alloc | apply Kd.N_drewN | apply Kd.N_drew)); exact Kd.N_mono (Kd.N_far (p := ⟨gb467, 2, none⟩) (Kd.N_mono HO_464003.out (fun k_ hk => (⟨hk, hk.1.2.2.2.2.2.2.2.2.2.2.1⟩ : _ ∧ k_ ≠ gb467))) (fun _ hk => hk.2) (.slice Ao56 y473.length co56)) (fun _ hk => ⟨hk.1.1.1, ⟨hk.1.1.2.1, ⟨hk.1.1.2.2.1, ⟨hk.1.1.2.2.2.1, ⟨hk.1.1.2.2.2.2.1, ⟨hk.1.1.2.2.2.2.2.1, ⟨hk.1.2, ⟨hk.1.1.2.2.2.2.2.2.1, ⟨hk.1.1.2.2.2.2.2.2.2.2.1, ⟨hk.1.1.2.2.2.2.2.2.2.2.2.1, hk.1.1.2.2.2.2.2.2.2.2.2.2.1⟩⟩⟩⟩⟩⟩⟩⟩⟩⟩)⟩, ⟨by (with_reducible repeat (first | apply Kd.N_alloc | apply Kd.N_drewN | apply Kd.N_drew)); exact Kd.N_mono (Kd.N_far (p := ⟨gb467, 2, none⟩) (Kd.N_mono HO_468000.out (fun k_ hk => (⟨hk, hk.1.2.2.2.2.2.2.2.2.2.1⟩ : _ ∧ k_ ≠ gb467))) (fun _ hk => hk.2) (.slice Ao56 y473.length co56)) (fun _ hk => ⟨hk.1.1.1, ⟨hk.1.1.2.1, ⟨hk.1.1.2.2.1, ⟨hk.1.1.2.2.2.1, ⟨hk.1.1.2.2.2.2.1, ⟨hk.1.2, ⟨hk.1.1.2.2.2.2.2.1, ⟨hk.1.1.2.2.2.2.2.2.2.1, ⟨hk.1.1.2.2.2.2.2.2.2.2.1, hk.1.1.2.2.2.2.2.2.2.2.2.1⟩⟩⟩⟩⟩⟩⟩⟩⟩)⟩, ⟨by (with_reducible repeat (first | apply Kd.R_alloc | apply Kd.R_drewN | apply Kd.R_drew)); exact Kd.R_mono (Kd.R_far (p := ⟨gb467, 2, none⟩) (Kd.R_types HO_468001.out BK467.out (by decide)) (fun _ hk => hk.2) (.slice Ao56 y473.length co56)) (fun _ hk => trivial)⟩, ⟨by (with_reducible repeat (first | apply Kd.N_alloc | apply Kd.N_drewN | apply Kd.N_drew)); exact Kd.N_mono (Kd.N_far (p := ⟨gb467, 2, none⟩) (Kd.N_mono HO475.out (fun k_ hk => (⟨hk, hk.2.2.2.2.2.2.2.2.2.2.1⟩ : _ ∧ k_ ≠ gb467))) (fun _ hk => hk.2) (.slice Ao56 y473.length co56)) (fun _ hk => ⟨hk.1.1, ⟨hk.1.2.1, ⟨hk.1.2.2.1, ⟨hk.1.2.2.2.1, ⟨hk.1.2.2.2.2.1, ⟨hk.1.2.2.2.2.2.1, ⟨hk.1.2.2.2.2.2.2.1, ⟨hk.1.2.2.2.2.2.2.2.1, ⟨hk.1.2.2.2.2.2.2.2.2.1, ⟨hk.1.2.2.2.2.2.2.2.2.2.1, hk.1.2.2.2.2.2.2.2.2.2.2.1⟩⟩⟩⟩⟩⟩⟩⟩⟩⟩)⟩, ⟨by (with_reducible repeat (first | apply Kd.N_alloc | apply Kd.N_drewN | apply Kd.N_drew)); exact Kd.N_mono (Kd.N_far (p := ⟨gb467, 2, none⟩) (Kd.N_mono HO_468003.out (fun k_ hk => (⟨hk, hk.1.2.2.2.2.2.2.2.2.2.2.1⟩ : _ ∧ k_ ≠ gb467))) (fun _ hk => hk.2) (.slice Ao56 y473.length co56)) (fun _ hk => ⟨hk.1.1.1, ⟨hk.1.1.2.1, ⟨hk.1.1.2.2.1, ⟨hk.1.1.2.2.2.1, ⟨hk.1.1.2.2.2.2.1, ⟨hk.1.1.2.2.2.2.2.1, ⟨hk.1.1.2.2.2.2.2.2.1, ⟨hk.1.2, ⟨hk.1.1.2.2.2.2.2.2.2.2.1, ⟨hk.1.1.2.2.2.2.2.2.2.2.2.1, hk.1.1.2.2.2.2.2.2.2.2.2.2.1⟩⟩⟩⟩⟩⟩⟩⟩⟩⟩)⟩, ⟨by (with_reducible repeat (first | refine blk_drewN ?_ _ | refine blk_drew ?_ | refine blk_alloc ?_ _)); refine blk_far ?_ NB448_467.out _; (with_reducible repeat (first | refine blk_drewN ?_ _ | refine blk_drew ?_ | refine blk_alloc ?_ _)); exact BK448.out⟩, ⟨by (with_reducible repeat (first | refine blk_drewN ?_ _ | refine blk_drew ?_ | refine blk_alloc ?_ _)); refine blk_far ?_ NB463_467.out _; (with_reducible repeat (first | refine blk_drewN ?_ _ | refine blk_drew ?_ | refine blk_alloc ?_ _)); exact BK463.out⟩, ⟨by (with_reducible repeat (first | refine blk_drewN ?_ _ | refine blk_drew ?_ | refine blk_alloc ?_ _)); refine blk_put (cs := #[.slice Ao22 t451.length co22, .slice Ao25 t454.length co25, u468002, .slice Ao34 t464.length co34]) ?_ 2 _ rfl; (with_reducible repeat (first | refine blk_drewN ?_ _ | refine blk_drew ?_ | refine blk_alloc ?_ _)); exact BK467.out⟩, ⟨by repeat (first | (with_reducible first | exact HB.out | apply below_alloc | apply pw_below_drewN | apply below_drew1 | refine below_set ?_ GE448.out | refine below_set ?_ GE463.out | refine below_set ?_ GE467.out | refine below_set ?_ GE469.out) | exact HB.out)⟩⟩
         ·rw [if_neg c45] at H
          exact absurd H (by simp)
        ·rw [if_neg c43] at H
         exact absurd H (by simp)
       ·rw [if_neg c42] at H
        exact absurd H (by simp)
      ·rw [if_neg c41] at H
       have c41b0 : decide (x35_2 < (t457.length : Int)) = false := decide_eq_false c41
       clear c41
       replace H := Option.bind_eq_some_iff.mp H
       obtain ⟨t476, A580, H⟩ := H
       replace H : (if t476 = true then ((tree_Same.f k2 t451 t454 t457 t460 t451 t454 x468002_2 t464).bind fun t477 => (if t477 = true then ((tree_Same.f k2 t451 t454 t457 t460 t451 t454 t457 t460).bind fun t478 => (if t478 = true then ((tree_Print.f t451 t454 t457 t460).bind fun t479 => ((tree_Print.f t451 t454 x468002_2 t464).bind fun t480 => (some (t479.toList == t480.toList)))) else (some false))) else (some false))) else (some false)) = some r := H
       have A58 := Aside0.mk A580
       clear A580
       by_cases c59 : t476 = true
       ·subst c59
        have H1 : ((tree_Same.f k2 t451 t454 t457 t460 t451 t454 x468002_2 t464).bind fun t477 => (if t477 = true then ((tree_Same.f k2 t451 t454 t457 t460 t451 t454 t457 t460).bind fun t478 => (if t478 = true then ((tree_Print.f t451 t454 t457 t460).bind fun t479 => ((tree_Print.f t451 t454 x468002_2 t464).bind fun t480 => (some (t479.toList == t480.toList)))) else (some false))) else (some false))) = some r := by rw [if_pos rfl] at H; exact H
        clear H
        have H := H1
        clear H1
        replace H := Option.bind_eq_some_iff.mp H
        obtain ⟨t477, A600, H⟩ := H
        replace H : (if t477 = true then ((tree_Same.f k2 t451 t454 t457 t460 t451 t454 t457 t460).bind fun t478 => (if t478 = true then ((tree_Print.f t451 t454 t457 t460).bind fun t479 => ((tree_Print.f t451 t454 x468002_2 t464).bind fun t480 => (some (t479.toList == t480.toList)))) else (some false))) else (some false)) = some r := H
        have A60 := Aside0.mk A600
        clear A600
        by_cases c61 : t477 = true
        ·subst c61
         have H1 : ((tree_Same.f k2 t451 t454 t457 t460 t451 t454 t457 t460).bind fun t478 => (if t478 = true then ((tree_Print.f t451 t454 t457 t460).bind fun t479 => ((tree_Print.f t451 t454 x468002_2 t464).bind fun t480 => (some (t479.toList == t480.toList)))) else (some false))) = some r := by rw [if_pos rfl] at H; exact H
         clear H
         have H := H1
         clear H1
         replace H := Option.bind_eq_some_iff.mp H
         obtain ⟨t478, A620, H⟩ := H
         replace H : (if t478 = true then ((tree_Print.f t451 t454 t457 t460).bind fun t479 => ((tree_Print.f t451 t454 x468002_2 t464).bind fun t480 => (some (t479.toList == t480.toList)))) else (some false)) = some r := H
         have A62 := Aside0.mk A620
         clear A620
         by_cases c63 : t478 = true
         ·subst c63
          have H1 : ((tree_Print.f t451 t454 t457 t460).bind fun t479 => ((tree_Print.f t451 t454 x468002_2 t464).bind fun t480 => (some (t479.toList == t480.toList)))) = some r := by rw [if_pos rfl] at H; exact H
          clear H
          have H := H1
          clear H1
          replace H := Option.bind_eq_some_iff.mp H
          obtain ⟨t479, A640, H⟩ := H
          replace H : ((tree_Print.f t451 t454 x468002_2 t464).bind fun t480 => (some (t479.toList == t480.toList))) = some r := H
          have A64 := Aside0.mk A640
          clear A640
          replace H := Option.bind_eq_some_iff.mp H
          obtain ⟨t480, A650, H⟩ := H
          replace H : (some (t479.toList == t480.toList)) = some r := H
          have A65 := Aside0.mk A650
          clear A650
          obtain rfl := Option.some.inj H
          try go_wp2
          have n0_ := Aside0.mk (Kd.N_drew HO_33.out)
          have n1_ := Aside0.mk (Kd.N_drew HO_464000.out)
          have n2_ := Aside0.mk (Kd.R_drew HO_464001.out)
          have n3_ := Aside0.mk (Kd.N_drew HO_464002.out)
          have n4_ := Aside0.mk (Kd.N_drew HO_464003.out)
          have n5_ := Aside0.mk (Kd.N_drew HO_468000.out)
          have n6_ := Aside0.mk (Kd.R_drew HO_468001.out)
          have n7_ := Aside0.mk (Kd.N_drew HO_468002.out)
          have n8_ := Aside0.mk (Kd.N_drew HO_468003.out)
          have n9_ := Aside0.mk (blk_drew BK448.out)
          have n10_ := Aside0.mk (blk_drew BK463.out)
          have n11_ := Aside0.mk (blk_drew BK467.out)
          have n12_ := Aside0.mk (below_drew1 HB.out)
          clear HO_33
          clear HO_464000
          clear HO_464001
          clear HO_464002
          clear HO_464003
          clear HO_468000
          clear HO_468001
          clear HO_468002
          clear HO_468003
          clear BK448
          clear BK463
          clear BK467
          clear HB
          have HO_33 := n0_
          have HO_464000 := n1_
          have HO_464001 := n2_
          have HO_464002 := n3_
          have HO_464003 := n4_
          have HO_468000 := n5_
          have HO_468001 := n6_
          have HO_468002 := n7_
          have HO_468003 := n8_
          have BK448 := n9_
          have BK463 := n10_
          have BK467 := n11_
          have HB := n12_
          clear n0_ n1_ n2_ n3_ n4_ n5_ n6_ n7_ n8_ n9_ n10_ n11_ n12_
          refine start_ (n := 19) (S := fun w' => w'.cell? ⟨gb463, 0, none⟩ = some (.slice Ao22 t451.length co22) ∧ w'.cell? ⟨gb463, 1, none⟩ = some (.slice Ao25 t454.length co25) ∧ w'.cell? ⟨gb463, 2, none⟩ = some (.slice Ao26 t457.length co26) ∧ w'.cell? ⟨gb463, 3, none⟩ = some (.slice Ao27 t460.length co27) ∧ w'.cell? ⟨gb467, 0, none⟩ = some (.slice Ao22 t451.length co22) ∧ w'.cell? ⟨gb467, 1, none⟩ = some (.slice Ao25 t454.length co25) ∧ w'.cell? ⟨gb467, 2, none⟩ = some (u468002) ∧ w'.cell? ⟨gb467, 3, none⟩ = some (.slice Ao34 t464.length co34)) (ds := []) (flg 19 0) (by kernel_rfl) rfl (by kernel_rfl) ⟨(blk_cell BK463.out 0).trans rfl, (blk_cell BK463.out 1).trans rfl, (blk_cell BK463.out 2).trans rfl, (blk_cell BK463.out 3).trans rfl, (blk_cell BK467.out 0).trans rfl, (blk_cell BK467.out 1).trans rfl, (blk_cell BK467.out 2).trans rfl, (blk_cell BK467.out 3).trans rfl⟩ (fun hHeld => ?_); refine with_tabW helmsmanlaw12_TreePlaces.tab10 helmsmanlaw12_TreePlaces.bits10 (fun HT_ HW_ => ?_)
          generalize wr.drew = w66 at HO_33 HO_464000 HO_464001 HO_464002 HO_464003 HO_468000 HO_468001 HO_468002 HO_468003 BK448 BK463 BK467 HB hHeld ⊢
          refine one_ (i := 0) (N := some 52) (flg 19 1) rfl rfl (one_of HT_.out (by kernel_rfl)) (by decide) (fun K hK => ?_)
          refine goes_ Tryd.func10 (by kernel_rfl) rfl #[] (by rfl) rfl rfl (by (try simp only [List.map_toArray, List.map_cons, List.map_nil]); first | done | rfl | (simp only [List.length_drop, List.length_take]; rfl)) ?_
          with_reducible refine (helmsmanlaw12_alive.calls  true _ ?side1 A58.out).mono ?_
          (case side1 => exact hT.later (by repeat (first | (with_reducible first | exact HB.out | apply below_alloc | apply pw_below_drewN | apply below_drew1 | refine below_set ?_ GE448.out | refine below_set ?_ GE463.out | refine below_set ?_ GE467.out) | exact HB.out)))
          rintro e w67 ⟨rfl, hb⟩
          refine ⟨_, rfl, ?_⟩
          have n0_ := Aside0.mk (Kd.N_below (by (with_reducible repeat (first | apply Kd.N_alloc | apply Kd.N_drewN | apply Kd.N_drew)); exact HO_33.out) hb)
          have n1_ := Aside0.mk (Kd.N_below (by (with_reducible repeat (first | apply Kd.N_alloc | apply Kd.N_drewN | apply Kd.N_drew)); exact HO_464000.out) hb)
          have n2_ := Aside0.mk (Kd.R_below (by (with_reducible repeat (first | apply Kd.R_alloc | apply Kd.R_drewN | apply Kd.R_drew)); exact HO_464001.out) hb)
          have n3_ := Aside0.mk (Kd.N_below (by (with_reducible repeat (first | apply Kd.N_alloc | apply Kd.N_drewN | apply Kd.N_drew)); exact HO_464002.out) hb)
          have n4_ := Aside0.mk (Kd.N_below (by (with_reducible repeat (first | apply Kd.N_alloc | apply Kd.N_drewN | apply Kd.N_drew)); exact HO_464003.out) hb)
          have n5_ := Aside0.mk (Kd.N_below (by (with_reducible repeat (first | apply Kd.N_alloc | apply Kd.N_drewN | apply Kd.N_drew)); exact HO_468000.out) hb)
          have n6_ := Aside0.mk (Kd.R_below (by (with_reducible repeat (first | apply Kd.R_alloc | apply Kd.R_drewN | apply Kd.R_drew)); exact HO_468001.out) hb)
          have n7_ := Aside0.mk (Kd.N_below (by (with_reducible repeat (first | apply Kd.N_alloc | apply Kd.N_drewN | apply Kd.N_drew)); exact HO_468002.out) hb)
          have n8_ := Aside0.mk (Kd.N_below (by (with_reducible repeat (first | apply Kd.N_alloc | apply Kd.N_drewN | apply Kd.N_drew)); exact HO_468003.out) hb)
          have n9_ := Aside0.mk (blk_below (g := gb448) (o := .cells #[.slice A0_0 l0_0.length c0_0, .slice A0_1 l0_1.length c0_1, .slice A0_2 l0_2.length c0_2, .slice A0_3 l0_3.length c0_3] 43 (0, 0)) (by (with_reducible repeat (first | refine blk_drewN ?_ _ | refine blk_drew ?_ | refine blk_alloc ?_ _)); exact BK448.out) hb)
          have n10_ := Aside0.mk (blk_below (g := gb463) (o := .cells #[.slice Ao22 t451.length co22, .slice Ao25 t454.length co25, .slice Ao26 t457.length co26, .slice Ao27 t460.length co27] 50 (0, 0)) (by (with_reducible repeat (first | refine blk_drewN ?_ _ | refine blk_drew ?_ | refine blk_alloc ?_ _)); exact BK463.out) hb)
          have n11_ := Aside0.mk (blk_below (g := gb467) (o := .cells #[.slice Ao22 t451.length co22, .slice Ao25 t454.length co25, u468002, .slice Ao34 t464.length co34] 50 (0, 0)) (by (with_reducible repeat (first | refine blk_drewN ?_ _ | refine blk_drew ?_ | refine blk_alloc ?_ _)); exact BK467.out) hb)
          have n12_ := Aside0.mk (below_step (by repeat (first | (with_reducible first | exact HB.out | apply below_alloc | apply pw_below_drewN | apply below_drew1 | refine below_set ?_ GE448.out | refine below_set ?_ GE463.out | refine below_set ?_ GE467.out) | exact HB.out)) hb)
          clear HO_33
          clear HO_464000
          clear HO_464001
          clear HO_464002
          clear HO_464003
          clear HO_468000
          clear HO_468001
          clear HO_468002
          clear HO_468003
          clear BK448
          clear BK463
          clear BK467
          clear HB
          have HO_33 := n0_
          have HO_464000 := n1_
          have HO_464001 := n2_
          have HO_464002 := n3_
          have HO_464003 := n4_
          have HO_468000 := n5_
          have HO_468001 := n6_
          have HO_468002 := n7_
          have HO_468003 := n8_
          have BK448 := n9_
          have BK463 := n10_
          have BK467 := n11_
          have HB := n12_
          clear n0_ n1_ n2_ n3_ n4_ n5_ n6_ n7_ n8_ n9_ n10_ n11_ n12_
          (try clear hb)
          (try clear hb2)
          (try clear hk)
          (try clear hi)
          obtain ⟨Ao68, co68, eo68⟩ := Kd.N_slice HO_468002.out
          (first | subst eo68 | (injection eo68 with f1_ f2_ f3_; have f4_ := f1_.symm; have f5_ := f3_.symm; clear f1_ f2_ f3_; subst f4_; subst f5_))
          refine hK.out _ _ ⟨(blk_cell BK463.out 0).trans rfl, (blk_cell BK463.out 1).trans rfl, (blk_cell BK463.out 2).trans rfl, (blk_cell BK463.out 3).trans rfl, (blk_cell BK467.out 0).trans rfl, (blk_cell BK467.out 1).trans rfl, (blk_cell BK467.out 2).trans rfl, (blk_cell BK467.out 3).trans rfl⟩ (fun hHeld => ?_)
          clear hK K
          refine norm_ (a' := ?_) ?_ ?_
          rotate_left
          ·show Act.put _ (some 52) _ = _
           simp only [Act.put, List.setIfInBounds_toArray, List.set_cons_zero, List.set_cons_succ, i64_w, i32_w]
           rfl
          refine pure_ (i := 1) (N := some 53) (v := ?_) (a' := ?_) (flg 19 3) rfl rfl (any_of HT_.out (by kernel_rfl)) (fun _ _ _ h => h) (Or.inl ⟨by rfl, ?_⟩) ?_ ?_; rotate_left; intro w'; go_simp; with_reducible rfl; rotate_left; (simp only [Act.put, pA_, pB_, pC_, i64_w, i32_w]; rfl)
          refine take_ (i := 2) (N := some 54) (v := ?_) (a' := ?_) (flg 19 7) rfl rfl (take_ofW HT_.out HW_.out (by kernel_rfl)) (fun _ _ _ h => h) (Or.inl ⟨by rfl, ?_⟩) hHeld ?_ ?_; rotate_left; rintro w' ⟨s0, s1, s2, s3, s4, s5, s6, s7⟩; go_simp; with_reducible rfl; rotate_left; (simp only [Act.put, pA_, pB_, pC_, i64_w, i32_w]; rfl)
          refine take_ (i := 3) (N := some 55) (v := ?_) (a' := ?_) (flg 19 15) rfl rfl (take_ofW HT_.out HW_.out (by kernel_rfl)) (fun _ _ _ h => h) (Or.inl ⟨by rfl, ?_⟩) hHeld ?_ ?_; rotate_left; rintro w' ⟨s0, s1, s2, s3, s4, s5, s6, s7⟩; go_simp; with_reducible rfl; rotate_left; (simp only [Act.put, pA_, pB_, pC_, i64_w, i32_w]; rfl)
          refine one_ (i := 4) (N := some 56) (flg 19 31) rfl rfl (one_of HT_.out (by kernel_rfl)) (by decide) (fun K hK => ?_)
          refine goes_ Tryd.func28 (by kernel_rfl) rfl #[.agg #[.slice Ao22 t451.length co22, .slice Ao25 t454.length co25, .slice Ao26 t457.length co26, .slice Ao27 t460.length co27], .agg #[.slice Ao22 t451.length co22, .slice Ao25 t454.length co25, .slice Ao68 x468002_2.length co68, .slice Ao34 t464.length co34]] (by rfl) rfl rfl (by (try simp only [List.map_toArray, List.map_cons, List.map_nil]); first | done | rfl | (simp only [List.length_drop, List.length_take]; rfl)) ?_
          with_reducible refine (tree_Same.calls k2 _ _ t451 _ _ t454 _ _ t457 _ _ t460 _ _ t451 _ _ t454 _ _ x468002_2 _ _ t464 true _ ?side1 ?side2 ?side3 ?side4 ?side5 ?side6 ?side7 ?side8 ?side9 ?side10 ?side11 ?side12 ?side13 ?side14 ?side15 ?side16 A60.out).mono ?_
          (case side1 => repeat (first | exact (Kd.N_reads' HO_464000.out).2.2 | (with_reducible refine Kd.C_alloc ?_ _) | (with_reducible refine Kd.C_drewN ?_ _) | (with_reducible refine Kd.C_drew ?_)))
          (case side2 => exact (Kd.N_reads' HO_464000.out).2.1)
          (case side3 => repeat (first | exact (Kd.R_reads' HO_464001.out).2.2 | (with_reducible refine Kd.C_alloc ?_ _) | (with_reducible refine Kd.C_drewN ?_ _) | (with_reducible refine Kd.C_drew ?_)))
          (case side4 => exact (Kd.R_reads' HO_464001.out).2.1)
          (case side5 => repeat (first | exact (Kd.N_reads' HO_464002.out).2.2 | (with_reducible refine Kd.C_alloc ?_ _) | (with_reducible refine Kd.C_drewN ?_ _) | (with_reducible refine Kd.C_drew ?_)))
          (case side6 => exact (Kd.N_reads' HO_464002.out).2.1)
          (case side7 => repeat (first | exact (Kd.N_reads' HO_464003.out).2.2 | (with_reducible refine Kd.C_alloc ?_ _) | (with_reducible refine Kd.C_drewN ?_ _) | (with_reducible refine Kd.C_drew ?_)))
          (case side8 => exact (Kd.N_reads' HO_464003.out).2.1)
          (case side9 => repeat (first | exact (Kd.N_reads' HO_468000.out).2.2 | (with_reducible refine Kd.C_alloc ?_ _) | (with_reducible refine Kd.C_drewN ?_ _) | (with_reducible refine Kd.C_drew ?_)))
          (case side10 => exact (Kd.N_reads' HO_468000.out).2.1)
          (case side11 => repeat (first | exact (Kd.R_reads' HO_468001.out).2.2 | (with_reducible refine Kd.C_alloc ?_ _) | (with_reducible refine Kd.C_drewN ?_ _) | (with_reducible refine Kd.C_drew ?_)))
          (case side12 => exact (Kd.R_reads' HO_468001.out).2.1)
          (case side13 => repeat (first | exact (Kd.N_reads' HO_468002.out).2.2 | (with_reducible refine Kd.C_alloc ?_ _) | (with_reducible refine Kd.C_drewN ?_ _) | (with_reducible refine Kd.C_drew ?_)))
          (case side14 => exact (Kd.N_reads' HO_468002.out).2.1)
          (case side15 => repeat (first | exact (Kd.N_reads' HO_468003.out).2.2 | (with_reducible refine Kd.C_alloc ?_ _) | (with_reducible refine Kd.C_drewN ?_ _) | (with_reducible refine Kd.C_drew ?_)))
          (case side16 => exact (Kd.N_reads' HO_468003.out).2.1)
          rintro e w69 ⟨rfl, hb⟩
          refine ⟨_, rfl, ?_⟩
          have n0_ := Aside0.mk (Kd.N_below (by (with_reducible repeat (first | apply Kd.N_alloc | apply Kd.N_drewN | apply Kd.N_drew)); exact HO_33.out) hb)
          have n1_ := Aside0.mk (Kd.N_below (by (with_reducible repeat (first | apply Kd.N_alloc | apply Kd.N_drewN | apply Kd.N_drew)); exact HO_464000.out) hb)
          have n2_ := Aside0.mk (Kd.R_below (by (with_reducible repeat (first | apply Kd.R_alloc | apply Kd.R_drewN | apply Kd.R_drew)); exact HO_464001.out) hb)
          have n3_ := Aside0.mk (Kd.N_below (by (with_reducible repeat (first | apply Kd.N_alloc | apply Kd.N_drewN | apply Kd.N_drew)); exact HO_464002.out) hb)
          have n4_ := Aside0.mk (Kd.N_below (by (with_reducible repeat (first | apply Kd.N_alloc | apply Kd.N_drewN | apply Kd.N_drew)); exact HO_464003.out) hb)
          have n5_ := Aside0.mk (Kd.N_below (by (with_reducible repeat (first | apply Kd.N_alloc | apply Kd.N_drewN | apply Kd.N_drew)); exact HO_468000.out) hb)
          have n6_ := Aside0.mk (Kd.R_below (by (with_reducible repeat (first | apply Kd.R_alloc | apply Kd.R_drewN | apply Kd.R_drew)); exact HO_468001.out) hb)
          have n7_ := Aside0.mk (Kd.N_below (by (with_reducible repeat (first | apply Kd.N_alloc | apply Kd.N_drewN | apply Kd.N_drew)); exact HO_468002.out) hb)
          have n8_ := Aside0.mk (Kd.N_below (by (with_reducible repeat (first | apply Kd.N_alloc | apply Kd.N_drewN | apply Kd.N_drew)); exact HO_468003.out) hb)
          have n9_ := Aside0.mk (blk_below (g := gb448) (o := .cells #[.slice A0_0 l0_0.length c0_0, .slice A0_1 l0_1.length c0_1, .slice A0_2 l0_2.length c0_2, .slice A0_3 l0_3.length c0_3] 43 (0, 0)) (by (with_reducible repeat (first | refine blk_drewN ?_ _ | refine blk_drew ?_ | refine blk_alloc ?_ _)); exact BK448.out) hb)
          have n10_ := Aside0.mk (blk_below (g := gb463) (o := .cells #[.slice Ao22 t451.length co22, .slice Ao25 t454.length co25, .slice Ao26 t457.length co26, .slice Ao27 t460.length co27] 50 (0, 0)) (by (with_reducible repeat (first | refine blk_drewN ?_ _ | refine blk_drew ?_ | refine blk_alloc ?_ _)); exact BK463.out) hb)
          have n11_ := Aside0.mk (blk_below (g := gb467) (o := .cells #[.slice Ao22 t451.length co22, .slice Ao25 t454.length co25, .slice Ao68 x468002_2.length co68, .slice Ao34 t464.length co34] 50 (0, 0)) (by (with_reducible repeat (first | refine blk_drewN ?_ _ | refine blk_drew ?_ | refine blk_alloc ?_ _)); exact BK467.out) hb)
          have n12_ := Aside0.mk (below_step (by repeat (first | (with_reducible first | exact HB.out | apply below_alloc | apply pw_below_drewN | apply below_drew1 | refine below_set ?_ GE448.out | refine below_set ?_ GE463.out | refine below_set ?_ GE467.out) | exact HB.out)) hb)
          clear HO_33
          clear HO_464000
          clear HO_464001
          clear HO_464002
          clear HO_464003
          clear HO_468000
          clear HO_468001
          clear HO_468002
          clear HO_468003
          clear BK448
          clear BK463
          clear BK467
          clear HB
          have HO_33 := n0_
          have HO_464000 := n1_
          have HO_464001 := n2_
          have HO_464002 := n3_
          have HO_464003 := n4_
          have HO_468000 := n5_
          have HO_468001 := n6_
          have HO_468002 := n7_
          have HO_468003 := n8_
          have BK448 := n9_
          have BK463 := n10_
          have BK467 := n11_
          have HB := n12_
          clear n0_ n1_ n2_ n3_ n4_ n5_ n6_ n7_ n8_ n9_ n10_ n11_ n12_
          (try clear hb)
          (try clear hb2)
          (try clear hk)
          (try clear hi)
          refine hK.out _ _ ⟨(blk_cell BK463.out 0).trans rfl, (blk_cell BK463.out 1).trans rfl, (blk_cell BK463.out 2).trans rfl, (blk_cell BK463.out 3).trans rfl, (blk_cell BK467.out 0).trans rfl, (blk_cell BK467.out 1).trans rfl, (blk_cell BK467.out 2).trans rfl, (blk_cell BK467.out 3).trans rfl⟩ (fun hHeld => ?_)
          clear hK K
          refine norm_ (a' := ?_) ?_ ?_
          rotate_left
          ·show Act.put _ (some 56) _ = _
           simp only [Act.put, List.setIfInBounds_toArray, List.set_cons_zero, List.set_cons_succ, i64_w, i32_w]
           rfl
          refine pure_ (i := 5) (N := some 57) (v := ?_) (a' := ?_) (flg 19 63) rfl rfl (any_of HT_.out (by kernel_rfl)) (fun _ _ _ h => h) (Or.inl ⟨by rfl, ?_⟩) ?_ ?_; rotate_left; intro w'; go_simp; with_reducible rfl; rotate_left; (simp only [Act.put, pA_, pB_, pC_, i64_w, i32_w]; rfl)
          refine pure_ (i := 6) (N := some 58) (v := ?_) (a' := ?_) (flg 19 127) rfl rfl (any_of HT_.out (by kernel_rfl)) (fun _ _ _ h => h) (Or.inl ⟨by rfl, ?_⟩) ?_ ?_; rotate_left; intro w'; go_simp; with_reducible rfl; rotate_left; (simp only [Act.put, pA_, pB_, pC_, i64_w, i32_w]; rfl)
          refine take_ (i := 7) (N := some 59) (v := ?_) (a' := ?_) (flg 19 255) rfl rfl (take_ofW HT_.out HW_.out (by kernel_rfl)) (fun _ _ _ h => h) (Or.inl ⟨by rfl, ?_⟩) hHeld ?_ ?_; rotate_left; rintro w' ⟨s0, s1, s2, s3, s4, s5, s6, s7⟩; go_simp; with_reducible rfl; rotate_left; (simp only [Act.put, pA_, pB_, pC_, i64_w, i32_w]; rfl)
          refine take_ (i := 8) (N := some 60) (v := ?_) (a' := ?_) (flg 19 511) rfl rfl (take_ofW HT_.out HW_.out (by kernel_rfl)) (fun _ _ _ h => h) (Or.inl ⟨by rfl, ?_⟩) hHeld ?_ ?_; rotate_left; rintro w' ⟨s0, s1, s2, s3, s4, s5, s6, s7⟩; go_simp; with_reducible rfl; rotate_left; (simp only [Act.put, pA_, pB_, pC_, i64_w, i32_w]; rfl)
          refine one_ (i := 9) (N := some 61) (flg 19 1023) rfl rfl (one_of HT_.out (by kernel_rfl)) (by decide) (fun K hK => ?_)
          refine goes_ Tryd.func28 (by kernel_rfl) rfl #[.agg #[.slice Ao22 t451.length co22, .slice Ao25 t454.length co25, .slice Ao26 t457.length co26, .slice Ao27 t460.length co27], .agg #[.slice Ao22 t451.length co22, .slice Ao25 t454.length co25, .slice Ao26 t457.length co26, .slice Ao27 t460.length co27]] (by rfl) rfl rfl (by (try simp only [List.map_toArray, List.map_cons, List.map_nil]); first | done | rfl | (simp only [List.length_drop, List.length_take]; rfl)) ?_
          with_reducible refine (tree_Same.calls k2 _ _ t451 _ _ t454 _ _ t457 _ _ t460 _ _ t451 _ _ t454 _ _ t457 _ _ t460 true _ ?side1 ?side2 ?side3 ?side4 ?side5 ?side6 ?side7 ?side8 ?side9 ?side10 ?side11 ?side12 ?side13 ?side14 ?side15 ?side16 A62.out).mono ?_
          (case side1 => repeat (first | exact (Kd.N_reads' HO_464000.out).2.2 | (with_reducible refine Kd.C_alloc ?_ _) | (with_reducible refine Kd.C_drewN ?_ _) | (with_reducible refine Kd.C_drew ?_)))
          (case side2 => exact (Kd.N_reads' HO_464000.out).2.1)
          (case side3 => repeat (first | exact (Kd.R_reads' HO_464001.out).2.2 | (with_reducible refine Kd.C_alloc ?_ _) | (with_reducible refine Kd.C_drewN ?_ _) | (with_reducible refine Kd.C_drew ?_)))
          (case side4 => exact (Kd.R_reads' HO_464001.out).2.1)
          (case side5 => repeat (first | exact (Kd.N_reads' HO_464002.out).2.2 | (with_reducible refine Kd.C_alloc ?_ _) | (with_reducible refine Kd.C_drewN ?_ _) | (with_reducible refine Kd.C_drew ?_)))
          (case side6 => exact (Kd.N_reads' HO_464002.out).2.1)
          (case side7 => repeat (first | exact (Kd.N_reads' HO_464003.out).2.2 | (with_reducible refine Kd.C_alloc ?_ _) | (with_reducible refine Kd.C_drewN ?_ _) | (with_reducible refine Kd.C_drew ?_)))
          (case side8 => exact (Kd.N_reads' HO_464003.out).2.1)
          (case side9 => repeat (first | exact (Kd.N_reads' HO_464000.out).2.2 | (with_reducible refine Kd.C_alloc ?_ _) | (with_reducible refine Kd.C_drewN ?_ _) | (with_reducible refine Kd.C_drew ?_)))
          (case side10 => exact (Kd.N_reads' HO_464000.out).2.1)
          (case side11 => repeat (first | exact (Kd.R_reads' HO_464001.out).2.2 | (with_reducible refine Kd.C_alloc ?_ _) | (with_reducible refine Kd.C_drewN ?_ _) | (with_reducible refine Kd.C_drew ?_)))
          (case side12 => exact (Kd.R_reads' HO_464001.out).2.1)
          (case side13 => repeat (first | exact (Kd.N_reads' HO_464002.out).2.2 | (with_reducible refine Kd.C_alloc ?_ _) | (with_reducible refine Kd.C_drewN ?_ _) | (with_reducible refine Kd.C_drew ?_)))
          (case side14 => exact (Kd.N_reads' HO_464002.out).2.1)
          (case side15 => repeat (first | exact (Kd.N_reads' HO_464003.out).2.2 | (with_reducible refine Kd.C_alloc ?_ _) | (with_reducible refine Kd.C_drewN ?_ _) | (with_reducible refine Kd.C_drew ?_)))
          (case side16 => exact (Kd.N_reads' HO_464003.out).2.1)
          rintro e w70 ⟨rfl, hb⟩
          refine ⟨_, rfl, ?_⟩
          have n0_ := Aside0.mk (Kd.N_below (by (with_reducible repeat (first | apply Kd.N_alloc | apply Kd.N_drewN | apply Kd.N_drew)); exact HO_33.out) hb)
          have n1_ := Aside0.mk (Kd.N_below (by (with_reducible repeat (first | apply Kd.N_alloc | apply Kd.N_drewN | apply Kd.N_drew)); exact HO_464000.out) hb)
          have n2_ := Aside0.mk (Kd.R_below (by (with_reducible repeat (first | apply Kd.R_alloc | apply Kd.R_drewN | apply Kd.R_drew)); exact HO_464001.out) hb)
          have n3_ := Aside0.mk (Kd.N_below (by (with_reducible repeat (first | apply Kd.N_alloc | apply Kd.N_drewN | apply Kd.N_drew)); exact HO_464002.out) hb)
          have n4_ := Aside0.mk (Kd.N_below (by (with_reducible repeat (first | apply Kd.N_alloc | apply Kd.N_drewN | apply Kd.N_drew)); exact HO_464003.out) hb)
          have n5_ := Aside0.mk (Kd.N_below (by (with_reducible repeat (first | apply Kd.N_alloc | apply Kd.N_drewN | apply Kd.N_drew)); exact HO_468000.out) hb)
          have n6_ := Aside0.mk (Kd.R_below (by (with_reducible repeat (first | apply Kd.R_alloc | apply Kd.R_drewN | apply Kd.R_drew)); exact HO_468001.out) hb)
          have n7_ := Aside0.mk (Kd.N_below (by (with_reducible repeat (first | apply Kd.N_alloc | apply Kd.N_drewN | apply Kd.N_drew)); exact HO_468002.out) hb)
          have n8_ := Aside0.mk (Kd.N_below (by (with_reducible repeat (first | apply Kd.N_alloc | apply Kd.N_drewN | apply Kd.N_drew)); exact HO_468003.out) hb)
          have n9_ := Aside0.mk (blk_below (g := gb448) (o := .cells #[.slice A0_0 l0_0.length c0_0, .slice A0_1 l0_1.length c0_1, .slice A0_2 l0_2.length c0_2, .slice A0_3 l0_3.length c0_3] 43 (0, 0)) (by (with_reducible repeat (first | refine blk_drewN ?_ _ | refine blk_drew ?_ | refine blk_alloc ?_ _)); exact BK448.out) hb)
          have n10_ := Aside0.mk (blk_below (g := gb463) (o := .cells #[.slice Ao22 t451.length co22, .slice Ao25 t454.length co25, .slice Ao26 t457.length co26, .slice Ao27 t460.length co27] 50 (0, 0)) (by (with_reducible repeat (first | refine blk_drewN ?_ _ | refine blk_drew ?_ | refine blk_alloc ?_ _)); exact BK463.out) hb)
          have n11_ := Aside0.mk (blk_below (g := gb467) (o := .cells #[.slice Ao22 t451.length co22, .slice Ao25 t454.length co25, .slice Ao68 x468002_2.length co68, .slice Ao34 t464.length co34] 50 (0, 0)) (by (with_reducible repeat (first | refine blk_drewN ?_ _ | refine blk_drew ?_ | refine blk_alloc ?_ _)); exact BK467.out) hb)
          have n12_ := Aside0.mk (below_step (by repeat (first | (with_reducible first | exact HB.out | apply below_alloc | apply pw_below_drewN | apply below_drew1 | refine below_set ?_ GE448.out | refine below_set ?_ GE463.out | refine below_set ?_ GE467.out) | exact HB.out)) hb)
          clear HO_33
          clear HO_464000
          clear HO_464001
          clear HO_464002
          clear HO_464003
          clear HO_468000
          clear HO_468001
          clear HO_468002
          clear HO_468003
          clear BK448
          clear BK463
          clear BK467
          clear HB
          have HO_33 := n0_
          have HO_464000 := n1_
          have HO_464001 := n2_
          have HO_464002 := n3_
          have HO_464003 := n4_
          have HO_468000 := n5_
          have HO_468001 := n6_
          have HO_468002 := n7_
          have HO_468003 := n8_
          have BK448 := n9_
          have BK463 := n10_
          have BK467 := n11_
          have HB := n12_
          clear n0_ n1_ n2_ n3_ n4_ n5_ n6_ n7_ n8_ n9_ n10_ n11_ n12_
          (try clear hb)
          (try clear hb2)
          (try clear hk)
          (try clear hi)
          refine hK.out _ _ ⟨(blk_cell BK463.out 0).trans rfl, (blk_cell BK463.out 1).trans rfl, (blk_cell BK463.out 2).trans rfl, (blk_cell BK463.out 3).trans rfl, (blk_cell BK467.out 0).trans rfl, (blk_cell BK467.out 1).trans rfl, (blk_cell BK467.out 2).trans rfl, (blk_cell BK467.out 3).trans rfl⟩ (fun hHeld => ?_)
          clear hK K
          refine norm_ (a' := ?_) ?_ ?_
          rotate_left
          ·show Act.put _ (some 61) _ = _
           simp only [Act.put, List.setIfInBounds_toArray, List.set_cons_zero, List.set_cons_succ, i64_w, i32_w]
           rfl
          refine pure_ (i := 10) (N := some 62) (v := ?_) (a' := ?_) (flg 19 2047) rfl rfl (any_of HT_.out (by kernel_rfl)) (fun _ _ _ h => h) (Or.inl ⟨by rfl, ?_⟩) ?_ ?_; rotate_left; intro w'; go_simp; with_reducible rfl; rotate_left; (simp only [Act.put, pA_, pB_, pC_, i64_w, i32_w]; rfl)
          refine pure_ (i := 11) (N := some 63) (v := ?_) (a' := ?_) (flg 19 4095) rfl rfl (any_of HT_.out (by kernel_rfl)) (fun _ _ _ h => h) (Or.inl ⟨by rfl, ?_⟩) ?_ ?_; rotate_left; intro w'; go_simp; with_reducible rfl; rotate_left; (simp only [Act.put, pA_, pB_, pC_, i64_w, i32_w]; rfl)
          refine take_ (i := 12) (N := some 64) (v := ?_) (a' := ?_) (flg 19 8191) rfl rfl (take_ofW HT_.out HW_.out (by kernel_rfl)) (fun _ _ _ h => h) (Or.inl ⟨by rfl, ?_⟩) hHeld ?_ ?_; rotate_left; rintro w' ⟨s0, s1, s2, s3, s4, s5, s6, s7⟩; go_simp; with_reducible rfl; rotate_left; (simp only [Act.put, pA_, pB_, pC_, i64_w, i32_w]; rfl)
          refine take_ (i := 14) (N := some 66) (v := ?_) (a' := ?_) (flg 19 24575) rfl rfl (take_ofW HT_.out HW_.out (by kernel_rfl)) (fun _ _ _ h => h) (Or.inl ⟨by rfl, ?_⟩) hHeld ?_ ?_; rotate_left; rintro w' ⟨s0, s1, s2, s3, s4, s5, s6, s7⟩; go_simp; with_reducible rfl; rotate_left; (simp only [Act.put, pA_, pB_, pC_, i64_w, i32_w]; rfl)
          refine one_ (i := 13) (N := some 65) (flg 19 32767) rfl rfl (one_of HT_.out (by kernel_rfl)) (by decide) (fun K hK => ?_)
          refine goes_ Tryd.func22 (by kernel_rfl) rfl #[.agg #[.slice Ao22 t451.length co22, .slice Ao25 t454.length co25, .slice Ao26 t457.length co26, .slice Ao27 t460.length co27]] (by rfl) rfl rfl (by (try simp only [List.map_toArray, List.map_cons, List.map_nil]); first | done | rfl | (simp only [List.length_drop, List.length_take]; rfl)) ?_
          with_reducible refine (tree_Print.calls _ _ t451 _ _ t454 _ _ t457 _ _ t460 t479 _ ?side1 ?side2 ?side3 ?side4 ?side5 ?side6 ?side7 ?side8 ?side9 A64.out).mono ?_
          (case side1 => exact hT.later (by repeat (first | (with_reducible first | exact HB.out | apply below_alloc | apply pw_below_drewN | apply below_drew1 | refine below_set ?_ GE448.out | refine below_set ?_ GE463.out | refine below_set ?_ GE467.out) | exact HB.out)))
          (case side2 => repeat (first | exact (Kd.N_reads' HO_464000.out).2.2 | (with_reducible refine Kd.C_alloc ?_ _) | (with_reducible refine Kd.C_drewN ?_ _) | (with_reducible refine Kd.C_drew ?_)))
          (case side3 => exact (Kd.N_reads' HO_464000.out).2.1)
          (case side4 => repeat (first | exact (Kd.R_reads' HO_464001.out).2.2 | (with_reducible refine Kd.C_alloc ?_ _) | (with_reducible refine Kd.C_drewN ?_ _) | (with_reducible refine Kd.C_drew ?_)))
          (case side5 => exact (Kd.R_reads' HO_464001.out).2.1)
          (case side6 => repeat (first | exact (Kd.N_reads' HO_464002.out).2.2 | (with_reducible refine Kd.C_alloc ?_ _) | (with_reducible refine Kd.C_drewN ?_ _) | (with_reducible refine Kd.C_drew ?_)))
          (case side7 => exact (Kd.N_reads' HO_464002.out).2.1)
          (case side8 => repeat (first | exact (Kd.N_reads' HO_464003.out).2.2 | (with_reducible refine Kd.C_alloc ?_ _) | (with_reducible refine Kd.C_drewN ?_ _) | (with_reducible refine Kd.C_drew ?_)))
          (case side9 => exact (Kd.N_reads' HO_464003.out).2.1)
          rintro e w71 ⟨rfl, hb⟩
          refine ⟨_, rfl, ?_⟩
          have n0_ := Aside0.mk (Kd.N_below (by (with_reducible repeat (first | apply Kd.N_alloc | apply Kd.N_drewN | apply Kd.N_drew)); exact HO_33.out) hb)
          have n1_ := Aside0.mk (Kd.N_below (by (with_reducible repeat (first | apply Kd.N_alloc | apply Kd.N_drewN | apply Kd.N_drew)); exact HO_464000.out) hb)
          have n2_ := Aside0.mk (Kd.R_below (by (with_reducible repeat (first | apply Kd.R_alloc | apply Kd.R_drewN | apply Kd.R_drew)); exact HO_464001.out) hb)
          have n3_ := Aside0.mk (Kd.N_below (by (with_reducible repeat (first | apply Kd.N_alloc | apply Kd.N_drewN | apply Kd.N_drew)); exact HO_464002.out) hb)
          have n4_ := Aside0.mk (Kd.N_below (by (with_reducible repeat (first | apply Kd.N_alloc | apply Kd.N_drewN | apply Kd.N_drew)); exact HO_464003.out) hb)
          have n5_ := Aside0.mk (Kd.N_below (by (with_reducible repeat (first | apply Kd.N_alloc | apply Kd.N_drewN | apply Kd.N_drew)); exact HO_468000.out) hb)
          have n6_ := Aside0.mk (Kd.R_below (by (with_reducible repeat (first | apply Kd.R_alloc | apply Kd.R_drewN | apply Kd.R_drew)); exact HO_468001.out) hb)
          have n7_ := Aside0.mk (Kd.N_below (by (with_reducible repeat (first | apply Kd.N_alloc | apply Kd.N_drewN | apply Kd.N_drew)); exact HO_468002.out) hb)
          have n8_ := Aside0.mk (Kd.N_below (by (with_reducible repeat (first | apply Kd.N_alloc | apply Kd.N_drewN | apply Kd.N_drew)); exact HO_468003.out) hb)
          have n9_ := Aside0.mk (blk_below (g := gb448) (o := .cells #[.slice A0_0 l0_0.length c0_0, .slice A0_1 l0_1.length c0_1, .slice A0_2 l0_2.length c0_2, .slice A0_3 l0_3.length c0_3] 43 (0, 0)) (by (with_reducible repeat (first | refine blk_drewN ?_ _ | refine blk_drew ?_ | refine blk_alloc ?_ _)); exact BK448.out) hb)
          have n10_ := Aside0.mk (blk_below (g := gb463) (o := .cells #[.slice Ao22 t451.length co22, .slice Ao25 t454.length co25, .slice Ao26 t457.length co26, .slice Ao27 t460.length co27] 50 (0, 0)) (by (with_reducible repeat (first | refine blk_drewN ?_ _ | refine blk_drew ?_ | refine blk_alloc ?_ _)); exact BK463.out) hb)
          have n11_ := Aside0.mk (blk_below (g := gb467) (o := .cells #[.slice Ao22 t451.length co22, .slice Ao25 t454.length co25, .slice Ao68 x468002_2.length co68, .slice Ao34 t464.length co34] 50 (0, 0)) (by (with_reducible repeat (first | refine blk_drewN ?_ _ | refine blk_drew ?_ | refine blk_alloc ?_ _)); exact BK467.out) hb)
          have n12_ := Aside0.mk (below_step (by repeat (first | (with_reducible first | exact HB.out | apply below_alloc | apply pw_below_drewN | apply below_drew1 | refine below_set ?_ GE448.out | refine below_set ?_ GE463.out | refine below_set ?_ GE467.out) | exact HB.out)) hb)
          clear HO_33
          clear HO_464000
          clear HO_464001
          clear HO_464002
          clear HO_464003
          clear HO_468000
          clear HO_468001
          clear HO_468002
          clear HO_468003
          clear BK448
          clear BK463
          clear BK467
          clear HB
          have HO_33 := n0_
          have HO_464000 := n1_
          have HO_464001 := n2_
          have HO_464002 := n3_
          have HO_464003 := n4_
          have HO_468000 := n5_
          have HO_468001 := n6_
          have HO_468002 := n7_
          have HO_468003 := n8_
          have BK448 := n9_
          have BK463 := n10_
          have BK467 := n11_
          have HB := n12_
          clear n0_ n1_ n2_ n3_ n4_ n5_ n6_ n7_ n8_ n9_ n10_ n11_ n12_
          (try clear hb)
          (try clear hb2)
          (try clear hk)
          (try clear hi)
          refine hK.out _ _ ⟨(blk_cell BK463.out 0).trans rfl, (blk_cell BK463.out 1).trans rfl, (blk_cell BK463.out 2).trans rfl, (blk_cell BK463.out 3).trans rfl, (blk_cell BK467.out 0).trans rfl, (blk_cell BK467.out 1).trans rfl, (blk_cell BK467.out 2).trans rfl, (blk_cell BK467.out 3).trans rfl⟩ (fun hHeld => ?_)
          clear hK K
          refine norm_ (a' := ?_) ?_ ?_
          rotate_left
          ·show Act.put _ (some 65) _ = _
           simp only [Act.put, List.setIfInBounds_toArray, List.set_cons_zero, List.set_cons_succ, i64_w, i32_w]
           rfl
          refine one_ (i := 15) (N := some 67) (flg 19 65535) rfl rfl (one_of HT_.out (by kernel_rfl)) (by decide) (fun K hK => ?_)
          refine goes_ Tryd.func22 (by kernel_rfl) rfl #[.agg #[.slice Ao22 t451.length co22, .slice Ao25 t454.length co25, .slice Ao68 x468002_2.length co68, .slice Ao34 t464.length co34]] (by rfl) rfl rfl (by (try simp only [List.map_toArray, List.map_cons, List.map_nil]); first | done | rfl | (simp only [List.length_drop, List.length_take]; rfl)) ?_
          with_reducible refine (tree_Print.calls _ _ t451 _ _ t454 _ _ x468002_2 _ _ t464 t480 _ ?side1 ?side2 ?side3 ?side4 ?side5 ?side6 ?side7 ?side8 ?side9 A65.out).mono ?_
          (case side1 => exact hT.later (by repeat (first | (with_reducible first | exact HB.out | apply below_alloc | apply pw_below_drewN | apply below_drew1 | refine below_set ?_ GE448.out | refine below_set ?_ GE463.out | refine below_set ?_ GE467.out) | exact HB.out)))
          (case side2 => repeat (first | exact (Kd.N_reads' HO_468000.out).2.2 | (with_reducible refine Kd.C_alloc ?_ _) | (with_reducible refine Kd.C_drewN ?_ _) | (with_reducible refine Kd.C_drew ?_)))
          (case side3 => exact (Kd.N_reads' HO_468000.out).2.1)
          (case side4 => repeat (first | exact (Kd.R_reads' HO_468001.out).2.2 | (with_reducible refine Kd.C_alloc ?_ _) | (with_reducible refine Kd.C_drewN ?_ _) | (with_reducible refine Kd.C_drew ?_)))
          (case side5 => exact (Kd.R_reads' HO_468001.out).2.1)
          (case side6 => repeat (first | exact (Kd.N_reads' HO_468002.out).2.2 | (with_reducible refine Kd.C_alloc ?_ _) | (with_reducible refine Kd.C_drewN ?_ _) | (with_reducible refine Kd.C_drew ?_)))
          (case side7 => exact (Kd.N_reads' HO_468002.out).2.1)
          (case side8 => repeat (first | exact (Kd.N_reads' HO_468003.out).2.2 | (with_reducible refine Kd.C_alloc ?_ _) | (with_reducible refine Kd.C_drewN ?_ _) | (with_reducible refine Kd.C_drew ?_)))
          (case side9 => exact (Kd.N_reads' HO_468003.out).2.1)
          rintro e w72 ⟨rfl, hb⟩
          refine ⟨_, rfl, ?_⟩
          have n0_ := Aside0.mk (Kd.N_below (by (with_reducible repeat (first | apply Kd.N_alloc | apply Kd.N_drewN | apply Kd.N_drew)); exact HO_33.out) hb)
          have n1_ := Aside0.mk (Kd.N_below (by (with_reducible repeat (first | apply Kd.N_alloc | apply Kd.N_drewN | apply Kd.N_drew)); exact HO_464000.out) hb)
          have n2_ := Aside0.mk (Kd.R_below (by (with_reducible repeat (first | apply Kd.R_alloc | apply Kd.R_drewN | apply Kd.R_drew)); exact HO_464001.out) hb)
          have n3_ := Aside0.mk (Kd.N_below (by (with_reducible repeat (first | apply Kd.N_alloc | apply Kd.N_drewN | apply Kd.N_drew)); exact HO_464002.out) hb)
          have n4_ := Aside0.mk (Kd.N_below (by (with_reducible repeat (first | apply Kd.N_alloc | apply Kd.N_drewN | apply Kd.N_drew)); exact HO_464003.out) hb)
          have n5_ := Aside0.mk (Kd.N_below (by (with_reducible repeat (first | apply Kd.N_alloc | apply Kd.N_drewN | apply Kd.N_drew)); exact HO_468000.out) hb)
          have n6_ := Aside0.mk (Kd.R_below (by (with_reducible repeat (first | apply Kd.R_alloc | apply Kd.R_drewN | apply Kd.R_drew)); exact HO_468001.out) hb)
          have n7_ := Aside0.mk (Kd.N_below (by (with_reducible repeat (first | apply Kd.N_alloc | apply Kd.N_drewN | apply Kd.N_drew)); exact HO_468002.out) hb)
          have n8_ := Aside0.mk (Kd.N_below (by (with_reducible repeat (first | apply Kd.N_alloc | apply Kd.N_drewN | apply Kd.N_drew)); exact HO_468003.out) hb)
          have n9_ := Aside0.mk (blk_below (g := gb448) (o := .cells #[.slice A0_0 l0_0.length c0_0, .slice A0_1 l0_1.length c0_1, .slice A0_2 l0_2.length c0_2, .slice A0_3 l0_3.length c0_3] 43 (0, 0)) (by (with_reducible repeat (first | refine blk_drewN ?_ _ | refine blk_drew ?_ | refine blk_alloc ?_ _)); exact BK448.out) hb)
          have n10_ := Aside0.mk (blk_below (g := gb463) (o := .cells #[.slice Ao22 t451.length co22, .slice Ao25 t454.length co25, .slice Ao26 t457.length co26, .slice Ao27 t460.length co27] 50 (0, 0)) (by (with_reducible repeat (first | refine blk_drewN ?_ _ | refine blk_drew ?_ | refine blk_alloc ?_ _)); exact BK463.out) hb)
          have n11_ := Aside0.mk (blk_below (g := gb467) (o := .cells #[.slice Ao22 t451.length co22, .slice Ao25 t454.length co25, .slice Ao68 x468002_2.length co68, .slice Ao34 t464.length co34] 50 (0, 0)) (by (with_reducible repeat (first | refine blk_drewN ?_ _ | refine blk_drew ?_ | refine blk_alloc ?_ _)); exact BK467.out) hb)
          have n12_ := Aside0.mk (below_step (by repeat (first | (with_reducible first | exact HB.out | apply below_alloc | apply pw_below_drewN | apply below_drew1 | refine below_set ?_ GE448.out | refine below_set ?_ GE463.out | refine below_set ?_ GE467.out) | exact HB.out)) hb)
          clear HO_33
          clear HO_464000
          clear HO_464001
          clear HO_464002
          clear HO_464003
          clear HO_468000
          clear HO_468001
          clear HO_468002
          clear HO_468003
          clear BK448
          clear BK463
          clear BK467
          clear HB
          have HO_33 := n0_
          have HO_464000 := n1_
          have HO_464001 := n2_
          have HO_464002 := n3_
          have HO_464003 := n4_
          have HO_468000 := n5_
          have HO_468001 := n6_
          have HO_468002 := n7_
          have HO_468003 := n8_
          have BK448 := n9_
          have BK463 := n10_
          have BK467 := n11_
          have HB := n12_
          clear n0_ n1_ n2_ n3_ n4_ n5_ n6_ n7_ n8_ n9_ n10_ n11_ n12_
          (try clear hb)
          (try clear hb2)
          (try clear hk)
          (try clear hi)
          refine hK.out _ _ ⟨(blk_cell BK463.out 0).trans rfl, (blk_cell BK463.out 1).trans rfl, (blk_cell BK463.out 2).trans rfl, (blk_cell BK463.out 3).trans rfl, (blk_cell BK467.out 0).trans rfl, (blk_cell BK467.out 1).trans rfl, (blk_cell BK467.out 2).trans rfl, (blk_cell BK467.out 3).trans rfl⟩ (fun hHeld => ?_)
          clear hK K
          refine norm_ (a' := ?_) ?_ ?_
          rotate_left
          ·show Act.put _ (some 67) _ = _
           simp only [Act.put, List.setIfInBounds_toArray, List.set_cons_zero, List.set_cons_succ, i64_w, i32_w]
           rfl
          refine pure_ (i := 16) (N := some 68) (v := ?_) (a' := ?_) (flg 19 131071) rfl rfl (any_of HT_.out (by kernel_rfl)) (fun _ _ _ h => h) (Or.inl ⟨by rfl, ?_⟩) ?_ ?_; rotate_left; intro w'; go_simp; with_reducible rfl; rotate_left; (simp only [Act.put, pA_, pB_, pC_, i64_w, i32_w]; rfl)
          refine pure_ (i := 17) (N := some 69) (v := ?_) (a' := ?_) (flg 19 262143) rfl rfl (any_of HT_.out (by kernel_rfl)) (fun _ _ _ h => h) (Or.inl ⟨by rfl, ?_⟩) ?_ ?_; rotate_left; intro w'; go_simp; with_reducible rfl; rotate_left; (simp only [Act.put, pA_, pB_, pC_, i64_w, i32_w]; rfl)
          refine pure_ (i := 18) (N := some 4) (v := ?_) (a' := ?_) (flg 19 524287) rfl rfl (any_of HT_.out (by kernel_rfl)) (fun _ _ _ h => h) (Or.inl ⟨by rfl, ?_⟩) ?_ ?_; rotate_left; intro w'; go_simp; with_reducible rfl; rotate_left; (simp only [Act.put, pA_, pB_, pC_, i64_w, i32_w]; rfl)
          refine done_ (done_of HT_.out (by kernel_rfl)) ?_
          try go_wp2
          go_ret
          exact ⟨by first | rfl | (simp [errW_none, errW_some] <;> rfl) | (simp [*, errW_none, errW_some] <;> rfl), by repeat (first | (with_reducible first | exact HB.out | apply below_alloc | apply pw_below_drewN | apply below_drew1 | refine below_set ?_ GE448.out | refine below_set ?_ GE463.out | refine below_set ?_ GE467.out) | exact HB.out)⟩
         ·replace c63 := Bool.eq_false_iff.mpr c63
          subst c63
          have H1 : (some false) = some r := by rw [if_neg (show ¬ (false = true) by decide)] at H; exact H
          clear H
          have H := H1
          clear H1
          obtain rfl := Option.some.inj H
          try go_wp2
          have n0_ := Aside0.mk (Kd.N_drew HO_33.out)
          have n1_ := Aside0.mk (Kd.N_drew HO_464000.out)
          have n2_ := Aside0.mk (Kd.R_drew HO_464001.out)
          have n3_ := Aside0.mk (Kd.N_drew HO_464002.out)
          have n4_ := Aside0.mk (Kd.N_drew HO_464003.out)
          have n5_ := Aside0.mk (Kd.N_drew HO_468000.out)
          have n6_ := Aside0.mk (Kd.R_drew HO_468001.out)
          have n7_ := Aside0.mk (Kd.N_drew HO_468002.out)
          have n8_ := Aside0.mk (Kd.N_drew HO_468003.out)
          have n9_ := Aside0.mk (blk_drew BK448.out)
          have n10_ := Aside0.mk (blk_drew BK463.out)
          have n11_ := Aside0.mk (blk_drew BK467.out)
          have n12_ := Aside0.mk (below_drew1 HB.out)
          clear HO_33
          clear HO_464000
          clear HO_464001
          clear HO_464002
          clear HO_464003
          clear HO_468000
          clear HO_468001
          clear HO_468002
          clear HO_468003
          clear BK448
          clear BK463
          clear BK467
          clear HB
          have HO_33 := n0_
          have HO_464000 := n1_
          have HO_464001 := n2_
          have HO_464002 := n3_
          have HO_464003 := n4_
          have HO_468000 := n5_
          have HO_468001 := n6_
          have HO_468002 := n7_
          have HO_468003 := n8_
          have BK448 := n9_
          have BK463 := n10_
          have BK467 := n11_
          have HB := n12_
          clear n0_ n1_ n2_ n3_ n4_ n5_ n6_ n7_ n8_ n9_ n10_ n11_ n12_
          refine start_ (n := 19) (S := fun w' => w'.cell? ⟨gb463, 0, none⟩ = some (.slice Ao22 t451.length co22) ∧ w'.cell? ⟨gb463, 1, none⟩ = some (.slice Ao25 t454.length co25) ∧ w'.cell? ⟨gb463, 2, none⟩ = some (.slice Ao26 t457.length co26) ∧ w'.cell? ⟨gb463, 3, none⟩ = some (.slice Ao27 t460.length co27) ∧ w'.cell? ⟨gb467, 0, none⟩ = some (.slice Ao22 t451.length co22) ∧ w'.cell? ⟨gb467, 1, none⟩ = some (.slice Ao25 t454.length co25) ∧ w'.cell? ⟨gb467, 2, none⟩ = some (u468002) ∧ w'.cell? ⟨gb467, 3, none⟩ = some (.slice Ao34 t464.length co34)) (ds := []) (flg 19 0) (by kernel_rfl) rfl (by kernel_rfl) ⟨(blk_cell BK463.out 0).trans rfl, (blk_cell BK463.out 1).trans rfl, (blk_cell BK463.out 2).trans rfl, (blk_cell BK463.out 3).trans rfl, (blk_cell BK467.out 0).trans rfl, (blk_cell BK467.out 1).trans rfl, (blk_cell BK467.out 2).trans rfl, (blk_cell BK467.out 3).trans rfl⟩ (fun hHeld => ?_); refine with_tabW helmsmanlaw12_TreePlaces.tab10 helmsmanlaw12_TreePlaces.bits10 (fun HT_ HW_ => ?_)
          generalize wr.drew = w73 at HO_33 HO_464000 HO_464001 HO_464002 HO_464003 HO_468000 HO_468001 HO_468002 HO_468003 BK448 BK463 BK467 HB hHeld ⊢
          refine one_ (i := 0) (N := some 52) (flg 19 1) rfl rfl (one_of HT_.out (by kernel_rfl)) (by decide) (fun K hK => ?_)
          refine goes_ Tryd.func10 (by kernel_rfl) rfl #[] (by rfl) rfl rfl (by (try simp only [List.map_toArray, List.map_cons, List.map_nil]); first | done | rfl | (simp only [List.length_drop, List.length_take]; rfl)) ?_
          with_reducible refine (helmsmanlaw12_alive.calls  true _ ?side1 A58.out).mono ?_
          (case side1 => exact hT.later (by repeat (first | (with_reducible first | exact HB.out | apply below_alloc | apply pw_below_drewN | apply below_drew1 | refine below_set ?_ GE448.out | refine below_set ?_ GE463.out | refine below_set ?_ GE467.out) | exact HB.out)))
          rintro e w74 ⟨rfl, hb⟩
          refine ⟨_, rfl, ?_⟩
          have n0_ := Aside0.mk (Kd.N_below (by (with_reducible repeat (first | apply Kd.N_alloc | apply Kd.N_drewN | apply Kd.N_drew)); exact HO_33.out) hb)
          have n1_ := Aside0.mk (Kd.N_below (by (with_reducible repeat (first | apply Kd.N_alloc | apply Kd.N_drewN | apply Kd.N_drew)); exact HO_464000.out) hb)
          have n2_ := Aside0.mk (Kd.R_below (by (with_reducible repeat (first | apply Kd.R_alloc | apply Kd.R_drewN | apply Kd.R_drew)); exact HO_464001.out) hb)
          have n3_ := Aside0.mk (Kd.N_below (by (with_reducible repeat (first | apply Kd.N_alloc | apply Kd.N_drewN | apply Kd.N_drew)); exact HO_464002.out) hb)
          have n4_ := Aside0.mk (Kd.N_below (by (with_reducible repeat (first | apply Kd.N_alloc | apply Kd.N_drewN | apply Kd.N_drew)); exact HO_464003.out) hb)
          have n5_ := Aside0.mk (Kd.N_below (by (with_reducible repeat (first | apply Kd.N_alloc | apply Kd.N_drewN | apply Kd.N_drew)); exact HO_468000.out) hb)
          have n6_ := Aside0.mk (Kd.R_below (by (with_reducible repeat (first | apply Kd.R_alloc | apply Kd.R_drewN | apply Kd.R_drew)); exact HO_468001.out) hb)
          have n7_ := Aside0.mk (Kd.N_below (by (with_reducible repeat (first | apply Kd.N_alloc | apply Kd.N_drewN | apply Kd.N_drew)); exact HO_468002.out) hb)
          have n8_ := Aside0.mk (Kd.N_below (by (with_reducible repeat (first | apply Kd.N_alloc | apply Kd.N_drewN | apply Kd.N_drew)); exact HO_468003.out) hb)
          have n9_ := Aside0.mk (blk_below (g := gb448) (o := .cells #[.slice A0_0 l0_0.length c0_0, .slice A0_1 l0_1.length c0_1, .slice A0_2 l0_2.length c0_2, .slice A0_3 l0_3.length c0_3] 43 (0, 0)) (by (with_reducible repeat (first | refine blk_drewN ?_ _ | refine blk_drew ?_ | refine blk_alloc ?_ _)); exact BK448.out) hb)
          have n10_ := Aside0.mk (blk_below (g := gb463) (o := .cells #[.slice Ao22 t451.length co22, .slice Ao25 t454.length co25, .slice Ao26 t457.length co26, .slice Ao27 t460.length co27] 50 (0, 0)) (by (with_reducible repeat (first | refine blk_drewN ?_ _ | refine blk_drew ?_ | refine blk_alloc ?_ _)); exact BK463.out) hb)
          have n11_ := Aside0.mk (blk_below (g := gb467) (o := .cells #[.slice Ao22 t451.length co22, .slice Ao25 t454.length co25, u468002, .slice Ao34 t464.length co34] 50 (0, 0)) (by (with_reducible repeat (first | refine blk_drewN ?_ _ | refine blk_drew ?_ | refine blk_alloc ?_ _)); exact BK467.out) hb)
          have n12_ := Aside0.mk (below_step (by repeat (first | (with_reducible first | exact HB.out | apply below_alloc | apply pw_below_drewN | apply below_drew1 | refine below_set ?_ GE448.out | refine below_set ?_ GE463.out | refine below_set ?_ GE467.out) | exact HB.out)) hb)
          clear HO_33
          clear HO_464000
          clear HO_464001
          clear HO_464002
          clear HO_464003
          clear HO_468000
          clear HO_468001
          clear HO_468002
          clear HO_468003
          clear BK448
          clear BK463
          clear BK467
          clear HB
          have HO_33 := n0_
          have HO_464000 := n1_
          have HO_464001 := n2_
          have HO_464002 := n3_
          have HO_464003 := n4_
          have HO_468000 := n5_
          have HO_468001 := n6_
          have HO_468002 := n7_
          have HO_468003 := n8_
          have BK448 := n9_
          have BK463 := n10_
          have BK467 := n11_
          have HB := n12_
          clear n0_ n1_ n2_ n3_ n4_ n5_ n6_ n7_ n8_ n9_ n10_ n11_ n12_
          (try clear hb)
          (try clear hb2)
          (try clear hk)
          (try clear hi)
          obtain ⟨Ao75, co75, eo75⟩ := Kd.N_slice HO_468002.out
          (first | subst eo75 | (injection eo75 with f1_ f2_ f3_; have f4_ := f1_.symm; have f5_ := f3_.symm; clear f1_ f2_ f3_; subst f4_; subst f5_))
          refine hK.out _ _ ⟨(blk_cell BK463.out 0).trans rfl, (blk_cell BK463.out 1).trans rfl, (blk_cell BK463.out 2).trans rfl, (blk_cell BK463.out 3).trans rfl, (blk_cell BK467.out 0).trans rfl, (blk_cell BK467.out 1).trans rfl, (blk_cell BK467.out 2).trans rfl, (blk_cell BK467.out 3).trans rfl⟩ (fun hHeld => ?_)
          clear hK K
          refine norm_ (a' := ?_) ?_ ?_
          rotate_left
          ·show Act.put _ (some 52) _ = _
           simp only [Act.put, List.setIfInBounds_toArray, List.set_cons_zero, List.set_cons_succ, i64_w, i32_w]
           rfl
          refine pure_ (i := 1) (N := some 53) (v := ?_) (a' := ?_) (flg 19 3) rfl rfl (any_of HT_.out (by kernel_rfl)) (fun _ _ _ h => h) (Or.inl ⟨by rfl, ?_⟩) ?_ ?_; rotate_left; intro w'; go_simp; with_reducible rfl; rotate_left; (simp only [Act.put, pA_, pB_, pC_, i64_w, i32_w]; rfl)
          refine take_ (i := 2) (N := some 54) (v := ?_) (a' := ?_) (flg 19 7) rfl rfl (take_ofW HT_.out HW_.out (by kernel_rfl)) (fun _ _ _ h => h) (Or.inl ⟨by rfl, ?_⟩) hHeld ?_ ?_; rotate_left; rintro w' ⟨s0, s1, s2, s3, s4, s5, s6, s7⟩; go_simp; with_reducible rfl; rotate_left; (simp only [Act.put, pA_, pB_, pC_, i64_w, i32_w]; rfl)
          refine take_ (i := 3) (N := some 55) (v := ?_) (a' := ?_) (flg 19 15) rfl rfl (take_ofW HT_.out HW_.out (by kernel_rfl)) (fun _ _ _ h => h) (Or.inl ⟨by rfl, ?_⟩) hHeld ?_ ?_; rotate_left; rintro w' ⟨s0, s1, s2, s3, s4, s5, s6, s7⟩; go_simp; with_reducible rfl; rotate_left; (simp only [Act.put, pA_, pB_, pC_, i64_w, i32_w]; rfl)
          refine one_ (i := 4) (N := some 56) (flg 19 31) rfl rfl (one_of HT_.out (by kernel_rfl)) (by decide) (fun K hK => ?_)
          refine goes_ Tryd.func28 (by kernel_rfl) rfl #[.agg #[.slice Ao22 t451.length co22, .slice Ao25 t454.length co25, .slice Ao26 t457.length co26, .slice Ao27 t460.length co27], .agg #[.slice Ao22 t451.length co22, .slice Ao25 t454.length co25, .slice Ao75 x468002_2.length co75, .slice Ao34 t464.length co34]] (by rfl) rfl rfl (by (try simp only [List.map_toArray, List.map_cons, List.map_nil]); first | done | rfl | (simp only [List.length_drop, List.length_take]; rfl)) ?_
          with_reducible refine (tree_Same.calls k2 _ _ t451 _ _ t454 _ _ t457 _ _ t460 _ _ t451 _ _ t454 _ _ x468002_2 _ _ t464 true _ ?side1 ?side2 ?side3 ?side4 ?side5 ?side6 ?side7 ?side8 ?side9 ?side10 ?side11 ?side12 ?side13 ?side14 ?side15 ?side16 A60.out).mono ?_
          (case side1 => repeat (first | exact (Kd.N_reads' HO_464000.out).2.2 | (with_reducible refine Kd.C_alloc ?_ _) | (with_reducible refine Kd.C_drewN ?_ _) | (with_reducible refine Kd.C_drew ?_)))
          (case side2 => exact (Kd.N_reads' HO_464000.out).2.1)
          (case side3 => repeat (first | exact (Kd.R_reads' HO_464001.out).2.2 | (with_reducible refine Kd.C_alloc ?_ _) | (with_reducible refine Kd.C_drewN ?_ _) | (with_reducible refine Kd.C_drew ?_)))
          (case side4 => exact (Kd.R_reads' HO_464001.out).2.1)
          (case side5 => repeat (first | exact (Kd.N_reads' HO_464002.out).2.2 | (with_reducible refine Kd.C_alloc ?_ _) | (with_reducible refine Kd.C_drewN ?_ _) | (with_reducible refine Kd.C_drew ?_)))
          (case side6 => exact (Kd.N_reads' HO_464002.out).2.1)
          (case side7 => repeat (first | exact (Kd.N_reads' HO_464003.out).2.2 | (with_reducible refine Kd.C_alloc ?_ _) | (with_reducible refine Kd.C_drewN ?_ _) | (with_reducible refine Kd.C_drew ?_)))
          (case side8 => exact (Kd.N_reads' HO_464003.out).2.1)
          (case side9 => repeat (first | exact (Kd.N_reads' HO_468000.out).2.2 | (with_reducible refine Kd.C_alloc ?_ _) | (with_reducible refine Kd.C_drewN ?_ _) | (with_reducible refine Kd.C_drew ?_)))
          (case side10 => exact (Kd.N_reads' HO_468000.out).2.1)
          (case side11 => repeat (first | exact (Kd.R_reads' HO_468001.out).2.2 | (with_reducible refine Kd.C_alloc ?_ _) | (with_reducible refine Kd.C_drewN ?_ _) | (with_reducible refine Kd.C_drew ?_)))
          (case side12 => exact (Kd.R_reads' HO_468001.out).2.1)
          (case side13 => repeat (first | exact (Kd.N_reads' HO_468002.out).2.2 | (with_reducible refine Kd.C_alloc ?_ _) | (with_reducible refine Kd.C_drewN ?_ _) | (with_reducible refine Kd.C_drew ?_)))
          (case side14 => exact (Kd.N_reads' HO_468002.out).2.1)
          (case side15 => repeat (first | exact (Kd.N_reads' HO_468003.out).2.2 | (with_reducible refine Kd.C_alloc ?_ _) | (with_reducible refine Kd.C_drewN ?_ _) | (with_reducible refine Kd.C_drew ?_)))
          (case side16 => exact (Kd.N_reads' HO_468003.out).2.1)
          rintro e w76 ⟨rfl, hb⟩
          refine ⟨_, rfl, ?_⟩
          have n0_ := Aside0.mk (Kd.N_below (by (with_reducible repeat (first | apply Kd.N_alloc | apply Kd.N_drewN | apply Kd.N_drew)); exact HO_33.out) hb)
          have n1_ := Aside0.mk (Kd.N_below (by (with_reducible repeat (first | apply Kd.N_alloc | apply Kd.N_drewN | apply Kd.N_drew)); exact HO_464000.out) hb)
          have n2_ := Aside0.mk (Kd.R_below (by (with_reducible repeat (first | apply Kd.R_alloc | apply Kd.R_drewN | apply Kd.R_drew)); exact HO_464001.out) hb)
          have n3_ := Aside0.mk (Kd.N_below (by (with_reducible repeat (first | apply Kd.N_alloc | apply Kd.N_drewN | apply Kd.N_drew)); exact HO_464002.out) hb)
          have n4_ := Aside0.mk (Kd.N_below (by (with_reducible repeat (first | apply Kd.N_alloc | apply Kd.N_drewN | apply Kd.N_drew)); exact HO_464003.out) hb)
          have n5_ := Aside0.mk (Kd.N_below (by (with_reducible repeat (first | apply Kd.N_alloc | apply Kd.N_drewN | apply Kd.N_drew)); exact HO_468000.out) hb)
          have n6_ := Aside0.mk (Kd.R_below (by (with_reducible repeat (first | apply Kd.R_alloc | apply Kd.R_drewN | apply Kd.R_drew)); exact HO_468001.out) hb)
          have n7_ := Aside0.mk (Kd.N_below (by (with_reducible repeat (first | apply Kd.N_alloc | apply Kd.N_drewN | apply Kd.N_drew)); exact HO_468002.out) hb)
          have n8_ := Aside0.mk (Kd.N_below (by (with_reducible repeat (first | apply Kd.N_alloc | apply Kd.N_drewN | apply Kd.N_drew)); exact HO_468003.out) hb)
          have n9_ := Aside0.mk (blk_below (g := gb448) (o := .cells #[.slice A0_0 l0_0.length c0_0, .slice A0_1 l0_1.length c0_1, .slice A0_2 l0_2.length c0_2, .slice A0_3 l0_3.length c0_3] 43 (0, 0)) (by (with_reducible repeat (first | refine blk_drewN ?_ _ | refine blk_drew ?_ | refine blk_alloc ?_ _)); exact BK448.out) hb)
          have n10_ := Aside0.mk (blk_below (g := gb463) (o := .cells #[.slice Ao22 t451.length co22, .slice Ao25 t454.length co25, .slice Ao26 t457.length co26, .slice Ao27 t460.length co27] 50 (0, 0)) (by (with_reducible repeat (first | refine blk_drewN ?_ _ | refine blk_drew ?_ | refine blk_alloc ?_ _)); exact BK463.out) hb)
          have n11_ := Aside0.mk (blk_below (g := gb467) (o := .cells #[.slice Ao22 t451.length co22, .slice Ao25 t454.length co25, .slice Ao75 x468002_2.length co75, .slice Ao34 t464.length co34] 50 (0, 0)) (by (with_reducible repeat (first | refine blk_drewN ?_ _ | refine blk_drew ?_ | refine blk_alloc ?_ _)); exact BK467.out) hb)
          have n12_ := Aside0.mk (below_step (by repeat (first | (with_reducible first | exact HB.out | apply below_alloc | apply pw_below_drewN | apply below_drew1 | refine below_set ?_ GE448.out | refine below_set ?_ GE463.out | refine below_set ?_ GE467.out) | exact HB.out)) hb)
          clear HO_33
          clear HO_464000
          clear HO_464001
          clear HO_464002
          clear HO_464003
          clear HO_468000
          clear HO_468001
          clear HO_468002
          clear HO_468003
          clear BK448
          clear BK463
          clear BK467
          clear HB
          have HO_33 := n0_
          have HO_464000 := n1_
          have HO_464001 := n2_
          have HO_464002 := n3_
          have HO_464003 := n4_
          have HO_468000 := n5_
          have HO_468001 := n6_
          have HO_468002 := n7_
          have HO_468003 := n8_
          have BK448 := n9_
          have BK463 := n10_
          have BK467 := n11_
          have HB := n12_
          clear n0_ n1_ n2_ n3_ n4_ n5_ n6_ n7_ n8_ n9_ n10_ n11_ n12_
          (try clear hb)
          (try clear hb2)
          (try clear hk)
          (try clear hi)
          refine hK.out _ _ ⟨(blk_cell BK463.out 0).trans rfl, (blk_cell BK463.out 1).trans rfl, (blk_cell BK463.out 2).trans rfl, (blk_cell BK463.out 3).trans rfl, (blk_cell BK467.out 0).trans rfl, (blk_cell BK467.out 1).trans rfl, (blk_cell BK467.out 2).trans rfl, (blk_cell BK467.out 3).trans rfl⟩ (fun hHeld => ?_)
          clear hK K
          refine norm_ (a' := ?_) ?_ ?_
          rotate_left
          ·show Act.put _ (some 56) _ = _
           simp only [Act.put, List.setIfInBounds_toArray, List.set_cons_zero, List.set_cons_succ, i64_w, i32_w]
           rfl
          refine pure_ (i := 5) (N := some 57) (v := ?_) (a' := ?_) (flg 19 63) rfl rfl (any_of HT_.out (by kernel_rfl)) (fun _ _ _ h => h) (Or.inl ⟨by rfl, ?_⟩) ?_ ?_; rotate_left; intro w'; go_simp; with_reducible rfl; rotate_left; (simp only [Act.put, pA_, pB_, pC_, i64_w, i32_w]; rfl)
          refine pure_ (i := 6) (N := some 58) (v := ?_) (a' := ?_) (flg 19 127) rfl rfl (any_of HT_.out (by kernel_rfl)) (fun _ _ _ h => h) (Or.inl ⟨by rfl, ?_⟩) ?_ ?_; rotate_left; intro w'; go_simp; with_reducible rfl; rotate_left; (simp only [Act.put, pA_, pB_, pC_, i64_w, i32_w]; rfl)
          refine take_ (i := 7) (N := some 59) (v := ?_) (a' := ?_) (flg 19 255) rfl rfl (take_ofW HT_.out HW_.out (by kernel_rfl)) (fun _ _ _ h => h) (Or.inl ⟨by rfl, ?_⟩) hHeld ?_ ?_; rotate_left; rintro w' ⟨s0, s1, s2, s3, s4, s5, s6, s7⟩; go_simp; with_reducible rfl; rotate_left; (simp only [Act.put, pA_, pB_, pC_, i64_w, i32_w]; rfl)
          refine take_ (i := 8) (N := some 60) (v := ?_) (a' := ?_) (flg 19 511) rfl rfl (take_ofW HT_.out HW_.out (by kernel_rfl)) (fun _ _ _ h => h) (Or.inl ⟨by rfl, ?_⟩) hHeld ?_ ?_; rotate_left; rintro w' ⟨s0, s1, s2, s3, s4, s5, s6, s7⟩; go_simp; with_reducible rfl; rotate_left; (simp only [Act.put, pA_, pB_, pC_, i64_w, i32_w]; rfl)
          refine one_ (i := 9) (N := some 61) (flg 19 1023) rfl rfl (one_of HT_.out (by kernel_rfl)) (by decide) (fun K hK => ?_)
          refine goes_ Tryd.func28 (by kernel_rfl) rfl #[.agg #[.slice Ao22 t451.length co22, .slice Ao25 t454.length co25, .slice Ao26 t457.length co26, .slice Ao27 t460.length co27], .agg #[.slice Ao22 t451.length co22, .slice Ao25 t454.length co25, .slice Ao26 t457.length co26, .slice Ao27 t460.length co27]] (by rfl) rfl rfl (by (try simp only [List.map_toArray, List.map_cons, List.map_nil]); first | done | rfl | (simp only [List.length_drop, List.length_take]; rfl)) ?_
          with_reducible refine (tree_Same.calls k2 _ _ t451 _ _ t454 _ _ t457 _ _ t460 _ _ t451 _ _ t454 _ _ t457 _ _ t460 false _ ?side1 ?side2 ?side3 ?side4 ?side5 ?side6 ?side7 ?side8 ?side9 ?side10 ?side11 ?side12 ?side13 ?side14 ?side15 ?side16 A62.out).mono ?_
          (case side1 => repeat (first | exact (Kd.N_reads' HO_464000.out).2.2 | (with_reducible refine Kd.C_alloc ?_ _) | (with_reducible refine Kd.C_drewN ?_ _) | (with_reducible refine Kd.C_drew ?_)))
          (case side2 => exact (Kd.N_reads' HO_464000.out).2.1)
          (case side3 => repeat (first | exact (Kd.R_reads' HO_464001.out).2.2 | (with_reducible refine Kd.C_alloc ?_ _) | (with_reducible refine Kd.C_drewN ?_ _) | (with_reducible refine Kd.C_drew ?_)))
          (case side4 => exact (Kd.R_reads' HO_464001.out).2.1)
          (case side5 => repeat (first | exact (Kd.N_reads' HO_464002.out).2.2 | (with_reducible refine Kd.C_alloc ?_ _) | (with_reducible refine Kd.C_drewN ?_ _) | (with_reducible refine Kd.C_drew ?_)))
          (case side6 => exact (Kd.N_reads' HO_464002.out).2.1)
          (case side7 => repeat (first | exact (Kd.N_reads' HO_464003.out).2.2 | (with_reducible refine Kd.C_alloc ?_ _) | (with_reducible refine Kd.C_drewN ?_ _) | (with_reducible refine Kd.C_drew ?_)))
          (case side8 => exact (Kd.N_reads' HO_464003.out).2.1)
          (case side9 => repeat (first | exact (Kd.N_reads' HO_464000.out).2.2 | (with_reducible refine Kd.C_alloc ?_ _) | (with_reducible refine Kd.C_drewN ?_ _) | (with_reducible refine Kd.C_drew ?_)))
          (case side10 => exact (Kd.N_reads' HO_464000.out).2.1)
          (case side11 => repeat (first | exact (Kd.R_reads' HO_464001.out).2.2 | (with_reducible refine Kd.C_alloc ?_ _) | (with_reducible refine Kd.C_drewN ?_ _) | (with_reducible refine Kd.C_drew ?_)))
          (case side12 => exact (Kd.R_reads' HO_464001.out).2.1)
          (case side13 => repeat (first | exact (Kd.N_reads' HO_464002.out).2.2 | (with_reducible refine Kd.C_alloc ?_ _) | (with_reducible refine Kd.C_drewN ?_ _) | (with_reducible refine Kd.C_drew ?_)))
          (case side14 => exact (Kd.N_reads' HO_464002.out).2.1)
          (case side15 => repeat (first | exact (Kd.N_reads' HO_464003.out).2.2 | (with_reducible refine Kd.C_alloc ?_ _) | (with_reducible refine Kd.C_drewN ?_ _) | (with_reducible refine Kd.C_drew ?_)))
          (case side16 => exact (Kd.N_reads' HO_464003.out).2.1)
          rintro e w77 ⟨rfl, hb⟩
          refine ⟨_, rfl, ?_⟩
          have n0_ := Aside0.mk (Kd.N_below (by (with_reducible repeat (first | apply Kd.N_alloc | apply Kd.N_drewN | apply Kd.N_drew)); exact HO_33.out) hb)
          have n1_ := Aside0.mk (Kd.N_below (by (with_reducible repeat (first | apply Kd.N_alloc | apply Kd.N_drewN | apply Kd.N_drew)); exact HO_464000.out) hb)
          have n2_ := Aside0.mk (Kd.R_below (by (with_reducible repeat (first | apply Kd.R_alloc | apply Kd.R_drewN | apply Kd.R_drew)); exact HO_464001.out) hb)
          have n3_ := Aside0.mk (Kd.N_below (by (with_reducible repeat (first | apply Kd.N_alloc | apply Kd.N_drewN | apply Kd.N_drew)); exact HO_464002.out) hb)
          have n4_ := Aside0.mk (Kd.N_below (by (with_reducible repeat (first | apply Kd.N_alloc | apply Kd.N_drewN | apply Kd.N_drew)); exact HO_464003.out) hb)
          have n5_ := Aside0.mk (Kd.N_below (by (with_reducible repeat (first | apply Kd.N_alloc | apply Kd.N_drewN | apply Kd.N_drew)); exact HO_468000.out) hb)
          have n6_ := Aside0.mk (Kd.R_below (by (with_reducible repeat (first | apply Kd.R_alloc | apply Kd.R_drewN | apply Kd.R_drew)); exact HO_468001.out) hb)
          have n7_ := Aside0.mk (Kd.N_below (by (with_reducible repeat (first | apply Kd.N_alloc | apply Kd.N_drewN | apply Kd.N_drew)); exact HO_468002.out) hb)
          have n8_ := Aside0.mk (Kd.N_below (by (with_reducible repeat (first | apply Kd.N_alloc | apply Kd.N_drewN | apply Kd.N_drew)); exact HO_468003.out) hb)
          have n9_ := Aside0.mk (blk_below (g := gb448) (o := .cells #[.slice A0_0 l0_0.length c0_0, .slice A0_1 l0_1.length c0_1, .slice A0_2 l0_2.length c0_2, .slice A0_3 l0_3.length c0_3] 43 (0, 0)) (by (with_reducible repeat (first | refine blk_drewN ?_ _ | refine blk_drew ?_ | refine blk_alloc ?_ _)); exact BK448.out) hb)
          have n10_ := Aside0.mk (blk_below (g := gb463) (o := .cells #[.slice Ao22 t451.length co22, .slice Ao25 t454.length co25, .slice Ao26 t457.length co26, .slice Ao27 t460.length co27] 50 (0, 0)) (by (with_reducible repeat (first | refine blk_drewN ?_ _ | refine blk_drew ?_ | refine blk_alloc ?_ _)); exact BK463.out) hb)
          have n11_ := Aside0.mk (blk_below (g := gb467) (o := .cells #[.slice Ao22 t451.length co22, .slice Ao25 t454.length co25, .slice Ao75 x468002_2.length co75, .slice Ao34 t464.length co34] 50 (0, 0)) (by (with_reducible repeat (first | refine blk_drewN ?_ _ | refine blk_drew ?_ | refine blk_alloc ?_ _)); exact BK467.out) hb)
          have n12_ := Aside0.mk (below_step (by repeat (first | (with_reducible first | exact HB.out | apply below_alloc | apply pw_below_drewN | apply below_drew1 | refine below_set ?_ GE448.out | refine below_set ?_ GE463.out | refine below_set ?_ GE467.out) | exact HB.out)) hb)
          clear HO_33
          clear HO_464000
          clear HO_464001
          clear HO_464002
          clear HO_464003
          clear HO_468000
          clear HO_468001
          clear HO_468002
          clear HO_468003
          clear BK448
          clear BK463
          clear BK467
          clear HB
          have HO_33 := n0_
          have HO_464000 := n1_
          have HO_464001 := n2_
          have HO_464002 := n3_
          have HO_464003 := n4_
          have HO_468000 := n5_
          have HO_468001 := n6_
          have HO_468002 := n7_
          have HO_468003 := n8_
          have BK448 := n9_
          have BK463 := n10_
          have BK467 := n11_
          have HB := n12_
          clear n0_ n1_ n2_ n3_ n4_ n5_ n6_ n7_ n8_ n9_ n10_ n11_ n12_
          (try clear hb)
          (try clear hb2)
          (try clear hk)
          (try clear hi)
          refine hK.out _ _ ⟨(blk_cell BK463.out 0).trans rfl, (blk_cell BK463.out 1).trans rfl, (blk_cell BK463.out 2).trans rfl, (blk_cell BK463.out 3).trans rfl, (blk_cell BK467.out 0).trans rfl, (blk_cell BK467.out 1).trans rfl, (blk_cell BK467.out 2).trans rfl, (blk_cell BK467.out 3).trans rfl⟩ (fun hHeld => ?_)
          clear hK K
          refine norm_ (a' := ?_) ?_ ?_
          rotate_left
          ·show Act.put _ (some 61) _ = _
           simp only [Act.put, List.setIfInBounds_toArray, List.set_cons_zero, List.set_cons_succ, i64_w, i32_w]
           rfl
          refine pure_ (i := 10) (N := some 62) (v := ?_) (a' := ?_) (flg 19 2047) rfl rfl (any_of HT_.out (by kernel_rfl)) (fun _ _ _ h => h) (Or.inl ⟨by rfl, ?_⟩) ?_ ?_; rotate_left; intro w'; go_simp; with_reducible rfl; rotate_left; (simp only [Act.put, pA_, pB_, pC_, i64_w, i32_w]; rfl)
          refine pure_ (i := 11) (N := some 63) (v := ?_) (a' := ?_) (flg 19 4095) rfl rfl (any_of HT_.out (by kernel_rfl)) (fun _ _ _ h => h) (Or.inl ⟨by rfl, ?_⟩) ?_ ?_; rotate_left; intro w'; go_simp; with_reducible rfl; rotate_left; (simp only [Act.put, pA_, pB_, pC_, i64_w, i32_w]; rfl)
          refine skp_ (a' := ?_) 12 64 (flg 19 8191) rfl rfl (any_of HT_.out (by kernel_rfl)) (fun _ _ _ h => h) (by rfl) ?_ ?_; rotate_left; (simp only [Act.put, pA_, pB_, pC_, i64_w, i32_w]; rfl)
          refine skp_ (a' := ?_) 13 65 (flg 19 16383) rfl rfl (any_of HT_.out (by kernel_rfl)) (fun _ _ _ h => h) (by rfl) ?_ ?_; rotate_left; (simp only [Act.put, pA_, pB_, pC_, i64_w, i32_w]; rfl)
          refine skp_ (a' := ?_) 14 66 (flg 19 32767) rfl rfl (any_of HT_.out (by kernel_rfl)) (fun _ _ _ h => h) (by rfl) ?_ ?_; rotate_left; (simp only [Act.put, pA_, pB_, pC_, i64_w, i32_w]; rfl)
          refine skp_ (a' := ?_) 15 67 (flg 19 65535) rfl rfl (any_of HT_.out (by kernel_rfl)) (fun _ _ _ h => h) (by rfl) ?_ ?_; rotate_left; (simp only [Act.put, pA_, pB_, pC_, i64_w, i32_w]; rfl)
          refine skp_ (a' := ?_) 16 68 (flg 19 131071) rfl rfl (any_of HT_.out (by kernel_rfl)) (fun _ _ _ h => h) (by rfl) ?_ ?_; rotate_left; (simp only [Act.put, pA_, pB_, pC_, i64_w, i32_w]; rfl)
          refine pure_ (i := 17) (N := some 69) (v := ?_) (a' := ?_) (flg 19 262143) rfl rfl (any_of HT_.out (by kernel_rfl)) (fun _ _ _ h => h) (Or.inl ⟨by rfl, ?_⟩) ?_ ?_; rotate_left; intro w'; go_simp; with_reducible rfl; rotate_left; (simp only [Act.put, pA_, pB_, pC_, i64_w, i32_w]; rfl)
          refine pure_ (i := 18) (N := some 4) (v := ?_) (a' := ?_) (flg 19 524287) rfl rfl (any_of HT_.out (by kernel_rfl)) (fun _ _ _ h => h) (Or.inl ⟨by rfl, ?_⟩) ?_ ?_; rotate_left; intro w'; go_simp; with_reducible rfl; rotate_left; (simp only [Act.put, pA_, pB_, pC_, i64_w, i32_w]; rfl)
          refine done_ (done_of HT_.out (by kernel_rfl)) ?_
          try go_wp2
          go_ret
          exact ⟨by first | rfl | (simp [errW_none, errW_some] <;> rfl) | (simp [*, errW_none, errW_some] <;> rfl), by repeat (first | (with_reducible first | exact HB.out | apply below_alloc | apply pw_below_drewN | apply below_drew1 | refine below_set ?_ GE448.out | refine below_set ?_ GE463.out | refine below_set ?_ GE467.out) | exact HB.out)⟩
        ·replace c61 := Bool.eq_false_iff.mpr c61
         subst c61
         have H1 : (some false) = some r := by rw [if_neg (show ¬ (false = true) by decide)] at H; exact H
         clear H
         have H := H1
         clear H1
         obtain rfl := Option.some.inj H
         try go_wp2
         have n0_ := Aside0.mk (Kd.N_drew HO_33.out)
         have n1_ := Aside0.mk (Kd.N_drew HO_464000.out)
         have n2_ := Aside0.mk (Kd.R_drew HO_464001.out)
         have n3_ := Aside0.mk (Kd.N_drew HO_464002.out)
         have n4_ := Aside0.mk (Kd.N_drew HO_464003.out)
         have n5_ := Aside0.mk (Kd.N_drew HO_468000.out)
         have n6_ := Aside0.mk (Kd.R_drew HO_468001.out)
         have n7_ := Aside0.mk (Kd.N_drew HO_468002.out)
         have n8_ := Aside0.mk (Kd.N_drew HO_468003.out)
         have n9_ := Aside0.mk (blk_drew BK448.out)
         have n10_ := Aside0.mk (blk_drew BK463.out)
         have n11_ := Aside0.mk (blk_drew BK467.out)
         have n12_ := Aside0.mk (below_drew1 HB.out)
         clear HO_33
         clear HO_464000
         clear HO_464001
         clear HO_464002
         clear HO_464003
         clear HO_468000
         clear HO_468001
         clear HO_468002
         clear HO_468003
         clear BK448
         clear BK463
         clear BK467
         clear HB
         have HO_33 := n0_
         have HO_464000 := n1_
         have HO_464001 := n2_
         have HO_464002 := n3_
         have HO_464003 := n4_
         have HO_468000 := n5_
         have HO_468001 := n6_
         have HO_468002 := n7_
         have HO_468003 := n8_
         have BK448 := n9_
         have BK463 := n10_
         have BK467 := n11_
         have HB := n12_
         clear n0_ n1_ n2_ n3_ n4_ n5_ n6_ n7_ n8_ n9_ n10_ n11_ n12_
         refine start_ (n := 19) (S := fun w' => w'.cell? ⟨gb463, 0, none⟩ = some (.slice Ao22 t451.length co22) ∧ w'.cell? ⟨gb463, 1, none⟩ = some (.slice Ao25 t454.length co25) ∧ w'.cell? ⟨gb463, 2, none⟩ = some (.slice Ao26 t457.length co26) ∧ w'.cell? ⟨gb463, 3, none⟩ = some (.slice Ao27 t460.length co27) ∧ w'.cell? ⟨gb467, 0, none⟩ = some (.slice Ao22 t451.length co22) ∧ w'.cell? ⟨gb467, 1, none⟩ = some (.slice Ao25 t454.length co25) ∧ w'.cell? ⟨gb467, 2, none⟩ = some (u468002) ∧ w'.cell? ⟨gb467, 3, none⟩ = some (.slice Ao34 t464.length co34)) (ds := []) (flg 19 0) (by kernel_rfl) rfl (by kernel_rfl) ⟨(blk_cell BK463.out 0).trans rfl, (blk_cell BK463.out 1).trans rfl, (blk_cell BK463.out 2).trans rfl, (blk_cell BK463.out 3).trans rfl, (blk_cell BK467.out 0).trans rfl, (blk_cell BK467.out 1).trans rfl, (blk_cell BK467.out 2).trans rfl, (blk_cell BK467.out 3).trans rfl⟩ (fun hHeld => ?_); refine with_tabW helmsmanlaw12_TreePlaces.tab10 helmsmanlaw12_TreePlaces.bits10 (fun HT_ HW_ => ?_)
         generalize wr.drew = w78 at HO_33 HO_464000 HO_464001 HO_464002 HO_464003 HO_468000 HO_468001 HO_468002 HO_468003 BK448 BK463 BK467 HB hHeld ⊢
         refine one_ (i := 0) (N := some 52) (flg 19 1) rfl rfl (one_of HT_.out (by kernel_rfl)) (by decide) (fun K hK => ?_)
         refine goes_ Tryd.func10 (by kernel_rfl) rfl #[] (by rfl) rfl rfl (by (try simp only [List.map_toArray, List.map_cons, List.map_nil]); first | done | rfl | (simp only [List.length_drop, List.length_take]; rfl)) ?_
         with_reducible refine (helmsmanlaw12_alive.calls  true _ ?side1 A58.out).mono ?_
         (case side1 => exact hT.later (by repeat (first | (with_reducible first | exact HB.out | apply below_alloc | apply pw_below_drewN | apply below_drew1 | refine below_set ?_ GE448.out | refine below_set ?_ GE463.out | refine below_set ?_ GE467.out) | exact HB.out)))
         rintro e w79 ⟨rfl, hb⟩
         refine ⟨_, rfl, ?_⟩
         have n0_ := Aside0.mk (Kd.N_below (by (with_reducible repeat (first | apply Kd.N_alloc | apply Kd.N_drewN | apply Kd.N_drew)); exact HO_33.out) hb)
         have n1_ := Aside0.mk (Kd.N_below (by (with_reducible repeat (first | apply Kd.N_alloc | apply Kd.N_drewN | apply Kd.N_drew)); exact HO_464000.out) hb)
         have n2_ := Aside0.mk (Kd.R_below (by (with_reducible repeat (first | apply Kd.R_alloc | apply Kd.R_drewN | apply Kd.R_drew)); exact HO_464001.out) hb)
         have n3_ := Aside0.mk (Kd.N_below (by (with_reducible repeat (first | apply Kd.N_alloc | apply Kd.N_drewN | apply Kd.N_drew)); exact HO_464002.out) hb)
         have n4_ := Aside0.mk (Kd.N_below (by (with_reducible repeat (first | apply Kd.N_alloc | apply Kd.N_drewN | apply Kd.N_drew)); exact HO_464003.out) hb)
         have n5_ := Aside0.mk (Kd.N_below (by (with_reducible repeat (first | apply Kd.N_alloc | apply Kd.N_drewN | apply Kd.N_drew)); exact HO_468000.out) hb)
         have n6_ := Aside0.mk (Kd.R_below (by (with_reducible repeat (first | apply Kd.R_alloc | apply Kd.R_drewN | apply Kd.R_drew)); exact HO_468001.out) hb)
         have n7_ := Aside0.mk (Kd.N_below (by (with_reducible repeat (first | apply Kd.N_alloc | apply Kd.N_drewN | apply Kd.N_drew)); exact HO_468002.out) hb)
         have n8_ := Aside0.mk (Kd.N_below (by (with_reducible repeat (first | apply Kd.N_alloc | apply Kd.N_drewN | apply Kd.N_drew)); exact HO_468003.out) hb)
         have n9_ := Aside0.mk (blk_below (g := gb448) (o := .cells #[.slice A0_0 l0_0.length c0_0, .slice A0_1 l0_1.length c0_1, .slice A0_2 l0_2.length c0_2, .slice A0_3 l0_3.length c0_3] 43 (0, 0)) (by (with_reducible repeat (first | refine blk_drewN ?_ _ | refine blk_drew ?_ | refine blk_alloc ?_ _)); exact BK448.out) hb)
         have n10_ := Aside0.mk (blk_below (g := gb463) (o := .cells #[.slice Ao22 t451.length co22, .slice Ao25 t454.length co25, .slice Ao26 t457.length co26, .slice Ao27 t460.length co27] 50 (0, 0)) (by (with_reducible repeat (first | refine blk_drewN ?_ _ | refine blk_drew ?_ | refine blk_alloc ?_ _)); exact BK463.out) hb)
         have n11_ := Aside0.mk (blk_below (g := gb467) (o := .cells #[.slice Ao22 t451.length co22, .slice Ao25 t454.length co25, u468002, .slice Ao34 t464.length co34] 50 (0, 0)) (by (with_reducible repeat (first | refine blk_drewN ?_ _ | refine blk_drew ?_ | refine blk_alloc ?_ _)); exact BK467.out) hb)
         have n12_ := Aside0.mk (below_step (by repeat (first | (with_reducible first | exact HB.out | apply below_alloc | apply pw_below_drewN | apply below_drew1 | refine below_set ?_ GE448.out | refine below_set ?_ GE463.out | refine below_set ?_ GE467.out) | exact HB.out)) hb)
         clear HO_33
         clear HO_464000
         clear HO_464001
         clear HO_464002
         clear HO_464003
         clear HO_468000
         clear HO_468001
         clear HO_468002
         clear HO_468003
         clear BK448
         clear BK463
         clear BK467
         clear HB
         have HO_33 := n0_
         have HO_464000 := n1_
         have HO_464001 := n2_
         have HO_464002 := n3_
         have HO_464003 := n4_
         have HO_468000 := n5_
         have HO_468001 := n6_
         have HO_468002 := n7_
         have HO_468003 := n8_
         have BK448 := n9_
         have BK463 := n10_
         have BK467 := n11_
         have HB := n12_
         clear n0_ n1_ n2_ n3_ n4_ n5_ n6_ n7_ n8_ n9_ n10_ n11_ n12_
         (try clear hb)
         (try clear hb2)
         (try clear hk)
         (try clear hi)
         obtain ⟨Ao80, co80, eo80⟩ := Kd.N_slice HO_468002.out
         (first | subst eo80 | (injection eo80 with f1_ f2_ f3_; have f4_ := f1_.symm; have f5_ := f3_.symm; clear f1_ f2_ f3_; subst f4_; subst f5_))
         refine hK.out _ _ ⟨(blk_cell BK463.out 0).trans rfl, (blk_cell BK463.out 1).trans rfl, (blk_cell BK463.out 2).trans rfl, (blk_cell BK463.out 3).trans rfl, (blk_cell BK467.out 0).trans rfl, (blk_cell BK467.out 1).trans rfl, (blk_cell BK467.out 2).trans rfl, (blk_cell BK467.out 3).trans rfl⟩ (fun hHeld => ?_)
         clear hK K
         refine norm_ (a' := ?_) ?_ ?_
         rotate_left
         ·show Act.put _ (some 52) _ = _
          simp only [Act.put, List.setIfInBounds_toArray, List.set_cons_zero, List.set_cons_succ, i64_w, i32_w]
          rfl
         refine pure_ (i := 1) (N := some 53) (v := ?_) (a' := ?_) (flg 19 3) rfl rfl (any_of HT_.out (by kernel_rfl)) (fun _ _ _ h => h) (Or.inl ⟨by rfl, ?_⟩) ?_ ?_; rotate_left; intro w'; go_simp; with_reducible rfl; rotate_left; (simp only [Act.put, pA_, pB_, pC_, i64_w, i32_w]; rfl)
         refine take_ (i := 2) (N := some 54) (v := ?_) (a' := ?_) (flg 19 7) rfl rfl (take_ofW HT_.out HW_.out (by kernel_rfl)) (fun _ _ _ h => h) (Or.inl ⟨by rfl, ?_⟩) hHeld ?_ ?_; rotate_left; rintro w' ⟨s0, s1, s2, s3, s4, s5, s6, s7⟩; go_simp; with_reducible rfl; rotate_left; (simp only [Act.put, pA_, pB_, pC_, i64_w, i32_w]; rfl)
         refine take_ (i := 3) (N := some 55) (v := ?_) (a' := ?_) (flg 19 15) rfl rfl (take_ofW HT_.out HW_.out (by kernel_rfl)) (fun _ _ _ h => h) (Or.inl ⟨by rfl, ?_⟩) hHeld ?_ ?_; rotate_left; rintro w' ⟨s0, s1, s2, s3, s4, s5, s6, s7⟩; go_simp; with_reducible rfl; rotate_left; (simp only [Act.put, pA_, pB_, pC_, i64_w, i32_w]; rfl)
         refine one_ (i := 4) (N := some 56) (flg 19 31) rfl rfl (one_of HT_.out (by kernel_rfl)) (by decide) (fun K hK => ?_)
         refine goes_ Tryd.func28 (by kernel_rfl) rfl #[.agg #[.slice Ao22 t451.length co22, .slice Ao25 t454.length co25, .slice Ao26 t457.length co26, .slice Ao27 t460.length co27], .agg #[.slice Ao22 t451.length co22, .slice Ao25 t454.length co25, .slice Ao80 x468002_2.length co80, .slice Ao34 t464.length co34]] (by rfl) rfl rfl (by (try simp only [List.map_toArray, List.map_cons, List.map_nil]); first | done | rfl | (simp only [List.length_drop, List.length_take]; rfl)) ?_
         with_reducible refine (tree_Same.calls k2 _ _ t451 _ _ t454 _ _ t457 _ _ t460 _ _ t451 _ _ t454 _ _ x468002_2 _ _ t464 false _ ?side1 ?side2 ?side3 ?side4 ?side5 ?side6 ?side7 ?side8 ?side9 ?side10 ?side11 ?side12 ?side13 ?side14 ?side15 ?side16 A60.out).mono ?_
         (case side1 => repeat (first | exact (Kd.N_reads' HO_464000.out).2.2 | (with_reducible refine Kd.C_alloc ?_ _) | (with_reducible refine Kd.C_drewN ?_ _) | (with_reducible refine Kd.C_drew ?_)))
         (case side2 => exact (Kd.N_reads' HO_464000.out).2.1)
         (case side3 => repeat (first | exact (Kd.R_reads' HO_464001.out).2.2 | (with_reducible refine Kd.C_alloc ?_ _) | (with_reducible refine Kd.C_drewN ?_ _) | (with_reducible refine Kd.C_drew ?_)))
         (case side4 => exact (Kd.R_reads' HO_464001.out).2.1)
         (case side5 => repeat (first | exact (Kd.N_reads' HO_464002.out).2.2 | (with_reducible refine Kd.C_alloc ?_ _) | (with_reducible refine Kd.C_drewN ?_ _) | (with_reducible refine Kd.C_drew ?_)))
         (case side6 => exact (Kd.N_reads' HO_464002.out).2.1)
         (case side7 => repeat (first | exact (Kd.N_reads' HO_464003.out).2.2 | (with_reducible refine Kd.C_alloc ?_ _) | (with_reducible refine Kd.C_drewN ?_ _) | (with_reducible refine Kd.C_drew ?_)))
         (case side8 => exact (Kd.N_reads' HO_464003.out).2.1)
         (case side9 => repeat (first | exact (Kd.N_reads' HO_468000.out).2.2 | (with_reducible refine Kd.C_alloc ?_ _) | (with_reducible refine Kd.C_drewN ?_ _) | (with_reducible refine Kd.C_drew ?_)))
         (case side10 => exact (Kd.N_reads' HO_468000.out).2.1)
         (case side11 => repeat (first | exact (Kd.R_reads' HO_468001.out).2.2 | (with_reducible refine Kd.C_alloc ?_ _) | (with_reducible refine Kd.C_drewN ?_ _) | (with_reducible refine Kd.C_drew ?_)))
         (case side12 => exact (Kd.R_reads' HO_468001.out).2.1)
         (case side13 => repeat (first | exact (Kd.N_reads' HO_468002.out).2.2 | (with_reducible refine Kd.C_alloc ?_ _) | (with_reducible refine Kd.C_drewN ?_ _) | (with_reducible refine Kd.C_drew ?_)))
         (case side14 => exact (Kd.N_reads' HO_468002.out).2.1)
         (case side15 => repeat (first | exact (Kd.N_reads' HO_468003.out).2.2 | (with_reducible refine Kd.C_alloc ?_ _) | (with_reducible refine Kd.C_drewN ?_ _) | (with_reducible refine Kd.C_drew ?_)))
         (case side16 => exact (Kd.N_reads' HO_468003.out).2.1)
         rintro e w81 ⟨rfl, hb⟩
         refine ⟨_, rfl, ?_⟩
         have n0_ := Aside0.mk (Kd.N_below (by (with_reducible repeat (first | apply Kd.N_alloc | apply Kd.N_drewN | apply Kd.N_drew)); exact HO_33.out) hb)
         have n1_ := Aside0.mk (Kd.N_below (by (with_reducible repeat (first | apply Kd.N_alloc | apply Kd.N_drewN | apply Kd.N_drew)); exact HO_464000.out) hb)
         have n2_ := Aside0.mk (Kd.R_below (by (with_reducible repeat (first | apply Kd.R_alloc | apply Kd.R_drewN | apply Kd.R_drew)); exact HO_464001.out) hb)
         have n3_ := Aside0.mk (Kd.N_below (by (with_reducible repeat (first | apply Kd.N_alloc | apply Kd.N_drewN | apply Kd.N_drew)); exact HO_464002.out) hb)
         have n4_ := Aside0.mk (Kd.N_below (by (with_reducible repeat (first | apply Kd.N_alloc | apply Kd.N_drewN | apply Kd.N_drew)); exact HO_464003.out) hb)
         have n5_ := Aside0.mk (Kd.N_below (by (with_reducible repeat (first | apply Kd.N_alloc | apply Kd.N_drewN | apply Kd.N_drew)); exact HO_468000.out) hb)
         have n6_ := Aside0.mk (Kd.R_below (by (with_reducible repeat (first | apply Kd.R_alloc | apply Kd.R_drewN | apply Kd.R_drew)); exact HO_468001.out) hb)
         have n7_ := Aside0.mk (Kd.N_below (by (with_reducible repeat (first | apply Kd.N_alloc | apply Kd.N_drewN | apply Kd.N_drew)); exact HO_468002.out) hb)
         have n8_ := Aside0.mk (Kd.N_below (by (with_reducible repeat (first | apply Kd.N_alloc | apply Kd.N_drewN | apply Kd.N_drew)); exact HO_468003.out) hb)
         have n9_ := Aside0.mk (blk_below (g := gb448) (o := .cells #[.slice A0_0 l0_0.length c0_0, .slice A0_1 l0_1.length c0_1, .slice A0_2 l0_2.length c0_2, .slice A0_3 l0_3.length c0_3] 43 (0, 0)) (by (with_reducible repeat (first | refine blk_drewN ?_ _ | refine blk_drew ?_ | refine blk_alloc ?_ _)); exact BK448.out) hb)
         have n10_ := Aside0.mk (blk_below (g := gb463) (o := .cells #[.slice Ao22 t451.length co22, .slice Ao25 t454.length co25, .slice Ao26 t457.length co26, .slice Ao27 t460.length co27] 50 (0, 0)) (by (with_reducible repeat (first | refine blk_drewN ?_ _ | refine blk_drew ?_ | refine blk_alloc ?_ _)); exact BK463.out) hb)
         have n11_ := Aside0.mk (blk_below (g := gb467) (o := .cells #[.slice Ao22 t451.length co22, .slice Ao25 t454.length co25, .slice Ao80 x468002_2.length co80, .slice Ao34 t464.length co34] 50 (0, 0)) (by (with_reducible repeat (first | refine blk_drewN ?_ _ | refine blk_drew ?_ | refine blk_alloc ?_ _)); exact BK467.out) hb)
         have n12_ := Aside0.mk (below_step (by repeat (first | (with_reducible first | exact HB.out | apply below_alloc | apply pw_below_drewN | apply below_drew1 | refine below_set ?_ GE448.out | refine below_set ?_ GE463.out | refine below_set ?_ GE467.out) | exact HB.out)) hb)
         clear HO_33
         clear HO_464000
         clear HO_464001
         clear HO_464002
         clear HO_464003
         clear HO_468000
         clear HO_468001
         clear HO_468002
         clear HO_468003
         clear BK448
         clear BK463
         clear BK467
         clear HB
         have HO_33 := n0_
         have HO_464000 := n1_
         have HO_464001 := n2_
         have HO_464002 := n3_
         have HO_464003 := n4_
         have HO_468000 := n5_
         have HO_468001 := n6_
         have HO_468002 := n7_
         have HO_468003 := n8_
         have BK448 := n9_
         have BK463 := n10_
         have BK467 := n11_
         have HB := n12_
         clear n0_ n1_ n2_ n3_ n4_ n5_ n6_ n7_ n8_ n9_ n10_ n11_ n12_
         (try clear hb)
         (try clear hb2)
         (try clear hk)
         (try clear hi)
         refine hK.out _ _ ⟨(blk_cell BK463.out 0).trans rfl, (blk_cell BK463.out 1).trans rfl, (blk_cell BK463.out 2).trans rfl, (blk_cell BK463.out 3).trans rfl, (blk_cell BK467.out 0).trans rfl, (blk_cell BK467.out 1).trans rfl, (blk_cell BK467.out 2).trans rfl, (blk_cell BK467.out 3).trans rfl⟩ (fun hHeld => ?_)
         clear hK K
         refine norm_ (a' := ?_) ?_ ?_
         rotate_left
         ·show Act.put _ (some 56) _ = _
          simp only [Act.put, List.setIfInBounds_toArray, List.set_cons_zero, List.set_cons_succ, i64_w, i32_w]
          rfl
         refine pure_ (i := 5) (N := some 57) (v := ?_) (a' := ?_) (flg 19 63) rfl rfl (any_of HT_.out (by kernel_rfl)) (fun _ _ _ h => h) (Or.inl ⟨by rfl, ?_⟩) ?_ ?_; rotate_left; intro w'; go_simp; with_reducible rfl; rotate_left; (simp only [Act.put, pA_, pB_, pC_, i64_w, i32_w]; rfl)
         refine pure_ (i := 6) (N := some 58) (v := ?_) (a' := ?_) (flg 19 127) rfl rfl (any_of HT_.out (by kernel_rfl)) (fun _ _ _ h => h) (Or.inl ⟨by rfl, ?_⟩) ?_ ?_; rotate_left; intro w'; go_simp; with_reducible rfl; rotate_left; (simp only [Act.put, pA_, pB_, pC_, i64_w, i32_w]; rfl)
         refine skp_ (a' := ?_) 7 59 (flg 19 255) rfl rfl (any_of HT_.out (by kernel_rfl)) (fun _ _ _ h => h) (by rfl) ?_ ?_; rotate_left; (simp only [Act.put, pA_, pB_, pC_, i64_w, i32_w]; rfl)
         refine skp_ (a' := ?_) 8 60 (flg 19 511) rfl rfl (any_of HT_.out (by kernel_rfl)) (fun _ _ _ h => h) (by rfl) ?_ ?_; rotate_left; (simp only [Act.put, pA_, pB_, pC_, i64_w, i32_w]; rfl)
         refine skp_ (a' := ?_) 9 61 (flg 19 1023) rfl rfl (any_of HT_.out (by kernel_rfl)) (fun _ _ _ h => h) (by rfl) ?_ ?_; rotate_left; (simp only [Act.put, pA_, pB_, pC_, i64_w, i32_w]; rfl)
         refine pure_ (i := 10) (N := some 62) (v := ?_) (a' := ?_) (flg 19 2047) rfl rfl (any_of HT_.out (by kernel_rfl)) (fun _ _ _ h => h) (Or.inl ⟨by rfl, ?_⟩) ?_ ?_; rotate_left; intro w'; go_simp; with_reducible rfl; rotate_left; (simp only [Act.put, pA_, pB_, pC_, i64_w, i32_w]; rfl)
         refine pure_ (i := 11) (N := some 63) (v := ?_) (a' := ?_) (flg 19 4095) rfl rfl (any_of HT_.out (by kernel_rfl)) (fun _ _ _ h => h) (Or.inl ⟨by rfl, ?_⟩) ?_ ?_; rotate_left; intro w'; go_simp; with_reducible rfl; rotate_left; (simp only [Act.put, pA_, pB_, pC_, i64_w, i32_w]; rfl)
         refine skp_ (a' := ?_) 12 64 (flg 19 8191) rfl rfl (any_of HT_.out (by kernel_rfl)) (fun _ _ _ h => h) (by rfl) ?_ ?_; rotate_left; (simp only [Act.put, pA_, pB_, pC_, i64_w, i32_w]; rfl)
         refine skp_ (a' := ?_) 13 65 (flg 19 16383) rfl rfl (any_of HT_.out (by kernel_rfl)) (fun _ _ _ h => h) (by rfl) ?_ ?_; rotate_left; (simp only [Act.put, pA_, pB_, pC_, i64_w, i32_w]; rfl)
         refine skp_ (a' := ?_) 14 66 (flg 19 32767) rfl rfl (any_of HT_.out (by kernel_rfl)) (fun _ _ _ h => h) (by rfl) ?_ ?_; rotate_left; (simp only [Act.put, pA_, pB_, pC_, i64_w, i32_w]; rfl)
         refine skp_ (a' := ?_) 15 67 (flg 19 65535) rfl rfl (any_of HT_.out (by kernel_rfl)) (fun _ _ _ h => h) (by rfl) ?_ ?_; rotate_left; (simp only [Act.put, pA_, pB_, pC_, i64_w, i32_w]; rfl)
         refine skp_ (a' := ?_) 16 68 (flg 19 131071) rfl rfl (any_of HT_.out (by kernel_rfl)) (fun _ _ _ h => h) (by rfl) ?_ ?_; rotate_left; (simp only [Act.put, pA_, pB_, pC_, i64_w, i32_w]; rfl)
         refine pure_ (i := 17) (N := some 69) (v := ?_) (a' := ?_) (flg 19 262143) rfl rfl (any_of HT_.out (by kernel_rfl)) (fun _ _ _ h => h) (Or.inl ⟨by rfl, ?_⟩) ?_ ?_; rotate_left; intro w'; go_simp; with_reducible rfl; rotate_left; (simp only [Act.put, pA_, pB_, pC_, i64_w, i32_w]; rfl)
         refine pure_ (i := 18) (N := some 4) (v := ?_) (a' := ?_) (flg 19 524287) rfl rfl (any_of HT_.out (by kernel_rfl)) (fun _ _ _ h => h) (Or.inl ⟨by rfl, ?_⟩) ?_ ?_; rotate_left; intro w'; go_simp; with_reducible rfl; rotate_left; (simp only [Act.put, pA_, pB_, pC_, i64_w, i32_w]; rfl)
         refine done_ (done_of HT_.out (by kernel_rfl)) ?_
         try go_wp2
         go_ret
         exact ⟨by first | rfl | (simp [errW_none, errW_some] <;> rfl) | (simp [*, errW_none, errW_some] <;> rfl), by repeat (first | (with_reducible first | exact HB.out | apply below_alloc | apply pw_below_drewN | apply below_drew1 | refine below_set ?_ GE448.out | refine below_set ?_ GE463.out | refine below_set ?_ GE467.out) | exact HB.out)⟩
       ·replace c59 := Bool.eq_false_iff.mpr c59
        subst c59
        have H1 : (some false) = some r := by rw [if_neg (show ¬ (false = true) by decide)] at H; exact H
        clear H
        have H := H1
        clear H1
        obtain rfl := Option.some.inj H
        try go_wp2
        have n0_ := Aside0.mk (Kd.N_drew HO_33.out)
        have n1_ := Aside0.mk (Kd.N_drew HO_464000.out)
        have n2_ := Aside0.mk (Kd.R_drew HO_464001.out)
        have n3_ := Aside0.mk (Kd.N_drew HO_464002.out)
        have n4_ := Aside0.mk (Kd.N_drew HO_464003.out)
        have n5_ := Aside0.mk (Kd.N_drew HO_468000.out)
        have n6_ := Aside0.mk (Kd.R_drew HO_468001.out)
        have n7_ := Aside0.mk (Kd.N_drew HO_468002.out)
        have n8_ := Aside0.mk (Kd.N_drew HO_468003.out)
        have n9_ := Aside0.mk (blk_drew BK448.out)
        have n10_ := Aside0.mk (blk_drew BK463.out)
        have n11_ := Aside0.mk (blk_drew BK467.out)
        have n12_ := Aside0.mk (below_drew1 HB.out)
        clear HO_33
        clear HO_464000
        clear HO_464001
        clear HO_464002
        clear HO_464003
        clear HO_468000
        clear HO_468001
        clear HO_468002
        clear HO_468003
        clear BK448
        clear BK463
        clear BK467
        clear HB
        have HO_33 := n0_
        have HO_464000 := n1_
        have HO_464001 := n2_
        have HO_464002 := n3_
        have HO_464003 := n4_
        have HO_468000 := n5_
        have HO_468001 := n6_
        have HO_468002 := n7_
        have HO_468003 := n8_
        have BK448 := n9_
        have BK463 := n10_
        have BK467 := n11_
        have HB := n12_
        clear n0_ n1_ n2_ n3_ n4_ n5_ n6_ n7_ n8_ n9_ n10_ n11_ n12_
        refine start_ (n := 19) (S := fun w' => True) (ds := []) (flg 19 0) (by kernel_rfl) rfl (by kernel_rfl) trivial (fun hHeld => ?_); refine with_tabW helmsmanlaw12_TreePlaces.tab10 helmsmanlaw12_TreePlaces.bits10 (fun HT_ HW_ => ?_)
        generalize wr.drew = w82 at HO_33 HO_464000 HO_464001 HO_464002 HO_464003 HO_468000 HO_468001 HO_468002 HO_468003 BK448 BK463 BK467 HB hHeld ⊢
        refine one_ (i := 0) (N := some 52) (flg 19 1) rfl rfl (one_of HT_.out (by kernel_rfl)) (by decide) (fun K hK => ?_)
        refine goes_ Tryd.func10 (by kernel_rfl) rfl #[] (by rfl) rfl rfl (by (try simp only [List.map_toArray, List.map_cons, List.map_nil]); first | done | rfl | (simp only [List.length_drop, List.length_take]; rfl)) ?_
        with_reducible refine (helmsmanlaw12_alive.calls  false _ ?side1 A58.out).mono ?_
        (case side1 => exact hT.later (by repeat (first | (with_reducible first | exact HB.out | apply below_alloc | apply pw_below_drewN | apply below_drew1 | refine below_set ?_ GE448.out | refine below_set ?_ GE463.out | refine below_set ?_ GE467.out) | exact HB.out)))
        rintro e w83 ⟨rfl, hb⟩
        refine ⟨_, rfl, ?_⟩
        have n0_ := Aside0.mk (Kd.N_below (by (with_reducible repeat (first | apply Kd.N_alloc | apply Kd.N_drewN | apply Kd.N_drew)); exact HO_33.out) hb)
        have n1_ := Aside0.mk (Kd.N_below (by (with_reducible repeat (first | apply Kd.N_alloc | apply Kd.N_drewN | apply Kd.N_drew)); exact HO_464000.out) hb)
        have n2_ := Aside0.mk (Kd.R_below (by (with_reducible repeat (first | apply Kd.R_alloc | apply Kd.R_drewN | apply Kd.R_drew)); exact HO_464001.out) hb)
        have n3_ := Aside0.mk (Kd.N_below (by (with_reducible repeat (first | apply Kd.N_alloc | apply Kd.N_drewN | apply Kd.N_drew)); exact HO_464002.out) hb)
        have n4_ := Aside0.mk (Kd.N_below (by (with_reducible repeat (first | apply Kd.N_alloc | apply Kd.N_drewN | apply Kd.N_drew)); exact HO_464003.out) hb)
        have n5_ := Aside0.mk (Kd.N_below (by (with_reducible repeat (first | apply Kd.N_alloc | apply Kd.N_drewN | apply Kd.N_drew)); exact HO_468000.out) hb)
        have n6_ := Aside0.mk (Kd.R_below (by (with_reducible repeat (first | apply Kd.R_alloc | apply Kd.R_drewN | apply Kd.R_drew)); exact HO_468001.out) hb)
        have n7_ := Aside0.mk (Kd.N_below (by (with_reducible repeat (first | apply Kd.N_alloc | apply Kd.N_drewN | apply Kd.N_drew)); exact HO_468002.out) hb)
        have n8_ := Aside0.mk (Kd.N_below (by (with_reducible repeat (first | apply Kd.N_alloc | apply Kd.N_drewN | apply Kd.N_drew)); exact HO_468003.out) hb)
        have n9_ := Aside0.mk (blk_below (g := gb448) (o := .cells #[.slice A0_0 l0_0.length c0_0, .slice A0_1 l0_1.length c0_1, .slice A0_2 l0_2.length c0_2, .slice A0_3 l0_3.length c0_3] 43 (0, 0)) (by (with_reducible repeat (first | refine blk_drewN ?_ _ | refine blk_drew ?_ | refine blk_alloc ?_ _)); exact BK448.out) hb)
        have n10_ := Aside0.mk (blk_below (g := gb463) (o := .cells #[.slice Ao22 t451.length co22, .slice Ao25 t454.length co25, .slice Ao26 t457.length co26, .slice Ao27 t460.length co27] 50 (0, 0)) (by (with_reducible repeat (first | refine blk_drewN ?_ _ | refine blk_drew ?_ | refine blk_alloc ?_ _)); exact BK463.out) hb)
        have n11_ := Aside0.mk (blk_below (g := gb467) (o := .cells #[.slice Ao22 t451.length co22, .slice Ao25 t454.length co25, u468002, .slice Ao34 t464.length co34] 50 (0, 0)) (by (with_reducible repeat (first | refine blk_drewN ?_ _ | refine blk_drew ?_ | refine blk_alloc ?_ _)); exact BK467.out) hb)
        have n12_ := Aside0.mk (below_step (by repeat (first | (with_reducible first | exact HB.out | apply below_alloc | apply pw_below_drewN | apply below_drew1 | refine below_set ?_ GE448.out | refine below_set ?_ GE463.out | refine below_set ?_ GE467.out) | exact HB.out)) hb)
        clear HO_33
        clear HO_464000
        clear HO_464001
        clear HO_464002
        clear HO_464003
        clear HO_468000
        clear HO_468001
        clear HO_468002
        clear HO_468003
        clear BK448
        clear BK463
        clear BK467
        clear HB
        have HO_33 := n0_
        have HO_464000 := n1_
        have HO_464001 := n2_
        have HO_464002 := n3_
        have HO_464003 := n4_
        have HO_468000 := n5_
        have HO_468001 := n6_
        have HO_468002 := n7_
        have HO_468003 := n8_
        have BK448 := n9_
        have BK463 := n10_
        have BK467 := n11_
        have HB := n12_
        clear n0_ n1_ n2_ n3_ n4_ n5_ n6_ n7_ n8_ n9_ n10_ n11_ n12_
        (try clear hb)
        (try clear hb2)
        (try clear hk)
        (try clear hi)
        refine hK.out _ _ trivial (fun hHeld => ?_)
        clear hK K
        refine norm_ (a' := ?_) ?_ ?_
        rotate_left
        ·show Act.put _ (some 52) _ = _
         simp only [Act.put, List.setIfInBounds_toArray, List.set_cons_zero, List.set_cons_succ, i64_w, i32_w]
         rfl
        refine pure_ (i := 1) (N := some 53) (v := ?_) (a' := ?_) (flg 19 3) rfl rfl (any_of HT_.out (by kernel_rfl)) (fun _ _ _ h => h) (Or.inl ⟨by rfl, ?_⟩) ?_ ?_; rotate_left; intro w'; go_simp; with_reducible rfl; rotate_left; (simp only [Act.put, pA_, pB_, pC_, i64_w, i32_w]; rfl)
        refine skp_ (a' := ?_) 2 54 (flg 19 7) rfl rfl (any_of HT_.out (by kernel_rfl)) (fun _ _ _ h => h) (by rfl) ?_ ?_; rotate_left; (simp only [Act.put, pA_, pB_, pC_, i64_w, i32_w]; rfl)
        refine skp_ (a' := ?_) 3 55 (flg 19 15) rfl rfl (any_of HT_.out (by kernel_rfl)) (fun _ _ _ h => h) (by rfl) ?_ ?_; rotate_left; (simp only [Act.put, pA_, pB_, pC_, i64_w, i32_w]; rfl)
        refine skp_ (a' := ?_) 4 56 (flg 19 31) rfl rfl (any_of HT_.out (by kernel_rfl)) (fun _ _ _ h => h) (by rfl) ?_ ?_; rotate_left; (simp only [Act.put, pA_, pB_, pC_, i64_w, i32_w]; rfl)
        refine pure_ (i := 5) (N := some 57) (v := ?_) (a' := ?_) (flg 19 63) rfl rfl (any_of HT_.out (by kernel_rfl)) (fun _ _ _ h => h) (Or.inl ⟨by rfl, ?_⟩) ?_ ?_; rotate_left; intro w'; go_simp; with_reducible rfl; rotate_left; (simp only [Act.put, pA_, pB_, pC_, i64_w, i32_w]; rfl)
        refine pure_ (i := 6) (N := some 58) (v := ?_) (a' := ?_) (flg 19 127) rfl rfl (any_of HT_.out (by kernel_rfl)) (fun _ _ _ h => h) (Or.inl ⟨by rfl, ?_⟩) ?_ ?_; rotate_left; intro w'; go_simp; with_reducible rfl; rotate_left; (simp only [Act.put, pA_, pB_, pC_, i64_w, i32_w]; rfl)
        refine skp_ (a' := ?_) 7 59 (flg 19 255) rfl rfl (any_of HT_.out (by kernel_rfl)) (fun _ _ _ h => h) (by rfl) ?_ ?_; rotate_left; (simp only [Act.put, pA_, pB_, pC_, i64_w, i32_w]; rfl)
        refine skp_ (a' := ?_) 8 60 (flg 19 511) rfl rfl (any_of HT_.out (by kernel_rfl)) (fun _ _ _ h => h) (by rfl) ?_ ?_; rotate_left; (simp only [Act.put, pA_, pB_, pC_, i64_w, i32_w]; rfl)
        refine skp_ (a' := ?_) 9 61 (flg 19 1023) rfl rfl (any_of HT_.out (by kernel_rfl)) (fun _ _ _ h => h) (by rfl) ?_ ?_; rotate_left; (simp only [Act.put, pA_, pB_, pC_, i64_w, i32_w]; rfl)
        refine pure_ (i := 10) (N := some 62) (v := ?_) (a' := ?_) (flg 19 2047) rfl rfl (any_of HT_.out (by kernel_rfl)) (fun _ _ _ h => h) (Or.inl ⟨by rfl, ?_⟩) ?_ ?_; rotate_left; intro w'; go_simp; with_reducible rfl; rotate_left; (simp only [Act.put, pA_, pB_, pC_, i64_w, i32_w]; rfl)
        refine pure_ (i := 11) (N := some 63) (v := ?_) (a' := ?_) (flg 19 4095) rfl rfl (any_of HT_.out (by kernel_rfl)) (fun _ _ _ h => h) (Or.inl ⟨by rfl, ?_⟩) ?_ ?_; rotate_left; intro w'; go_simp; with_reducible rfl; rotate_left; (simp only [Act.put, pA_, pB_, pC_, i64_w, i32_w]; rfl)
        refine skp_ (a' := ?_) 12 64 (flg 19 8191) rfl rfl (any_of HT_.out (by kernel_rfl)) (fun _ _ _ h => h) (by rfl) ?_ ?_; rotate_left; (simp only [Act.put, pA_, pB_, pC_, i64_w, i32_w]; rfl)
        refine skp_ (a' := ?_) 13 65 (flg 19 16383) rfl rfl (any_of HT_.out (by kernel_rfl)) (fun _ _ _ h => h) (by rfl) ?_ ?_; rotate_left; (simp only [Act.put, pA_, pB_, pC_, i64_w, i32_w]; rfl)
        refine skp_ (a' := ?_) 14 66 (flg 19 32767) rfl rfl (any_of HT_.out (by kernel_rfl)) (fun _ _ _ h => h) (by rfl) ?_ ?_; rotate_left; (simp only [Act.put, pA_, pB_, pC_, i64_w, i32_w]; rfl)
        refine skp_ (a' := ?_) 15 67 (flg 19 65535) rfl rfl (any_of HT_.out (by kernel_rfl)) (fun _ _ _ h => h) (by rfl) ?_ ?_; rotate_left; (simp only [Act.put, pA_, pB_, pC_, i64_w, i32_w]; rfl)
        refine skp_ (a' := ?_) 16 68 (flg 19 131071) rfl rfl (any_of HT_.out (by kernel_rfl)) (fun _ _ _ h => h) (by rfl) ?_ ?_; rotate_left; (simp only [Act.put, pA_, pB_, pC_, i64_w, i32_w]; rfl)
        refine pure_ (i := 17) (N := some 69) (v := ?_) (a' := ?_) (flg 19 262143) rfl rfl (any_of HT_.out (by kernel_rfl)) (fun _ _ _ h => h) (Or.inl ⟨by rfl, ?_⟩) ?_ ?_; rotate_left; intro w'; go_simp; with_reducible rfl; rotate_left; (simp only [Act.put, pA_, pB_, pC_, i64_w, i32_w]; rfl)
        refine pure_ (i := 18) (N := some 4) (v := ?_) (a' := ?_) (flg 19 524287) rfl rfl (any_of HT_.out (by kernel_rfl)) (fun _ _ _ h => h) (Or.inl ⟨by rfl, ?_⟩) ?_ ?_; rotate_left; intro w'; go_simp; with_reducible rfl; rotate_left; (simp only [Act.put, pA_, pB_, pC_, i64_w, i32_w]; rfl)
        refine done_ (done_of HT_.out (by kernel_rfl)) ?_
        try go_wp2
        go_ret
        exact ⟨by first | rfl | (simp [errW_none, errW_some] <;> rfl) | (simp [*, errW_none, errW_some] <;> rfl), by repeat (first | (with_reducible first | exact HB.out | apply below_alloc | apply pw_below_drewN | apply below_drew1 | refine below_set ?_ GE448.out | refine below_set ?_ GE463.out | refine below_set ?_ GE467.out) | exact HB.out)⟩

end Go.Proofs.YtnnbbeloifhofaaDoor.P
end
