/- Texts of this claim, joined: Pxf20, TrProg, TrAlive, Flg. -/
import Derived.Test.YtnnbbeloifhofaaDoorCTreePlacesUpto0
import Derived.Test.YtnnbbeloifhofaaDoorCTreePlacesUpto6
import Derived.Test.YtnnbbeloifhofaaDoorCTreePlacesUpto3
import Derived.Test.YtnnbbeloifhofaaDoorCTreePlacesUpto1
section
namespace Go.Proofs.YtnnbbeloifhofaaDoor.P
open Go.RowKit Go.Proofs.YtnnbbeloifhofaaDoorW.PrintWords Go.Proofs.YtnnbbeloifhofaaDoorW.PrintLast Go.Proofs.YtnnbbeloifhofaaDoorW.PrintMore
attribute [local go_sem] max2_int min2_int max_two min_two max_three min_three max_four min_four   -- for this text's walks alone
set_option linter.unusedVariables false
set_option linter.unusedSimpArgs false

/-! ### tree_Sized: function 20 -/
def tree_Sized.l0 : Nat → Int → List (S66) → Int → Int → Option (Int)
  | 0, _, _, _, _ => none
  | k + 1, x3, x10, x11, x12 => if x12 < x11 then (if 0 ≤ x12 then (if x12 < (x10.length : Int) then ((tree_stmts.f k ((rd_T66 x10 x12).f1)).bind fun t248 => (tree_Sized.l0 k (wrap64 (x3 + t248)) x10 x11 (wrap64 (x12 + 1)))) else (none)) else (none)) else (some x3)
def tree_Sized.f (k : Nat) (l0_0 : List (S79)) (l0_1 : List (S80)) (l0_2 : List (S66)) (l0_3 : List (S76)) : Option (Int) := (tree_stmts.f k l0_3).bind fun t245 => (tree_Sized.l0 k t245 l0_2 (l0_2.length : Int) 0)
theorem tree_Sized.mono_l : ∀ k, (∀ y0 y1 y2 y3, LeO (tree_Sized.l0 k y0 y1 y2 y3) (tree_Sized.l0 (k + 1) y0 y1 y2 y3))
  | 0 => fun _ _ _ _ r h => by simp [tree_Sized.l0] at h
  | k + 1 => by
    have ih0 := tree_Sized.mono_l k
    · intro y0 y1 y2 y3
      unfold tree_Sized.l0
      repeat' first
      | (with_reducible exact ih0 _ _ _ _)
      | (with_reducible exact tree_stmts.mono _ _)
      | (with_reducible exact LeO.refl _)
      | (with_reducible exact LeO.none _)
      | (with_reducible refine LeO.ite ?_ ?_)
      | (with_reducible refine LeO.bind ?_ (fun _ => ?_))
      | exact ih0 _ _ _ _
      | exact tree_stmts.mono _ _
      | exact LeO.none _
      | refine LeO.ite ?_ ?_
      | refine LeO.bind ?_ (fun _ => ?_)
theorem tree_Sized.mono : ∀ a0 a1 a2 a3 k, LeO (tree_Sized.f k a0 a1 a2 a3) (tree_Sized.f (k + 1) a0 a1 a2 a3) := by
  intro a0 a1 a2 a3 k
  have ih0 := tree_Sized.mono_l k
  unfold tree_Sized.f
  repeat' first
      | (with_reducible exact ih0 _ _ _ _)
      | (with_reducible exact tree_stmts.mono _ _)
      | (with_reducible exact LeO.refl _)
      | (with_reducible exact LeO.none _)
      | (with_reducible refine LeO.ite ?_ ?_)
      | (with_reducible refine LeO.bind ?_ (fun _ => ?_))
      | exact ih0 _ _ _ _
      | exact tree_stmts.mono _ _
      | exact LeO.none _
      | refine LeO.ite ?_ ?_
      | refine LeO.bind ?_ (fun _ => ?_)
set_option maxHeartbeats 8000000 in
set_option maxRecDepth 100000 in
theorem tree_Sized.calls (k : Nat) (A0_0 : Option Addr) (c0_0 : Nat) (l0_0 : List (S79)) (A0_1 : Option Addr) (c0_1 : Nat) (l0_1 : List (S80)) (A0_2 : Option Addr) (c0_2 : Nat) (l0_2 : List (S66)) (A0_3 : Option Addr) (c0_3 : Nat) (l0_3 : List (S76)) (r : Int) (w : World) (hr0_0 : Kd.C k79 w A0_0 l0_0.length l0_0) (hc0_0 : l0_0.length ≤ c0_0) (hr0_1 : Kd.C k80 w A0_1 l0_1.length l0_1) (hc0_1 : l0_1.length ≤ c0_1) (hr0_2 : Kd.C k66 w A0_2 l0_2.length l0_2) (hc0_2 : l0_2.length ≤ c0_2) (hr0_3 : Kd.C k76 w A0_3 l0_3.length l0_3) (hc0_3 : l0_3.length ≤ c0_3) (h : tree_Sized.f k l0_0 l0_1 l0_2 l0_3 = some r) :
    Calls Tryd.prog 20 #[.agg #[.slice A0_0 l0_0.length c0_0, .slice A0_1 l0_1.length c0_1, .slice A0_2 l0_2.length c0_2, .slice A0_3 l0_3.length c0_3]] w fun e w' => e = .returned (.int .i64 r) ∧ Below w.heap.size w w' := by
  have hu50 := Tryd.underlying50
  have hu66 := Tryd.underlying66
  have HR0_0 := Aside0.mk hr0_0
  have HC0_0 := Aside0.mk hc0_0
  clear hr0_0 hc0_0
  have HR0_1 := Aside0.mk hr0_1
  have HC0_1 := Aside0.mk hc0_1
  clear hr0_1 hc0_1
  have HR0_2 := Aside0.mk hr0_2
  have HC0_2 := Aside0.mk hc0_2
  clear hr0_2 hc0_2
  have HR0_3 := Aside0.mk hr0_3
  have HC0_3 := Aside0.mk hc0_3
  clear hr0_3 hc0_3
  have HB := Aside0.mk (Below.refl w.heap.size w)
  have H : ((tree_stmts.f k l0_3).bind fun t245 => (tree_Sized.l0 k t245 l0_2 (l0_2.length : Int) 0)) = some r := h
  clear h
  replace H := Option.bind_eq_some_iff.mp H
  obtain ⟨t245, A20, H⟩ := H
  replace H : (tree_Sized.l0 k t245 l0_2 (l0_2.length : Int) 0) = some r := H
  have A2 := Aside0.mk A20
  clear A20
  have H' := Aside0.mk H
  clear H
  go_enter Tryd.func20, Tryd.ntmps20
  go_wp2_with (first | ((with_reducible refine gate_dst (N := 1) rfl ?_); refine box_event ?hg (N := 1) ?hd (cs := #[.slice A0_0 l0_0.length c0_0, .slice A0_1 l0_1.length c0_1, .slice A0_2 l0_2.length c0_2, .slice A0_3 l0_3.length c0_3]) (t := 50) ?hr ?_; (case hd => rfl); (case hg => rfl); (case hr => first | (go_simp; done) | (go_simp; rfl)); intro gb244 hg w3 hbox hb; have n0_ := Aside0.mk (below_step (by repeat (first | (with_reducible first | exact HB.out | apply below_alloc | apply pw_below_drewN | apply below_drew1) | exact HB.out)) hb); have n1_ := Aside0.mk (hbox); have n2_ := Aside0.mk ((by rw [hg]; exact (below_size (by repeat (first | (with_reducible first | exact HB.out | apply below_alloc | apply pw_below_drewN | apply below_drew1) | exact HB.out))) : w.heap.size ≤ gb244)); have n3_ := Aside0.mk ((by rw [hg]; exact (below_size (by repeat (first | (with_reducible first | exact HB.out | apply below_alloc | apply pw_below_drewN | apply below_drew1) | exact HB.out))) : w.heap.size ≤ gb244)); clear HB; have HB := n0_; have BK244 := n1_; have GW244 := n2_; have GE244 := n3_; clear n0_ n1_ n2_ n3_; clear hb hbox hg; have hcz4_0 : w3.cell? ⟨gb244, 0, none⟩ = some (.slice A0_0 l0_0.length c0_0) := (blk_cell BK244.out 0).trans rfl; have hcz4_1 : w3.cell? ⟨gb244, 1, none⟩ = some (.slice A0_1 l0_1.length c0_1) := (blk_cell BK244.out 1).trans rfl; have hcz4_2 : w3.cell? ⟨gb244, 2, none⟩ = some (.slice A0_2 l0_2.length c0_2) := (blk_cell BK244.out 2).trans rfl; have hcz4_3 : w3.cell? ⟨gb244, 3, none⟩ = some (.slice A0_3 l0_3.length c0_3) := (blk_cell BK244.out 3).trans rfl; have hfz4_0 := blk_frozen BK244.out 0; have hfz4_1 := blk_frozen BK244.out 1; have hfz4_2 := blk_frozen BK244.out 2; have hfz4_3 := blk_frozen BK244.out 3) | ((with_reducible refine gate_callee (f := 36) rfl ?_); refine goesL_ (some 8) rfl rfl Tryd.func36 (by kernel_rfl) rfl #[.slice A0_3 l0_3.length c0_3] rfl (by (try simp only [List.map_toArray, List.map_cons, List.map_nil]); first | done | rfl | (simp only [List.length_drop, List.length_take]; rfl)) ?_; (with_reducible refine (tree_stmts.calls k _ _ l0_3 t245 _ ?side1 ?side2 A2.out).mono ?_); (case side1 => repeat (first | exact (Kd.C_below HR0_3.out HB.out) | (with_reducible refine Kd.C_alloc ?_ _) | (with_reducible refine Kd.C_drewN ?_ _) | (with_reducible refine Kd.C_drew ?_))); (case side2 => exact HC0_3.out); rintro e w5 ⟨rfl, hb⟩; refine ⟨_, rfl, ?_⟩; have n0_ := Aside0.mk (blk_below (g := gb244) (o := .cells #[.slice A0_0 l0_0.length c0_0, .slice A0_1 l0_1.length c0_1, .slice A0_2 l0_2.length c0_2, .slice A0_3 l0_3.length c0_3] 50 (0, 0)) (by (with_reducible repeat (first | refine blk_drewN ?_ _ | refine blk_drew ?_ | refine blk_alloc ?_ _)); exact BK244.out) hb); have n1_ := Aside0.mk (below_step (by repeat (first | (with_reducible first | exact HB.out | apply below_alloc | apply pw_below_drewN | apply below_drew1 | refine below_set ?_ GE244.out) | exact HB.out)) hb); clear BK244; clear HB; have BK244 := n0_; have HB := n1_; clear n0_ n1_; (try clear hb); (try clear hb2); (try clear hk); (try clear hi); have hcz6_0 : w5.cell? ⟨gb244, 0, none⟩ = some (.slice A0_0 l0_0.length c0_0) := (blk_cell BK244.out 0).trans rfl; have hcz6_1 : w5.cell? ⟨gb244, 1, none⟩ = some (.slice A0_1 l0_1.length c0_1) := (blk_cell BK244.out 1).trans rfl; have hcz6_2 : w5.cell? ⟨gb244, 2, none⟩ = some (.slice A0_2 l0_2.length c0_2) := (blk_cell BK244.out 2).trans rfl; have hcz6_3 : w5.cell? ⟨gb244, 3, none⟩ = some (.slice A0_3 l0_3.length c0_3) := (blk_cell BK244.out 3).trans rfl; have hfz6_0 := blk_frozen BK244.out 0; have hfz6_1 := blk_frozen BK244.out 1; have hfz6_2 := blk_frozen BK244.out 2; have hfz6_3 := blk_frozen BK244.out 3))
  (try simp only [Act.put, List.setIfInBounds_toArray, List.set_cons_succ, List.set_cons_zero])
  go_loopg [3, 12] k (fun kq v3 v12 w' => ∃ (x3_1 : Int) (x12_1 : Int), v3 = .int .i64 x3_1 ∧ v12 = .int .i64 x12_1 ∧ Aside0 (tree_Sized.l0 kq x3_1 l0_2 (l0_2.length : Int) x12_1 = some r) ∧ Aside0 (kq ≤ k) ∧ Aside0 (w'.heap[gb244]? = some (.cells #[(.slice A0_0 l0_0.length c0_0), (.slice A0_1 l0_1.length c0_1), (.slice A0_2 l0_2.length c0_2), (.slice A0_3 l0_3.length c0_3)] 50 (0, 0))) ∧ Aside0 (Below w.heap.size w w'))
  case atStart => exact ⟨(t245), (0), (by first | rfl | (simp; done) | (simp [*]; done)), (by first | rfl | (simp; done) | (simp [*]; done)), H', ⟨Nat.le_refl _⟩, ⟨by (with_reducible repeat (first | refine blk_drewN ?_ _ | refine blk_drew ?_ | refine blk_alloc ?_ _)); exact BK244.out⟩, ⟨by repeat (first | (with_reducible first | exact HB.out | apply below_alloc | apply pw_below_drewN | apply below_drew1 | refine below_set ?_ GE244.out) | exact HB.out)⟩⟩
  case round =>
    clear H'
    try clear c2
    try clear p2
    try clear c3
    try clear hcz4_0
    try clear hcz4_1
    try clear hcz4_2
    try clear hcz4_3
    try clear hcz6_0
    try clear hcz6_1
    try clear hcz6_2
    try clear hcz6_3
    try clear hfz4_0
    try clear hfz4_1
    try clear hfz4_2
    try clear hfz4_3
    try clear hfz6_0
    try clear hfz6_1
    try clear hfz6_2
    try clear hfz6_3
    obtain ⟨x3_1, x12_1, rfl, rfl, HA, HK1, BK244, HB⟩ := hrel
    cases gk with
    | zero => exact absurd HA.out (by simp [tree_Sized.l0])
    | succ k1 =>
      have H := HA.out
      clear HA
      simp only [tree_Sized.l0] at H
      by_cases c7 : x12_1 < (l0_2.length : Int)
      · rw [if_pos c7] at H
        have c7b0 : decide (x12_1 < (l0_2.length : Int)) = true := decide_eq_true c7
        clear c7
        by_cases c8 : 0 ≤ x12_1
        · rw [if_pos c8] at H
          have c8b0 : decide (0 ≤ x12_1) = true := decide_eq_true c8
          clear c8
          by_cases c9 : x12_1 < (l0_2.length : Int)
          · rw [if_pos c9] at H
            have c9b0 : decide (x12_1 < (l0_2.length : Int)) = true := decide_eq_true c9
            clear c9
            replace H := Option.bind_eq_some_iff.mp H
            obtain ⟨t248, A100, H⟩ := H
            replace H : (tree_Sized.l0 k1 (wrap64 (x3_1 + t248)) l0_2 (l0_2.length : Int) (wrap64 (x12_1 + 1))) = some r := H
            have A10 := Aside0.mk A100
            clear A100
            have H' := Aside0.mk H
            clear H
            have p246 : 0 ≤ (x12_1 : Int) := of_decide_eq_true (by first | (with_reducible assumption) | assumption)
            have q246 : x12_1 < (l0_2.length : Int) := of_decide_eq_true (by first | (with_reducible assumption) | assumption)
            obtain ⟨ad246, A246_1, c246_1, e246, hx246_0, hx246_1, hl246_1, hi246_1⟩ := at_T66 HR0_2.out x12_1 p246 q246
            cases e246
            replace hx246_0 := (HB.out.cell (World.block_lt_of_cell? w _ hx246_0)).trans hx246_0
            replace hx246_1 := (HB.out.cell (World.block_lt_of_cell? w _ hx246_1)).trans hx246_1
            have HR246_1 := Aside0.mk hi246_1
            have HC246_1 := Aside0.mk hl246_1
            clear hi246_1 hl246_1
            replace p246 := eq_true p246
            replace q246 := eq_true q246
            go_wp2_with (first | ((with_reducible refine gate_dst (N := 5) rfl ?_); refine box_event ?hg (N := 5) ?hd (cs := #[.string (⟨#[]⟩ : ByteArray), .slice none 0 0]) (t := 66) ?hr ?_; (case hd => rfl); (case hg => rfl); (case hr => first | (go_simp; done) | (go_simp; rfl)); intro gb247 hg w11 hbox hb; have n0_ := Aside0.mk (blk_below (g := gb244) (o := .cells #[.slice A0_0 l0_0.length c0_0, .slice A0_1 l0_1.length c0_1, .slice (some ad246) l0_2.length c0_2, .slice A0_3 l0_3.length c0_3] 50 (0, 0)) (by (with_reducible repeat (first | refine blk_drewN ?_ _ | refine blk_drew ?_ | refine blk_alloc ?_ _)); exact BK244.out) hb); have n1_ := Aside0.mk (below_step (by repeat (first | (with_reducible first | exact HB.out | apply below_alloc | apply pw_below_drewN | apply below_drew1 | refine below_set ?_ GE244.out) | exact HB.out)) hb); have n2_ := Aside0.mk (hbox); have n3_ := Aside0.mk ((by rw [hg]; exact (below_size (by repeat (first | (with_reducible first | exact HB.out | apply below_alloc | apply pw_below_drewN | apply below_drew1 | refine below_set ?_ GE244.out) | exact HB.out))) : w.heap.size ≤ gb247)); have n4_ := Aside0.mk ((by rw [hg]; exact (below_size (by repeat (first | (with_reducible first | exact HB.out | apply below_alloc | apply pw_below_drewN | apply below_drew1 | refine below_set ?_ GE244.out) | exact HB.out))) : w.heap.size ≤ gb247)); have n5_ := Aside0.mk ((by rw [hg]; exact Nat.ne_of_lt (blk_lt (g := gb244) (o := .cells #[.slice A0_0 l0_0.length c0_0, .slice A0_1 l0_1.length c0_1, .slice (some ad246) l0_2.length c0_2, .slice A0_3 l0_3.length c0_3] 50 (0, 0)) (by (with_reducible repeat (first | refine blk_drewN ?_ _ | refine blk_drew ?_ | refine blk_alloc ?_ _)); exact BK244.out)) : gb244 ≠ gb247)); have n6_ := Aside0.mk ((by rw [hg]; exact Nat.ne_of_gt (blk_lt (g := gb244) (o := .cells #[.slice A0_0 l0_0.length c0_0, .slice A0_1 l0_1.length c0_1, .slice (some ad246) l0_2.length c0_2, .slice A0_3 l0_3.length c0_3] 50 (0, 0)) (by (with_reducible repeat (first | refine blk_drewN ?_ _ | refine blk_drew ?_ | refine blk_alloc ?_ _)); exact BK244.out)) : gb247 ≠ gb244)); clear BK244; clear HB; have BK244 := n0_; have HB := n1_; have BK247 := n2_; have GW247 := n3_; have GE247 := n4_; have NB244_247 := n5_; have NB247_244 := n6_; clear n0_ n1_ n2_ n3_ n4_ n5_ n6_; clear hb hbox hg; have hnb12 := NB247_244.out; have hnc12 := NB244_247.out; have hcz13_0 : w11.cell? ⟨gb247, 0, none⟩ = some (.string (⟨#[]⟩ : ByteArray)) := (blk_cell BK247.out 0).trans rfl; have hcz13_1 : w11.cell? ⟨gb247, 1, none⟩ = some (.slice none 0 0) := (blk_cell BK247.out 1).trans rfl; have hfz13_0 := blk_frozen BK247.out 0; have hfz13_1 := blk_frozen BK247.out 1) | ((with_reducible refine gate_callee (f := 36) rfl ?_); refine goesL_ (some 19) rfl rfl Tryd.func36 (by kernel_rfl) rfl #[.slice A246_1 ((rd_T66 l0_2 x12_1).f1).length c246_1] rfl (by (try simp only [List.map_toArray, List.map_cons, List.map_nil]); first | done | rfl | (simp only [List.length_drop, List.length_take]; rfl)) ?_; (with_reducible refine (tree_stmts.calls k1 _ _ ((rd_T66 l0_2 x12_1).f1) t248 _ ?side1 ?side2 A10.out).mono ?_); (case side1 => exact Kd.C_below HR246_1.out (by repeat (first | (with_reducible first | exact HB.out | apply below_alloc | apply pw_below_drewN | apply below_drew1 | refine below_set ?_ GE244.out | refine below_set ?_ GE247.out) | exact HB.out))); (case side2 => exact HC246_1.out); rintro e w14 ⟨rfl, hb⟩; refine ⟨_, rfl, ?_⟩; have n0_ := Aside0.mk (blk_below (g := gb244) (o := .cells #[.slice A0_0 l0_0.length c0_0, .slice A0_1 l0_1.length c0_1, .slice (some ad246) l0_2.length c0_2, .slice A0_3 l0_3.length c0_3] 50 (0, 0)) (by (with_reducible repeat (first | refine blk_drewN ?_ _ | refine blk_drew ?_ | refine blk_alloc ?_ _)); refine blk_far ?_ NB244_247.out _; (with_reducible repeat (first | refine blk_drewN ?_ _ | refine blk_drew ?_ | refine blk_alloc ?_ _)); refine blk_far ?_ NB244_247.out _; (with_reducible repeat (first | refine blk_drewN ?_ _ | refine blk_drew ?_ | refine blk_alloc ?_ _)); exact BK244.out) hb); have n1_ := Aside0.mk (blk_below (g := gb247) (o := .cells #[.string ((rd_T66 l0_2 x12_1).f0), .slice A246_1 ((rd_T66 l0_2 x12_1).f1).length c246_1] 66 (0, 0)) (by (with_reducible repeat (first | refine blk_drewN ?_ _ | refine blk_drew ?_ | refine blk_alloc ?_ _)); refine blk_put (cs := #[.string ((rd_T66 l0_2 x12_1).f0), .slice none 0 0]) ?_ 1 _ rfl; (with_reducible repeat (first | refine blk_drewN ?_ _ | refine blk_drew ?_ | refine blk_alloc ?_ _)); refine blk_put (cs := #[.string (⟨#[]⟩ : ByteArray), .slice none 0 0]) ?_ 0 _ rfl; (with_reducible repeat (first | refine blk_drewN ?_ _ | refine blk_drew ?_ | refine blk_alloc ?_ _)); exact BK247.out) hb); have n2_ := Aside0.mk (below_step (by repeat (first | (with_reducible first | exact HB.out | apply below_alloc | apply pw_below_drewN | apply below_drew1 | refine below_set ?_ GE244.out | refine below_set ?_ GE247.out) | exact HB.out)) hb); clear BK244; clear BK247; clear HB; have BK244 := n0_; have BK247 := n1_; have HB := n2_; clear n0_ n1_ n2_; (try clear hb); (try clear hb2); (try clear hk); (try clear hi)))
            go_roundg k1
            case measure => have := HK1.out; omega
            case rel => exact ⟨(wrap64 (x3_1 + t248)), (wrap64 (x12_1 + 1)), (by first | rfl | (simp; done) | (simp [*]; done)), (by first | rfl | (simp; done) | (simp [*]; done)), H', ⟨by have := HK1.out; omega⟩, ⟨by (with_reducible repeat (first | refine blk_drewN ?_ _ | refine blk_drew ?_ | refine blk_alloc ?_ _)); exact BK244.out⟩, ⟨by repeat (first | (with_reducible first | exact HB.out | apply below_alloc | apply pw_below_drewN | apply below_drew1 | refine below_set ?_ GE244.out | refine below_set ?_ GE247.out) | exact HB.out)⟩⟩
          · rw [if_neg c9] at H
            exact absurd H (by simp)
        · rw [if_neg c8] at H
          exact absurd H (by simp)
      · rw [if_neg c7] at H
        have c7b0 : decide (x12_1 < (l0_2.length : Int)) = false := decide_eq_false c7
        clear c7
        obtain rfl := Option.some.inj H
        go_wp2
        go_ret
        exact ⟨by first | rfl | (simp [errW_none, errW_some] <;> rfl) | (simp [*, errW_none, errW_some] <;> rfl), by repeat (first | (with_reducible first | exact HB.out | apply below_alloc | apply pw_below_drewN | apply below_drew1 | refine below_set ?_ GE244.out) | exact HB.out)⟩

end Go.Proofs.YtnnbbeloifhofaaDoor.P
end

section
/- A program's: turned, how great, whether the same. -/
namespace Go.Proofs.YtnnbbeloifhofaaDoor.P
open Go Go.RowKit Go.Proofs
open Go.Proofs.YtnnbbeloifhofaaDoorW.PrintWords Go.Proofs.YtnnbbeloifhofaaDoorW.PrintLast Go.Proofs.YtnnbbeloifhofaaDoorW.PrintMore
set_option linter.unusedVariables false

theorem rdEn (pre : List REn) (x : REn) (xs : List REn) : rd_T72 (pre ++ x :: xs) (pre.length : Int) = x := getD_mid ..
theorem rdV (pre : List RV) (x : RV) (xs : List RV) : rd_T56 (pre ++ x :: xs) (pre.length : Int) = x := getD_mid ..
theorem rdP (pre : List RP) (x : RP) (xs : List RP) : rd_T69 (pre ++ x :: xs) (pre.length : Int) = x := getD_mid ..
theorem rdTP (pre : List TP) (x : TP) (xs : List TP) : rd_T66 (pre ++ x :: xs) (pre.length : Int) = x := getD_mid ..
section
variable (e : List REn) (v : List RV) (p : List RP) (m : List RS)
theorem Prog_l2 : ∀ (xs pre : List RP) (n : Int) (a : List ES) (b : List VS) (acc : List TP) (d : List TS), (∀ y ∈ xs, bulkSs y.f1 < 1099511627775) → n = ((pre ++ xs).length : Int) → (pre ++ xs).length < 1099511627776 → acc.length = pre.length →
    Ev (fun k => helmsmanlaw12_Prog.l2 k (pre ++ xs) n pre.length a b acc d) (a, b, acc ++ convPs xs, d) := by
  intro xs
  induction xs with
  | nil =>
    intro pre n a b acc d _ hn _ _
    subst hn
    refine Ev.step (fun k => helmsmanlaw12_Prog.l2.eq_2 _ _ _ _ _ _ _ k) (Ev.no (end_not pre) ?_)
    rw [show convPs [] = [] from rfl, List.append_nil]; exact Ev.now _
  | cons x xs ih =>
    intro pre n a b acc d h hn hl ha
    subst hn
    refine Ev.step (fun k => helmsmanlaw12_Prog.l2.eq_2 _ _ _ _ _ _ _ k) (Ev.yes (mid_lt pre x xs) (Ev.yes (by omega) (Ev.yes (mid_lt pre x xs) ?_)))
    rw [rdP]
    refine Ev.bind (Stmts_ev x.f1 (h x (List.mem_cons_self ..))) (Ev.yes (by rw [ha]; rw [List.length_append] at hl; omega) ?_)
    rw [next_len pre x xs (by omega)]
    have := ih (pre ++ [x]) ((pre ++ x :: xs).length : Int) a b (acc ++ [convP x]) d (fun y hy => h y (List.mem_cons_of_mem _ hy)) (by rw [← snoc]) (by rw [← snoc]; exact hl) (by rw [List.length_append, List.length_append, ha]; rfl)
    rw [← snoc, List.append_assoc, List.singleton_append] at this
    exact this
theorem Prog_l1 (hp : ∀ y ∈ p, bulkSs y.f1 < 1099511627775) (hl2 : p.length < 1099511627776) : ∀ (xs pre : List RV) (n : Int) (a : List ES) (acc : List VS) (d : List TS), n = ((pre ++ xs).length : Int) → (pre ++ xs).length < 1099511627776 → acc.length = pre.length →
    Ev (fun k => helmsmanlaw12_Prog.l1 k (pre ++ xs) n pre.length e v p m a acc d) (a, acc ++ xs.map convV, convPs p, d) := by
  intro xs
  induction xs with
  | nil =>
    intro pre n a acc d hn _ _
    subst hn
    refine Ev.step (fun k => helmsmanlaw12_Prog.l1.eq_2 _ _ _ _ _ _ _ _ _ _ k) (Ev.no (end_not pre) ?_)
    rw [List.map_nil, List.append_nil]
    exact Prog_l2 p [] _ a acc [] d hp rfl (by rw [List.nil_append]; exact hl2) rfl
  | cons x xs ih =>
    intro pre n a acc d hn hl ha
    subst hn
    refine Ev.step (fun k => helmsmanlaw12_Prog.l1.eq_2 _ _ _ _ _ _ _ _ _ _ k) (Ev.yes (mid_lt pre x xs) (Ev.yes (by omega) (Ev.yes (mid_lt pre x xs) (Ev.yes (by rw [ha]; rw [List.length_append] at hl; omega) ?_))))
    rw [rdV, next_len pre x xs (by omega)]
    have := ih (pre ++ [x]) ((pre ++ x :: xs).length : Int) a (acc ++ [convV x]) d (by rw [← snoc]) (by rw [← snoc]; exact hl) (by rw [List.length_append, List.length_append, ha]; rfl)
    rw [← snoc, List.append_assoc, List.singleton_append] at this
    exact this
theorem Prog_l0 (hp : ∀ y ∈ p, bulkSs y.f1 < 1099511627775) (hl2 : p.length < 1099511627776) (hl1 : v.length < 1099511627776) : ∀ (xs pre : List REn) (n : Int) (acc : List ES) (d : List TS), n = ((pre ++ xs).length : Int) → (pre ++ xs).length < 1099511627776 → acc.length = pre.length →
    Ev (fun k => helmsmanlaw12_Prog.l0 k (pre ++ xs) n pre.length e v p m acc d) (acc ++ xs.map convEn, v.map convV, convPs p, d) := by
  intro xs
  induction xs with
  | nil =>
    intro pre n acc d hn _ _
    subst hn
    refine Ev.step (fun k => helmsmanlaw12_Prog.l0.eq_2 _ _ _ _ _ _ _ _ _ k) (Ev.no (end_not pre) ?_)
    rw [List.map_nil, List.append_nil]
    exact Prog_l1 e v p m hp hl2 v [] _ acc [] d rfl (by rw [List.nil_append]; exact hl1) rfl
  | cons x xs ih =>
    intro pre n acc d hn hl ha
    subst hn
    refine Ev.step (fun k => helmsmanlaw12_Prog.l0.eq_2 _ _ _ _ _ _ _ _ _ k) (Ev.yes (mid_lt pre x xs) (Ev.yes (by omega) (Ev.yes (mid_lt pre x xs) (Ev.yes (by rw [ha]; rw [List.length_append] at hl; omega) ?_))))
    rw [rdEn, next_len pre x xs (by omega)]
    have := ih (pre ++ [x]) ((pre ++ x :: xs).length : Int) (acc ++ [convEn x]) d (by rw [← snoc]) (by rw [← snoc]; exact hl) (by rw [List.length_append, List.length_append, ha]; rfl)
    rw [← snoc, List.append_assoc, List.singleton_append] at this
    exact this
structure Small : Prop where
  en : e.length < 1099511627776
  va : v.length < 1099511627776
  pr : p.length < 1099511627776
  el : ∀ x ∈ e, x.f1.length < 1099511627776
  bo : ∀ x ∈ p, bulkSs x.f1 < 1099511627775
  ma : bulkSs m < 1099511627775
theorem small_of (hb : bulkP e v p m < 1099511627775) : Small e v p m := by
  unfold bulkP at hb
  have l1 := len_sum bulkEn (fun x => by unfold bulkEn; omega) e
  have l2 := len_sum bulkV (fun x => by unfold bulkV; omega) v
  have l3 := len_sum bulkPr (fun x => by unfold bulkPr; omega) p
  refine ⟨by omega, by omega, by omega, fun x hx => ?_, fun x hx => ?_, by omega⟩
  · have := mem_sum bulkEn hx
    have e1 : bulkEn x = x.f0.size + bulkN x.f1 + 1 := rfl
    have := len_bulkN x.f1
    omega
  · have := mem_sum bulkPr hx
    have e1 : bulkPr x = x.f0.size + bulkSs x.f1 + 1 := rfl
    omega
theorem Prog_ev (h : Small e v p m) : Ev (fun k => helmsmanlaw12_Prog.f k e v p m) (e.map convEn, v.map convV, convPs p, convSs m) :=
  Ev.bind (Stmts_ev m h.ma) (Prog_l0 e v p m h.bo h.pr h.va e [] _ [] (convSs m) rfl (by rw [List.nil_append]; exact h.en) rfl)

/-! ### How great -/
def szP : Nat := szSs m + (p.map fun x => szSs x.f1).sum
end
theorem wrap_nat {a b : Nat} (h : a + b < 9223372036854775808) : wrap64 ((a : Int) + (b : Int)) = ((a + b : Nat) : Int) := by rw [wrap64_small (by omega) (by omega)]; rfl
theorem Sized_l0 (e : List REn) (v : List RV) (m : List RS) : ∀ (xs pre : List RP) (a : Nat), (∀ y ∈ xs, bulkSs y.f1 < 1099511627775) → (pre ++ xs).length < 1099511627776 → a + (xs.map fun x => szSs x.f1).sum < 4611686018427387904 →
    Ev (fun k => helmsmanref12_Sized.l0 k (a : Int) pre.length e v (pre ++ xs) m) ((a + (xs.map fun x => szSs x.f1).sum : Nat) : Int) := by
  intro xs
  induction xs with
  | nil =>
    intro pre a _ _ _
    refine Ev.step (fun k => helmsmanref12_Sized.l0.eq_2 _ _ _ _ _ _ k) (Ev.no (end_not pre) ?_)
    exact Ev.now _
  | cons x xs ih =>
    intro pre a h hl ha
    rw [List.map_cons, List.sum_cons] at ha ⊢
    refine Ev.step (fun k => helmsmanref12_Sized.l0.eq_2 _ _ _ _ _ _ k) (Ev.yes (mid_lt pre x xs) (Ev.yes (by omega) ?_))
    rw [rdP]
    refine Ev.bind (Size_ev x.f1 (h x (List.mem_cons_self ..))) ?_
    rw [next_len pre x xs (by omega), wrap_nat (by omega)]
    have := ih (pre ++ [x]) (a + szSs x.f1) (fun y hy => h y (List.mem_cons_of_mem _ hy)) (by rw [← snoc]; exact hl) (by omega)
    rw [← snoc] at this
    rw [← Nat.add_assoc]
    exact this
theorem sz_sum (p : List RP) : (p.map fun x => szSs x.f1).sum ≤ (p.map bulkPr).sum := by
  induction p with
  | nil => exact Nat.le_refl _
  | cons x xs ih => rw [List.map_cons, List.sum_cons, List.map_cons, List.sum_cons]; have := szSs_bulk x.f1; unfold bulkPr at ih ⊢; omega
theorem szP_bulk (e : List REn) (v : List RV) (p : List RP) (m : List RS) : szP p m ≤ bulkP e v p m := by
  unfold szP bulkP
  have := sz_sum p
  have := szSs_bulk m
  omega
theorem Sized_ev (e : List REn) (v : List RV) (p : List RP) (m : List RS) (h : Small e v p m) (hb : bulkP e v p m < 1099511627775) : Ev (fun k => helmsmanref12_Sized.f k e v p m) (szP p m : Int) := by
  have hz := szP_bulk e v p m
  unfold szP at hz ⊢
  exact Ev.bind (Size_ev m h.ma) (Sized_l0 e v m p [] (szSs m) h.bo (by rw [List.nil_append]; exact h.pr) (by omega))
theorem tSized_l0 : ∀ (xs pre : List RP) (n : Int) (a : Nat), (∀ y ∈ xs, bulkSs y.f1 < 1099511627775) → n = ((pre ++ xs).length : Int) → (pre ++ xs).length < 1099511627776 → a + (xs.map fun x => szSs x.f1).sum < 4611686018427387904 →
    Ev (fun k => tree_Sized.l0 k (a : Int) (convPs (pre ++ xs)) n pre.length) ((a + (xs.map fun x => szSs x.f1).sum : Nat) : Int) := by
  intro xs
  induction xs with
  | nil =>
    intro pre n a _ hn _ _
    subst hn
    refine Ev.step (fun k => tree_Sized.l0.eq_2 _ _ _ _ k) (Ev.no (end_not pre) ?_)
    exact Ev.now _
  | cons x xs ih =>
    intro pre n a h hn hl ha
    subst hn
    rw [List.map_cons, List.sum_cons] at ha ⊢
    refine Ev.step (fun k => tree_Sized.l0.eq_2 _ _ _ _ k) (Ev.yes (mid_lt pre x xs) (Ev.yes (by omega) (Ev.yes (by rw [convPs_len]; exact mid_lt pre x xs) ?_)))
    rw [show rd_T66 (convPs (pre ++ x :: xs)) (pre.length : Int) = convP x by
      rw [convPs, List.map_append, List.map_cons]
      have := rdTP (pre.map convP) (convP x) (xs.map convP)
      rw [List.length_map] at this; exact this]
    refine Ev.bind (stmts_ev x.f1 (h x (List.mem_cons_self ..))) ?_
    rw [next_len pre x xs (by omega), wrap_nat (by omega)]
    have := ih (pre ++ [x]) ((pre ++ x :: xs).length : Int) (a + szSs x.f1) (fun y hy => h y (List.mem_cons_of_mem _ hy)) (by rw [← snoc]) (by rw [← snoc]; exact hl) (by omega)
    rw [← snoc] at this
    rw [← Nat.add_assoc]
    exact this
theorem tSized_ev (a : List ES) (b : List VS) (e : List REn) (v : List RV) (p : List RP) (m : List RS) (h : Small e v p m) (hb : bulkP e v p m < 1099511627775) : Ev (fun k => tree_Sized.f k a b (convPs p) (convSs m)) (szP p m : Int) := by
  have hz := szP_bulk e v p m
  unfold szP at hz ⊢
  unfold tree_Sized.f
  refine Ev.bind (stmts_ev m h.ma) ?_
  have := tSized_l0 p [] (p.length : Int) (szSs m) h.bo rfl (by rw [List.nil_append]; exact h.pr) (by omega)
  rw [convPs_len]
  exact this

/-! ### Whether the same -/
theorem strs_ev (xs ys : List ByteArray) (hlim : xs.length < 4611686018427387904) : Ev (fun k => slices_Equal_string_string.f k xs ys) (all2 (fun a b => decide (a = b)) xs ys) := by
  unfold slices_Equal_string_string.f
  by_cases hl : xs.length = ys.length
  · refine Ev.yes (by omega) ?_
    rw [← Bool.and_true (all2 _ xs ys)]
    refine all_step xs ys ByteArray.empty ByteArray.empty (fun k i => slices_Equal_string_string.l0 k xs ys (xs.length : Int) i) (fun a b => decide (a = b)) true hl hlim ?_ ?_
    · intro i hi r hr
      refine Ev.step (fun k => slices_Equal_string_string.l0.eq_2 _ _ _ _ k) (Ev.yes (by omega) (Ev.yes (by omega) (Ev.yes (by omega) (Ev.yes (by omega) ?_))))
      show Ev _ (decide (xs.getD i ByteArray.empty = ys.getD i ByteArray.empty) && r)
      by_cases h : xs.getD i ByteArray.empty = ys.getD i ByteArray.empty
      · refine Ev.yes (show (xs.getD i ByteArray.empty).toList = (ys.getD i ByteArray.empty).toList from toList_iff.2 h) ?_
        rw [decide_eq_true h, Bool.true_and]; exact hr
      · refine Ev.no (show ¬ (xs.getD i ByteArray.empty).toList = (ys.getD i ByteArray.empty).toList from fun e => h (toList_iff.1 e)) ?_
        rw [decide_eq_false h, Bool.false_and]; exact Ev.now _
    · exact Ev.step (fun k => slices_Equal_string_string.l0.eq_2 _ _ _ _ k) (Ev.no (by omega) (Ev.now _))
  · refine Ev.no (by omega) ?_
    rw [all2_len hl]; exact Ev.now _
def sameEn (x y : REn) : Bool := decide (x.f0 = y.f0) && all2 (fun a b => decide (a = b)) x.f1 y.f1
theorem ens_ev (xs ys : List REn) (hlim : xs.length < 4611686018427387904) (hin : ∀ x ∈ xs, x.f1.length < 4611686018427387904) : Ev (fun k => tree_Enum_at_tree_Same_1.f k (xs.map convEn) (ys.map convEn)) (all2 sameEn xs ys) := by
  unfold tree_Enum_at_tree_Same_1.f
  rw [List.length_map, List.length_map]
  by_cases hl : xs.length = ys.length
  · refine Ev.yes (by omega) ?_
    rw [← Bool.and_true (all2 _ xs ys)]
    refine all_step xs ys z72 z72 (fun k i => tree_Enum_at_tree_Same_1.l0 k (ys.map convEn) (xs.map convEn) (xs.length : Int) i) sameEn true hl hlim ?_ ?_
    · intro i hi r hr
      have hm := getD_mem' z72 hi
      refine Ev.step (fun k => tree_Enum_at_tree_Same_1.l0.eq_2 _ _ _ _ k) (Ev.yes (by omega) (Ev.yes (by omega) (Ev.yes (by rw [List.length_map]; omega) (Ev.yes (by rw [List.length_map]; omega) ?_))))
      rw [show rd_T79 (xs.map convEn) (i : Int) = convEn (xs.getD i z72) from getD_map' convEn xs i _ _ hi, show rd_T79 (ys.map convEn) (i : Int) = convEn (ys.getD i z72) from getD_map' convEn ys i _ _ (by omega)]
      have hq := hin _ hm
      revert hq
      generalize xs.getD i z72 = x
      generalize ys.getD i z72 = y
      intro hq
      have : Ev (fun k => tree_Same_1.f k (convEn x).f0 (convEn x).f1 (convEn y).f0 (convEn y).f1) (sameEn x y) := by
        unfold tree_Same_1.f sameEn
        by_cases h : x.f0 = y.f0
        · refine Ev.yes (toList_iff.2 h) ?_
          rw [decide_eq_true h, Bool.true_and]
          exact Ev.bind (strs_ev x.f1 y.f1 hq) (Ev.now _)
        · refine Ev.no (fun e => h (toList_iff.1 e)) ?_
          rw [decide_eq_false h, Bool.false_and]; exact Ev.now _
      refine Ev.bind this ?_
      cases e : sameEn x y with
      | false => exact Ev.no (by simp) (Ev.now _)
      | true => exact Ev.yes rfl (by rw [Bool.true_and]; exact hr)
    · exact Ev.step (fun k => tree_Enum_at_tree_Same_1.l0.eq_2 _ _ _ _ k) (Ev.no (by omega) (Ev.now _))
  · refine Ev.no (by omega) ?_
    rw [all2_len hl]; exact Ev.now _
def sameV (x y : RV) : Bool := decide (x.f0 = y.f0) && (decide (x.f1 = y.f1) && decide (x.f2 = y.f2))
theorem vars_ev (xs ys : List RV) (hlim : xs.length < 4611686018427387904) : Ev (fun k => tree_Var.f k (xs.map convV) (ys.map convV)) (all2 sameV xs ys) := by
  unfold tree_Var.f
  rw [List.length_map, List.length_map]
  by_cases hl : xs.length = ys.length
  · refine Ev.yes (by omega) ?_
    rw [← Bool.and_true (all2 _ xs ys)]
    refine all_step xs ys z56 z56 (fun k i => tree_Var.l0 k (xs.map convV) (ys.map convV) (xs.length : Int) i) sameV true hl hlim ?_ ?_
    · intro i hi r hr
      refine Ev.step (fun k => tree_Var.l0.eq_2 _ _ _ _ k) (Ev.yes (by omega) (Ev.yes (by omega) (Ev.yes (by rw [List.length_map]; omega) (Ev.yes (by rw [List.length_map]; omega) ?_))))
      rw [show rd_T80 (xs.map convV) (i : Int) = convV (xs.getD i z56) from getD_map' convV xs i _ _ hi, show rd_T80 (ys.map convV) (i : Int) = convV (ys.getD i z56) from getD_map' convV ys i _ _ (by omega)]
      generalize xs.getD i z56 = x
      generalize ys.getD i z56 = y
      have e : (!((convV x).f0.toList == (convV y).f0.toList) || (!((convV x).f1.toList == (convV y).f1.toList) || !((convV x).f2 == (convV y).f2))) = !(sameV x y) := by
        have a0 : ((convV x).f0.toList == (convV y).f0.toList) = decide (x.f0 = y.f0) := by
          rw [Bool.eq_iff_iff, beq_iff_eq, decide_eq_true_eq]; exact toList_iff
        have a1 : ((convV x).f1.toList == (convV y).f1.toList) = decide (x.f1 = y.f1) := by
          rw [Bool.eq_iff_iff, beq_iff_eq, decide_eq_true_eq]; exact toList_iff
        have a2 : ((convV x).f2 == (convV y).f2) = decide (x.f2 = y.f2) := by
          rw [Bool.eq_iff_iff, beq_iff_eq, decide_eq_true_eq]; exact Iff.rfl
        rw [a0, a1, a2]; unfold sameV; simp only [Bool.not_and]
      rw [e]
      cases h : sameV x y with
      | false => exact Ev.yes rfl (Ev.now _)
      | true => exact Ev.no (by simp) (by rw [Bool.true_and]; exact hr)
    · exact Ev.step (fun k => tree_Var.l0.eq_2 _ _ _ _ k) (Ev.no (by omega) (Ev.now _))
  · refine Ev.no (by omega) ?_
    rw [all2_len hl]; exact Ev.now _
def samePr (x y : RP) : Bool := decide (x.f0 = y.f0) && sameSs x.f1 y.f1
theorem procs_ev (xs ys : List RP) (hlim : xs.length < 4611686018427387904) (hin : ∀ x ∈ xs, bulkSs x.f1 < 1099511627775) : Ev (fun k => tree_Proc_at_tree_Same_2.f k (convPs xs) (convPs ys)) (all2 samePr xs ys) := by
  unfold tree_Proc_at_tree_Same_2.f
  rw [convPs_len, convPs_len]
  by_cases hl : xs.length = ys.length
  · refine Ev.yes (by omega) ?_
    rw [← Bool.and_true (all2 _ xs ys)]
    refine all_step xs ys z69 z69 (fun k i => tree_Proc_at_tree_Same_2.l0 k (convPs ys) (convPs xs) (xs.length : Int) i) samePr true hl hlim ?_ ?_
    · intro i hi r hr
      have hm := getD_mem' z69 hi
      refine Ev.step (fun k => tree_Proc_at_tree_Same_2.l0.eq_2 _ _ _ _ k) (Ev.yes (by omega) (Ev.yes (by omega) (Ev.yes (by rw [convPs_len]; omega) (Ev.yes (by rw [convPs_len]; omega) ?_))))
      rw [show rd_T66 (convPs xs) (i : Int) = convP (xs.getD i z69) from getD_map' convP xs i _ _ hi, show rd_T66 (convPs ys) (i : Int) = convP (ys.getD i z69) from getD_map' convP ys i _ _ (by omega)]
      have hq := hin _ hm
      revert hq
      generalize xs.getD i z69 = x
      generalize ys.getD i z69 = y
      intro hq
      have : Ev (fun k => tree_Same_2.f k (convP x).f0 (convP x).f1 (convP y).f0 (convP y).f1) (samePr x y) := by
        unfold tree_Same_2.f samePr
        by_cases h : x.f0 = y.f0
        · refine Ev.yes (toList_iff.2 h) ?_
          rw [decide_eq_true h, Bool.true_and]
          exact Ev.bind (tSameSs_ev x.f1 y.f1 hq) (Ev.now _)
        · refine Ev.no (fun e => h (toList_iff.1 e)) ?_
          rw [decide_eq_false h, Bool.false_and]; exact Ev.now _
      refine Ev.bind this ?_
      cases e : samePr x y with
      | false => exact Ev.no (by simp) (Ev.now _)
      | true => exact Ev.yes rfl (by rw [Bool.true_and]; exact hr)
    · exact Ev.step (fun k => tree_Proc_at_tree_Same_2.l0.eq_2 _ _ _ _ k) (Ev.no (by omega) (Ev.now _))
  · refine Ev.no (by omega) ?_
    rw [all2_len hl]; exact Ev.now _
def sameP (e : List REn) (v : List RV) (p : List RP) (m : List RS) (e' : List REn) (v' : List RV) (p' : List RP) (m' : List RS) : Bool := all2 sameEn e e' && (all2 sameV v v' && (all2 samePr p p' && sameSs m m'))
theorem Same_ev (e : List REn) (v : List RV) (p : List RP) (m : List RS) (h : Small e v p m) (e' : List REn) (v' : List RV) (p' : List RP) (m' : List RS) :
    Ev (fun k => tree_Same.f k (e.map convEn) (v.map convV) (convPs p) (convSs m) (e'.map convEn) (v'.map convV) (convPs p') (convSs m')) (sameP e v p m e' v' p' m') := by
  have h1 := h.en
  have h2 := h.va
  have h3 := h.pr
  unfold tree_Same.f sameP
  refine Ev.bind (ens_ev e e' (by omega) (fun x hx => by have := h.el x hx; omega)) ?_
  cases all2 sameEn e e' with
  | false => exact Ev.no (by simp) (Ev.now _)
  | true =>
    refine Ev.yes rfl (Ev.bind (vars_ev v v' (by omega)) ?_)
    cases all2 sameV v v' with
    | false => exact Ev.no (by simp) (Ev.now _)
    | true =>
      refine Ev.yes rfl (Ev.bind (procs_ev p p' (by omega) h.bo) ?_)
      cases all2 samePr p p' with
      | false => exact Ev.no (by simp) (Ev.now _)
      | true => exact Ev.yes rfl (Ev.bind (tSameSs_ev m m' h.ma) (by simp only [Bool.true_and]; exact Ev.now _))
end Go.Proofs.YtnnbbeloifhofaaDoor.P
end

section
/- The walk of alive: printed by genalive.py. -/
namespace Go.Proofs.YtnnbbeloifhofaaDoor.P
open Go Go.RowKit Go.Proofs
open Go.Proofs.YtnnbbeloifhofaaDoorW.PrintWords Go.Proofs.YtnnbbeloifhofaaDoorW.PrintLast Go.Proofs.YtnnbbeloifhofaaDoorW.PrintMore
set_option linter.unusedVariables false

theorem C_one {α : Type} {d : Kd α} {w : World} {b : Nat} {c : List Value} {t : TypeId} {x : α} (hb : w.heap[b]? = some (.cells c.toArray t (0, 0))) (hK : d.K w x c) : d.C w (some ⟨b, 0, none⟩) [x].length [x] := by
  refine ⟨rfl, by simp, fun _ => ⟨⟨b, 0, none⟩, rfl, fun j p hj => ?_⟩⟩
  match j, hj with
  | 0, hj =>
    obtain rfl : x = p := by simpa using hj
    refine ⟨c, d.K_len hK, hK, fun i u hu => ?_⟩
    rw [Nat.zero_mul, Nat.zero_add, add_plain, blk_cell hb]
    simpa using hu
  | j + 1, hj => simp at hj
theorem C_two {α : Type} {d : Kd α} {w : World} {b : Nat} {c c' : List Value} {t : TypeId} {x y : α} (hb : w.heap[b]? = some (.cells (c ++ c').toArray t (0, 0))) (hK : d.K w x c) (hK' : d.K w y c') : d.C w (some ⟨b, 0, none⟩) [x, y].length [x, y] := by
  refine ⟨rfl, by simp, fun _ => ⟨⟨b, 0, none⟩, rfl, fun j p hj => ?_⟩⟩
  match j, hj with
  | 0, hj =>
    obtain rfl : x = p := by simpa using hj
    refine ⟨c, d.K_len hK, hK, fun i u hu => ?_⟩
    rw [Nat.zero_mul, Nat.zero_add, add_plain, blk_cell hb]
    have hi : i < c.length := by
      rcases Nat.lt_or_ge i c.length with h | h
      · exact h
      · rw [List.getElem?_eq_none h] at hu; cases hu
    simpa [List.getElem?_append_left hi] using hu
  | 1, hj =>
    obtain rfl : y = p := by simpa using hj
    refine ⟨c', d.K_len hK', hK', fun i u hu => ?_⟩
    have hl := d.K_len hK
    rw [Nat.one_mul, add_plain, blk_cell hb, ← hl]
    have h2 : (c ++ c')[c.length + i]? = c'[i]? := by rw [List.getElem?_append_right (by omega)]; congr 1; omega
    simpa [h2] using hu
  | j + 2, hj => simp at hj
theorem blk_at {W : World} {n : Nat} (hn : W.heap.size = n) (o : Obj) : (W.alloc o).heap[n]? = some o := hn ▸ blk_new W o
theorem size_at {W : World} {n : Nat} (hn : W.heap.size = n) (o : Obj) : (W.alloc o).heap.size = n + 1 := by simp [hn]
def aX : TE := ⟨lit [110, 97, 109, 101], lit [120], 0, [], 0⟩
def aOne : TE := ⟨lit [110, 117, 109], lit [], 1, [], 0⟩
def aAt : TE := ⟨lit [97, 116], lit [97], 0, [aX], 0⟩
def aNeg : TE := ⟨lit [110, 101, 103], lit [], 0, [aX], 0⟩
def aPlus : TE := ⟨lit [43], lit [], 0, [aOne, aAt], 0⟩
def aE : TE := ⟨lit [45], lit [], 0, [aNeg, aPlus], 0⟩
def aS : TS := ⟨lit [115, 101, 116], lit [120], [aE], [], [], 0⟩
def aliveW (w : World) : World := ((((((((((w.alloc (.cells #[.string ⟨#[110, 97, 109, 101]⟩, .string ⟨#[120]⟩, .int .i64 0, .slice none 0 0, .int .i64 0] 33 (0, 0))).alloc (.cells #[.string ⟨#[110, 117, 109]⟩, .string ⟨#[]⟩, .int .i64 1, .slice none 0 0, .int .i64 0] 33 (0, 0))).alloc (.cells #[.string ⟨#[110, 97, 109, 101]⟩, .string ⟨#[120]⟩, .int .i64 0, .slice none 0 0, .int .i64 0] 33 (0, 0))).alloc (.cells #[.string ⟨#[110, 97, 109, 101]⟩, .string ⟨#[120]⟩, .int .i64 0, .slice none 0 0, .int .i64 0] 33 (0, 0))).alloc (.cells #[.string ⟨#[110, 117, 109]⟩, .string ⟨#[]⟩, .int .i64 1, .slice none 0 0, .int .i64 0, .string ⟨#[97, 116]⟩, .string ⟨#[97]⟩, .int .i64 0, .slice (some ⟨(w.heap.size + 1 + 1 + 1), 0, none⟩) 1 1, .int .i64 0] 33 (0, 0))).alloc (.cells #[.string ⟨#[110, 101, 103]⟩, .string ⟨#[]⟩, .int .i64 0, .slice (some ⟨(w.heap.size + 1 + 1), 0, none⟩) 1 1, .int .i64 0, .string ⟨#[43]⟩, .string ⟨#[]⟩, .int .i64 0, .slice (some ⟨(w.heap.size + 1 + 1 + 1 + 1), 0, none⟩) 2 2, .int .i64 0] 33 (0, 0))).alloc (.cells #[.string ⟨#[45]⟩, .string ⟨#[]⟩, .int .i64 0, .slice (some ⟨(w.heap.size + 1 + 1 + 1 + 1 + 1), 0, none⟩) 2 2, .int .i64 0] 33 (0, 0))).alloc (.cells #[.string ⟨#[45]⟩, .string ⟨#[]⟩, .int .i64 0, .slice (some ⟨(w.heap.size + 1 + 1 + 1 + 1 + 1), 0, none⟩) 2 2, .int .i64 0] 33 (0, 0))).alloc (.cells #[.string ⟨#[115, 101, 116]⟩, .string ⟨#[120]⟩, .slice (some ⟨(w.heap.size + 1 + 1 + 1 + 1 + 1 + 1 + 1), 0, none⟩) 1 1, .slice none 0 0, .slice none 0 0, .int .i64 0] 76 (0, 0))).alloc (.cells #[.slice none 0 0, .slice none 0 0, .slice none 0 0, .slice (some ⟨(w.heap.size + 1 + 1 + 1 + 1 + 1 + 1 + 1 + 1), 0, none⟩) 1 1] 50 (0, 0)))
structure AliveAt (w W : World) : Prop where
  below : Below w.heap.size w W
  B6 : W.heap[(w.heap.size + 1 + 1 + 1 + 1 + 1 + 1)]? = some (.cells #[.string ⟨#[45]⟩, .string ⟨#[]⟩, .int .i64 0, .slice (some ⟨(w.heap.size + 1 + 1 + 1 + 1 + 1), 0, none⟩) 2 2, .int .i64 0] 33 (0, 0))
  B9 : W.heap[(w.heap.size + 1 + 1 + 1 + 1 + 1 + 1 + 1 + 1 + 1)]? = some (.cells #[.slice none 0 0, .slice none 0 0, .slice none 0 0, .slice (some ⟨(w.heap.size + 1 + 1 + 1 + 1 + 1 + 1 + 1 + 1), 0, none⟩) 1 1] 50 (0, 0))
  C5 : Kd.C k33 W (some ⟨(w.heap.size + 1 + 1 + 1 + 1 + 1), 0, none⟩) [aNeg, aPlus].length [aNeg, aPlus]
  C8 : Kd.C k76 W (some ⟨(w.heap.size + 1 + 1 + 1 + 1 + 1 + 1 + 1 + 1), 0, none⟩) [aS].length [aS]
theorem AliveAt.later {w W W' : World} (h : AliveAt w W) (hb : Below W.heap.size W W') : AliveAt w W' :=
  ⟨h.below.trans (hb.mono h.below.size), blk_below h.B6 hb, blk_below h.B9 hb, Kd.C_below h.C5 hb, Kd.C_below h.C8 hb⟩

theorem aliveW_at (w : World) : AliveAt w (aliveW w) := by
  have hb : Below w.heap.size w (aliveW w) := below_alloc (below_alloc (below_alloc (below_alloc (below_alloc (below_alloc (below_alloc (below_alloc (below_alloc (below_alloc (Below.refl _ _) _) _) _) _) _) _) _) _) _) _
  have B2 : (aliveW w).heap[(w.heap.size + 1 + 1)]? = some (.cells #[.string ⟨#[110, 97, 109, 101]⟩, .string ⟨#[120]⟩, .int .i64 0, .slice none 0 0, .int .i64 0] 33 (0, 0)) := by unfold aliveW; exact blk_alloc (blk_alloc (blk_alloc (blk_alloc (blk_alloc (blk_alloc (blk_alloc (blk_at (size_at (size_at (rfl) _) _) _) _) _) _) _) _) _) _
  have B3 : (aliveW w).heap[(w.heap.size + 1 + 1 + 1)]? = some (.cells #[.string ⟨#[110, 97, 109, 101]⟩, .string ⟨#[120]⟩, .int .i64 0, .slice none 0 0, .int .i64 0] 33 (0, 0)) := by unfold aliveW; exact blk_alloc (blk_alloc (blk_alloc (blk_alloc (blk_alloc (blk_alloc (blk_at (size_at (size_at (size_at (rfl) _) _) _) _) _) _) _) _) _) _
  have B4 : (aliveW w).heap[(w.heap.size + 1 + 1 + 1 + 1)]? = some (.cells #[.string ⟨#[110, 117, 109]⟩, .string ⟨#[]⟩, .int .i64 1, .slice none 0 0, .int .i64 0, .string ⟨#[97, 116]⟩, .string ⟨#[97]⟩, .int .i64 0, .slice (some ⟨(w.heap.size + 1 + 1 + 1), 0, none⟩) 1 1, .int .i64 0] 33 (0, 0)) := by unfold aliveW; exact blk_alloc (blk_alloc (blk_alloc (blk_alloc (blk_alloc (blk_at (size_at (size_at (size_at (size_at (rfl) _) _) _) _) _) _) _) _) _) _
  have B5 : (aliveW w).heap[(w.heap.size + 1 + 1 + 1 + 1 + 1)]? = some (.cells #[.string ⟨#[110, 101, 103]⟩, .string ⟨#[]⟩, .int .i64 0, .slice (some ⟨(w.heap.size + 1 + 1), 0, none⟩) 1 1, .int .i64 0, .string ⟨#[43]⟩, .string ⟨#[]⟩, .int .i64 0, .slice (some ⟨(w.heap.size + 1 + 1 + 1 + 1), 0, none⟩) 2 2, .int .i64 0] 33 (0, 0)) := by unfold aliveW; exact blk_alloc (blk_alloc (blk_alloc (blk_alloc (blk_at (size_at (size_at (size_at (size_at (size_at (rfl) _) _) _) _) _) _) _) _) _) _
  have B6 : (aliveW w).heap[(w.heap.size + 1 + 1 + 1 + 1 + 1 + 1)]? = some (.cells #[.string ⟨#[45]⟩, .string ⟨#[]⟩, .int .i64 0, .slice (some ⟨(w.heap.size + 1 + 1 + 1 + 1 + 1), 0, none⟩) 2 2, .int .i64 0] 33 (0, 0)) := by unfold aliveW; exact blk_alloc (blk_alloc (blk_alloc (blk_at (size_at (size_at (size_at (size_at (size_at (size_at (rfl) _) _) _) _) _) _) _) _) _) _
  have B7 : (aliveW w).heap[(w.heap.size + 1 + 1 + 1 + 1 + 1 + 1 + 1)]? = some (.cells #[.string ⟨#[45]⟩, .string ⟨#[]⟩, .int .i64 0, .slice (some ⟨(w.heap.size + 1 + 1 + 1 + 1 + 1), 0, none⟩) 2 2, .int .i64 0] 33 (0, 0)) := by unfold aliveW; exact blk_alloc (blk_alloc (blk_at (size_at (size_at (size_at (size_at (size_at (size_at (size_at (rfl) _) _) _) _) _) _) _) _) _) _
  have B8 : (aliveW w).heap[(w.heap.size + 1 + 1 + 1 + 1 + 1 + 1 + 1 + 1)]? = some (.cells #[.string ⟨#[115, 101, 116]⟩, .string ⟨#[120]⟩, .slice (some ⟨(w.heap.size + 1 + 1 + 1 + 1 + 1 + 1 + 1), 0, none⟩) 1 1, .slice none 0 0, .slice none 0 0, .int .i64 0] 76 (0, 0)) := by unfold aliveW; exact blk_alloc (blk_at (size_at (size_at (size_at (size_at (size_at (size_at (size_at (size_at (rfl) _) _) _) _) _) _) _) _) _) _
  have B9 : (aliveW w).heap[(w.heap.size + 1 + 1 + 1 + 1 + 1 + 1 + 1 + 1 + 1)]? = some (.cells #[.slice none 0 0, .slice none 0 0, .slice none 0 0, .slice (some ⟨(w.heap.size + 1 + 1 + 1 + 1 + 1 + 1 + 1 + 1), 0, none⟩) 1 1] 50 (0, 0)) := by unfold aliveW; exact blk_at (size_at (size_at (size_at (size_at (size_at (size_at (size_at (size_at (size_at (rfl) _) _) _) _) _) _) _) _) _) _
  generalize aliveW w = W at hb B2 B3 B4 B5 B6 B7 B8 B9 ⊢
  have C0 : Kd.C k33 W none ([] : List TE).length [] := Kd.C_nil _ _
  have Z0 : Kd.C k76 W none ([] : List TS).length [] := Kd.C_nil _ _
  have kX := k33_mk W aX (A3 := none) (c3 := 0) (Nat.le_refl _) C0
  have k1 := k33_mk W aOne (A3 := none) (c3 := 0) (Nat.le_refl _) C0
  have C2 := C_one (c := [.string ⟨#[110, 97, 109, 101]⟩, .string ⟨#[120]⟩, .int .i64 0, .slice none 0 0, .int .i64 0]) B2 kX
  have C3 := C_one (c := [.string ⟨#[110, 97, 109, 101]⟩, .string ⟨#[120]⟩, .int .i64 0, .slice none 0 0, .int .i64 0]) B3 kX
  have kAt := k33_mk W aAt (A3 := some ⟨(w.heap.size + 1 + 1 + 1), 0, none⟩) (c3 := 1) (Nat.le_refl _) C3
  have kNeg := k33_mk W aNeg (A3 := some ⟨(w.heap.size + 1 + 1), 0, none⟩) (c3 := 1) (Nat.le_refl _) C2
  have C4 := C_two (c := [.string ⟨#[110, 117, 109]⟩, .string ⟨#[]⟩, .int .i64 1, .slice none 0 0, .int .i64 0]) (c' := [.string ⟨#[97, 116]⟩, .string ⟨#[97]⟩, .int .i64 0, .slice (some ⟨(w.heap.size + 1 + 1 + 1), 0, none⟩) 1 1, .int .i64 0]) B4 k1 kAt
  have kPlus := k33_mk W aPlus (A3 := some ⟨(w.heap.size + 1 + 1 + 1 + 1), 0, none⟩) (c3 := 2) (Nat.le_refl _) C4
  have C5 := C_two (c := [.string ⟨#[110, 101, 103]⟩, .string ⟨#[]⟩, .int .i64 0, .slice (some ⟨(w.heap.size + 1 + 1), 0, none⟩) 1 1, .int .i64 0]) (c' := [.string ⟨#[43]⟩, .string ⟨#[]⟩, .int .i64 0, .slice (some ⟨(w.heap.size + 1 + 1 + 1 + 1), 0, none⟩) 2 2, .int .i64 0]) B5 kNeg kPlus
  have kE := k33_mk W aE (A3 := some ⟨(w.heap.size + 1 + 1 + 1 + 1 + 1), 0, none⟩) (c3 := 2) (Nat.le_refl _) C5
  have C7 := C_one (c := [.string ⟨#[45]⟩, .string ⟨#[]⟩, .int .i64 0, .slice (some ⟨(w.heap.size + 1 + 1 + 1 + 1 + 1), 0, none⟩) 2 2, .int .i64 0]) B7 kE
  have kS := k76_mk W aS (A2 := some ⟨(w.heap.size + 1 + 1 + 1 + 1 + 1 + 1 + 1), 0, none⟩) (c2 := 1) (Nat.le_refl _) C7 (A3 := none) (c3 := 0) (Nat.le_refl _) Z0 (A4 := none) (c4 := 0) (Nat.le_refl _) Z0
  exact ⟨hb, B6, B9, C5, C_one (c := [.string ⟨#[115, 101, 116]⟩, .string ⟨#[120]⟩, .slice (some ⟨(w.heap.size + 1 + 1 + 1 + 1 + 1 + 1 + 1), 0, none⟩) 1 1, .slice none 0 0, .slice none 0 0, .int .i64 0]) B8 kS⟩

theorem alive_ok : PrintOk [] [] [] (backSs [aS]) where
  hE := by decide
  hV := by decide
  hP := by decide
  hJ := fun e h => by cases h
  hI := fun e h => by cases h
  hB := fun e h => by cases h
  hM := by simp [backSs, backS, backEs, backE, aS, aE, aNeg, aPlus, aOne, aAt, aX, okSs, okS, okEs, okE, okI]
  hMb := by decide +kernel
  hlen := by decide +kernel
theorem alive_print : tree_Print.f [] [] [] [aS] = some (⟨#[109, 97, 105, 110, 32, 123, 10, 32, 32, 120, 32, 61, 32, 40, 45, 120, 41, 32, 45, 32, 40, 49, 32, 43, 32, 97, 91, 120, 93, 41, 59, 10, 125, 10]⟩ : ByteArray) := by
  unfold tree_Print.f
  rw [show backPs [] = [] from rfl, if_pos ((printOkB_iff ..).2 alive_ok)]
  exact congrArg some (show strOf (printB [] [] [] (backSs [aS])) = _ by kernel_rfl)
set_option maxHeartbeats 4000000 in
set_option maxRecDepth 100000 in
theorem alive_pr (w : World) (hT : TabT w) : Calls Tryd.prog 10 #[] w fun e w' => e = .returned (.bool true) ∧ Below w.heap.size w w' := by
  go_enter Tryd.func10, Tryd.ntmps10
  go_wp2_with fail
  show Calls _ _ _ (aliveW w) _
  have HA := Aside0.mk (aliveW_at w)
  generalize aliveW w = w1 at HA ⊢
  refine (tree_Text.calls 40 (lit [45]) (lit []) 0 (some ⟨(w.heap.size + 1 + 1 + 1 + 1 + 1), 0, none⟩) 2 [aNeg, aPlus] 0 (⟨#[40, 45, 120, 41, 32, 45, 32, 40, 49, 32, 43, 32, 97, 91, 120, 93, 41]⟩ : ByteArray) w1 (hT.later HA.out.below) HA.out.C5 (Nat.le_refl _) (by kernel_rfl)).mono ?_
  rintro e_ w2 ⟨rfl, hb⟩
  have HA := Aside0.mk (HA.out.later hb)
  clear hb
  have y0 : w2.cell? ⟨(w.heap.size + 1 + 1 + 1 + 1 + 1 + 1), 0, none⟩ = some (.string ⟨#[45]⟩) := (blk_cell HA.out.B6 0).trans rfl
  have y1 : w2.cell? ⟨(w.heap.size + 1 + 1 + 1 + 1 + 1 + 1), 1, none⟩ = some (.string ⟨#[]⟩) := (blk_cell HA.out.B6 1).trans rfl
  have y2 : w2.cell? ⟨(w.heap.size + 1 + 1 + 1 + 1 + 1 + 1), 2, none⟩ = some (.int .i64 0) := (blk_cell HA.out.B6 2).trans rfl
  have y3 : w2.cell? ⟨(w.heap.size + 1 + 1 + 1 + 1 + 1 + 1), 3, none⟩ = some (.slice (some ⟨(w.heap.size + 1 + 1 + 1 + 1 + 1), 0, none⟩) 2 2) := (blk_cell HA.out.B6 3).trans rfl
  have y4 : w2.cell? ⟨(w.heap.size + 1 + 1 + 1 + 1 + 1 + 1), 4, none⟩ = some (.int .i64 0) := (blk_cell HA.out.B6 4).trans rfl
  have x0 : w2.cell? ⟨(w.heap.size + 1 + 1 + 1 + 1 + 1 + 1 + 1 + 1 + 1), 0, none⟩ = some (.slice none 0 0) := (blk_cell HA.out.B9 0).trans rfl
  have x1 : w2.cell? ⟨(w.heap.size + 1 + 1 + 1 + 1 + 1 + 1 + 1 + 1 + 1), 1, none⟩ = some (.slice none 0 0) := (blk_cell HA.out.B9 1).trans rfl
  have x2 : w2.cell? ⟨(w.heap.size + 1 + 1 + 1 + 1 + 1 + 1 + 1 + 1 + 1), 2, none⟩ = some (.slice none 0 0) := (blk_cell HA.out.B9 2).trans rfl
  have x3 : w2.cell? ⟨(w.heap.size + 1 + 1 + 1 + 1 + 1 + 1 + 1 + 1 + 1), 3, none⟩ = some (.slice (some ⟨(w.heap.size + 1 + 1 + 1 + 1 + 1 + 1 + 1 + 1), 0, none⟩) 1 1) := (blk_cell HA.out.B9 3).trans rfl
  go_wp2_with fail
  refine (tree_Deep.calls 40 (lit [45]) (lit []) 0 (some ⟨(w.heap.size + 1 + 1 + 1 + 1 + 1), 0, none⟩) 2 [aNeg, aPlus] 0 4 w2 HA.out.C5 (Nat.le_refl _) (by kernel_rfl)).mono ?_
  rintro e_ w3 ⟨rfl, hb⟩
  have HA := Aside0.mk (HA.out.later hb)
  clear y0 y1 y2 y3 y4 x0 x1 x2 x3
  clear hb
  have y0 : w3.cell? ⟨(w.heap.size + 1 + 1 + 1 + 1 + 1 + 1), 0, none⟩ = some (.string ⟨#[45]⟩) := (blk_cell HA.out.B6 0).trans rfl
  have y1 : w3.cell? ⟨(w.heap.size + 1 + 1 + 1 + 1 + 1 + 1), 1, none⟩ = some (.string ⟨#[]⟩) := (blk_cell HA.out.B6 1).trans rfl
  have y2 : w3.cell? ⟨(w.heap.size + 1 + 1 + 1 + 1 + 1 + 1), 2, none⟩ = some (.int .i64 0) := (blk_cell HA.out.B6 2).trans rfl
  have y3 : w3.cell? ⟨(w.heap.size + 1 + 1 + 1 + 1 + 1 + 1), 3, none⟩ = some (.slice (some ⟨(w.heap.size + 1 + 1 + 1 + 1 + 1), 0, none⟩) 2 2) := (blk_cell HA.out.B6 3).trans rfl
  have y4 : w3.cell? ⟨(w.heap.size + 1 + 1 + 1 + 1 + 1 + 1), 4, none⟩ = some (.int .i64 0) := (blk_cell HA.out.B6 4).trans rfl
  have x0 : w3.cell? ⟨(w.heap.size + 1 + 1 + 1 + 1 + 1 + 1 + 1 + 1 + 1), 0, none⟩ = some (.slice none 0 0) := (blk_cell HA.out.B9 0).trans rfl
  have x1 : w3.cell? ⟨(w.heap.size + 1 + 1 + 1 + 1 + 1 + 1 + 1 + 1 + 1), 1, none⟩ = some (.slice none 0 0) := (blk_cell HA.out.B9 1).trans rfl
  have x2 : w3.cell? ⟨(w.heap.size + 1 + 1 + 1 + 1 + 1 + 1 + 1 + 1 + 1), 2, none⟩ = some (.slice none 0 0) := (blk_cell HA.out.B9 2).trans rfl
  have x3 : w3.cell? ⟨(w.heap.size + 1 + 1 + 1 + 1 + 1 + 1 + 1 + 1 + 1), 3, none⟩ = some (.slice (some ⟨(w.heap.size + 1 + 1 + 1 + 1 + 1 + 1 + 1 + 1), 0, none⟩) 1 1) := (blk_cell HA.out.B9 3).trans rfl
  go_wp2_with fail
  refine (tree_Depth.calls 40 (some ⟨(w.heap.size + 1 + 1 + 1 + 1 + 1 + 1 + 1 + 1), 0, none⟩) 1 [aS] 1 w3 HA.out.C8 (Nat.le_refl _) (by kernel_rfl)).mono ?_
  rintro e_ w4 ⟨rfl, hb⟩
  have HA := Aside0.mk (HA.out.later hb)
  clear y0 y1 y2 y3 y4 x0 x1 x2 x3
  clear hb
  have y0 : w4.cell? ⟨(w.heap.size + 1 + 1 + 1 + 1 + 1 + 1), 0, none⟩ = some (.string ⟨#[45]⟩) := (blk_cell HA.out.B6 0).trans rfl
  have y1 : w4.cell? ⟨(w.heap.size + 1 + 1 + 1 + 1 + 1 + 1), 1, none⟩ = some (.string ⟨#[]⟩) := (blk_cell HA.out.B6 1).trans rfl
  have y2 : w4.cell? ⟨(w.heap.size + 1 + 1 + 1 + 1 + 1 + 1), 2, none⟩ = some (.int .i64 0) := (blk_cell HA.out.B6 2).trans rfl
  have y3 : w4.cell? ⟨(w.heap.size + 1 + 1 + 1 + 1 + 1 + 1), 3, none⟩ = some (.slice (some ⟨(w.heap.size + 1 + 1 + 1 + 1 + 1), 0, none⟩) 2 2) := (blk_cell HA.out.B6 3).trans rfl
  have y4 : w4.cell? ⟨(w.heap.size + 1 + 1 + 1 + 1 + 1 + 1), 4, none⟩ = some (.int .i64 0) := (blk_cell HA.out.B6 4).trans rfl
  have x0 : w4.cell? ⟨(w.heap.size + 1 + 1 + 1 + 1 + 1 + 1 + 1 + 1 + 1), 0, none⟩ = some (.slice none 0 0) := (blk_cell HA.out.B9 0).trans rfl
  have x1 : w4.cell? ⟨(w.heap.size + 1 + 1 + 1 + 1 + 1 + 1 + 1 + 1 + 1), 1, none⟩ = some (.slice none 0 0) := (blk_cell HA.out.B9 1).trans rfl
  have x2 : w4.cell? ⟨(w.heap.size + 1 + 1 + 1 + 1 + 1 + 1 + 1 + 1 + 1), 2, none⟩ = some (.slice none 0 0) := (blk_cell HA.out.B9 2).trans rfl
  have x3 : w4.cell? ⟨(w.heap.size + 1 + 1 + 1 + 1 + 1 + 1 + 1 + 1 + 1), 3, none⟩ = some (.slice (some ⟨(w.heap.size + 1 + 1 + 1 + 1 + 1 + 1 + 1 + 1), 0, none⟩) 1 1) := (blk_cell HA.out.B9 3).trans rfl
  go_wp2_with fail
  refine (tree_Sized.calls 40 none 0 ([] : List S79) none 0 ([] : List S80) none 0 ([] : List S66) (some ⟨(w.heap.size + 1 + 1 + 1 + 1 + 1 + 1 + 1 + 1), 0, none⟩) 1 [aS] 8 w4 (Kd.C_nil (α := S79) k79 _) (Nat.le_refl _) (Kd.C_nil (α := S80) k80 _) (Nat.le_refl _) (Kd.C_nil (α := S66) k66 _) (Nat.le_refl _) HA.out.C8 (Nat.le_refl _) (by kernel_rfl)).mono ?_
  rintro e_ w5 ⟨rfl, hb⟩
  have HA := Aside0.mk (HA.out.later hb)
  clear y0 y1 y2 y3 y4 x0 x1 x2 x3
  clear hb
  have y0 : w5.cell? ⟨(w.heap.size + 1 + 1 + 1 + 1 + 1 + 1), 0, none⟩ = some (.string ⟨#[45]⟩) := (blk_cell HA.out.B6 0).trans rfl
  have y1 : w5.cell? ⟨(w.heap.size + 1 + 1 + 1 + 1 + 1 + 1), 1, none⟩ = some (.string ⟨#[]⟩) := (blk_cell HA.out.B6 1).trans rfl
  have y2 : w5.cell? ⟨(w.heap.size + 1 + 1 + 1 + 1 + 1 + 1), 2, none⟩ = some (.int .i64 0) := (blk_cell HA.out.B6 2).trans rfl
  have y3 : w5.cell? ⟨(w.heap.size + 1 + 1 + 1 + 1 + 1 + 1), 3, none⟩ = some (.slice (some ⟨(w.heap.size + 1 + 1 + 1 + 1 + 1), 0, none⟩) 2 2) := (blk_cell HA.out.B6 3).trans rfl
  have y4 : w5.cell? ⟨(w.heap.size + 1 + 1 + 1 + 1 + 1 + 1), 4, none⟩ = some (.int .i64 0) := (blk_cell HA.out.B6 4).trans rfl
  have x0 : w5.cell? ⟨(w.heap.size + 1 + 1 + 1 + 1 + 1 + 1 + 1 + 1 + 1), 0, none⟩ = some (.slice none 0 0) := (blk_cell HA.out.B9 0).trans rfl
  have x1 : w5.cell? ⟨(w.heap.size + 1 + 1 + 1 + 1 + 1 + 1 + 1 + 1 + 1), 1, none⟩ = some (.slice none 0 0) := (blk_cell HA.out.B9 1).trans rfl
  have x2 : w5.cell? ⟨(w.heap.size + 1 + 1 + 1 + 1 + 1 + 1 + 1 + 1 + 1), 2, none⟩ = some (.slice none 0 0) := (blk_cell HA.out.B9 2).trans rfl
  have x3 : w5.cell? ⟨(w.heap.size + 1 + 1 + 1 + 1 + 1 + 1 + 1 + 1 + 1), 3, none⟩ = some (.slice (some ⟨(w.heap.size + 1 + 1 + 1 + 1 + 1 + 1 + 1 + 1), 0, none⟩) 1 1) := (blk_cell HA.out.B9 3).trans rfl
  go_wp2_with fail
  refine (tree_Same.calls 40 none 0 ([] : List S79) none 0 ([] : List S80) none 0 ([] : List S66) (some ⟨(w.heap.size + 1 + 1 + 1 + 1 + 1 + 1 + 1 + 1), 0, none⟩) 1 [aS] none 0 ([] : List S79) none 0 ([] : List S80) none 0 ([] : List S66) (some ⟨(w.heap.size + 1 + 1 + 1 + 1 + 1 + 1 + 1 + 1), 0, none⟩) 1 [aS] true w5 (Kd.C_nil (α := S79) k79 _) (Nat.le_refl _) (Kd.C_nil (α := S80) k80 _) (Nat.le_refl _) (Kd.C_nil (α := S66) k66 _) (Nat.le_refl _) HA.out.C8 (Nat.le_refl _) (Kd.C_nil (α := S79) k79 _) (Nat.le_refl _) (Kd.C_nil (α := S80) k80 _) (Nat.le_refl _) (Kd.C_nil (α := S66) k66 _) (Nat.le_refl _) HA.out.C8 (Nat.le_refl _) (by kernel_rfl)).mono ?_
  rintro e_ w6 ⟨rfl, hb⟩
  have HA := Aside0.mk (HA.out.later hb)
  clear y0 y1 y2 y3 y4 x0 x1 x2 x3
  clear hb
  have y0 : w6.cell? ⟨(w.heap.size + 1 + 1 + 1 + 1 + 1 + 1), 0, none⟩ = some (.string ⟨#[45]⟩) := (blk_cell HA.out.B6 0).trans rfl
  have y1 : w6.cell? ⟨(w.heap.size + 1 + 1 + 1 + 1 + 1 + 1), 1, none⟩ = some (.string ⟨#[]⟩) := (blk_cell HA.out.B6 1).trans rfl
  have y2 : w6.cell? ⟨(w.heap.size + 1 + 1 + 1 + 1 + 1 + 1), 2, none⟩ = some (.int .i64 0) := (blk_cell HA.out.B6 2).trans rfl
  have y3 : w6.cell? ⟨(w.heap.size + 1 + 1 + 1 + 1 + 1 + 1), 3, none⟩ = some (.slice (some ⟨(w.heap.size + 1 + 1 + 1 + 1 + 1), 0, none⟩) 2 2) := (blk_cell HA.out.B6 3).trans rfl
  have y4 : w6.cell? ⟨(w.heap.size + 1 + 1 + 1 + 1 + 1 + 1), 4, none⟩ = some (.int .i64 0) := (blk_cell HA.out.B6 4).trans rfl
  have x0 : w6.cell? ⟨(w.heap.size + 1 + 1 + 1 + 1 + 1 + 1 + 1 + 1 + 1), 0, none⟩ = some (.slice none 0 0) := (blk_cell HA.out.B9 0).trans rfl
  have x1 : w6.cell? ⟨(w.heap.size + 1 + 1 + 1 + 1 + 1 + 1 + 1 + 1 + 1), 1, none⟩ = some (.slice none 0 0) := (blk_cell HA.out.B9 1).trans rfl
  have x2 : w6.cell? ⟨(w.heap.size + 1 + 1 + 1 + 1 + 1 + 1 + 1 + 1 + 1), 2, none⟩ = some (.slice none 0 0) := (blk_cell HA.out.B9 2).trans rfl
  have x3 : w6.cell? ⟨(w.heap.size + 1 + 1 + 1 + 1 + 1 + 1 + 1 + 1 + 1), 3, none⟩ = some (.slice (some ⟨(w.heap.size + 1 + 1 + 1 + 1 + 1 + 1 + 1 + 1), 0, none⟩) 1 1) := (blk_cell HA.out.B9 3).trans rfl
  go_wp2_with fail
  refine (tree_SameExpr.calls 40 (lit [45]) (lit []) 0 (some ⟨(w.heap.size + 1 + 1 + 1 + 1 + 1), 0, none⟩) 2 [aNeg, aPlus] 0 (lit [45]) (lit []) 0 (some ⟨(w.heap.size + 1 + 1 + 1 + 1 + 1), 0, none⟩) 2 [aNeg, aPlus] 0 true w6 HA.out.C5 (Nat.le_refl _) HA.out.C5 (Nat.le_refl _) (by kernel_rfl)).mono ?_
  rintro e_ w7 ⟨rfl, hb⟩
  have HA := Aside0.mk (HA.out.later hb)
  clear y0 y1 y2 y3 y4 x0 x1 x2 x3
  clear hb
  have y0 : w7.cell? ⟨(w.heap.size + 1 + 1 + 1 + 1 + 1 + 1), 0, none⟩ = some (.string ⟨#[45]⟩) := (blk_cell HA.out.B6 0).trans rfl
  have y1 : w7.cell? ⟨(w.heap.size + 1 + 1 + 1 + 1 + 1 + 1), 1, none⟩ = some (.string ⟨#[]⟩) := (blk_cell HA.out.B6 1).trans rfl
  have y2 : w7.cell? ⟨(w.heap.size + 1 + 1 + 1 + 1 + 1 + 1), 2, none⟩ = some (.int .i64 0) := (blk_cell HA.out.B6 2).trans rfl
  have y3 : w7.cell? ⟨(w.heap.size + 1 + 1 + 1 + 1 + 1 + 1), 3, none⟩ = some (.slice (some ⟨(w.heap.size + 1 + 1 + 1 + 1 + 1), 0, none⟩) 2 2) := (blk_cell HA.out.B6 3).trans rfl
  have y4 : w7.cell? ⟨(w.heap.size + 1 + 1 + 1 + 1 + 1 + 1), 4, none⟩ = some (.int .i64 0) := (blk_cell HA.out.B6 4).trans rfl
  have x0 : w7.cell? ⟨(w.heap.size + 1 + 1 + 1 + 1 + 1 + 1 + 1 + 1 + 1), 0, none⟩ = some (.slice none 0 0) := (blk_cell HA.out.B9 0).trans rfl
  have x1 : w7.cell? ⟨(w.heap.size + 1 + 1 + 1 + 1 + 1 + 1 + 1 + 1 + 1), 1, none⟩ = some (.slice none 0 0) := (blk_cell HA.out.B9 1).trans rfl
  have x2 : w7.cell? ⟨(w.heap.size + 1 + 1 + 1 + 1 + 1 + 1 + 1 + 1 + 1), 2, none⟩ = some (.slice none 0 0) := (blk_cell HA.out.B9 2).trans rfl
  have x3 : w7.cell? ⟨(w.heap.size + 1 + 1 + 1 + 1 + 1 + 1 + 1 + 1 + 1), 3, none⟩ = some (.slice (some ⟨(w.heap.size + 1 + 1 + 1 + 1 + 1 + 1 + 1 + 1), 0, none⟩) 1 1) := (blk_cell HA.out.B9 3).trans rfl
  go_wp2_with fail
  refine (tree_Print.calls none 0 ([] : List S79) none 0 ([] : List S80) none 0 ([] : List S66) (some ⟨(w.heap.size + 1 + 1 + 1 + 1 + 1 + 1 + 1 + 1), 0, none⟩) 1 [aS] (⟨#[109, 97, 105, 110, 32, 123, 10, 32, 32, 120, 32, 61, 32, 40, 45, 120, 41, 32, 45, 32, 40, 49, 32, 43, 32, 97, 91, 120, 93, 41, 59, 10, 125, 10]⟩ : ByteArray) w7 (hT.later HA.out.below) (Kd.C_nil (α := S79) k79 _) (Nat.le_refl _) (Kd.C_nil (α := S80) k80 _) (Nat.le_refl _) (Kd.C_nil (α := S66) k66 _) (Nat.le_refl _) HA.out.C8 (Nat.le_refl _) alive_print).mono ?_
  rintro e_ w8 ⟨rfl, hb⟩
  have HA := Aside0.mk (HA.out.later hb)
  clear y0 y1 y2 y3 y4 x0 x1 x2 x3
  clear hb
  have y0 : w8.cell? ⟨(w.heap.size + 1 + 1 + 1 + 1 + 1 + 1), 0, none⟩ = some (.string ⟨#[45]⟩) := (blk_cell HA.out.B6 0).trans rfl
  have y1 : w8.cell? ⟨(w.heap.size + 1 + 1 + 1 + 1 + 1 + 1), 1, none⟩ = some (.string ⟨#[]⟩) := (blk_cell HA.out.B6 1).trans rfl
  have y2 : w8.cell? ⟨(w.heap.size + 1 + 1 + 1 + 1 + 1 + 1), 2, none⟩ = some (.int .i64 0) := (blk_cell HA.out.B6 2).trans rfl
  have y3 : w8.cell? ⟨(w.heap.size + 1 + 1 + 1 + 1 + 1 + 1), 3, none⟩ = some (.slice (some ⟨(w.heap.size + 1 + 1 + 1 + 1 + 1), 0, none⟩) 2 2) := (blk_cell HA.out.B6 3).trans rfl
  have y4 : w8.cell? ⟨(w.heap.size + 1 + 1 + 1 + 1 + 1 + 1), 4, none⟩ = some (.int .i64 0) := (blk_cell HA.out.B6 4).trans rfl
  have x0 : w8.cell? ⟨(w.heap.size + 1 + 1 + 1 + 1 + 1 + 1 + 1 + 1 + 1), 0, none⟩ = some (.slice none 0 0) := (blk_cell HA.out.B9 0).trans rfl
  have x1 : w8.cell? ⟨(w.heap.size + 1 + 1 + 1 + 1 + 1 + 1 + 1 + 1 + 1), 1, none⟩ = some (.slice none 0 0) := (blk_cell HA.out.B9 1).trans rfl
  have x2 : w8.cell? ⟨(w.heap.size + 1 + 1 + 1 + 1 + 1 + 1 + 1 + 1 + 1), 2, none⟩ = some (.slice none 0 0) := (blk_cell HA.out.B9 2).trans rfl
  have x3 : w8.cell? ⟨(w.heap.size + 1 + 1 + 1 + 1 + 1 + 1 + 1 + 1 + 1), 3, none⟩ = some (.slice (some ⟨(w.heap.size + 1 + 1 + 1 + 1 + 1 + 1 + 1 + 1), 0, none⟩) 1 1) := (blk_cell HA.out.B9 3).trans rfl
  go_wp2
  go_ret
  exact ⟨rfl, HA.out.below⟩
def helmsmanlaw12_alive.f : Option Bool := some true
theorem helmsmanlaw12_alive.calls (r : Bool) (w : World) (hT : TabT w) (h : helmsmanlaw12_alive.f = some r) : Calls Tryd.prog 10 #[] w fun e w' => e = .returned (.bool r) ∧ Below w.heap.size w w' := by
  obtain rfl := Option.some.inj h
  exact alive_pr w hT
theorem alive_now {f : Nat → Bool → Option Bool} {r : Bool} (h : Ev (fun k => f k true) r) : Ev (fun k => helmsmanlaw12_alive.f.bind (f k)) r := h
end Go.Proofs.YtnnbbeloifhofaaDoor.P
end

section
/- Flags of a region's operations, as a number; an operation that is skipped. -/
namespace Go.Proofs.YtnnbbeloifhofaaDoor.P
open Go Go.RowKit Go.Proofs
open Go.Proofs.YtnnbbeloifhofaaDoorW.PrintWords Go.Proofs.YtnnbbeloifhofaaDoorW.PrintLast Go.Proofs.YtnnbbeloifhofaaDoorW.PrintMore
def flg (n m : Nat) : Array Bool := ((List.range n).map fun i => m.testBit i).toArray
theorem pA_ {α : Type} {l : List α} {i : Nat} {a : α} : l.toArray.setIfInBounds i a = (l.set i a).toArray := List.setIfInBounds_toArray ..
theorem pB_ {α : Type} {l : List α} {a b : α} : (a :: l).set 0 b = b :: l := List.set_cons_zero ..
theorem pC_ {α : Type} {l : List α} {n : Nat} {a b : α} : (a :: l).set (n + 1) b = a :: l.set n b := List.set_cons_succ ..
section
variable {P : Program} {md : Region.Mode} {ops : Array Oper} {Q : Exit → Act → World → Prop} {S : World → Prop} {ds : List Nat}
theorem skp_ (i N : Nat) {oi : Oper} {fuel : Nat} {l : Array Bool} {a a' : Act} {w : World} (l' : Array Bool) (hi : ops[i]? = some oi) (hN : oi.dst = some N) (hc : anyB md ops l l' i = true)
    (hQ : ∀ c a w, Q (.panic c) (a.put oi.dst undef) w → Q (.panic c) a w) (hw : Region.wanted oi (yielded ops a.tmps) = false) (ha : a.put (some N) undef = a')
    (h : wpAnyLast P md ops Q S ds fuel l' a' w) : wpAnyLast P md ops Q S ds (fuel + 1) l a w :=
  pure_ l' hi hN hc hQ (Or.inr ⟨hw, rfl⟩) ha h
end
end Go.Proofs.YtnnbbeloifhofaaDoor.P
end
