/- Texts of this claim, joined: Pxf24, Pxf52, Pxf29. -/
import Derived.Test.YtnnbbeloifhofaaDoorCTreeKindsUpto0
import Derived.Test.YtnnbbeloifhofaaDoorCTreeKindsUpto3
section
namespace Go.Proofs.YtnnbbeloifhofaaDoor.P
open Go.RowKit Go.Proofs.YtnnbbeloifhofaaDoorW.PrintWords Go.Proofs.YtnnbbeloifhofaaDoorW.PrintLast Go.Proofs.YtnnbbeloifhofaaDoorW.PrintMore
attribute [local go_sem] max2_int min2_int max_two min_two max_three min_three max_four min_four   -- for this text's walks alone
set_option linter.unusedVariables false
set_option linter.unusedSimpArgs false

/-! ### helmsmanlaw12_Stmts: function 24 -/
mutual
def helmsmanlaw12_Stmts.l0 : Nat → List (S76) → List (S29) → Int → Int → Option ((List (S76)))
  | 0, _, _, _, _ => none
  | k + 1, x3, x9, x10, x11 => if x11 < x10 then (if 0 ≤ x11 then (if x11 < (x9.length : Int) then ((helmsmanlaw12_Stmts.f k ((rd_T29 x9 x11).f3)).bind fun t182 => ((helmsmanlaw12_Stmts.f k ((rd_T29 x9 x11).f4)).bind fun t185 => (helmsmanlaw12_Stmts.l1 k x3 x9 x10 x11 ((rd_T29 x9 x11).f2) (((rd_T29 x9 x11).f2).length : Int) 0 ((rd_T29 x9 x11).f0) ((rd_T29 x9 x11).f1) ([] : List (S33)) t182 t185 ((rd_T29 x9 x11).f5)))) else (none)) else (none)) else (some x3)
def helmsmanlaw12_Stmts.l1 : Nat → List (S76) → List (S29) → Int → Int → List (S24) → Int → Int → ByteArray → ByteArray → List (S33) → List (S76) → List (S76) → Int → Option ((List (S76)))
  | 0, _, _, _, _, _, _, _, _, _, _, _, _, _ => none
  | k + 1, x3, x9, x10, x11, x29, x30, x31, x189000, x189001, x189002, x189003, x189004, x189005 => if x31 < x30 then (if 0 ≤ x31 then (if x31 < (x29.length : Int) then ((helmsmanlaw12_Expr.f k ((rd_T24 x29 x31).f0) ((rd_T24 x29 x31).f1) ((rd_T24 x29 x31).f2) ((rd_T24 x29 x31).f3) ((rd_T24 x29 x31).f4)).bind fun bt191 => (if x189002.length < 1954687338268 then (helmsmanlaw12_Stmts.l1 k x3 x9 x10 x11 x29 x30 (wrap64 (x31 + 1)) x189000 x189001 (x189002 ++ [(⟨bt191.1, bt191.2.1, bt191.2.2.1, bt191.2.2.2.1, bt191.2.2.2.2⟩ : S33)]) x189003 x189004 x189005) else (none))) else (none)) else (none)) else (if x3.length < 1256584717458 then (helmsmanlaw12_Stmts.l0 k (x3 ++ [(⟨x189000, x189001, x189002, x189003, x189004, x189005⟩ : S76)]) x9 x10 (wrap64 (x11 + 1))) else (none))
def helmsmanlaw12_Stmts.f : Nat → List (S29) → Option ((List (S76)))
  | 0, _ => none
  | k + 1, l0 => helmsmanlaw12_Stmts.l0 k ([] : List (S76)) l0 (l0.length : Int) 0
end
theorem helmsmanlaw12_Stmts.mono_l : ∀ k, (∀ y0, LeO (helmsmanlaw12_Stmts.f k y0) (helmsmanlaw12_Stmts.f (k + 1) y0)) ∧ (∀ y0 y1 y2 y3, LeO (helmsmanlaw12_Stmts.l0 k y0 y1 y2 y3) (helmsmanlaw12_Stmts.l0 (k + 1) y0 y1 y2 y3)) ∧ (∀ y0 y1 y2 y3 y4 y5 y6 y7 y8 y9 y10 y11 y12, LeO (helmsmanlaw12_Stmts.l1 k y0 y1 y2 y3 y4 y5 y6 y7 y8 y9 y10 y11 y12) (helmsmanlaw12_Stmts.l1 (k + 1) y0 y1 y2 y3 y4 y5 y6 y7 y8 y9 y10 y11 y12))
  | 0 => ⟨fun _ r h => by simp [helmsmanlaw12_Stmts.f] at h, fun _ _ _ _ r h => by simp [helmsmanlaw12_Stmts.l0] at h, fun _ _ _ _ _ _ _ _ _ _ _ _ _ r h => by simp [helmsmanlaw12_Stmts.l1] at h⟩
  | k + 1 => by
    obtain ⟨ih0, ih1, ih2⟩ := helmsmanlaw12_Stmts.mono_l k
    refine ⟨?_, ?_, ?_⟩
    · intro y0
      unfold helmsmanlaw12_Stmts.f
      repeat' first
      | (with_reducible exact ih0 _)
      | (with_reducible exact ih1 _ _ _ _)
      | (with_reducible exact ih2 _ _ _ _ _ _ _ _ _ _ _ _ _)
      | (with_reducible exact helmsmanlaw12_Expr.mono _ _ _ _ _ _)
      | (with_reducible exact LeO.refl _)
      | (with_reducible exact LeO.none _)
      | (with_reducible refine LeO.ite ?_ ?_)
      | (with_reducible refine LeO.bind ?_ (fun _ => ?_))
      | exact ih0 _
      | exact ih1 _ _ _ _
      | exact ih2 _ _ _ _ _ _ _ _ _ _ _ _ _
      | exact helmsmanlaw12_Expr.mono _ _ _ _ _ _
      | exact LeO.none _
      | refine LeO.ite ?_ ?_
      | refine LeO.bind ?_ (fun _ => ?_)
    · intro y0 y1 y2 y3
      unfold helmsmanlaw12_Stmts.l0
      repeat' first
      | (with_reducible exact ih0 _)
      | (with_reducible exact ih1 _ _ _ _)
      | (with_reducible exact ih2 _ _ _ _ _ _ _ _ _ _ _ _ _)
      | (with_reducible exact helmsmanlaw12_Expr.mono _ _ _ _ _ _)
      | (with_reducible exact LeO.refl _)
      | (with_reducible exact LeO.none _)
      | (with_reducible refine LeO.ite ?_ ?_)
      | (with_reducible refine LeO.bind ?_ (fun _ => ?_))
      | exact ih0 _
      | exact ih1 _ _ _ _
      | exact ih2 _ _ _ _ _ _ _ _ _ _ _ _ _
      | exact helmsmanlaw12_Expr.mono _ _ _ _ _ _
      | exact LeO.none _
      | refine LeO.ite ?_ ?_
      | refine LeO.bind ?_ (fun _ => ?_)
    · intro y0 y1 y2 y3 y4 y5 y6 y7 y8 y9 y10 y11 y12
      unfold helmsmanlaw12_Stmts.l1
      repeat' first
      | (with_reducible exact ih0 _)
      | (with_reducible exact ih1 _ _ _ _)
      | (with_reducible exact ih2 _ _ _ _ _ _ _ _ _ _ _ _ _)
      | (with_reducible exact helmsmanlaw12_Expr.mono _ _ _ _ _ _)
      | (with_reducible exact LeO.refl _)
      | (with_reducible exact LeO.none _)
      | (with_reducible refine LeO.ite ?_ ?_)
      | (with_reducible refine LeO.bind ?_ (fun _ => ?_))
      | exact ih0 _
      | exact ih1 _ _ _ _
      | exact ih2 _ _ _ _ _ _ _ _ _ _ _ _ _
      | exact helmsmanlaw12_Expr.mono _ _ _ _ _ _
      | exact LeO.none _
      | refine LeO.ite ?_ ?_
      | refine LeO.bind ?_ (fun _ => ?_)
theorem helmsmanlaw12_Stmts.mono : ∀ a0 k, LeO (helmsmanlaw12_Stmts.f k a0) (helmsmanlaw12_Stmts.f (k + 1) a0) := by
  intro a0 k
  obtain ⟨ih0, ih1, ih2⟩ := helmsmanlaw12_Stmts.mono_l k
  exact ih0 a0
def helmsmanlaw12_Stmts.T5 : Bool × List (List Nat × List Nat) := (true, [([], []), ([0], [0]), ([], []), ([2], [2]), ([], []), ([4], [4]), ([], []), ([6], [6]), ([7], [7]), ([], []), ([9], [9]), ([10, 8], [10]), ([1, 3, 5, 8, 11], [1, 3, 5, 8, 11]), ([], []), ([13, 12, 11, 0, 1, 2, 3, 4, 5, 6, 7, 8, 9, 10, 11, 12, 13], [12, 13])])
def helmsmanlaw12_Stmts.B5 : List Nat := [0, 1, 0, 4, 0, 16, 0, 64, 192, 0, 512, 1984, 4095, 0, 16383]
theorem helmsmanlaw12_Stmts.tab5 : rtab .any (opsOf Tryd.f24 5) = helmsmanlaw12_Stmts.T5 := by kernel_rfl
theorem helmsmanlaw12_Stmts.bits5 : waitsOk helmsmanlaw12_Stmts.T5.2 helmsmanlaw12_Stmts.B5 = true := by kernel_rfl
def helmsmanlaw12_Stmts.T9 : Bool × List (List Nat × List Nat) := (true, [([], []), ([0], [0]), ([], []), ([2], [2]), ([3], [3]), ([1, 4, 3], [1, 4]), ([0, 1, 2, 3, 4, 5], []), ([6, 5, 5, 0, 1, 2, 3, 4, 5], [5, 6])])
def helmsmanlaw12_Stmts.B9 : List Nat := [0, 1, 0, 4, 12, 31, 63, 127]
theorem helmsmanlaw12_Stmts.tab9 : rtab .any (opsOf Tryd.f24 9) = helmsmanlaw12_Stmts.T9 := by kernel_rfl
theorem helmsmanlaw12_Stmts.bits9 : waitsOk helmsmanlaw12_Stmts.T9.2 helmsmanlaw12_Stmts.B9 = true := by kernel_rfl
set_option maxHeartbeats 8000000 in
set_option maxRecDepth 100000 in
theorem helmsmanlaw12_Stmts.calls (k : Nat) : ∀ (A0 : Option Addr) (c0 : Nat) (l0 : List (S29)) (r : List (S76)) (w : World) (hr0 : Kd.C k29 w A0 l0.length l0) (hc0 : l0.length ≤ c0) (h : helmsmanlaw12_Stmts.f k l0 = some r),
    Calls Tryd.prog 24 #[.slice A0 l0.length c0] w fun e w' => ∃ v0_ : Value, e = .returned (v0_) ∧ Kd.R k76 76 w' w.heap.size (fun _ => True) v0_ r ∧ Below w.heap.size w w' := by
  induction k using Nat.strongRecOn with
  | _ k ih =>
  intro A0 c0 l0 r w hr0 hc0 h
  cases k with
  | zero => exact absurd h (by simp [helmsmanlaw12_Stmts.f])
  | succ k =>
  simp only [helmsmanlaw12_Stmts.f] at h
  have hu29 := Tryd.underlying29
  have hu76 := Tryd.underlying76
  have hu24 := Tryd.underlying24
  have HR0 := Aside0.mk hr0
  have HC0 := Aside0.mk hc0
  clear hr0 hc0
  have HB := Aside0.mk (Below.refl w.heap.size w)
  have H : (helmsmanlaw12_Stmts.l0 k ([] : List (S76)) l0 (l0.length : Int) 0) = some r := h
  clear h
  have H' := Aside0.mk H
  clear H
  go_enter Tryd.func24, Tryd.ntmps24
  go_wp2
  (try simp only [Act.put, List.setIfInBounds_toArray, List.set_cons_succ, List.set_cons_zero])
  go_loopg [3, 11] k (fun kq v3 v11 w' => ∃ (x3_1 : List (S76)) (x11_1 : Int), v11 = .int .i64 x11_1 ∧ Aside0 (helmsmanlaw12_Stmts.l0 kq x3_1 l0 (l0.length : Int) x11_1 = some r) ∧ Aside0 (kq ≤ k) ∧ Aside0 (Kd.R k76 76 w' w.heap.size (fun _ => True) v3 x3_1) ∧ Aside0 (Below w.heap.size w w'))
  case atStart => exact ⟨(([] : List (S76))), (0), (by first | rfl | (simp; done) | (simp [*]; done)), H', ⟨Nat.le_refl _⟩, ⟨by first | exact Kd.R_nil _ _ _ _ _ | exact Kd.N_nil _ _ _ _ _ | exact Kd.V_nil _ _ _ _ _ | exact Kd.Q_nil _ _ _ _ _ | exact Kd.S_nil _ _ _ _ _⟩, ⟨by repeat (first | (with_reducible first | exact HB.out | apply below_alloc | apply pw_below_drewN | apply below_drew1) | exact HB.out)⟩⟩
  case round =>
    clear H'
    obtain ⟨x3_1, x11_1, rfl, HA, HK1, HO_3, HB⟩ := hrel
    cases gk with
    | zero => exact absurd HA.out (by simp [helmsmanlaw12_Stmts.l0])
    | succ k1 =>
      have H := HA.out
      clear HA
      simp only [helmsmanlaw12_Stmts.l0] at H
      by_cases c2 : x11_1 < (l0.length : Int)
      · rw [if_pos c2] at H
        have c2b0 : decide (x11_1 < (l0.length : Int)) = true := decide_eq_true c2
        clear c2
        by_cases c3 : 0 ≤ x11_1
        · rw [if_pos c3] at H
          have c3b0 : decide (0 ≤ x11_1) = true := decide_eq_true c3
          clear c3
          by_cases c4 : x11_1 < (l0.length : Int)
          · rw [if_pos c4] at H
            have c4b0 : decide (x11_1 < (l0.length : Int)) = true := decide_eq_true c4
            clear c4
            replace H := Option.bind_eq_some_iff.mp H
            obtain ⟨t182, A50, H⟩ := H
            replace H : ((helmsmanlaw12_Stmts.f k1 ((rd_T29 l0 x11_1).f4)).bind fun t185 => (helmsmanlaw12_Stmts.l1 k1 x3_1 l0 (l0.length : Int) x11_1 ((rd_T29 l0 x11_1).f2) (((rd_T29 l0 x11_1).f2).length : Int) 0 ((rd_T29 l0 x11_1).f0) ((rd_T29 l0 x11_1).f1) ([] : List (S33)) t182 t185 ((rd_T29 l0 x11_1).f5))) = some r := H
            have A5 := Aside0.mk A50
            clear A50
            replace H := Option.bind_eq_some_iff.mp H
            obtain ⟨t185, A60, H⟩ := H
            replace H : (helmsmanlaw12_Stmts.l1 k1 x3_1 l0 (l0.length : Int) x11_1 ((rd_T29 l0 x11_1).f2) (((rd_T29 l0 x11_1).f2).length : Int) 0 ((rd_T29 l0 x11_1).f0) ((rd_T29 l0 x11_1).f1) ([] : List (S33)) t182 t185 ((rd_T29 l0 x11_1).f5)) = some r := H
            have A6 := Aside0.mk A60
            clear A60
            have H' := Aside0.mk H
            clear H
            have p180 : 0 ≤ (x11_1 : Int) := of_decide_eq_true (by first | (with_reducible assumption) | assumption)
            have q180 : x11_1 < (l0.length : Int) := of_decide_eq_true (by first | (with_reducible assumption) | assumption)
            obtain ⟨ad180, A180_2, c180_2, A180_3, c180_3, A180_4, c180_4, e180, hx180_0, hx180_1, hx180_2, hx180_3, hx180_4, hx180_5, hl180_2, hi180_2, hl180_3, hi180_3, hl180_4, hi180_4⟩ := at_T29 HR0.out x11_1 p180 q180
            cases e180
            replace hx180_0 := (HB.out.cell (World.block_lt_of_cell? w _ hx180_0)).trans hx180_0
            replace hx180_1 := (HB.out.cell (World.block_lt_of_cell? w _ hx180_1)).trans hx180_1
            replace hx180_2 := (HB.out.cell (World.block_lt_of_cell? w _ hx180_2)).trans hx180_2
            replace hx180_3 := (HB.out.cell (World.block_lt_of_cell? w _ hx180_3)).trans hx180_3
            replace hx180_4 := (HB.out.cell (World.block_lt_of_cell? w _ hx180_4)).trans hx180_4
            replace hx180_5 := (HB.out.cell (World.block_lt_of_cell? w _ hx180_5)).trans hx180_5
            have HR180_2 := Aside0.mk hi180_2
            have HC180_2 := Aside0.mk hl180_2
            clear hi180_2 hl180_2
            have HR180_3 := Aside0.mk hi180_3
            have HC180_3 := Aside0.mk hl180_3
            clear hi180_3 hl180_3
            have HR180_4 := Aside0.mk hi180_4
            have HC180_4 := Aside0.mk hl180_4
            clear hi180_4 hl180_4
            replace p180 := eq_true p180
            replace q180 := eq_true q180
            try go_wp2_with (first | ((with_reducible refine gate_dst (N := 5) rfl ?_); refine box_event ?hg (N := 5) ?hd (cs := #[.string (⟨#[]⟩ : ByteArray), .string (⟨#[]⟩ : ByteArray), .slice none 0 0, .slice none 0 0, .slice none 0 0, .int .i64 0]) (t := 29) ?hr ?_; (case hd => rfl); (case hg => rfl); (case hr => first | (go_simp; done) | (go_simp; rfl)); intro gb181 hg w7 hbox hb; have n0_ := Aside0.mk (Kd.R_below (by (with_reducible repeat (first | apply Kd.R_alloc | apply Kd.R_drewN | apply Kd.R_drew)); exact HO_3.out) hb); have n1_ := Aside0.mk (below_step (by repeat (first | (with_reducible first | exact HB.out | apply below_alloc | apply pw_below_drewN | apply below_drew1) | exact HB.out)) hb); have n2_ := Aside0.mk (hbox); have n3_ := Aside0.mk ((by rw [hg]; exact (below_size (by repeat (first | (with_reducible first | exact HB.out | apply below_alloc | apply pw_below_drewN | apply below_drew1) | exact HB.out))) : w.heap.size ≤ gb181)); have n4_ := Aside0.mk ((by rw [hg]; exact (below_size (by repeat (first | (with_reducible first | exact HB.out | apply below_alloc | apply pw_below_drewN | apply below_drew1) | exact HB.out))) : w.heap.size ≤ gb181)); clear HO_3; clear HB; have HO_3 := n0_; have HB := n1_; have BK181 := n2_; have GW181 := n3_; have GE181 := n4_; clear n0_ n1_ n2_ n3_ n4_; clear hb hbox hg; have hcz8_0 : w7.cell? ⟨gb181, 0, none⟩ = some (.string (⟨#[]⟩ : ByteArray)) := (blk_cell BK181.out 0).trans rfl; have hcz8_1 : w7.cell? ⟨gb181, 1, none⟩ = some (.string (⟨#[]⟩ : ByteArray)) := (blk_cell BK181.out 1).trans rfl; have hcz8_2 : w7.cell? ⟨gb181, 2, none⟩ = some (.slice none 0 0) := (blk_cell BK181.out 2).trans rfl; have hcz8_3 : w7.cell? ⟨gb181, 3, none⟩ = some (.slice none 0 0) := (blk_cell BK181.out 3).trans rfl; have hcz8_4 : w7.cell? ⟨gb181, 4, none⟩ = some (.slice none 0 0) := (blk_cell BK181.out 4).trans rfl; have hcz8_5 : w7.cell? ⟨gb181, 5, none⟩ = some (.int .i64 0) := (blk_cell BK181.out 5).trans rfl; have hfz8_0 := blk_frozen BK181.out 0; have hfz8_1 := blk_frozen BK181.out 1; have hfz8_2 := blk_frozen BK181.out 2; have hfz8_3 := blk_frozen BK181.out 3; have hfz8_4 := blk_frozen BK181.out 4; have hfz8_5 := blk_frozen BK181.out 5))
            have n0_ : Aside0 (Kd.R k76 76 ((((((w7.setCell ⟨gb181, 0, none⟩ (.string ((rd_T29 l0 x11_1).f0))).setCell ⟨gb181, 1, none⟩ (.string ((rd_T29 l0 x11_1).f1))).setCell ⟨gb181, 2, none⟩ (.slice A180_2 ((rd_T29 l0 x11_1).f2).length c180_2)).setCell ⟨gb181, 3, none⟩ (.slice A180_3 ((rd_T29 l0 x11_1).f3).length c180_3)).setCell ⟨gb181, 4, none⟩ (.slice A180_4 ((rd_T29 l0 x11_1).f4).length c180_4)).setCell ⟨gb181, 5, none⟩ (.int .i64 ((rd_T29 l0 x11_1).f5))) w.heap.size (fun _ => True) u3 x3_1) := ⟨by (with_reducible repeat (first | apply Kd.R_alloc | apply Kd.R_drewN | apply Kd.R_drew)); exact Kd.R_mono (Kd.R_far (p := ⟨gb181, 5, none⟩) (Kd.R_far (p := ⟨gb181, 4, none⟩) (Kd.R_far (p := ⟨gb181, 3, none⟩) (Kd.R_far (p := ⟨gb181, 2, none⟩) (Kd.R_far (p := ⟨gb181, 1, none⟩) (Kd.R_far (p := ⟨gb181, 0, none⟩) (Kd.R_types HO_3.out BK181.out (by decide)) (fun _ hk => hk.2) (.string ((rd_T29 l0 x11_1).f0))) (fun _ hk => hk.2) (.string ((rd_T29 l0 x11_1).f1))) (fun _ hk => hk.2) (.slice A180_2 ((rd_T29 l0 x11_1).f2).length c180_2)) (fun _ hk => hk.2) (.slice A180_3 ((rd_T29 l0 x11_1).f3).length c180_3)) (fun _ hk => hk.2) (.slice A180_4 ((rd_T29 l0 x11_1).f4).length c180_4)) (fun _ hk => hk.2) (.int .i64 ((rd_T29 l0 x11_1).f5))) (fun _ hk => trivial)⟩
            have n1_ : Aside0 (((((((w7.setCell ⟨gb181, 0, none⟩ (.string ((rd_T29 l0 x11_1).f0))).setCell ⟨gb181, 1, none⟩ (.string ((rd_T29 l0 x11_1).f1))).setCell ⟨gb181, 2, none⟩ (.slice A180_2 ((rd_T29 l0 x11_1).f2).length c180_2)).setCell ⟨gb181, 3, none⟩ (.slice A180_3 ((rd_T29 l0 x11_1).f3).length c180_3)).setCell ⟨gb181, 4, none⟩ (.slice A180_4 ((rd_T29 l0 x11_1).f4).length c180_4)).setCell ⟨gb181, 5, none⟩ (.int .i64 ((rd_T29 l0 x11_1).f5))).heap[gb181]? = some (.cells #[.string ((rd_T29 l0 x11_1).f0), .string ((rd_T29 l0 x11_1).f1), .slice A180_2 ((rd_T29 l0 x11_1).f2).length c180_2, .slice A180_3 ((rd_T29 l0 x11_1).f3).length c180_3, .slice A180_4 ((rd_T29 l0 x11_1).f4).length c180_4, .int .i64 ((rd_T29 l0 x11_1).f5)] 29 (0, 0))) := ⟨by (with_reducible repeat (first | refine blk_drewN ?_ _ | refine blk_drew ?_ | refine blk_alloc ?_ _)); refine blk_put (cs := #[.string ((rd_T29 l0 x11_1).f0), .string ((rd_T29 l0 x11_1).f1), .slice A180_2 ((rd_T29 l0 x11_1).f2).length c180_2, .slice A180_3 ((rd_T29 l0 x11_1).f3).length c180_3, .slice A180_4 ((rd_T29 l0 x11_1).f4).length c180_4, .int .i64 0]) ?_ 5 _ rfl; (with_reducible repeat (first | refine blk_drewN ?_ _ | refine blk_drew ?_ | refine blk_alloc ?_ _)); refine blk_put (cs := #[.string ((rd_T29 l0 x11_1).f0), .string ((rd_T29 l0 x11_1).f1), .slice A180_2 ((rd_T29 l0 x11_1).f2).length c180_2, .slice A180_3 ((rd_T29 l0 x11_1).f3).length c180_3, .slice none 0 0, .int .i64 0]) ?_ 4 _ rfl; (with_reducible repeat (first | refine blk_drewN ?_ _ | refine blk_drew ?_ | refine blk_alloc ?_ _)); refine blk_put (cs := #[.string ((rd_T29 l0 x11_1).f0), .string ((rd_T29 l0 x11_1).f1), .slice A180_2 ((rd_T29 l0 x11_1).f2).length c180_2, .slice none 0 0, .slice none 0 0, .int .i64 0]) ?_ 3 _ rfl; (with_reducible repeat (first | refine blk_drewN ?_ _ | refine blk_drew ?_ | refine blk_alloc ?_ _)); refine blk_put (cs := #[.string ((rd_T29 l0 x11_1).f0), .string ((rd_T29 l0 x11_1).f1), .slice none 0 0, .slice none 0 0, .slice none 0 0, .int .i64 0]) ?_ 2 _ rfl; (with_reducible repeat (first | refine blk_drewN ?_ _ | refine blk_drew ?_ | refine blk_alloc ?_ _)); refine blk_put (cs := #[.string ((rd_T29 l0 x11_1).f0), .string (⟨#[]⟩ : ByteArray), .slice none 0 0, .slice none 0 0, .slice none 0 0, .int .i64 0]) ?_ 1 _ rfl; (with_reducible repeat (first | refine blk_drewN ?_ _ | refine blk_drew ?_ | refine blk_alloc ?_ _)); refine blk_put (cs := #[.string (⟨#[]⟩ : ByteArray), .string (⟨#[]⟩ : ByteArray), .slice none 0 0, .slice none 0 0, .slice none 0 0, .int .i64 0]) ?_ 0 _ rfl; (with_reducible repeat (first | refine blk_drewN ?_ _ | refine blk_drew ?_ | refine blk_alloc ?_ _)); exact BK181.out⟩
            have n2_ : Aside0 (Below w.heap.size w ((((((w7.setCell ⟨gb181, 0, none⟩ (.string ((rd_T29 l0 x11_1).f0))).setCell ⟨gb181, 1, none⟩ (.string ((rd_T29 l0 x11_1).f1))).setCell ⟨gb181, 2, none⟩ (.slice A180_2 ((rd_T29 l0 x11_1).f2).length c180_2)).setCell ⟨gb181, 3, none⟩ (.slice A180_3 ((rd_T29 l0 x11_1).f3).length c180_3)).setCell ⟨gb181, 4, none⟩ (.slice A180_4 ((rd_T29 l0 x11_1).f4).length c180_4)).setCell ⟨gb181, 5, none⟩ (.int .i64 ((rd_T29 l0 x11_1).f5)))) := ⟨by repeat (first | (with_reducible first | exact HB.out | apply below_alloc | apply pw_below_drewN | apply below_drew1 | refine below_set ?_ GE181.out) | exact HB.out)⟩
            (try clear HO_3)
            (try clear BK181)
            (try clear HB)
            generalize ((((((w7.setCell ⟨gb181, 0, none⟩ (.string ((rd_T29 l0 x11_1).f0))).setCell ⟨gb181, 1, none⟩ (.string ((rd_T29 l0 x11_1).f1))).setCell ⟨gb181, 2, none⟩ (.slice A180_2 ((rd_T29 l0 x11_1).f2).length c180_2)).setCell ⟨gb181, 3, none⟩ (.slice A180_3 ((rd_T29 l0 x11_1).f3).length c180_3)).setCell ⟨gb181, 4, none⟩ (.slice A180_4 ((rd_T29 l0 x11_1).f4).length c180_4)).setCell ⟨gb181, 5, none⟩ (.int .i64 ((rd_T29 l0 x11_1).f5))) = w9 at n0_ n1_ n2_ ⊢
            have HO_3 := n0_
            have BK181 := n1_
            have HB := n2_
            clear n0_ n1_ n2_
            have n0_ := Aside0.mk (Kd.R_drew HO_3.out)
            have n1_ := Aside0.mk (blk_drew BK181.out)
            have n2_ := Aside0.mk (below_drew1 HB.out)
            clear HO_3
            clear BK181
            clear HB
            have HO_3 := n0_
            have BK181 := n1_
            have HB := n2_
            clear n0_ n1_ n2_
            refine start_ (n := 15) (S := fun w' => w'.cell? ⟨gb181, 0, none⟩ = some (.string ((rd_T29 l0 x11_1).f0)) ∧ w'.cell? ⟨gb181, 1, none⟩ = some (.string ((rd_T29 l0 x11_1).f1)) ∧ w'.cell? ⟨gb181, 2, none⟩ = some (.slice A180_2 ((rd_T29 l0 x11_1).f2).length c180_2) ∧ w'.cell? ⟨gb181, 3, none⟩ = some (.slice A180_3 ((rd_T29 l0 x11_1).f3).length c180_3) ∧ w'.cell? ⟨gb181, 4, none⟩ = some (.slice A180_4 ((rd_T29 l0 x11_1).f4).length c180_4) ∧ w'.cell? ⟨gb181, 5, none⟩ = some (.int .i64 ((rd_T29 l0 x11_1).f5))) (ds := []) #[false, false, false, false, false, false, false, false, false, false, false, false, false, false, false] (by kernel_rfl) rfl rfl ⟨(blk_cell BK181.out 0).trans rfl, (blk_cell BK181.out 1).trans rfl, (blk_cell BK181.out 2).trans rfl, (blk_cell BK181.out 3).trans rfl, (blk_cell BK181.out 4).trans rfl, (blk_cell BK181.out 5).trans rfl⟩ (fun hHeld => ?_); refine with_tabW helmsmanlaw12_Stmts.tab5 helmsmanlaw12_Stmts.bits5 (fun HT_ HW_ => ?_)
            generalize w9.drew = w10 at HO_3 BK181 HB hHeld ⊢
            refine pure_ (i := 0) (N := some 15) (v := ?_) (a' := ?_) #[true, false, false, false, false, false, false, false, false, false, false, false, false, false, false] rfl rfl (any_of HT_.out (by kernel_rfl)) (fun _ _ _ h => h) (Or.inl ⟨by rfl, ?_⟩) ?_ ?_
            rotate_left
            · intro w'
              go_simp
              with_reducible rfl
            rotate_left
            · simp only [Act.put, List.setIfInBounds_toArray, List.set_cons_zero, List.set_cons_succ, i64_w, i32_w]
              rfl
            refine pure_ (i := 2) (N := some 17) (v := ?_) (a' := ?_) #[true, false, true, false, false, false, false, false, false, false, false, false, false, false, false] rfl rfl (any_of HT_.out (by kernel_rfl)) (fun _ _ _ h => h) (Or.inl ⟨by rfl, ?_⟩) ?_ ?_
            rotate_left
            · intro w'
              go_simp
              with_reducible rfl
            rotate_left
            · simp only [Act.put, List.setIfInBounds_toArray, List.set_cons_zero, List.set_cons_succ, i64_w, i32_w]
              rfl
            refine pure_ (i := 4) (N := some 19) (v := ?_) (a' := ?_) #[true, false, true, false, true, false, false, false, false, false, false, false, false, false, false] rfl rfl (any_of HT_.out (by kernel_rfl)) (fun _ _ _ h => h) (Or.inl ⟨by rfl, ?_⟩) ?_ ?_
            rotate_left
            · intro w'
              go_simp
              with_reducible rfl
            rotate_left
            · simp only [Act.put, List.setIfInBounds_toArray, List.set_cons_zero, List.set_cons_succ, i64_w, i32_w]
              rfl
            refine pure_ (i := 6) (N := some 21) (v := ?_) (a' := ?_) #[true, false, true, false, true, false, true, false, false, false, false, false, false, false, false] rfl rfl (any_of HT_.out (by kernel_rfl)) (fun _ _ _ h => h) (Or.inl ⟨by rfl, ?_⟩) ?_ ?_
            rotate_left
            · intro w'
              go_simp
              with_reducible rfl
            rotate_left
            · simp only [Act.put, List.setIfInBounds_toArray, List.set_cons_zero, List.set_cons_succ, i64_w, i32_w]
              rfl
            refine pure_ (i := 9) (N := some 24) (v := ?_) (a' := ?_) #[true, false, true, false, true, false, true, false, false, true, false, false, false, false, false] rfl rfl (any_of HT_.out (by kernel_rfl)) (fun _ _ _ h => h) (Or.inl ⟨by rfl, ?_⟩) ?_ ?_
            rotate_left
            · intro w'
              go_simp
              with_reducible rfl
            rotate_left
            · simp only [Act.put, List.setIfInBounds_toArray, List.set_cons_zero, List.set_cons_succ, i64_w, i32_w]
              rfl
            refine take_ (i := 1) (N := some 16) (v := ?_) (a' := ?_) #[true, true, true, false, true, false, true, false, false, true, false, false, false, false, false] rfl rfl (take_ofW HT_.out HW_.out (by kernel_rfl)) (fun _ _ _ h => h) (Or.inl ⟨by rfl, ?_⟩) hHeld ?_ ?_
            rotate_left
            · rintro w' ⟨s0, s1, s2, s3, s4, s5⟩
              go_simp
              with_reducible rfl
            rotate_left
            · simp only [Act.put, List.setIfInBounds_toArray, List.set_cons_zero, List.set_cons_succ, i64_w, i32_w]
              rfl
            refine take_ (i := 3) (N := some 18) (v := ?_) (a' := ?_) #[true, true, true, true, true, false, true, false, false, true, false, false, false, false, false] rfl rfl (take_ofW HT_.out HW_.out (by kernel_rfl)) (fun _ _ _ h => h) (Or.inl ⟨by rfl, ?_⟩) hHeld ?_ ?_
            rotate_left
            · rintro w' ⟨s0, s1, s2, s3, s4, s5⟩
              go_simp
              with_reducible rfl
            rotate_left
            · simp only [Act.put, List.setIfInBounds_toArray, List.set_cons_zero, List.set_cons_succ, i64_w, i32_w]
              rfl
            refine take_ (i := 5) (N := some 20) (v := ?_) (a' := ?_) #[true, true, true, true, true, true, true, false, false, true, false, false, false, false, false] rfl rfl (take_ofW HT_.out HW_.out (by kernel_rfl)) (fun _ _ _ h => h) (Or.inl ⟨by rfl, ?_⟩) hHeld ?_ ?_
            rotate_left
            · rintro w' ⟨s0, s1, s2, s3, s4, s5⟩
              go_simp
              with_reducible rfl
            rotate_left
            · simp only [Act.put, List.setIfInBounds_toArray, List.set_cons_zero, List.set_cons_succ, i64_w, i32_w]
              rfl
            refine take_ (i := 7) (N := some 22) (v := ?_) (a' := ?_) #[true, true, true, true, true, true, true, true, false, true, false, false, false, false, false] rfl rfl (take_ofW HT_.out HW_.out (by kernel_rfl)) (fun _ _ _ h => h) (Or.inl ⟨by rfl, ?_⟩) hHeld ?_ ?_
            rotate_left
            · rintro w' ⟨s0, s1, s2, s3, s4, s5⟩
              go_simp
              with_reducible rfl
            rotate_left
            · simp only [Act.put, List.setIfInBounds_toArray, List.set_cons_zero, List.set_cons_succ, i64_w, i32_w]
              rfl
            refine take_ (i := 10) (N := some 25) (v := ?_) (a' := ?_) #[true, true, true, true, true, true, true, true, false, true, true, false, false, false, false] rfl rfl (take_ofW HT_.out HW_.out (by kernel_rfl)) (fun _ _ _ h => h) (Or.inl ⟨by rfl, ?_⟩) hHeld ?_ ?_
            rotate_left
            · rintro w' ⟨s0, s1, s2, s3, s4, s5⟩
              go_simp
              with_reducible rfl
            rotate_left
            · simp only [Act.put, List.setIfInBounds_toArray, List.set_cons_zero, List.set_cons_succ, i64_w, i32_w]
              rfl
            refine join_ (σ := Value × Value × Nat) 1 #[true, true, true, true, true, true, true, true, true, true, true, true, true, true, false] (fun s_ => [(23, s_.1), (26, s_.2.1), (6, .pointer (some ⟨s_.2.2, 0, none⟩)), (27, .agg #[.string ((rd_T29 l0 x11_1).f0), .string ((rd_T29 l0 x11_1).f1), .slice none 0 0, s_.1, s_.2.1, .int .i64 ((rd_T29 l0 x11_1).f5)])]) (fun s_ w' => (w'.cell? ⟨gb181, 0, none⟩ = some (.string ((rd_T29 l0 x11_1).f0)) ∧ w'.cell? ⟨gb181, 1, none⟩ = some (.string ((rd_T29 l0 x11_1).f1)) ∧ w'.cell? ⟨gb181, 2, none⟩ = some (.slice A180_2 ((rd_T29 l0 x11_1).f2).length c180_2) ∧ w'.cell? ⟨gb181, 3, none⟩ = some (.slice A180_3 ((rd_T29 l0 x11_1).f3).length c180_3) ∧ w'.cell? ⟨gb181, 4, none⟩ = some (.slice A180_4 ((rd_T29 l0 x11_1).f4).length c180_4) ∧ w'.cell? ⟨gb181, 5, none⟩ = some (.int .i64 ((rd_T29 l0 x11_1).f5))) ∧ (Kd.R k76 76 w' w.heap.size (fun k_ => some k_ ≠ (s_.2.1 : Value).ownBlock ∧ some k_ ≠ (u3 : Value).ownBlock ∧ k_ ≠ s_.2.2) s_.1 t182) ∧ (Kd.R k76 76 w' w.heap.size (fun k_ => some k_ ≠ (s_.1 : Value).ownBlock ∧ some k_ ≠ (u3 : Value).ownBlock ∧ k_ ≠ s_.2.2) s_.2.1 t185) ∧ (Kd.R k76 76 w' w.heap.size (fun k_ => some k_ ≠ (s_.1 : Value).ownBlock ∧ some k_ ≠ (s_.2.1 : Value).ownBlock ∧ k_ ≠ s_.2.2) u3 x3_1) ∧ (w'.heap[gb181]? = some (.cells #[.string ((rd_T29 l0 x11_1).f0), .string ((rd_T29 l0 x11_1).f1), .slice A180_2 ((rd_T29 l0 x11_1).f2).length c180_2, .slice A180_3 ((rd_T29 l0 x11_1).f3).length c180_3, .slice A180_4 ((rd_T29 l0 x11_1).f4).length c180_4, .int .i64 ((rd_T29 l0 x11_1).f5)] 29 (0, 0))) ∧ (w'.heap[s_.2.2]? = some (.cells #[.string (⟨#[]⟩ : ByteArray), .string (⟨#[]⟩ : ByteArray), .slice none 0 0, .slice none 0 0, .slice none 0 0, .int .i64 0] 76 (0, 0))) ∧ (w.heap.size ≤ s_.2.2) ∧ (w.heap.size ≤ s_.2.2) ∧ (gb181 ≠ s_.2.2) ∧ (s_.2.2 ≠ gb181) ∧ (Below w.heap.size w w')) ?_ ?_
            rotate_left
            · intro hCont
              refine two_ (i := 8) (j := 13) (Ni := some 23) (Nj := some 6) #[true, true, true, true, true, true, true, true, true, true, true, false, false, false, false] #[true, true, true, true, true, true, true, true, false, true, true, false, false, true, false] rfl rfl rfl rfl (two_of HT_.out (by kernel_rfl)) (by decide) (by decide) (fun K hK => ?_) (fun K hK => ?_)
              · skip
                refine goes_ Tryd.func24 (by kernel_rfl) rfl #[.slice A180_3 ((rd_T29 l0 x11_1).f3).length c180_3] (by rfl) rfl rfl (by (try simp only [List.map_toArray, List.map_cons, List.map_nil]); first | done | rfl | (simp only [List.length_drop, List.length_take]; rfl)) ?_
                with_reducible refine (ih k1 (by have := HK1.out; omega) _ _ ((rd_T29 l0 x11_1).f3) t182 _ ?side1 ?side2 A5.out).mono ?_
                (case side1 => repeat (first | exact (Kd.C_below HR180_3.out HB.out) | (with_reducible refine Kd.C_alloc ?_ _) | (with_reducible refine Kd.C_drewN ?_ _) | (with_reducible refine Kd.C_drew ?_)))
                (case side2 => exact HC180_3.out)
                rintro e w11 ⟨v183, rfl, ho0, hb⟩
                refine ⟨_, rfl, ?_⟩
                have n0_ := Aside0.mk (Kd.R_elder' (by (with_reducible repeat (first | apply Kd.R_alloc | apply Kd.R_drewN | apply Kd.R_drew)); exact HO_3.out) (Kd.R_base ho0) hb)
                have n1_ := Aside0.mk (Kd.R_lower (Kd.R_new' ho0 (Kd.R_lt (by (with_reducible repeat (first | apply Kd.R_alloc | apply Kd.R_drewN | apply Kd.R_drew)); exact HO_3.out))) (below_size (by repeat (first | (with_reducible first | exact HB.out | apply below_alloc | apply pw_below_drewN | apply below_drew1 | refine below_set ?_ GE181.out) | exact HB.out))))
                have n2_ := Aside0.mk (blk_below (g := gb181) (o := .cells #[.string ((rd_T29 l0 x11_1).f0), .string ((rd_T29 l0 x11_1).f1), .slice A180_2 ((rd_T29 l0 x11_1).f2).length c180_2, .slice A180_3 ((rd_T29 l0 x11_1).f3).length c180_3, .slice A180_4 ((rd_T29 l0 x11_1).f4).length c180_4, .int .i64 ((rd_T29 l0 x11_1).f5)] 29 (0, 0)) (by (with_reducible repeat (first | refine blk_drewN ?_ _ | refine blk_drew ?_ | refine blk_alloc ?_ _)); exact BK181.out) hb)
                have n3_ := Aside0.mk (below_step (by repeat (first | (with_reducible first | exact HB.out | apply below_alloc | apply pw_below_drewN | apply below_drew1 | refine below_set ?_ GE181.out) | exact HB.out)) hb)
                clear HO_3
                clear BK181
                clear HB
                have HO_3 := n0_
                have HO184 := n1_
                have BK181 := n2_
                have HB := n3_
                clear n0_ n1_ n2_ n3_
                (try clear hb)
                (try clear hb2)
                (try clear hk)
                (try clear hi)
                (try clear ho0)
                refine hK.out _ _ ⟨(blk_cell BK181.out 0).trans rfl, (blk_cell BK181.out 1).trans rfl, (blk_cell BK181.out 2).trans rfl, (blk_cell BK181.out 3).trans rfl, (blk_cell BK181.out 4).trans rfl, (blk_cell BK181.out 5).trans rfl⟩ (fun hHeld => ?_)
                clear hK K
                refine norm_ (a' := ?_) ?_ ?_
                rotate_left
                · show Act.put _ (some 23) _ = _
                  simp only [Act.put, List.setIfInBounds_toArray, List.set_cons_zero, List.set_cons_succ, i64_w, i32_w]
                  rfl
                refine two_ (i := 11) (j := 13) (Ni := some 26) (Nj := some 6) #[true, true, true, true, true, true, true, true, true, true, true, true, false, false, false] #[true, true, true, true, true, true, true, true, true, true, true, false, false, true, false] rfl rfl rfl rfl (two_of HT_.out (by kernel_rfl)) (by decide) (by decide) (fun K hK => ?_) (fun K hK => ?_)
                · skip
                  refine goes_ Tryd.func24 (by kernel_rfl) rfl #[.slice A180_4 ((rd_T29 l0 x11_1).f4).length c180_4] (by rfl) rfl rfl (by (try simp only [List.map_toArray, List.map_cons, List.map_nil]); first | done | rfl | (simp only [List.length_drop, List.length_take]; rfl)) ?_
                  with_reducible refine (ih k1 (by have := HK1.out; omega) _ _ ((rd_T29 l0 x11_1).f4) t185 _ ?side1 ?side2 A6.out).mono ?_
                  (case side1 => repeat (first | exact (Kd.C_below HR180_4.out HB.out) | (with_reducible refine Kd.C_alloc ?_ _) | (with_reducible refine Kd.C_drewN ?_ _) | (with_reducible refine Kd.C_drew ?_)))
                  (case side2 => exact HC180_4.out)
                  rintro e w12 ⟨v186, rfl, ho0, hb⟩
                  refine ⟨_, rfl, ?_⟩
                  have n0_ := Aside0.mk (Kd.R_elder' (by (with_reducible repeat (first | apply Kd.R_alloc | apply Kd.R_drewN | apply Kd.R_drew)); exact HO_3.out) (Kd.R_base ho0) hb)
                  have n1_ := Aside0.mk (Kd.R_elder' (by (with_reducible repeat (first | apply Kd.R_alloc | apply Kd.R_drewN | apply Kd.R_drew)); exact HO184.out) (Kd.R_base ho0) hb)
                  have n2_ := Aside0.mk (Kd.R_lower (Kd.R_new' (Kd.R_new' ho0 (Kd.R_lt (by (with_reducible repeat (first | apply Kd.R_alloc | apply Kd.R_drewN | apply Kd.R_drew)); exact HO_3.out))) (Kd.R_lt (by (with_reducible repeat (first | apply Kd.R_alloc | apply Kd.R_drewN | apply Kd.R_drew)); exact HO184.out))) (below_size (by repeat (first | (with_reducible first | exact HB.out | apply below_alloc | apply pw_below_drewN | apply below_drew1 | refine below_set ?_ GE181.out) | exact HB.out))))
                  have n3_ := Aside0.mk (blk_below (g := gb181) (o := .cells #[.string ((rd_T29 l0 x11_1).f0), .string ((rd_T29 l0 x11_1).f1), .slice A180_2 ((rd_T29 l0 x11_1).f2).length c180_2, .slice A180_3 ((rd_T29 l0 x11_1).f3).length c180_3, .slice A180_4 ((rd_T29 l0 x11_1).f4).length c180_4, .int .i64 ((rd_T29 l0 x11_1).f5)] 29 (0, 0)) (by (with_reducible repeat (first | refine blk_drewN ?_ _ | refine blk_drew ?_ | refine blk_alloc ?_ _)); exact BK181.out) hb)
                  have n4_ := Aside0.mk (below_step (by repeat (first | (with_reducible first | exact HB.out | apply below_alloc | apply pw_below_drewN | apply below_drew1 | refine below_set ?_ GE181.out) | exact HB.out)) hb)
                  clear HO_3
                  clear HO184
                  clear BK181
                  clear HB
                  have HO_3 := n0_
                  have HO184 := n1_
                  have HO187 := n2_
                  have BK181 := n3_
                  have HB := n4_
                  clear n0_ n1_ n2_ n3_ n4_
                  (try clear hb)
                  (try clear hb2)
                  (try clear hk)
                  (try clear hi)
                  (try clear ho0)
                  obtain ⟨Ao13, co13, eo13⟩ := Kd.R_slice HO187.out
                  (first | subst eo13 | (injection eo13 with f1_ f2_ f3_; have f4_ := f1_.symm; have f5_ := f3_.symm; clear f1_ f2_ f3_; subst f4_; subst f5_))
                  obtain ⟨Ao14, co14, eo14⟩ := Kd.R_slice HO184.out
                  (first | subst eo14 | (injection eo14 with f1_ f2_ f3_; have f4_ := f1_.symm; have f5_ := f3_.symm; clear f1_ f2_ f3_; subst f4_; subst f5_))
                  refine hK.out _ _ ⟨(blk_cell BK181.out 0).trans rfl, (blk_cell BK181.out 1).trans rfl, (blk_cell BK181.out 2).trans rfl, (blk_cell BK181.out 3).trans rfl, (blk_cell BK181.out 4).trans rfl, (blk_cell BK181.out 5).trans rfl⟩ (fun hHeld => ?_)
                  clear hK K
                  refine norm_ (a' := ?_) ?_ ?_
                  rotate_left
                  · show Act.put _ (some 26) _ = _
                    simp only [Act.put, List.setIfInBounds_toArray, List.set_cons_zero, List.set_cons_succ, i64_w, i32_w]
                    rfl
                  refine pure_ (i := 12) (N := some 27) (v := ?_) (a' := ?_) #[true, true, true, true, true, true, true, true, true, true, true, true, true, false, false] rfl rfl (any_of HT_.out (by kernel_rfl)) (fun _ _ _ h => h) (Or.inl ⟨by rfl, ?_⟩) ?_ ?_
                  rotate_left
                  · intro w'
                    go_simp
                    with_reducible rfl
                  rotate_left
                  · simp only [Act.put, List.setIfInBounds_toArray, List.set_cons_zero, List.set_cons_succ, i64_w, i32_w]
                    rfl
                  refine one_ (i := 13) (N := some 6) #[true, true, true, true, true, true, true, true, true, true, true, true, true, true, false] rfl rfl (one_of HT_.out (by kernel_rfl)) (by decide) (fun K hK => ?_)
                  refine box_step ?hg (N := 6) ?hd (cs := #[.string (⟨#[]⟩ : ByteArray), .string (⟨#[]⟩ : ByteArray), .slice none 0 0, .slice none 0 0, .slice none 0 0, .int .i64 0]) (t := 76) ?hr ?_; (case hd => rfl); (case hg => rfl); (case hr => first | (go_simp; done) | (go_simp; rfl))
                  intro gb188 hg w15 hbox hb
                  have n0_ := Aside0.mk (Kd.R_below (Kd.R_elderB (by (with_reducible repeat (first | apply Kd.R_alloc | apply Kd.R_drewN | apply Kd.R_drew)); exact HO_3.out) gb188 (Nat.le_of_eq hg.symm)) hb)
                  have n1_ := Aside0.mk (Kd.R_below (Kd.R_elderB (by (with_reducible repeat (first | apply Kd.R_alloc | apply Kd.R_drewN | apply Kd.R_drew)); exact HO184.out) gb188 (Nat.le_of_eq hg.symm)) hb)
                  have n2_ := Aside0.mk (Kd.R_below (Kd.R_elderB (by (with_reducible repeat (first | apply Kd.R_alloc | apply Kd.R_drewN | apply Kd.R_drew)); exact HO187.out) gb188 (Nat.le_of_eq hg.symm)) hb)
                  have n3_ := Aside0.mk (blk_below (g := gb181) (o := .cells #[.string ((rd_T29 l0 x11_1).f0), .string ((rd_T29 l0 x11_1).f1), .slice A180_2 ((rd_T29 l0 x11_1).f2).length c180_2, .slice A180_3 ((rd_T29 l0 x11_1).f3).length c180_3, .slice A180_4 ((rd_T29 l0 x11_1).f4).length c180_4, .int .i64 ((rd_T29 l0 x11_1).f5)] 29 (0, 0)) (by (with_reducible repeat (first | refine blk_drewN ?_ _ | refine blk_drew ?_ | refine blk_alloc ?_ _)); exact BK181.out) hb)
                  have n4_ := Aside0.mk (below_step (by repeat (first | (with_reducible first | exact HB.out | apply below_alloc | apply pw_below_drewN | apply below_drew1 | refine below_set ?_ GE181.out) | exact HB.out)) hb)
                  have n5_ := Aside0.mk (hbox)
                  have n6_ := Aside0.mk ((by rw [hg]; exact (below_size (by repeat (first | (with_reducible first | exact HB.out | apply below_alloc | apply pw_below_drewN | apply below_drew1 | refine below_set ?_ GE181.out) | exact HB.out))) : w.heap.size ≤ gb188))
                  have n7_ := Aside0.mk ((by rw [hg]; exact (below_size (by repeat (first | (with_reducible first | exact HB.out | apply below_alloc | apply pw_below_drewN | apply below_drew1 | refine below_set ?_ GE181.out) | exact HB.out))) : w.heap.size ≤ gb188))
                  have n8_ := Aside0.mk ((by rw [hg]; exact Nat.ne_of_lt (blk_lt (g := gb181) (o := .cells #[.string ((rd_T29 l0 x11_1).f0), .string ((rd_T29 l0 x11_1).f1), .slice A180_2 ((rd_T29 l0 x11_1).f2).length c180_2, .slice A180_3 ((rd_T29 l0 x11_1).f3).length c180_3, .slice A180_4 ((rd_T29 l0 x11_1).f4).length c180_4, .int .i64 ((rd_T29 l0 x11_1).f5)] 29 (0, 0)) (by (with_reducible repeat (first | refine blk_drewN ?_ _ | refine blk_drew ?_ | refine blk_alloc ?_ _)); exact BK181.out)) : gb181 ≠ gb188))
                  have n9_ := Aside0.mk ((by rw [hg]; exact Nat.ne_of_gt (blk_lt (g := gb181) (o := .cells #[.string ((rd_T29 l0 x11_1).f0), .string ((rd_T29 l0 x11_1).f1), .slice A180_2 ((rd_T29 l0 x11_1).f2).length c180_2, .slice A180_3 ((rd_T29 l0 x11_1).f3).length c180_3, .slice A180_4 ((rd_T29 l0 x11_1).f4).length c180_4, .int .i64 ((rd_T29 l0 x11_1).f5)] 29 (0, 0)) (by (with_reducible repeat (first | refine blk_drewN ?_ _ | refine blk_drew ?_ | refine blk_alloc ?_ _)); exact BK181.out)) : gb188 ≠ gb181))
                  clear HO_3
                  clear HO184
                  clear HO187
                  clear BK181
                  clear HB
                  have HO_3 := n0_
                  have HO184 := n1_
                  have HO187 := n2_
                  have BK181 := n3_
                  have HB := n4_
                  have BK188 := n5_
                  have GW188 := n6_
                  have GE188 := n7_
                  have NB181_188 := n8_
                  have NB188_181 := n9_
                  clear n0_ n1_ n2_ n3_ n4_ n5_ n6_ n7_ n8_ n9_
                  clear hb hbox hg
                  refine hK.out _ _ ⟨(blk_cell BK181.out 0).trans rfl, (blk_cell BK181.out 1).trans rfl, (blk_cell BK181.out 2).trans rfl, (blk_cell BK181.out 3).trans rfl, (blk_cell BK181.out 4).trans rfl, (blk_cell BK181.out 5).trans rfl⟩ (fun hHeld => ?_)
                  clear hK K
                  refine norm_ (a' := ?_) ?_ ?_
                  rotate_left
                  · show Act.put _ (some 6) _ = _
                    simp only [Act.put, List.setIfInBounds_toArray, List.set_cons_zero, List.set_cons_succ, i64_w, i32_w]
                    rfl
                  exact norm_ (by simp only [putAll, Act.put, List.setIfInBounds_toArray, List.set_cons_zero, List.set_cons_succ]) (hCont (.slice Ao14 t182.length co14, .slice Ao13 t185.length co13, gb188) _ ⟨hHeld, (by (with_reducible repeat (first | apply Kd.R_alloc | apply Kd.R_drewN | apply Kd.R_drew)); exact Kd.R_mono HO184.out (fun _ hk => ⟨hk.1.2, ⟨hk.1.1.2, hk.2⟩⟩)), (by (with_reducible repeat (first | apply Kd.R_alloc | apply Kd.R_drewN | apply Kd.R_drew)); exact Kd.R_mono HO187.out (fun _ hk => ⟨hk.1.2, ⟨hk.1.1.2, hk.2⟩⟩)), (by (with_reducible repeat (first | apply Kd.R_alloc | apply Kd.R_drewN | apply Kd.R_drew)); exact Kd.R_mono HO_3.out (fun _ hk => ⟨hk.1.1.2, ⟨hk.1.2, hk.2⟩⟩)), (by (with_reducible repeat (first | refine blk_drewN ?_ _ | refine blk_drew ?_ | refine blk_alloc ?_ _)); exact BK181.out), (by (with_reducible repeat (first | refine blk_drewN ?_ _ | refine blk_drew ?_ | refine blk_alloc ?_ _)); exact BK188.out), GW188.out, GE188.out, NB181_188.out, NB188_181.out, (by repeat (first | (with_reducible first | exact HB.out | apply below_alloc | apply pw_below_drewN | apply below_drew1 | refine below_set ?_ GE181.out | refine below_set ?_ GE188.out) | exact HB.out))⟩)
                · skip
                  refine box_step ?hg (N := 6) ?hd (cs := #[.string (⟨#[]⟩ : ByteArray), .string (⟨#[]⟩ : ByteArray), .slice none 0 0, .slice none 0 0, .slice none 0 0, .int .i64 0]) (t := 76) ?hr ?_; (case hd => rfl); (case hg => rfl); (case hr => first | (go_simp; done) | (go_simp; rfl))
                  intro gb188 hg w12 hbox hb
                  have n0_ := Aside0.mk (Kd.R_below (Kd.R_elderB (by (with_reducible repeat (first | apply Kd.R_alloc | apply Kd.R_drewN | apply Kd.R_drew)); exact HO_3.out) gb188 (Nat.le_of_eq hg.symm)) hb)
                  have n1_ := Aside0.mk (Kd.R_below (Kd.R_elderB (by (with_reducible repeat (first | apply Kd.R_alloc | apply Kd.R_drewN | apply Kd.R_drew)); exact HO184.out) gb188 (Nat.le_of_eq hg.symm)) hb)
                  have n2_ := Aside0.mk (blk_below (g := gb181) (o := .cells #[.string ((rd_T29 l0 x11_1).f0), .string ((rd_T29 l0 x11_1).f1), .slice A180_2 ((rd_T29 l0 x11_1).f2).length c180_2, .slice A180_3 ((rd_T29 l0 x11_1).f3).length c180_3, .slice A180_4 ((rd_T29 l0 x11_1).f4).length c180_4, .int .i64 ((rd_T29 l0 x11_1).f5)] 29 (0, 0)) (by (with_reducible repeat (first | refine blk_drewN ?_ _ | refine blk_drew ?_ | refine blk_alloc ?_ _)); exact BK181.out) hb)
                  have n3_ := Aside0.mk (below_step (by repeat (first | (with_reducible first | exact HB.out | apply below_alloc | apply pw_below_drewN | apply below_drew1 | refine below_set ?_ GE181.out) | exact HB.out)) hb)
                  have n4_ := Aside0.mk (hbox)
                  have n5_ := Aside0.mk ((by rw [hg]; exact (below_size (by repeat (first | (with_reducible first | exact HB.out | apply below_alloc | apply pw_below_drewN | apply below_drew1 | refine below_set ?_ GE181.out) | exact HB.out))) : w.heap.size ≤ gb188))
                  have n6_ := Aside0.mk ((by rw [hg]; exact (below_size (by repeat (first | (with_reducible first | exact HB.out | apply below_alloc | apply pw_below_drewN | apply below_drew1 | refine below_set ?_ GE181.out) | exact HB.out))) : w.heap.size ≤ gb188))
                  have n7_ := Aside0.mk ((by rw [hg]; exact Nat.ne_of_lt (blk_lt (g := gb181) (o := .cells #[.string ((rd_T29 l0 x11_1).f0), .string ((rd_T29 l0 x11_1).f1), .slice A180_2 ((rd_T29 l0 x11_1).f2).length c180_2, .slice A180_3 ((rd_T29 l0 x11_1).f3).length c180_3, .slice A180_4 ((rd_T29 l0 x11_1).f4).length c180_4, .int .i64 ((rd_T29 l0 x11_1).f5)] 29 (0, 0)) (by (with_reducible repeat (first | refine blk_drewN ?_ _ | refine blk_drew ?_ | refine blk_alloc ?_ _)); exact BK181.out)) : gb181 ≠ gb188))
                  have n8_ := Aside0.mk ((by rw [hg]; exact Nat.ne_of_gt (blk_lt (g := gb181) (o := .cells #[.string ((rd_T29 l0 x11_1).f0), .string ((rd_T29 l0 x11_1).f1), .slice A180_2 ((rd_T29 l0 x11_1).f2).length c180_2, .slice A180_3 ((rd_T29 l0 x11_1).f3).length c180_3, .slice A180_4 ((rd_T29 l0 x11_1).f4).length c180_4, .int .i64 ((rd_T29 l0 x11_1).f5)] 29 (0, 0)) (by (with_reducible repeat (first | refine blk_drewN ?_ _ | refine blk_drew ?_ | refine blk_alloc ?_ _)); exact BK181.out)) : gb188 ≠ gb181))
                  clear HO_3
                  clear HO184
                  clear BK181
                  clear HB
                  have HO_3 := n0_
                  have HO184 := n1_
                  have BK181 := n2_
                  have HB := n3_
                  have BK188 := n4_
                  have GW188 := n5_
                  have GE188 := n6_
                  have NB181_188 := n7_
                  have NB188_181 := n8_
                  clear n0_ n1_ n2_ n3_ n4_ n5_ n6_ n7_ n8_
                  clear hb hbox hg
                  refine hK.out _ _ ⟨(blk_cell BK181.out 0).trans rfl, (blk_cell BK181.out 1).trans rfl, (blk_cell BK181.out 2).trans rfl, (blk_cell BK181.out 3).trans rfl, (blk_cell BK181.out 4).trans rfl, (blk_cell BK181.out 5).trans rfl⟩ (fun hHeld => ?_)
                  clear hK K
                  refine norm_ (a' := ?_) ?_ ?_
                  rotate_left
                  · show Act.put _ (some 6) _ = _
                    simp only [Act.put, List.setIfInBounds_toArray, List.set_cons_zero, List.set_cons_succ, i64_w, i32_w]
                    rfl
                  refine one_ (i := 11) (N := some 26) #[true, true, true, true, true, true, true, true, true, true, true, true, false, true, false] rfl rfl (one_of HT_.out (by kernel_rfl)) (by decide) (fun K hK => ?_)
                  refine goes_ Tryd.func24 (by kernel_rfl) rfl #[.slice A180_4 ((rd_T29 l0 x11_1).f4).length c180_4] (by rfl) rfl rfl (by (try simp only [List.map_toArray, List.map_cons, List.map_nil]); first | done | rfl | (simp only [List.length_drop, List.length_take]; rfl)) ?_
                  with_reducible refine (ih k1 (by have := HK1.out; omega) _ _ ((rd_T29 l0 x11_1).f4) t185 _ ?side1 ?side2 A6.out).mono ?_
                  (case side1 => repeat (first | exact (Kd.C_below HR180_4.out HB.out) | (with_reducible refine Kd.C_alloc ?_ _) | (with_reducible refine Kd.C_drewN ?_ _) | (with_reducible refine Kd.C_drew ?_)))
                  (case side2 => exact HC180_4.out)
                  rintro e w13 ⟨v186, rfl, ho0, hb⟩
                  refine ⟨_, rfl, ?_⟩
                  have n0_ := Aside0.mk (Kd.R_elder' (by (with_reducible repeat (first | apply Kd.R_alloc | apply Kd.R_drewN | apply Kd.R_drew)); exact HO_3.out) (Kd.R_base ho0) hb)
                  have n1_ := Aside0.mk (Kd.R_elder' (by (with_reducible repeat (first | apply Kd.R_alloc | apply Kd.R_drewN | apply Kd.R_drew)); exact HO184.out) (Kd.R_base ho0) hb)
                  have n2_ := Aside0.mk (Kd.R_lower (Kd.R_newB (Kd.R_new' (Kd.R_new' ho0 (Kd.R_lt (by (with_reducible repeat (first | apply Kd.R_alloc | apply Kd.R_drewN | apply Kd.R_drew)); exact HO_3.out))) (Kd.R_lt (by (with_reducible repeat (first | apply Kd.R_alloc | apply Kd.R_drewN | apply Kd.R_drew)); exact HO184.out))) (g := gb188) (o := .cells #[.string (⟨#[]⟩ : ByteArray), .string (⟨#[]⟩ : ByteArray), .slice none 0 0, .slice none 0 0, .slice none 0 0, .int .i64 0] 76 (0, 0)) (by (with_reducible repeat (first | refine blk_drewN ?_ _ | refine blk_drew ?_ | refine blk_alloc ?_ _)); exact BK188.out)) (below_size (by repeat (first | (with_reducible first | exact HB.out | apply below_alloc | apply pw_below_drewN | apply below_drew1 | refine below_set ?_ GE181.out | refine below_set ?_ GE188.out) | exact HB.out))))
                  have n3_ := Aside0.mk (blk_below (g := gb181) (o := .cells #[.string ((rd_T29 l0 x11_1).f0), .string ((rd_T29 l0 x11_1).f1), .slice A180_2 ((rd_T29 l0 x11_1).f2).length c180_2, .slice A180_3 ((rd_T29 l0 x11_1).f3).length c180_3, .slice A180_4 ((rd_T29 l0 x11_1).f4).length c180_4, .int .i64 ((rd_T29 l0 x11_1).f5)] 29 (0, 0)) (by (with_reducible repeat (first | refine blk_drewN ?_ _ | refine blk_drew ?_ | refine blk_alloc ?_ _)); exact BK181.out) hb)
                  have n4_ := Aside0.mk (blk_below (g := gb188) (o := .cells #[.string (⟨#[]⟩ : ByteArray), .string (⟨#[]⟩ : ByteArray), .slice none 0 0, .slice none 0 0, .slice none 0 0, .int .i64 0] 76 (0, 0)) (by (with_reducible repeat (first | refine blk_drewN ?_ _ | refine blk_drew ?_ | refine blk_alloc ?_ _)); exact BK188.out) hb)
                  have n5_ := Aside0.mk (below_step (by repeat (first | (with_reducible first | exact HB.out | apply below_alloc | apply pw_below_drewN | apply below_drew1 | refine below_set ?_ GE181.out | refine below_set ?_ GE188.out) | exact HB.out)) hb)
                  clear HO_3
                  clear HO184
                  clear BK181
                  clear BK188
                  clear HB
                  have HO_3 := n0_
                  have HO184 := n1_
                  have HO187 := n2_
                  have BK181 := n3_
                  have BK188 := n4_
                  have HB := n5_
                  clear n0_ n1_ n2_ n3_ n4_ n5_
                  (try clear hb)
                  (try clear hb2)
                  (try clear hk)
                  (try clear hi)
                  (try clear ho0)
                  obtain ⟨Ao14, co14, eo14⟩ := Kd.R_slice HO187.out
                  (first | subst eo14 | (injection eo14 with f1_ f2_ f3_; have f4_ := f1_.symm; have f5_ := f3_.symm; clear f1_ f2_ f3_; subst f4_; subst f5_))
                  obtain ⟨Ao15, co15, eo15⟩ := Kd.R_slice HO184.out
                  (first | subst eo15 | (injection eo15 with f1_ f2_ f3_; have f4_ := f1_.symm; have f5_ := f3_.symm; clear f1_ f2_ f3_; subst f4_; subst f5_))
                  refine hK.out _ _ ⟨(blk_cell BK181.out 0).trans rfl, (blk_cell BK181.out 1).trans rfl, (blk_cell BK181.out 2).trans rfl, (blk_cell BK181.out 3).trans rfl, (blk_cell BK181.out 4).trans rfl, (blk_cell BK181.out 5).trans rfl⟩ (fun hHeld => ?_)
                  clear hK K
                  refine norm_ (a' := ?_) ?_ ?_
                  rotate_left
                  · show Act.put _ (some 26) _ = _
                    simp only [Act.put, List.setIfInBounds_toArray, List.set_cons_zero, List.set_cons_succ, i64_w, i32_w]
                    rfl
                  refine pure_ (i := 12) (N := some 27) (v := ?_) (a' := ?_) #[true, true, true, true, true, true, true, true, true, true, true, true, true, true, false] rfl rfl (any_of HT_.out (by kernel_rfl)) (fun _ _ _ h => h) (Or.inl ⟨by rfl, ?_⟩) ?_ ?_
                  rotate_left
                  · intro w'
                    go_simp
                    with_reducible rfl
                  rotate_left
                  · simp only [Act.put, List.setIfInBounds_toArray, List.set_cons_zero, List.set_cons_succ, i64_w, i32_w]
                    rfl
                  exact norm_ (by simp only [putAll, Act.put, List.setIfInBounds_toArray, List.set_cons_zero, List.set_cons_succ]) (hCont (.slice Ao15 t182.length co15, .slice Ao14 t185.length co14, gb188) _ ⟨hHeld, (by (with_reducible repeat (first | apply Kd.R_alloc | apply Kd.R_drewN | apply Kd.R_drew)); exact Kd.R_mono HO184.out (fun _ hk => ⟨hk.2, ⟨hk.1.1.2, hk.1.2⟩⟩)), (by (with_reducible repeat (first | apply Kd.R_alloc | apply Kd.R_drewN | apply Kd.R_drew)); exact Kd.R_mono HO187.out (fun _ hk => ⟨hk.1.2, ⟨hk.1.1.2, hk.2⟩⟩)), (by (with_reducible repeat (first | apply Kd.R_alloc | apply Kd.R_drewN | apply Kd.R_drew)); exact Kd.R_mono HO_3.out (fun _ hk => ⟨hk.1.1.2, ⟨hk.2, hk.1.2⟩⟩)), (by (with_reducible repeat (first | refine blk_drewN ?_ _ | refine blk_drew ?_ | refine blk_alloc ?_ _)); exact BK181.out), (by (with_reducible repeat (first | refine blk_drewN ?_ _ | refine blk_drew ?_ | refine blk_alloc ?_ _)); exact BK188.out), GW188.out, GE188.out, NB181_188.out, NB188_181.out, (by repeat (first | (with_reducible first | exact HB.out | apply below_alloc | apply pw_below_drewN | apply below_drew1 | refine below_set ?_ GE181.out | refine below_set ?_ GE188.out) | exact HB.out))⟩)
              · skip
                refine box_step ?hg (N := 6) ?hd (cs := #[.string (⟨#[]⟩ : ByteArray), .string (⟨#[]⟩ : ByteArray), .slice none 0 0, .slice none 0 0, .slice none 0 0, .int .i64 0]) (t := 76) ?hr ?_; (case hd => rfl); (case hg => rfl); (case hr => first | (go_simp; done) | (go_simp; rfl))
                intro gb188 hg w11 hbox hb
                have n0_ := Aside0.mk (Kd.R_below (Kd.R_elderB (by (with_reducible repeat (first | apply Kd.R_alloc | apply Kd.R_drewN | apply Kd.R_drew)); exact HO_3.out) gb188 (Nat.le_of_eq hg.symm)) hb)
                have n1_ := Aside0.mk (blk_below (g := gb181) (o := .cells #[.string ((rd_T29 l0 x11_1).f0), .string ((rd_T29 l0 x11_1).f1), .slice A180_2 ((rd_T29 l0 x11_1).f2).length c180_2, .slice A180_3 ((rd_T29 l0 x11_1).f3).length c180_3, .slice A180_4 ((rd_T29 l0 x11_1).f4).length c180_4, .int .i64 ((rd_T29 l0 x11_1).f5)] 29 (0, 0)) (by (with_reducible repeat (first | refine blk_drewN ?_ _ | refine blk_drew ?_ | refine blk_alloc ?_ _)); exact BK181.out) hb)
                have n2_ := Aside0.mk (below_step (by repeat (first | (with_reducible first | exact HB.out | apply below_alloc | apply pw_below_drewN | apply below_drew1 | refine below_set ?_ GE181.out) | exact HB.out)) hb)
                have n3_ := Aside0.mk (hbox)
                have n4_ := Aside0.mk ((by rw [hg]; exact (below_size (by repeat (first | (with_reducible first | exact HB.out | apply below_alloc | apply pw_below_drewN | apply below_drew1 | refine below_set ?_ GE181.out) | exact HB.out))) : w.heap.size ≤ gb188))
                have n5_ := Aside0.mk ((by rw [hg]; exact (below_size (by repeat (first | (with_reducible first | exact HB.out | apply below_alloc | apply pw_below_drewN | apply below_drew1 | refine below_set ?_ GE181.out) | exact HB.out))) : w.heap.size ≤ gb188))
                have n6_ := Aside0.mk ((by rw [hg]; exact Nat.ne_of_lt (blk_lt (g := gb181) (o := .cells #[.string ((rd_T29 l0 x11_1).f0), .string ((rd_T29 l0 x11_1).f1), .slice A180_2 ((rd_T29 l0 x11_1).f2).length c180_2, .slice A180_3 ((rd_T29 l0 x11_1).f3).length c180_3, .slice A180_4 ((rd_T29 l0 x11_1).f4).length c180_4, .int .i64 ((rd_T29 l0 x11_1).f5)] 29 (0, 0)) (by (with_reducible repeat (first | refine blk_drewN ?_ _ | refine blk_drew ?_ | refine blk_alloc ?_ _)); exact BK181.out)) : gb181 ≠ gb188))
                have n7_ := Aside0.mk ((by rw [hg]; exact Nat.ne_of_gt (blk_lt (g := gb181) (o := .cells #[.string ((rd_T29 l0 x11_1).f0), .string ((rd_T29 l0 x11_1).f1), .slice A180_2 ((rd_T29 l0 x11_1).f2).length c180_2, .slice A180_3 ((rd_T29 l0 x11_1).f3).length c180_3, .slice A180_4 ((rd_T29 l0 x11_1).f4).length c180_4, .int .i64 ((rd_T29 l0 x11_1).f5)] 29 (0, 0)) (by (with_reducible repeat (first | refine blk_drewN ?_ _ | refine blk_drew ?_ | refine blk_alloc ?_ _)); exact BK181.out)) : gb188 ≠ gb181))
                clear HO_3
                clear BK181
                clear HB
                have HO_3 := n0_
                have BK181 := n1_
                have HB := n2_
                have BK188 := n3_
                have GW188 := n4_
                have GE188 := n5_
                have NB181_188 := n6_
                have NB188_181 := n7_
                clear n0_ n1_ n2_ n3_ n4_ n5_ n6_ n7_
                clear hb hbox hg
                refine hK.out _ _ ⟨(blk_cell BK181.out 0).trans rfl, (blk_cell BK181.out 1).trans rfl, (blk_cell BK181.out 2).trans rfl, (blk_cell BK181.out 3).trans rfl, (blk_cell BK181.out 4).trans rfl, (blk_cell BK181.out 5).trans rfl⟩ (fun hHeld => ?_)
                clear hK K
                refine norm_ (a' := ?_) ?_ ?_
                rotate_left
                · show Act.put _ (some 6) _ = _
                  simp only [Act.put, List.setIfInBounds_toArray, List.set_cons_zero, List.set_cons_succ, i64_w, i32_w]
                  rfl
                refine one_ (i := 8) (N := some 23) #[true, true, true, true, true, true, true, true, true, true, true, false, false, true, false] rfl rfl (one_of HT_.out (by kernel_rfl)) (by decide) (fun K hK => ?_)
                refine goes_ Tryd.func24 (by kernel_rfl) rfl #[.slice A180_3 ((rd_T29 l0 x11_1).f3).length c180_3] (by rfl) rfl rfl (by (try simp only [List.map_toArray, List.map_cons, List.map_nil]); first | done | rfl | (simp only [List.length_drop, List.length_take]; rfl)) ?_
                with_reducible refine (ih k1 (by have := HK1.out; omega) _ _ ((rd_T29 l0 x11_1).f3) t182 _ ?side1 ?side2 A5.out).mono ?_
                (case side1 => repeat (first | exact (Kd.C_below HR180_3.out HB.out) | (with_reducible refine Kd.C_alloc ?_ _) | (with_reducible refine Kd.C_drewN ?_ _) | (with_reducible refine Kd.C_drew ?_)))
                (case side2 => exact HC180_3.out)
                rintro e w12 ⟨v183, rfl, ho0, hb⟩
                refine ⟨_, rfl, ?_⟩
                have n0_ := Aside0.mk (Kd.R_elder' (by (with_reducible repeat (first | apply Kd.R_alloc | apply Kd.R_drewN | apply Kd.R_drew)); exact HO_3.out) (Kd.R_base ho0) hb)
                have n1_ := Aside0.mk (Kd.R_lower (Kd.R_newB (Kd.R_new' ho0 (Kd.R_lt (by (with_reducible repeat (first | apply Kd.R_alloc | apply Kd.R_drewN | apply Kd.R_drew)); exact HO_3.out))) (g := gb188) (o := .cells #[.string (⟨#[]⟩ : ByteArray), .string (⟨#[]⟩ : ByteArray), .slice none 0 0, .slice none 0 0, .slice none 0 0, .int .i64 0] 76 (0, 0)) (by (with_reducible repeat (first | refine blk_drewN ?_ _ | refine blk_drew ?_ | refine blk_alloc ?_ _)); exact BK188.out)) (below_size (by repeat (first | (with_reducible first | exact HB.out | apply below_alloc | apply pw_below_drewN | apply below_drew1 | refine below_set ?_ GE181.out | refine below_set ?_ GE188.out) | exact HB.out))))
                have n2_ := Aside0.mk (blk_below (g := gb181) (o := .cells #[.string ((rd_T29 l0 x11_1).f0), .string ((rd_T29 l0 x11_1).f1), .slice A180_2 ((rd_T29 l0 x11_1).f2).length c180_2, .slice A180_3 ((rd_T29 l0 x11_1).f3).length c180_3, .slice A180_4 ((rd_T29 l0 x11_1).f4).length c180_4, .int .i64 ((rd_T29 l0 x11_1).f5)] 29 (0, 0)) (by (with_reducible repeat (first | refine blk_drewN ?_ _ | refine blk_drew ?_ | refine blk_alloc ?_ _)); exact BK181.out) hb)
                have n3_ := Aside0.mk (blk_below (g := gb188) (o := .cells #[.string (⟨#[]⟩ : ByteArray), .string (⟨#[]⟩ : ByteArray), .slice none 0 0, .slice none 0 0, .slice none 0 0, .int .i64 0] 76 (0, 0)) (by (with_reducible repeat (first | refine blk_drewN ?_ _ | refine blk_drew ?_ | refine blk_alloc ?_ _)); exact BK188.out) hb)
                have n4_ := Aside0.mk (below_step (by repeat (first | (with_reducible first | exact HB.out | apply below_alloc | apply pw_below_drewN | apply below_drew1 | refine below_set ?_ GE181.out | refine below_set ?_ GE188.out) | exact HB.out)) hb)
                clear HO_3
                clear BK181
                clear BK188
                clear HB
                have HO_3 := n0_
                have HO184 := n1_
                have BK181 := n2_
                have BK188 := n3_
                have HB := n4_
                clear n0_ n1_ n2_ n3_ n4_
                (try clear hb)
                (try clear hb2)
                (try clear hk)
                (try clear hi)
                (try clear ho0)
                refine hK.out _ _ ⟨(blk_cell BK181.out 0).trans rfl, (blk_cell BK181.out 1).trans rfl, (blk_cell BK181.out 2).trans rfl, (blk_cell BK181.out 3).trans rfl, (blk_cell BK181.out 4).trans rfl, (blk_cell BK181.out 5).trans rfl⟩ (fun hHeld => ?_)
                clear hK K
                refine norm_ (a' := ?_) ?_ ?_
                rotate_left
                · show Act.put _ (some 23) _ = _
                  simp only [Act.put, List.setIfInBounds_toArray, List.set_cons_zero, List.set_cons_succ, i64_w, i32_w]
                  rfl
                refine one_ (i := 11) (N := some 26) #[true, true, true, true, true, true, true, true, true, true, true, true, false, true, false] rfl rfl (one_of HT_.out (by kernel_rfl)) (by decide) (fun K hK => ?_)
                refine goes_ Tryd.func24 (by kernel_rfl) rfl #[.slice A180_4 ((rd_T29 l0 x11_1).f4).length c180_4] (by rfl) rfl rfl (by (try simp only [List.map_toArray, List.map_cons, List.map_nil]); first | done | rfl | (simp only [List.length_drop, List.length_take]; rfl)) ?_
                with_reducible refine (ih k1 (by have := HK1.out; omega) _ _ ((rd_T29 l0 x11_1).f4) t185 _ ?side1 ?side2 A6.out).mono ?_
                (case side1 => repeat (first | exact (Kd.C_below HR180_4.out HB.out) | (with_reducible refine Kd.C_alloc ?_ _) | (with_reducible refine Kd.C_drewN ?_ _) | (with_reducible refine Kd.C_drew ?_)))
                (case side2 => exact HC180_4.out)
                rintro e w13 ⟨v186, rfl, ho0, hb⟩
                refine ⟨_, rfl, ?_⟩
                have n0_ := Aside0.mk (Kd.R_elder' (by (with_reducible repeat (first | apply Kd.R_alloc | apply Kd.R_drewN | apply Kd.R_drew)); exact HO_3.out) (Kd.R_base ho0) hb)
                have n1_ := Aside0.mk (Kd.R_elder' (by (with_reducible repeat (first | apply Kd.R_alloc | apply Kd.R_drewN | apply Kd.R_drew)); exact HO184.out) (Kd.R_base ho0) hb)
                have n2_ := Aside0.mk (Kd.R_lower (Kd.R_newB (Kd.R_new' (Kd.R_new' ho0 (Kd.R_lt (by (with_reducible repeat (first | apply Kd.R_alloc | apply Kd.R_drewN | apply Kd.R_drew)); exact HO_3.out))) (Kd.R_lt (by (with_reducible repeat (first | apply Kd.R_alloc | apply Kd.R_drewN | apply Kd.R_drew)); exact HO184.out))) (g := gb188) (o := .cells #[.string (⟨#[]⟩ : ByteArray), .string (⟨#[]⟩ : ByteArray), .slice none 0 0, .slice none 0 0, .slice none 0 0, .int .i64 0] 76 (0, 0)) (by (with_reducible repeat (first | refine blk_drewN ?_ _ | refine blk_drew ?_ | refine blk_alloc ?_ _)); exact BK188.out)) (below_size (by repeat (first | (with_reducible first | exact HB.out | apply below_alloc | apply pw_below_drewN | apply below_drew1 | refine below_set ?_ GE181.out | refine below_set ?_ GE188.out) | exact HB.out))))
                have n3_ := Aside0.mk (blk_below (g := gb181) (o := .cells #[.string ((rd_T29 l0 x11_1).f0), .string ((rd_T29 l0 x11_1).f1), .slice A180_2 ((rd_T29 l0 x11_1).f2).length c180_2, .slice A180_3 ((rd_T29 l0 x11_1).f3).length c180_3, .slice A180_4 ((rd_T29 l0 x11_1).f4).length c180_4, .int .i64 ((rd_T29 l0 x11_1).f5)] 29 (0, 0)) (by (with_reducible repeat (first | refine blk_drewN ?_ _ | refine blk_drew ?_ | refine blk_alloc ?_ _)); exact BK181.out) hb)
                have n4_ := Aside0.mk (blk_below (g := gb188) (o := .cells #[.string (⟨#[]⟩ : ByteArray), .string (⟨#[]⟩ : ByteArray), .slice none 0 0, .slice none 0 0, .slice none 0 0, .int .i64 0] 76 (0, 0)) (by (with_reducible repeat (first | refine blk_drewN ?_ _ | refine blk_drew ?_ | refine blk_alloc ?_ _)); exact BK188.out) hb)
                have n5_ := Aside0.mk (below_step (by repeat (first | (with_reducible first | exact HB.out | apply below_alloc | apply pw_below_drewN | apply below_drew1 | refine below_set ?_ GE181.out | refine below_set ?_ GE188.out) | exact HB.out)) hb)
                clear HO_3
                clear HO184
                clear BK181
                clear BK188
                clear HB
                have HO_3 := n0_
                have HO184 := n1_
                have HO187 := n2_
                have BK181 := n3_
                have BK188 := n4_
                have HB := n5_
                clear n0_ n1_ n2_ n3_ n4_ n5_
                (try clear hb)
                (try clear hb2)
                (try clear hk)
                (try clear hi)
                (try clear ho0)
                obtain ⟨Ao14, co14, eo14⟩ := Kd.R_slice HO187.out
                (first | subst eo14 | (injection eo14 with f1_ f2_ f3_; have f4_ := f1_.symm; have f5_ := f3_.symm; clear f1_ f2_ f3_; subst f4_; subst f5_))
                obtain ⟨Ao15, co15, eo15⟩ := Kd.R_slice HO184.out
                (first | subst eo15 | (injection eo15 with f1_ f2_ f3_; have f4_ := f1_.symm; have f5_ := f3_.symm; clear f1_ f2_ f3_; subst f4_; subst f5_))
                refine hK.out _ _ ⟨(blk_cell BK181.out 0).trans rfl, (blk_cell BK181.out 1).trans rfl, (blk_cell BK181.out 2).trans rfl, (blk_cell BK181.out 3).trans rfl, (blk_cell BK181.out 4).trans rfl, (blk_cell BK181.out 5).trans rfl⟩ (fun hHeld => ?_)
                clear hK K
                refine norm_ (a' := ?_) ?_ ?_
                rotate_left
                · show Act.put _ (some 26) _ = _
                  simp only [Act.put, List.setIfInBounds_toArray, List.set_cons_zero, List.set_cons_succ, i64_w, i32_w]
                  rfl
                refine pure_ (i := 12) (N := some 27) (v := ?_) (a' := ?_) #[true, true, true, true, true, true, true, true, true, true, true, true, true, true, false] rfl rfl (any_of HT_.out (by kernel_rfl)) (fun _ _ _ h => h) (Or.inl ⟨by rfl, ?_⟩) ?_ ?_
                rotate_left
                · intro w'
                  go_simp
                  with_reducible rfl
                rotate_left
                · simp only [Act.put, List.setIfInBounds_toArray, List.set_cons_zero, List.set_cons_succ, i64_w, i32_w]
                  rfl
                exact norm_ (by simp only [putAll, Act.put, List.setIfInBounds_toArray, List.set_cons_zero, List.set_cons_succ]) (hCont (.slice Ao15 t182.length co15, .slice Ao14 t185.length co14, gb188) _ ⟨hHeld, (by (with_reducible repeat (first | apply Kd.R_alloc | apply Kd.R_drewN | apply Kd.R_drew)); exact Kd.R_mono HO184.out (fun _ hk => ⟨hk.2, ⟨hk.1.1.2, hk.1.2⟩⟩)), (by (with_reducible repeat (first | apply Kd.R_alloc | apply Kd.R_drewN | apply Kd.R_drew)); exact Kd.R_mono HO187.out (fun _ hk => ⟨hk.1.2, ⟨hk.1.1.2, hk.2⟩⟩)), (by (with_reducible repeat (first | apply Kd.R_alloc | apply Kd.R_drewN | apply Kd.R_drew)); exact Kd.R_mono HO_3.out (fun _ hk => ⟨hk.1.2, ⟨hk.2, hk.1.1.2⟩⟩)), (by (with_reducible repeat (first | refine blk_drewN ?_ _ | refine blk_drew ?_ | refine blk_alloc ?_ _)); exact BK181.out), (by (with_reducible repeat (first | refine blk_drewN ?_ _ | refine blk_drew ?_ | refine blk_alloc ?_ _)); exact BK188.out), GW188.out, GE188.out, NB181_188.out, NB188_181.out, (by repeat (first | (with_reducible first | exact HB.out | apply below_alloc | apply pw_below_drewN | apply below_drew1 | refine below_set ?_ GE181.out | refine below_set ?_ GE188.out) | exact HB.out))⟩)
            rintro ⟨v183, v186, gb188⟩ w16 ⟨hS_, h0_, h1_, h2_, h3_, h4_, h5_, h6_, h7_, h8_, h9_⟩
            have n0_ : Aside0 (Kd.R k76 76 w16 w.heap.size (fun k_ => some k_ ≠ (v186 : Value).ownBlock ∧ some k_ ≠ (u3 : Value).ownBlock ∧ k_ ≠ gb188) v183 t182) := ⟨h0_⟩
            have n1_ : Aside0 (Kd.R k76 76 w16 w.heap.size (fun k_ => some k_ ≠ (v183 : Value).ownBlock ∧ some k_ ≠ (u3 : Value).ownBlock ∧ k_ ≠ gb188) v186 t185) := ⟨h1_⟩
            have n2_ : Aside0 (Kd.R k76 76 w16 w.heap.size (fun k_ => some k_ ≠ (v183 : Value).ownBlock ∧ some k_ ≠ (v186 : Value).ownBlock ∧ k_ ≠ gb188) u3 x3_1) := ⟨h2_⟩
            have n3_ : Aside0 (w16.heap[gb181]? = some (.cells #[.string ((rd_T29 l0 x11_1).f0), .string ((rd_T29 l0 x11_1).f1), .slice A180_2 ((rd_T29 l0 x11_1).f2).length c180_2, .slice A180_3 ((rd_T29 l0 x11_1).f3).length c180_3, .slice A180_4 ((rd_T29 l0 x11_1).f4).length c180_4, .int .i64 ((rd_T29 l0 x11_1).f5)] 29 (0, 0))) := ⟨h3_⟩
            have n4_ : Aside0 (w16.heap[gb188]? = some (.cells #[.string (⟨#[]⟩ : ByteArray), .string (⟨#[]⟩ : ByteArray), .slice none 0 0, .slice none 0 0, .slice none 0 0, .int .i64 0] 76 (0, 0))) := ⟨h4_⟩
            have n5_ : Aside0 (w.heap.size ≤ gb188) := ⟨h5_⟩
            have n6_ : Aside0 (w.heap.size ≤ gb188) := ⟨h6_⟩
            have n7_ : Aside0 (gb181 ≠ gb188) := ⟨h7_⟩
            have n8_ : Aside0 (gb188 ≠ gb181) := ⟨h8_⟩
            have n9_ : Aside0 (Below w.heap.size w w16) := ⟨h9_⟩
            clear HO_3
            clear BK181
            clear HB
            clear h0_ h1_ h2_ h3_ h4_ h5_ h6_ h7_ h8_ h9_
            have HO184 := n0_
            have HO187 := n1_
            have HO_3 := n2_
            have BK181 := n3_
            have BK188 := n4_
            have GW188 := n5_
            have GE188 := n6_
            have NB181_188 := n7_
            have NB188_181 := n8_
            have HB := n9_
            clear n0_ n1_ n2_ n3_ n4_ n5_ n6_ n7_ n8_ n9_
            have hHeld : w16.cell? ⟨gb181, 0, none⟩ = some (.string ((rd_T29 l0 x11_1).f0)) ∧ w16.cell? ⟨gb181, 1, none⟩ = some (.string ((rd_T29 l0 x11_1).f1)) ∧ w16.cell? ⟨gb181, 2, none⟩ = some (.slice A180_2 ((rd_T29 l0 x11_1).f2).length c180_2) ∧ w16.cell? ⟨gb181, 3, none⟩ = some (.slice A180_3 ((rd_T29 l0 x11_1).f3).length c180_3) ∧ w16.cell? ⟨gb181, 4, none⟩ = some (.slice A180_4 ((rd_T29 l0 x11_1).f4).length c180_4) ∧ w16.cell? ⟨gb181, 5, none⟩ = some (.int .i64 ((rd_T29 l0 x11_1).f5)) := hS_
            obtain ⟨Ao17, co17, eo17⟩ := Kd.R_slice HO187.out
            (first | subst eo17 | (injection eo17 with f1_ f2_ f3_; have f4_ := f1_.symm; have f5_ := f3_.symm; clear f1_ f2_ f3_; subst f4_; subst f5_))
            obtain ⟨Ao18, co18, eo18⟩ := Kd.R_slice HO184.out
            (first | subst eo18 | (injection eo18 with f1_ f2_ f3_; have f4_ := f1_.symm; have f5_ := f3_.symm; clear f1_ f2_ f3_; subst f4_; subst f5_))
            refine norm_ (a' := ?_) ?_ ?_
            rotate_left
            · simp only [putAll, Act.put, List.setIfInBounds_toArray, List.set_cons_zero, List.set_cons_succ]
              rfl
            refine one_ (i := 14) (N := none) #[true, true, true, true, true, true, true, true, true, true, true, true, true, true, true] rfl rfl (one_of HT_.out (by kernel_rfl)) (by decide) (fun K hK => ?_)
            have hs19 : w16.cell? ⟨gb188, 0, none⟩ = some (.string (⟨#[]⟩ : ByteArray)) := (blk_cell BK188.out 0).trans rfl
            have hfs19 := blk_frozen BK188.out 0
            have hns19_0 := NB181_188.out
            have hms19_0 := NB188_181.out
            have hs20 : w16.cell? ⟨gb188, 1, none⟩ = some (.string (⟨#[]⟩ : ByteArray)) := (blk_cell BK188.out 1).trans rfl
            have hfs20 := blk_frozen BK188.out 1
            have hns20_0 := NB181_188.out
            have hms20_0 := NB188_181.out
            have hs21 : w16.cell? ⟨gb188, 2, none⟩ = some (.slice none 0 0) := (blk_cell BK188.out 2).trans rfl
            have hfs21 := blk_frozen BK188.out 2
            have hns21_0 := NB181_188.out
            have hms21_0 := NB188_181.out
            have hs22 : w16.cell? ⟨gb188, 3, none⟩ = some (.slice none 0 0) := (blk_cell BK188.out 3).trans rfl
            have hfs22 := blk_frozen BK188.out 3
            have hns22_0 := NB181_188.out
            have hms22_0 := NB188_181.out
            have hs23 : w16.cell? ⟨gb188, 4, none⟩ = some (.slice none 0 0) := (blk_cell BK188.out 4).trans rfl
            have hfs23 := blk_frozen BK188.out 4
            have hns23_0 := NB181_188.out
            have hms23_0 := NB188_181.out
            have hs24 : w16.cell? ⟨gb188, 5, none⟩ = some (.int .i64 0) := (blk_cell BK188.out 5).trans rfl
            have hfs24 := blk_frozen BK188.out 5
            have hns24_0 := NB181_188.out
            have hms24_0 := NB188_181.out
            refine skip_ (w1 := ?_) (by rfl) rfl ?_ ?_
            rotate_left
            · go_simp
              rfl
            refine hK.out _ _ ⟨((cell_far (p := ⟨gb188, _, none⟩) NB181_188.out _).trans (((cell_far (p := ⟨gb188, _, none⟩) NB181_188.out _).trans (((cell_far (p := ⟨gb188, _, none⟩) NB181_188.out _).trans (((cell_far (p := ⟨gb188, _, none⟩) NB181_188.out _).trans (((cell_far (p := ⟨gb188, _, none⟩) NB181_188.out _).trans (((cell_far (p := ⟨gb188, _, none⟩) NB181_188.out _).trans (hHeld.1)))))))))))), ((cell_far (p := ⟨gb188, _, none⟩) NB181_188.out _).trans (((cell_far (p := ⟨gb188, _, none⟩) NB181_188.out _).trans (((cell_far (p := ⟨gb188, _, none⟩) NB181_188.out _).trans (((cell_far (p := ⟨gb188, _, none⟩) NB181_188.out _).trans (((cell_far (p := ⟨gb188, _, none⟩) NB181_188.out _).trans (((cell_far (p := ⟨gb188, _, none⟩) NB181_188.out _).trans (hHeld.2.1)))))))))))), ((cell_far (p := ⟨gb188, _, none⟩) NB181_188.out _).trans (((cell_far (p := ⟨gb188, _, none⟩) NB181_188.out _).trans (((cell_far (p := ⟨gb188, _, none⟩) NB181_188.out _).trans (((cell_far (p := ⟨gb188, _, none⟩) NB181_188.out _).trans (((cell_far (p := ⟨gb188, _, none⟩) NB181_188.out _).trans (((cell_far (p := ⟨gb188, _, none⟩) NB181_188.out _).trans (hHeld.2.2.1)))))))))))), ((cell_far (p := ⟨gb188, _, none⟩) NB181_188.out _).trans (((cell_far (p := ⟨gb188, _, none⟩) NB181_188.out _).trans (((cell_far (p := ⟨gb188, _, none⟩) NB181_188.out _).trans (((cell_far (p := ⟨gb188, _, none⟩) NB181_188.out _).trans (((cell_far (p := ⟨gb188, _, none⟩) NB181_188.out _).trans (((cell_far (p := ⟨gb188, _, none⟩) NB181_188.out _).trans (hHeld.2.2.2.1)))))))))))), ((cell_far (p := ⟨gb188, _, none⟩) NB181_188.out _).trans (((cell_far (p := ⟨gb188, _, none⟩) NB181_188.out _).trans (((cell_far (p := ⟨gb188, _, none⟩) NB181_188.out _).trans (((cell_far (p := ⟨gb188, _, none⟩) NB181_188.out _).trans (((cell_far (p := ⟨gb188, _, none⟩) NB181_188.out _).trans (((cell_far (p := ⟨gb188, _, none⟩) NB181_188.out _).trans (hHeld.2.2.2.2.1)))))))))))), ((cell_far (p := ⟨gb188, _, none⟩) NB181_188.out _).trans (((cell_far (p := ⟨gb188, _, none⟩) NB181_188.out _).trans (((cell_far (p := ⟨gb188, _, none⟩) NB181_188.out _).trans (((cell_far (p := ⟨gb188, _, none⟩) NB181_188.out _).trans (((cell_far (p := ⟨gb188, _, none⟩) NB181_188.out _).trans (((cell_far (p := ⟨gb188, _, none⟩) NB181_188.out _).trans (hHeld.2.2.2.2.2))))))))))))⟩ (fun hHeld => ?_)
            clear hK K
            refine done_ (done_of HT_.out (by kernel_rfl)) ?_
            have hnb25 := NB181_188.out
            have hnc25 := NB188_181.out
            have hcz26_0 : w16.cell? ⟨gb181, 0, none⟩ = some (.string ((rd_T29 l0 x11_1).f0)) := (blk_cell BK181.out 0).trans rfl
            have hcz26_1 : w16.cell? ⟨gb181, 1, none⟩ = some (.string ((rd_T29 l0 x11_1).f1)) := (blk_cell BK181.out 1).trans rfl
            have hcz26_2 : w16.cell? ⟨gb181, 2, none⟩ = some (.slice A180_2 ((rd_T29 l0 x11_1).f2).length c180_2) := (blk_cell BK181.out 2).trans rfl
            have hcz26_3 : w16.cell? ⟨gb181, 3, none⟩ = some (.slice A180_3 ((rd_T29 l0 x11_1).f3).length c180_3) := (blk_cell BK181.out 3).trans rfl
            have hcz26_4 : w16.cell? ⟨gb181, 4, none⟩ = some (.slice A180_4 ((rd_T29 l0 x11_1).f4).length c180_4) := (blk_cell BK181.out 4).trans rfl
            have hcz26_5 : w16.cell? ⟨gb181, 5, none⟩ = some (.int .i64 ((rd_T29 l0 x11_1).f5)) := (blk_cell BK181.out 5).trans rfl
            have hfz26_0 := blk_frozen BK181.out 0
            have hfz26_1 := blk_frozen BK181.out 1
            have hfz26_2 := blk_frozen BK181.out 2
            have hfz26_3 := blk_frozen BK181.out 3
            have hfz26_4 := blk_frozen BK181.out 4
            have hfz26_5 := blk_frozen BK181.out 5
            try go_wp2
            (try simp only [Act.put, List.setIfInBounds_toArray, List.set_cons_succ, List.set_cons_zero])
            go_loopg [31] k1 (fun kq v31 w' => ∃ (x31_2 : Int) (x189002_2 : List (S33)) (u189002 : Value), v31 = .int .i64 x31_2 ∧ Aside0 (helmsmanlaw12_Stmts.l1 kq x3_1 l0 (l0.length : Int) x11_1 ((rd_T29 l0 x11_1).f2) (((rd_T29 l0 x11_1).f2).length : Int) x31_2 ((rd_T29 l0 x11_1).f0) ((rd_T29 l0 x11_1).f1) x189002_2 t182 t185 ((rd_T29 l0 x11_1).f5) = some r) ∧ Aside0 (kq ≤ k1) ∧ Aside0 (Kd.R k76 76 w' w.heap.size (fun k_ => some k_ ≠ (u189002 : Value).ownBlock ∧ some k_ ≠ ((.slice Ao18 t182.length co18) : Value).ownBlock ∧ some k_ ≠ ((.slice Ao17 t185.length co17) : Value).ownBlock ∧ k_ ≠ gb188) u3 x3_1) ∧ Aside0 (Kd.R k33 33 w' w.heap.size (fun _ => True) u189002 x189002_2) ∧ Aside0 (Kd.R k76 76 w' w.heap.size (fun k_ => some k_ ≠ (u3 : Value).ownBlock ∧ some k_ ≠ (u189002 : Value).ownBlock ∧ some k_ ≠ ((.slice Ao17 t185.length co17) : Value).ownBlock ∧ k_ ≠ gb188) (.slice Ao18 t182.length co18) t182) ∧ Aside0 (Kd.R k76 76 w' w.heap.size (fun k_ => some k_ ≠ (u3 : Value).ownBlock ∧ some k_ ≠ (u189002 : Value).ownBlock ∧ some k_ ≠ ((.slice Ao18 t182.length co18) : Value).ownBlock ∧ k_ ≠ gb188) (.slice Ao17 t185.length co17) t185) ∧ Aside0 (w'.heap[gb181]? = some (.cells #[.string ((rd_T29 l0 x11_1).f0), .string ((rd_T29 l0 x11_1).f1), (.slice A180_2 ((rd_T29 l0 x11_1).f2).length c180_2), (.slice A180_3 ((rd_T29 l0 x11_1).f3).length c180_3), (.slice A180_4 ((rd_T29 l0 x11_1).f4).length c180_4), .int .i64 ((rd_T29 l0 x11_1).f5)] 29 (0, 0))) ∧ Aside0 (w'.heap[gb188]? = some (.cells #[.string ((rd_T29 l0 x11_1).f0), .string ((rd_T29 l0 x11_1).f1), u189002, (.slice Ao18 t182.length co18), (.slice Ao17 t185.length co17), .int .i64 ((rd_T29 l0 x11_1).f5)] 76 (0, 0))) ∧ Aside0 (Below w.heap.size w w'))
            case atStart => exact ⟨(0), (([] : List (S33))), (.slice none 0 0), (by first | rfl | (simp; done) | (simp [*]; done)), H', ⟨Nat.le_refl _⟩, ⟨by (with_reducible repeat (first | apply Kd.R_alloc | apply Kd.R_drewN | apply Kd.R_drew)); exact Kd.R_mono (Kd.R_far (p := ⟨gb188, 5, none⟩) (Kd.R_far (p := ⟨gb188, 4, none⟩) (Kd.R_far (p := ⟨gb188, 3, none⟩) (Kd.R_far (p := ⟨gb188, 2, none⟩) (Kd.R_far (p := ⟨gb188, 1, none⟩) (Kd.R_far (p := ⟨gb188, 0, none⟩) (Kd.R_mono HO_3.out (fun k_ hk => (⟨hk, hk.2.2⟩ : _ ∧ k_ ≠ gb188))) (fun _ hk => hk.2) (.string ((rd_T29 l0 x11_1).f0))) (fun _ hk => hk.2) (.string ((rd_T29 l0 x11_1).f1))) (fun _ hk => hk.2) (.slice none 0 0)) (fun _ hk => hk.2) (.slice Ao18 t182.length co18)) (fun _ hk => hk.2) (.slice Ao17 t185.length co17)) (fun _ hk => hk.2) (.int .i64 ((rd_T29 l0 x11_1).f5))) (fun _ hk => ⟨(by simp [Value.ownBlock]), ⟨hk.1.1, ⟨hk.1.2.1, hk.1.2.2⟩⟩⟩)⟩, ⟨by first | exact Kd.R_nil _ _ _ _ _ | exact Kd.N_nil _ _ _ _ _ | exact Kd.V_nil _ _ _ _ _ | exact Kd.Q_nil _ _ _ _ _ | exact Kd.S_nil _ _ _ _ _⟩, ⟨by (with_reducible repeat (first | apply Kd.R_alloc | apply Kd.R_drewN | apply Kd.R_drew)); exact Kd.R_mono (Kd.R_far (p := ⟨gb188, 5, none⟩) (Kd.R_far (p := ⟨gb188, 4, none⟩) (Kd.R_far (p := ⟨gb188, 3, none⟩) (Kd.R_far (p := ⟨gb188, 2, none⟩) (Kd.R_far (p := ⟨gb188, 1, none⟩) (Kd.R_far (p := ⟨gb188, 0, none⟩) (Kd.R_mono HO184.out (fun k_ hk => (⟨hk, hk.2.2⟩ : _ ∧ k_ ≠ gb188))) (fun _ hk => hk.2) (.string ((rd_T29 l0 x11_1).f0))) (fun _ hk => hk.2) (.string ((rd_T29 l0 x11_1).f1))) (fun _ hk => hk.2) (.slice none 0 0)) (fun _ hk => hk.2) (.slice Ao18 t182.length co18)) (fun _ hk => hk.2) (.slice Ao17 t185.length co17)) (fun _ hk => hk.2) (.int .i64 ((rd_T29 l0 x11_1).f5))) (fun _ hk => ⟨hk.1.2.1, ⟨(by simp [Value.ownBlock]), ⟨hk.1.1, hk.1.2.2⟩⟩⟩)⟩, ⟨by (with_reducible repeat (first | apply Kd.R_alloc | apply Kd.R_drewN | apply Kd.R_drew)); exact Kd.R_mono (Kd.R_far (p := ⟨gb188, 5, none⟩) (Kd.R_far (p := ⟨gb188, 4, none⟩) (Kd.R_far (p := ⟨gb188, 3, none⟩) (Kd.R_far (p := ⟨gb188, 2, none⟩) (Kd.R_far (p := ⟨gb188, 1, none⟩) (Kd.R_far (p := ⟨gb188, 0, none⟩) (Kd.R_mono HO187.out (fun k_ hk => (⟨hk, hk.2.2⟩ : _ ∧ k_ ≠ gb188))) (fun _ hk => hk.2) (.string ((rd_T29 l0 x11_1).f0))) (fun _ hk => hk.2) (.string ((rd_T29 l0 x11_1).f1))) (fun _ hk => hk.2) (.slice none 0 0)) (fun _ hk => hk.2) (.slice Ao18 t182.length co18)) (fun _ hk => hk.2) (.slice Ao17 t185.length co17)) (fun _ hk => hk.2) (.int .i64 ((rd_T29 l0 x11_1).f5))) (fun _ hk => ⟨hk.1.2.1, ⟨(by simp [Value.ownBlock]), ⟨hk.1.1, hk.1.2.2⟩⟩⟩)⟩, ⟨by (with_reducible repeat (first | refine blk_drewN ?_ _ | refine blk_drew ?_ | refine blk_alloc ?_ _)); refine blk_far ?_ NB181_188.out _; (with_reducible repeat (first | refine blk_drewN ?_ _ | refine blk_drew ?_ | refine blk_alloc ?_ _)); refine blk_far ?_ NB181_188.out _; (with_reducible repeat (first | refine blk_drewN ?_ _ | refine blk_drew ?_ | refine blk_alloc ?_ _)); refine blk_far ?_ NB181_188.out _; (with_reducible repeat (first | refine blk_drewN ?_ _ | refine blk_drew ?_ | refine blk_alloc ?_ _)); refine blk_far ?_ NB181_188.out _; (with_reducible repeat (first | refine blk_drewN ?_ _ | refine blk_drew ?_ | refine blk_alloc ?_ _)); refine blk_far ?_ NB181_188.out _; (with_reducible repeat (first | refine blk_drewN ?_ _ | refine blk_drew ?_ | refine blk_alloc ?_ _)); refine blk_far ?_ NB181_188.out _; (with_reducible repeat (first | refine blk_drewN ?_ _ | refine blk_drew ?_ | refine blk_alloc ?_ _)); exact BK181.out⟩, ⟨by (with_reducible repeat (first | refine blk_drewN ?_ _ | refine blk_drew ?_ | refine blk_alloc ?_ _)); refine blk_put (cs := #[.string ((rd_T29 l0 x11_1).f0), .string ((rd_T29 l0 x11_1).f1), .slice none 0 0, .slice Ao18 t182.length co18, .slice Ao17 t185.length co17, .int .i64 0]) ?_ 5 _ rfl; (with_reducible repeat (first | refine blk_drewN ?_ _ | refine blk_drew ?_ | refine blk_alloc ?_ _)); refine blk_put (cs := #[.string ((rd_T29 l0 x11_1).f0), .string ((rd_T29 l0 x11_1).f1), .slice none 0 0, .slice Ao18 t182.length co18, .slice none 0 0, .int .i64 0]) ?_ 4 _ rfl; (with_reducible repeat (first | refine blk_drewN ?_ _ | refine blk_drew ?_ | refine blk_alloc ?_ _)); refine blk_put (cs := #[.string ((rd_T29 l0 x11_1).f0), .string ((rd_T29 l0 x11_1).f1), .slice none 0 0, .slice none 0 0, .slice none 0 0, .int .i64 0]) ?_ 3 _ rfl; (with_reducible repeat (first | refine blk_drewN ?_ _ | refine blk_drew ?_ | refine blk_alloc ?_ _)); refine blk_put (cs := #[.string ((rd_T29 l0 x11_1).f0), .string ((rd_T29 l0 x11_1).f1), .slice none 0 0, .slice none 0 0, .slice none 0 0, .int .i64 0]) ?_ 2 _ rfl; (with_reducible repeat (first | refine blk_drewN ?_ _ | refine blk_drew ?_ | refine blk_alloc ?_ _)); refine blk_put (cs := #[.string ((rd_T29 l0 x11_1).f0), .string (⟨#[]⟩ : ByteArray), .slice none 0 0, .slice none 0 0, .slice none 0 0, .int .i64 0]) ?_ 1 _ rfl; (with_reducible repeat (first | refine blk_drewN ?_ _ | refine blk_drew ?_ | refine blk_alloc ?_ _)); refine blk_put (cs := #[.string (⟨#[]⟩ : ByteArray), .string (⟨#[]⟩ : ByteArray), .slice none 0 0, .slice none 0 0, .slice none 0 0, .int .i64 0]) ?_ 0 _ rfl; (with_reducible repeat (first | refine blk_drewN ?_ _ | refine blk_drew ?_ | refine blk_alloc ?_ _)); exact BK188.out⟩, ⟨by repeat (first | (with_reducible first | exact HB.out | apply below_alloc | apply pw_below_drewN | apply below_drew1 | refine below_set ?_ GE181.out | refine below_set ?_ GE188.out) | exact HB.out)⟩⟩
            case round =>
              clear H'
              try clear c1
              try clear p1
              try clear q1
              try clear hx1
              try clear c2
              try clear c2b0
              try clear p2
              try clear c3
              try clear c3b0
              try clear c4
              try clear c4b0
              try clear c18
              try clear p18
              try clear q18
              try clear hx18
              try clear c24
              try clear c25
              try clear hcz26_0
              try clear hcz26_1
              try clear hcz26_2
              try clear hcz26_3
              try clear hcz26_4
              try clear hcz26_5
              try clear hcz8_0
              try clear hcz8_1
              try clear hcz8_2
              try clear hcz8_3
              try clear hcz8_4
              try clear hcz8_5
              try clear hfz26_0
              try clear hfz26_1
              try clear hfz26_2
              try clear hfz26_3
              try clear hfz26_4
              try clear hfz26_5
              try clear hfz8_0
              try clear hfz8_1
              try clear hfz8_2
              try clear hfz8_3
              try clear hfz8_4
              try clear hfz8_5
              try clear hx180_0
              try clear hx180_1
              try clear hx180_2
              try clear hx180_3
              try clear hx180_4
              try clear hx180_5
              try clear p180
              try clear q180
              obtain ⟨x31_2, x189002_2, u189002, rfl, HA, HK2, HO_3, HO_189002, HO_189003, HO_189004, BK181, BK188, HB⟩ := hrel
              cases gk with
              | zero => exact absurd HA.out (by simp [helmsmanlaw12_Stmts.l1])
              | succ k2 =>
                have H := HA.out
                clear HA
                simp only [helmsmanlaw12_Stmts.l1] at H
                by_cases c27 : x31_2 < (((rd_T29 l0 x11_1).f2).length : Int)
                · rw [if_pos c27] at H
                  have c27b0 : decide (x31_2 < (((rd_T29 l0 x11_1).f2).length : Int)) = true := decide_eq_true c27
                  clear c27
                  by_cases c28 : 0 ≤ x31_2
                  · rw [if_pos c28] at H
                    have c28b0 : decide (0 ≤ x31_2) = true := decide_eq_true c28
                    clear c28
                    by_cases c29 : x31_2 < (((rd_T29 l0 x11_1).f2).length : Int)
                    · rw [if_pos c29] at H
                      have c29b0 : decide (x31_2 < (((rd_T29 l0 x11_1).f2).length : Int)) = true := decide_eq_true c29
                      clear c29
                      replace H := Option.bind_eq_some_iff.mp H
                      obtain ⟨⟨t191, t192, t193, t194, t197⟩, A300, H⟩ := H
                      replace H : (if x189002_2.length < 1954687338268 then (helmsmanlaw12_Stmts.l1 k2 x3_1 l0 (l0.length : Int) x11_1 ((rd_T29 l0 x11_1).f2) (((rd_T29 l0 x11_1).f2).length : Int) (wrap64 (x31_2 + 1)) ((rd_T29 l0 x11_1).f0) ((rd_T29 l0 x11_1).f1) (x189002_2 ++ [(⟨t191, t192, t193, t194, t197⟩ : S33)]) t182 t185 ((rd_T29 l0 x11_1).f5)) else (none)) = some r := H
                      have A30 := Aside0.mk A300
                      clear A300
                      by_cases c31 : x189002_2.length < 1954687338268
                      · rw [if_pos c31] at H
                        have LMc31 := Aside0.mk c31
                        clear c31
                        obtain ⟨y198, hy198⟩ : ∃ y_ : List (S33), y_ = (x189002_2 ++ [(⟨t191, t192, t193, t194, t197⟩ : S33)]) := ⟨_, rfl⟩
                        replace H : (helmsmanlaw12_Stmts.l1 k2 x3_1 l0 (l0.length : Int) x11_1 ((rd_T29 l0 x11_1).f2) (((rd_T29 l0 x11_1).f2).length : Int) (wrap64 (x31_2 + 1)) ((rd_T29 l0 x11_1).f0) ((rd_T29 l0 x11_1).f1) y198 t182 t185 ((rd_T29 l0 x11_1).f5)) = some r := by first | (rw [hy198]; with_reducible exact H) | (have H2_ := (Option.bind_some _ _).symm.trans H; rw [hy198]; with_reducible exact H2_) | (have H2_ := (Option.bind_some _ _).symm.trans H; with_reducible exact H2_) | with_reducible exact H | (rw [hy198]; exact H) | exact H
                        have Ny198 := Aside0.mk hy198
                        clear hy198
                        have H' := Aside0.mk H
                        clear H
                        have p189 : 0 ≤ (x31_2 : Int) := of_decide_eq_true (by first | (with_reducible assumption) | assumption)
                        have q189 : x31_2 < (((rd_T29 l0 x11_1).f2).length : Int) := of_decide_eq_true (by first | (with_reducible assumption) | assumption)
                        obtain ⟨ad189, A189_3, c189_3, e189, hx189_0, hx189_1, hx189_2, hx189_3, hx189_4, hl189_3, hi189_3⟩ := at_T24 HR180_2.out x31_2 p189 q189
                        cases e189
                        replace hx189_0 := (HB.out.cell (World.block_lt_of_cell? w _ hx189_0)).trans hx189_0
                        replace hx189_1 := (HB.out.cell (World.block_lt_of_cell? w _ hx189_1)).trans hx189_1
                        replace hx189_2 := (HB.out.cell (World.block_lt_of_cell? w _ hx189_2)).trans hx189_2
                        replace hx189_3 := (HB.out.cell (World.block_lt_of_cell? w _ hx189_3)).trans hx189_3
                        replace hx189_4 := (HB.out.cell (World.block_lt_of_cell? w _ hx189_4)).trans hx189_4
                        have HR189_3 := Aside0.mk hi189_3
                        have HC189_3 := Aside0.mk hl189_3
                        clear hi189_3 hl189_3
                        replace p189 := eq_true p189
                        replace q189 := eq_true q189
                        try go_wp2_with (first | ((with_reducible refine gate_dst (N := 8) rfl ?_); refine box_event ?hg (N := 8) ?hd (cs := #[.string (⟨#[]⟩ : ByteArray), .string (⟨#[]⟩ : ByteArray), .int .i64 0, .slice none 0 0, .int .i64 0]) (t := 24) ?hr ?_; (case hd => rfl); (case hg => rfl); (case hr => first | (go_simp; done) | (go_simp; rfl)); intro gb190 hg w32 hbox hb; have n0_ := Aside0.mk (Kd.R_below (by (with_reducible repeat (first | apply Kd.R_alloc | apply Kd.R_drewN | apply Kd.R_drew)); exact HO_3.out) hb); have n1_ := Aside0.mk (Kd.R_below (by (with_reducible repeat (first | apply Kd.R_alloc | apply Kd.R_drewN | apply Kd.R_drew)); exact HO_189002.out) hb); have n2_ := Aside0.mk (Kd.R_below (by (with_reducible repeat (first | apply Kd.R_alloc | apply Kd.R_drewN | apply Kd.R_drew)); exact HO_189003.out) hb); have n3_ := Aside0.mk (Kd.R_below (by (with_reducible repeat (first | apply Kd.R_alloc | apply Kd.R_drewN | apply Kd.R_drew)); exact HO_189004.out) hb); have n4_ := Aside0.mk (blk_below (g := gb181) (o := .cells #[.string ((rd_T29 l0 x11_1).f0), .string ((rd_T29 l0 x11_1).f1), .slice (some ad189) ((rd_T29 l0 x11_1).f2).length c180_2, .slice A180_3 ((rd_T29 l0 x11_1).f3).length c180_3, .slice A180_4 ((rd_T29 l0 x11_1).f4).length c180_4, .int .i64 ((rd_T29 l0 x11_1).f5)] 29 (0, 0)) (by (with_reducible repeat (first | refine blk_drewN ?_ _ | refine blk_drew ?_ | refine blk_alloc ?_ _)); exact BK181.out) hb); have n5_ := Aside0.mk (blk_below (g := gb188) (o := .cells #[.string ((rd_T29 l0 x11_1).f0), .string ((rd_T29 l0 x11_1).f1), u189002, .slice Ao18 t182.length co18, .slice Ao17 t185.length co17, .int .i64 ((rd_T29 l0 x11_1).f5)] 76 (0, 0)) (by (with_reducible repeat (first | refine blk_drewN ?_ _ | refine blk_drew ?_ | refine blk_alloc ?_ _)); exact BK188.out) hb); have n6_ := Aside0.mk (below_step (by repeat (first | (with_reducible first | exact HB.out | apply below_alloc | apply pw_below_drewN | apply below_drew1 | refine below_set ?_ GE181.out | refine below_set ?_ GE188.out) | exact HB.out)) hb); have n7_ := Aside0.mk (hbox); have n8_ := Aside0.mk ((by rw [hg]; exact (below_size (by repeat (first | (with_reducible first | exact HB.out | apply below_alloc | apply pw_below_drewN | apply below_drew1 | refine below_set ?_ GE181.out | refine below_set ?_ GE188.out) | exact HB.out))) : w.heap.size ≤ gb190)); have n9_ := Aside0.mk ((by rw [hg]; exact (below_size (by repeat (first | (with_reducible first | exact HB.out | apply below_alloc | apply pw_below_drewN | apply below_drew1 | refine below_set ?_ GE181.out | refine below_set ?_ GE188.out) | exact HB.out))) : w.heap.size ≤ gb190)); have n10_ := Aside0.mk ((by rw [hg]; exact Nat.ne_of_lt (blk_lt (g := gb181) (o := .cells #[.string ((rd_T29 l0 x11_1).f0), .string ((rd_T29 l0 x11_1).f1), .slice (some ad189) ((rd_T29 l0 x11_1).f2).length c180_2, .slice A180_3 ((rd_T29 l0 x11_1).f3).length c180_3, .slice A180_4 ((rd_T29 l0 x11_1).f4).length c180_4, .int .i64 ((rd_T29 l0 x11_1).f5)] 29 (0, 0)) (by (with_reducible repeat (first | refine blk_drewN ?_ _ | refine blk_drew ?_ | refine blk_alloc ?_ _)); exact BK181.out)) : gb181 ≠ gb190)); have n11_ := Aside0.mk ((by rw [hg]; exact Nat.ne_of_gt (blk_lt (g := gb181) (o := .cells #[.string ((rd_T29 l0 x11_1).f0), .string ((rd_T29 l0 x11_1).f1), .slice (some ad189) ((rd_T29 l0 x11_1).f2).length c180_2, .slice A180_3 ((rd_T29 l0 x11_1).f3).length c180_3, .slice A180_4 ((rd_T29 l0 x11_1).f4).length c180_4, .int .i64 ((rd_T29 l0 x11_1).f5)] 29 (0, 0)) (by (with_reducible repeat (first | refine blk_drewN ?_ _ | refine blk_drew ?_ | refine blk_alloc ?_ _)); exact BK181.out)) : gb190 ≠ gb181)); have n12_ := Aside0.mk ((by rw [hg]; exact Nat.ne_of_lt (blk_lt (g := gb188) (o := .cells #[.string ((rd_T29 l0 x11_1).f0), .string ((rd_T29 l0 x11_1).f1), u189002, .slice Ao18 t182.length co18, .slice Ao17 t185.length co17, .int .i64 ((rd_T29 l0 x11_1).f5)] 76 (0, 0)) (by (with_reducible repeat (first | refine blk_drewN ?_ _ | refine blk_drew ?_ | refine blk_alloc ?_ _)); exact BK188.out)) : gb188 ≠ gb190)); have n13_ := Aside0.mk ((by rw [hg]; exact Nat.ne_of_gt (blk_lt (g := gb188) (o := .cells #[.string ((rd_T29 l0 x11_1).f0), .string ((rd_T29 l0 x11_1).f1), u189002, .slice Ao18 t182.length co18, .slice Ao17 t185.length co17, .int .i64 ((rd_T29 l0 x11_1).f5)] 76 (0, 0)) (by (with_reducible repeat (first | refine blk_drewN ?_ _ | refine blk_drew ?_ | refine blk_alloc ?_ _)); exact BK188.out)) : gb190 ≠ gb188)); clear HO_3; clear HO_189002; clear HO_189003; clear HO_189004; clear BK181; clear BK188; clear HB; have HO_3 := n0_; have HO_189002 := n1_; have HO_189003 := n2_; have HO_189004 := n3_; have BK181 := n4_; have BK188 := n5_; have HB := n6_; have BK190 := n7_; have GW190 := n8_; have GE190 := n9_; have NB181_190 := n10_; have NB190_181 := n11_; have NB188_190 := n12_; have NB190_188 := n13_; clear n0_ n1_ n2_ n3_ n4_ n5_ n6_ n7_ n8_ n9_ n10_ n11_ n12_ n13_; clear hb hbox hg; have hnb33 := NB190_181.out; have hnc33 := NB181_190.out; have hnb34 := NB190_188.out; have hnc34 := NB188_190.out; have hcz35_0 : w32.cell? ⟨gb190, 0, none⟩ = some (.string (⟨#[]⟩ : ByteArray)) := (blk_cell BK190.out 0).trans rfl; have hcz35_1 : w32.cell? ⟨gb190, 1, none⟩ = some (.string (⟨#[]⟩ : ByteArray)) := (blk_cell BK190.out 1).trans rfl; have hcz35_2 : w32.cell? ⟨gb190, 2, none⟩ = some (.int .i64 0) := (blk_cell BK190.out 2).trans rfl; have hcz35_3 : w32.cell? ⟨gb190, 3, none⟩ = some (.slice none 0 0) := (blk_cell BK190.out 3).trans rfl; have hcz35_4 : w32.cell? ⟨gb190, 4, none⟩ = some (.int .i64 0) := (blk_cell BK190.out 4).trans rfl; have hfz35_0 := blk_frozen BK190.out 0; have hfz35_1 := blk_frozen BK190.out 1; have hfz35_2 := blk_frozen BK190.out 2; have hfz35_3 := blk_frozen BK190.out 3; have hfz35_4 := blk_frozen BK190.out 4))
                        have n0_ : Aside0 (Kd.R k76 76 (((((w32.setCell ⟨gb190, 0, none⟩ (.string ((rd_T24 ((rd_T29 l0 x11_1).f2) x31_2).f0))).setCell ⟨gb190, 1, none⟩ (.string ((rd_T24 ((rd_T29 l0 x11_1).f2) x31_2).f1))).setCell ⟨gb190, 2, none⟩ (.int .i64 ((rd_T24 ((rd_T29 l0 x11_1).f2) x31_2).f2))).setCell ⟨gb190, 3, none⟩ (.slice A189_3 ((rd_T24 ((rd_T29 l0 x11_1).f2) x31_2).f3).length c189_3)).setCell ⟨gb190, 4, none⟩ (.int .i64 ((rd_T24 ((rd_T29 l0 x11_1).f2) x31_2).f4))) w.heap.size (fun k_ => some k_ ≠ (u189002 : Value).ownBlock ∧ some k_ ≠ (.slice Ao18 t182.length co18 : Value).ownBlock ∧ some k_ ≠ (.slice Ao17 t185.length co17 : Value).ownBlock ∧ k_ ≠ gb188) u3 x3_1) := ⟨by (with_reducible repeat (first | apply Kd.R_alloc | apply Kd.R_drewN | apply Kd.R_drew)); exact Kd.R_mono (Kd.R_far (p := ⟨gb190, 4, none⟩) (Kd.R_far (p := ⟨gb190, 3, none⟩) (Kd.R_far (p := ⟨gb190, 2, none⟩) (Kd.R_far (p := ⟨gb190, 1, none⟩) (Kd.R_far (p := ⟨gb190, 0, none⟩) (Kd.R_types HO_3.out BK190.out (by decide)) (fun _ hk => hk.2) (.string ((rd_T24 ((rd_T29 l0 x11_1).f2) x31_2).f0))) (fun _ hk => hk.2) (.string ((rd_T24 ((rd_T29 l0 x11_1).f2) x31_2).f1))) (fun _ hk => hk.2) (.int .i64 ((rd_T24 ((rd_T29 l0 x11_1).f2) x31_2).f2))) (fun _ hk => hk.2) (.slice A189_3 ((rd_T24 ((rd_T29 l0 x11_1).f2) x31_2).f3).length c189_3)) (fun _ hk => hk.2) (.int .i64 ((rd_T24 ((rd_T29 l0 x11_1).f2) x31_2).f4))) (fun _ hk => ⟨hk.1.1, ⟨hk.1.2.1, ⟨hk.1.2.2.1, hk.1.2.2.2⟩⟩⟩)⟩
                        have n1_ : Aside0 (Kd.R k33 33 (((((w32.setCell ⟨gb190, 0, none⟩ (.string ((rd_T24 ((rd_T29 l0 x11_1).f2) x31_2).f0))).setCell ⟨gb190, 1, none⟩ (.string ((rd_T24 ((rd_T29 l0 x11_1).f2) x31_2).f1))).setCell ⟨gb190, 2, none⟩ (.int .i64 ((rd_T24 ((rd_T29 l0 x11_1).f2) x31_2).f2))).setCell ⟨gb190, 3, none⟩ (.slice A189_3 ((rd_T24 ((rd_T29 l0 x11_1).f2) x31_2).f3).length c189_3)).setCell ⟨gb190, 4, none⟩ (.int .i64 ((rd_T24 ((rd_T29 l0 x11_1).f2) x31_2).f4))) w.heap.size (fun _ => True) u189002 x189002_2) := ⟨by (with_reducible repeat (first | apply Kd.R_alloc | apply Kd.R_drewN | apply Kd.R_drew)); exact Kd.R_mono (Kd.R_far (p := ⟨gb190, 4, none⟩) (Kd.R_far (p := ⟨gb190, 3, none⟩) (Kd.R_far (p := ⟨gb190, 2, none⟩) (Kd.R_far (p := ⟨gb190, 1, none⟩) (Kd.R_far (p := ⟨gb190, 0, none⟩) (Kd.R_types HO_189002.out BK190.out (by decide)) (fun _ hk => hk.2) (.string ((rd_T24 ((rd_T29 l0 x11_1).f2) x31_2).f0))) (fun _ hk => hk.2) (.string ((rd_T24 ((rd_T29 l0 x11_1).f2) x31_2).f1))) (fun _ hk => hk.2) (.int .i64 ((rd_T24 ((rd_T29 l0 x11_1).f2) x31_2).f2))) (fun _ hk => hk.2) (.slice A189_3 ((rd_T24 ((rd_T29 l0 x11_1).f2) x31_2).f3).length c189_3)) (fun _ hk => hk.2) (.int .i64 ((rd_T24 ((rd_T29 l0 x11_1).f2) x31_2).f4))) (fun _ hk => trivial)⟩
                        have n2_ : Aside0 (Kd.R k76 76 (((((w32.setCell ⟨gb190, 0, none⟩ (.string ((rd_T24 ((rd_T29 l0 x11_1).f2) x31_2).f0))).setCell ⟨gb190, 1, none⟩ (.string ((rd_T24 ((rd_T29 l0 x11_1).f2) x31_2).f1))).setCell ⟨gb190, 2, none⟩ (.int .i64 ((rd_T24 ((rd_T29 l0 x11_1).f2) x31_2).f2))).setCell ⟨gb190, 3, none⟩ (.slice A189_3 ((rd_T24 ((rd_T29 l0 x11_1).f2) x31_2).f3).length c189_3)).setCell ⟨gb190, 4, none⟩ (.int .i64 ((rd_T24 ((rd_T29 l0 x11_1).f2) x31_2).f4))) w.heap.size (fun k_ => some k_ ≠ (u3 : Value).ownBlock ∧ some k_ ≠ (u189002 : Value).ownBlock ∧ some k_ ≠ (.slice Ao17 t185.length co17 : Value).ownBlock ∧ k_ ≠ gb188) (.slice Ao18 t182.length co18) t182) := ⟨by (with_reducible repeat (first | apply Kd.R_alloc | apply Kd.R_drewN | apply Kd.R_drew)); exact Kd.R_mono (Kd.R_far (p := ⟨gb190, 4, none⟩) (Kd.R_far (p := ⟨gb190, 3, none⟩) (Kd.R_far (p := ⟨gb190, 2, none⟩) (Kd.R_far (p := ⟨gb190, 1, none⟩) (Kd.R_far (p := ⟨gb190, 0, none⟩) (Kd.R_types HO_189003.out BK190.out (by decide)) (fun _ hk => hk.2) (.string ((rd_T24 ((rd_T29 l0 x11_1).f2) x31_2).f0))) (fun _ hk => hk.2) (.string ((rd_T24 ((rd_T29 l0 x11_1).f2) x31_2).f1))) (fun _ hk => hk.2) (.int .i64 ((rd_T24 ((rd_T29 l0 x11_1).f2) x31_2).f2))) (fun _ hk => hk.2) (.slice A189_3 ((rd_T24 ((rd_T29 l0 x11_1).f2) x31_2).f3).length c189_3)) (fun _ hk => hk.2) (.int .i64 ((rd_T24 ((rd_T29 l0 x11_1).f2) x31_2).f4))) (fun _ hk => ⟨hk.1.1, ⟨hk.1.2.1, ⟨hk.1.2.2.1, hk.1.2.2.2⟩⟩⟩)⟩
                        have n3_ : Aside0 (Kd.R k76 76 (((((w32.setCell ⟨gb190, 0, none⟩ (.string ((rd_T24 ((rd_T29 l0 x11_1).f2) x31_2).f0))).setCell ⟨gb190, 1, none⟩ (.string ((rd_T24 ((rd_T29 l0 x11_1).f2) x31_2).f1))).setCell ⟨gb190, 2, none⟩ (.int .i64 ((rd_T24 ((rd_T29 l0 x11_1).f2) x31_2).f2))).setCell ⟨gb190, 3, none⟩ (.slice A189_3 ((rd_T24 ((rd_T29 l0 x11_1).f2) x31_2).f3).length c189_3)).setCell ⟨gb190, 4, none⟩ (.int .i64 ((rd_T24 ((rd_T29 l0 x11_1).f2) x31_2).f4))) w.heap.size (fun k_ => some k_ ≠ (u3 : Value).ownBlock ∧ some k_ ≠ (u189002 : Value).ownBlock ∧ some k_ ≠ (.slice Ao18 t182.length co18 : Value).ownBlock ∧ k_ ≠ gb188) (.slice Ao17 t185.length co17) t185) := ⟨by (with_reducible repeat (first | apply Kd.R_alloc | apply Kd.R_drewN | apply Kd.R_drew)); exact Kd.R_mono (Kd.R_far (p := ⟨gb190, 4, none⟩) (Kd.R_far (p := ⟨gb190, 3, none⟩) (Kd.R_far (p := ⟨gb190, 2, none⟩) (Kd.R_far (p := ⟨gb190, 1, none⟩) (Kd.R_far (p := ⟨gb190, 0, none⟩) (Kd.R_types HO_189004.out BK190.out (by decide)) (fun _ hk => hk.2) (.string ((rd_T24 ((rd_T29 l0 x11_1).f2) x31_2).f0))) (fun _ hk => hk.2) (.string ((rd_T24 ((rd_T29 l0 x11_1).f2) x31_2).f1))) (fun _ hk => hk.2) (.int .i64 ((rd_T24 ((rd_T29 l0 x11_1).f2) x31_2).f2))) (fun _ hk => hk.2) (.slice A189_3 ((rd_T24 ((rd_T29 l0 x11_1).f2) x31_2).f3).length c189_3)) (fun _ hk => hk.2) (.int .i64 ((rd_T24 ((rd_T29 l0 x11_1).f2) x31_2).f4))) (fun _ hk => ⟨hk.1.1, ⟨hk.1.2.1, ⟨hk.1.2.2.1, hk.1.2.2.2⟩⟩⟩)⟩
                        have n4_ : Aside0 ((((((w32.setCell ⟨gb190, 0, none⟩ (.string ((rd_T24 ((rd_T29 l0 x11_1).f2) x31_2).f0))).setCell ⟨gb190, 1, none⟩ (.string ((rd_T24 ((rd_T29 l0 x11_1).f2) x31_2).f1))).setCell ⟨gb190, 2, none⟩ (.int .i64 ((rd_T24 ((rd_T29 l0 x11_1).f2) x31_2).f2))).setCell ⟨gb190, 3, none⟩ (.slice A189_3 ((rd_T24 ((rd_T29 l0 x11_1).f2) x31_2).f3).length c189_3)).setCell ⟨gb190, 4, none⟩ (.int .i64 ((rd_T24 ((rd_T29 l0 x11_1).f2) x31_2).f4))).heap[gb181]? = some (.cells #[.string ((rd_T29 l0 x11_1).f0), .string ((rd_T29 l0 x11_1).f1), .slice (some ad189) ((rd_T29 l0 x11_1).f2).length c180_2, .slice A180_3 ((rd_T29 l0 x11_1).f3).length c180_3, .slice A180_4 ((rd_T29 l0 x11_1).f4).length c180_4, .int .i64 ((rd_T29 l0 x11_1).f5)] 29 (0, 0))) := ⟨by (with_reducible repeat (first | refine blk_drewN ?_ _ | refine blk_drew ?_ | refine blk_alloc ?_ _)); refine blk_far ?_ NB181_190.out _; (with_reducible repeat (first | refine blk_drewN ?_ _ | refine blk_drew ?_ | refine blk_alloc ?_ _)); refine blk_far ?_ NB181_190.out _; (with_reducible repeat (first | refine blk_drewN ?_ _ | refine blk_drew ?_ | refine blk_alloc ?_ _)); refine blk_far ?_ NB181_190.out _; (with_reducible repeat (first | refine blk_drewN ?_ _ | refine blk_drew ?_ | refine blk_alloc ?_ _)); refine blk_far ?_ NB181_190.out _; (with_reducible repeat (first | refine blk_drewN ?_ _ | refine blk_drew ?_ | refine blk_alloc ?_ _)); refine blk_far ?_ NB181_190.out _; (with_reducible repeat (first | refine blk_drewN ?_ _ | refine blk_drew ?_ | refine blk_alloc ?_ _)); exact BK181.out⟩
                        have n5_ : Aside0 ((((((w32.setCell ⟨gb190, 0, none⟩ (.string ((rd_T24 ((rd_T29 l0 x11_1).f2) x31_2).f0))).setCell ⟨gb190, 1, none⟩ (.string ((rd_T24 ((rd_T29 l0 x11_1).f2) x31_2).f1))).setCell ⟨gb190, 2, none⟩ (.int .i64 ((rd_T24 ((rd_T29 l0 x11_1).f2) x31_2).f2))).setCell ⟨gb190, 3, none⟩ (.slice A189_3 ((rd_T24 ((rd_T29 l0 x11_1).f2) x31_2).f3).length c189_3)).setCell ⟨gb190, 4, none⟩ (.int .i64 ((rd_T24 ((rd_T29 l0 x11_1).f2) x31_2).f4))).heap[gb188]? = some (.cells #[.string ((rd_T29 l0 x11_1).f0), .string ((rd_T29 l0 x11_1).f1), u189002, .slice Ao18 t182.length co18, .slice Ao17 t185.length co17, .int .i64 ((rd_T29 l0 x11_1).f5)] 76 (0, 0))) := ⟨by (with_reducible repeat (first | refine blk_drewN ?_ _ | refine blk_drew ?_ | refine blk_alloc ?_ _)); refine blk_far ?_ NB188_190.out _; (with_reducible repeat (first | refine blk_drewN ?_ _ | refine blk_drew ?_ | refine blk_alloc ?_ _)); refine blk_far ?_ NB188_190.out _; (with_reducible repeat (first | refine blk_drewN ?_ _ | refine blk_drew ?_ | refine blk_alloc ?_ _)); refine blk_far ?_ NB188_190.out _; (with_reducible repeat (first | refine blk_drewN ?_ _ | refine blk_drew ?_ | refine blk_alloc ?_ _)); refine blk_far ?_ NB188_190.out _; (with_reducible repeat (first | refine blk_drewN ?_ _ | refine blk_drew ?_ | refine blk_alloc ?_ _)); refine blk_far ?_ NB188_190.out _; (with_reducible repeat (first | refine blk_drewN ?_ _ | refine blk_drew ?_ | refine blk_alloc ?_ _)); exact BK188.out⟩
                        have n6_ : Aside0 ((((((w32.setCell ⟨gb190, 0, none⟩ (.string ((rd_T24 ((rd_T29 l0 x11_1).f2) x31_2).f0))).setCell ⟨gb190, 1, none⟩ (.string ((rd_T24 ((rd_T29 l0 x11_1).f2) x31_2).f1))).setCell ⟨gb190, 2, none⟩ (.int .i64 ((rd_T24 ((rd_T29 l0 x11_1).f2) x31_2).f2))).setCell ⟨gb190, 3, none⟩ (.slice A189_3 ((rd_T24 ((rd_T29 l0 x11_1).f2) x31_2).f3).length c189_3)).setCell ⟨gb190, 4, none⟩ (.int .i64 ((rd_T24 ((rd_T29 l0 x11_1).f2) x31_2).f4))).heap[gb190]? = some (.cells #[.string ((rd_T24 ((rd_T29 l0 x11_1).f2) x31_2).f0), .string ((rd_T24 ((rd_T29 l0 x11_1).f2) x31_2).f1), .int .i64 ((rd_T24 ((rd_T29 l0 x11_1).f2) x31_2).f2), .slice A189_3 ((rd_T24 ((rd_T29 l0 x11_1).f2) x31_2).f3).length c189_3, .int .i64 ((rd_T24 ((rd_T29 l0 x11_1).f2) x31_2).f4)] 24 (0, 0))) := ⟨by (with_reducible repeat (first | refine blk_drewN ?_ _ | refine blk_drew ?_ | refine blk_alloc ?_ _)); refine blk_put (cs := #[.string ((rd_T24 ((rd_T29 l0 x11_1).f2) x31_2).f0), .string ((rd_T24 ((rd_T29 l0 x11_1).f2) x31_2).f1), .int .i64 ((rd_T24 ((rd_T29 l0 x11_1).f2) x31_2).f2), .slice A189_3 ((rd_T24 ((rd_T29 l0 x11_1).f2) x31_2).f3).length c189_3, .int .i64 0]) ?_ 4 _ rfl; (with_reducible repeat (first | refine blk_drewN ?_ _ | refine blk_drew ?_ | refine blk_alloc ?_ _)); refine blk_put (cs := #[.string ((rd_T24 ((rd_T29 l0 x11_1).f2) x31_2).f0), .string ((rd_T24 ((rd_T29 l0 x11_1).f2) x31_2).f1), .int .i64 ((rd_T24 ((rd_T29 l0 x11_1).f2) x31_2).f2), .slice none 0 0, .int .i64 0]) ?_ 3 _ rfl; (with_reducible repeat (first | refine blk_drewN ?_ _ | refine blk_drew ?_ | refine blk_alloc ?_ _)); refine blk_put (cs := #[.string ((rd_T24 ((rd_T29 l0 x11_1).f2) x31_2).f0), .string ((rd_T24 ((rd_T29 l0 x11_1).f2) x31_2).f1), .int .i64 0, .slice none 0 0, .int .i64 0]) ?_ 2 _ rfl; (with_reducible repeat (first | refine blk_drewN ?_ _ | refine blk_drew ?_ | refine blk_alloc ?_ _)); refine blk_put (cs := #[.string ((rd_T24 ((rd_T29 l0 x11_1).f2) x31_2).f0), .string (⟨#[]⟩ : ByteArray), .int .i64 0, .slice none 0 0, .int .i64 0]) ?_ 1 _ rfl; (with_reducible repeat (first | refine blk_drewN ?_ _ | refine blk_drew ?_ | refine blk_alloc ?_ _)); refine blk_put (cs := #[.string (⟨#[]⟩ : ByteArray), .string (⟨#[]⟩ : ByteArray), .int .i64 0, .slice none 0 0, .int .i64 0]) ?_ 0 _ rfl; (with_reducible repeat (first | refine blk_drewN ?_ _ | refine blk_drew ?_ | refine blk_alloc ?_ _)); exact BK190.out⟩
                        have n7_ : Aside0 (Below w.heap.size w (((((w32.setCell ⟨gb190, 0, none⟩ (.string ((rd_T24 ((rd_T29 l0 x11_1).f2) x31_2).f0))).setCell ⟨gb190, 1, none⟩ (.string ((rd_T24 ((rd_T29 l0 x11_1).f2) x31_2).f1))).setCell ⟨gb190, 2, none⟩ (.int .i64 ((rd_T24 ((rd_T29 l0 x11_1).f2) x31_2).f2))).setCell ⟨gb190, 3, none⟩ (.slice A189_3 ((rd_T24 ((rd_T29 l0 x11_1).f2) x31_2).f3).length c189_3)).setCell ⟨gb190, 4, none⟩ (.int .i64 ((rd_T24 ((rd_T29 l0 x11_1).f2) x31_2).f4)))) := ⟨by repeat (first | (with_reducible first | exact HB.out | apply below_alloc | apply pw_below_drewN | apply below_drew1 | refine below_set ?_ GE181.out | refine below_set ?_ GE188.out | refine below_set ?_ GE190.out) | exact HB.out)⟩
                        (try clear HO_3)
                        (try clear HO_189002)
                        (try clear HO_189003)
                        (try clear HO_189004)
                        (try clear BK181)
                        (try clear BK188)
                        (try clear BK190)
                        (try clear HB)
                        generalize (((((w32.setCell ⟨gb190, 0, none⟩ (.string ((rd_T24 ((rd_T29 l0 x11_1).f2) x31_2).f0))).setCell ⟨gb190, 1, none⟩ (.string ((rd_T24 ((rd_T29 l0 x11_1).f2) x31_2).f1))).setCell ⟨gb190, 2, none⟩ (.int .i64 ((rd_T24 ((rd_T29 l0 x11_1).f2) x31_2).f2))).setCell ⟨gb190, 3, none⟩ (.slice A189_3 ((rd_T24 ((rd_T29 l0 x11_1).f2) x31_2).f3).length c189_3)).setCell ⟨gb190, 4, none⟩ (.int .i64 ((rd_T24 ((rd_T29 l0 x11_1).f2) x31_2).f4))) = w36 at n0_ n1_ n2_ n3_ n4_ n5_ n6_ n7_ ⊢
                        have HO_3 := n0_
                        have HO_189002 := n1_
                        have HO_189003 := n2_
                        have HO_189004 := n3_
                        have BK181 := n4_
                        have BK188 := n5_
                        have BK190 := n6_
                        have HB := n7_
                        clear n0_ n1_ n2_ n3_ n4_ n5_ n6_ n7_
                        have n0_ := Aside0.mk (Kd.R_drew HO_3.out)
                        have n1_ := Aside0.mk (Kd.R_drew HO_189002.out)
                        have n2_ := Aside0.mk (Kd.R_drew HO_189003.out)
                        have n3_ := Aside0.mk (Kd.R_drew HO_189004.out)
                        have n4_ := Aside0.mk (blk_drew BK181.out)
                        have n5_ := Aside0.mk (blk_drew BK188.out)
                        have n6_ := Aside0.mk (blk_drew BK190.out)
                        have n7_ := Aside0.mk (below_drew1 HB.out)
                        clear HO_3
                        clear HO_189002
                        clear HO_189003
                        clear HO_189004
                        clear BK181
                        clear BK188
                        clear BK190
                        clear HB
                        have HO_3 := n0_
                        have HO_189002 := n1_
                        have HO_189003 := n2_
                        have HO_189004 := n3_
                        have BK181 := n4_
                        have BK188 := n5_
                        have BK190 := n6_
                        have HB := n7_
                        clear n0_ n1_ n2_ n3_ n4_ n5_ n6_ n7_
                        refine start_ (n := 8) (S := fun w' => w'.cell? ⟨gb188, 0, none⟩ = some (.string ((rd_T29 l0 x11_1).f0)) ∧ w'.cell? ⟨gb188, 1, none⟩ = some (.string ((rd_T29 l0 x11_1).f1)) ∧ w'.cell? ⟨gb188, 2, none⟩ = some (u189002) ∧ w'.cell? ⟨gb188, 3, none⟩ = some (.slice Ao18 t182.length co18) ∧ w'.cell? ⟨gb188, 4, none⟩ = some (.slice Ao17 t185.length co17) ∧ w'.cell? ⟨gb188, 5, none⟩ = some (.int .i64 ((rd_T29 l0 x11_1).f5)) ∧ w'.cell? ⟨gb190, 0, none⟩ = some (.string ((rd_T24 ((rd_T29 l0 x11_1).f2) x31_2).f0)) ∧ w'.cell? ⟨gb190, 1, none⟩ = some (.string ((rd_T24 ((rd_T29 l0 x11_1).f2) x31_2).f1)) ∧ w'.cell? ⟨gb190, 2, none⟩ = some (.int .i64 ((rd_T24 ((rd_T29 l0 x11_1).f2) x31_2).f2)) ∧ w'.cell? ⟨gb190, 3, none⟩ = some (.slice A189_3 ((rd_T24 ((rd_T29 l0 x11_1).f2) x31_2).f3).length c189_3) ∧ w'.cell? ⟨gb190, 4, none⟩ = some (.int .i64 ((rd_T24 ((rd_T29 l0 x11_1).f2) x31_2).f4))) (ds := [7]) #[false, false, false, false, false, false, false, false] (by kernel_rfl) rfl rfl ⟨(blk_cell BK188.out 0).trans rfl, (blk_cell BK188.out 1).trans rfl, (blk_cell BK188.out 2).trans rfl, (blk_cell BK188.out 3).trans rfl, (blk_cell BK188.out 4).trans rfl, (blk_cell BK188.out 5).trans rfl, (blk_cell BK190.out 0).trans rfl, (blk_cell BK190.out 1).trans rfl, (blk_cell BK190.out 2).trans rfl, (blk_cell BK190.out 3).trans rfl, (blk_cell BK190.out 4).trans rfl⟩ (fun hHeld => ?_); refine with_tabW helmsmanlaw12_Stmts.tab9 helmsmanlaw12_Stmts.bits9 (fun HT_ HW_ => ?_)
                        generalize w36.drew = w37 at HO_3 HO_189002 HO_189003 HO_189004 BK181 BK188 BK190 HB hHeld ⊢
                        refine pure_ (i := 0) (N := some 35) (v := ?_) (a' := ?_) #[true, false, false, false, false, false, false, false] rfl rfl (any_of HT_.out (by kernel_rfl)) (fun _ _ _ h => h) (Or.inl ⟨by rfl, ?_⟩) ?_ ?_
                        rotate_left
                        · intro w'
                          go_simp
                          with_reducible rfl
                        rotate_left
                        · simp only [Act.put, List.setIfInBounds_toArray, List.set_cons_zero, List.set_cons_succ, i64_w, i32_w]
                          rfl
                        refine take_ (i := 1) (N := some 36) (v := ?_) (a' := ?_) #[true, true, false, false, false, false, false, false] rfl rfl (take_ofW HT_.out HW_.out (by kernel_rfl)) (fun _ _ _ h => h) (Or.inl ⟨by rfl, ?_⟩) hHeld ?_ ?_
                        rotate_left
                        · rintro w' ⟨s0, s1, s2, s3, s4, s5, s6, s7, s8, s9, s10⟩
                          go_simp
                          with_reducible rfl
                        rotate_left
                        · simp only [Act.put, List.setIfInBounds_toArray, List.set_cons_zero, List.set_cons_succ, i64_w, i32_w]
                          rfl
                        refine take_ (i := 2) (N := some 37) (v := ?_) (a' := ?_) #[true, true, true, false, false, false, false, false] rfl rfl (take_ofW HT_.out HW_.out (by kernel_rfl)) (fun _ _ _ h => h) (Or.inl ⟨by rfl, ?_⟩) hHeld ?_ ?_
                        rotate_left
                        · rintro w' ⟨s0, s1, s2, s3, s4, s5, s6, s7, s8, s9, s10⟩
                          go_simp
                          with_reducible rfl
                        rotate_left
                        · simp only [Act.put, List.setIfInBounds_toArray, List.set_cons_zero, List.set_cons_succ, i64_w, i32_w]
                          rfl
                        refine one_ (i := 3) (N := some 38) #[true, true, true, true, false, false, false, false] rfl rfl (one_of HT_.out (by kernel_rfl)) (by decide) (fun K hK => ?_)
                        refine goes_ Tryd.func11 (by kernel_rfl) rfl #[.agg #[.string ((rd_T24 ((rd_T29 l0 x11_1).f2) x31_2).f0), .string ((rd_T24 ((rd_T29 l0 x11_1).f2) x31_2).f1), .int .i64 ((rd_T24 ((rd_T29 l0 x11_1).f2) x31_2).f2), .slice A189_3 ((rd_T24 ((rd_T29 l0 x11_1).f2) x31_2).f3).length c189_3, .int .i64 ((rd_T24 ((rd_T29 l0 x11_1).f2) x31_2).f4)]] (by rfl) rfl rfl (by (try simp only [List.map_toArray, List.map_cons, List.map_nil]); first | done | rfl | (simp only [List.length_drop, List.length_take]; rfl)) ?_
                        with_reducible refine (helmsmanlaw12_Expr.calls k2 ((rd_T24 ((rd_T29 l0 x11_1).f2) x31_2).f0) ((rd_T24 ((rd_T29 l0 x11_1).f2) x31_2).f1) ((rd_T24 ((rd_T29 l0 x11_1).f2) x31_2).f2) _ _ ((rd_T24 ((rd_T29 l0 x11_1).f2) x31_2).f3) ((rd_T24 ((rd_T29 l0 x11_1).f2) x31_2).f4) t191 t192 t193 t194 t197 _ ?side1 ?side2 A30.out).mono ?_
                        (case side1 => repeat (first | exact (Kd.C_below HR189_3.out HB.out) | (with_reducible refine Kd.C_alloc ?_ _) | (with_reducible refine Kd.C_drewN ?_ _) | (with_reducible refine Kd.C_drew ?_)))
                        (case side2 => exact HC189_3.out)
                        rintro e w38 ⟨v195, rfl, ho0, hb⟩
                        refine ⟨_, rfl, ?_⟩
                        have n0_ := Aside0.mk (Kd.R_elder' (by (with_reducible repeat (first | apply Kd.R_alloc | apply Kd.R_drewN | apply Kd.R_drew)); exact HO_3.out) (Kd.R_base ho0) hb)
                        have n1_ := Aside0.mk (Kd.R_elder' (by (with_reducible repeat (first | apply Kd.R_alloc | apply Kd.R_drewN | apply Kd.R_drew)); exact HO_189002.out) (Kd.R_base ho0) hb)
                        have n2_ := Aside0.mk (Kd.R_elder' (by (with_reducible repeat (first | apply Kd.R_alloc | apply Kd.R_drewN | apply Kd.R_drew)); exact HO_189003.out) (Kd.R_base ho0) hb)
                        have n3_ := Aside0.mk (Kd.R_elder' (by (with_reducible repeat (first | apply Kd.R_alloc | apply Kd.R_drewN | apply Kd.R_drew)); exact HO_189004.out) (Kd.R_base ho0) hb)
                        have n4_ := Aside0.mk (Kd.R_lower (Kd.R_new' ho0 (Kd.R_lt (by (with_reducible repeat (first | apply Kd.R_alloc | apply Kd.R_drewN | apply Kd.R_drew)); exact HO_189002.out))) (below_size (by repeat (first | (with_reducible first | exact HB.out | apply below_alloc | apply pw_below_drewN | apply below_drew1 | refine below_set ?_ GE181.out | refine below_set ?_ GE188.out | refine below_set ?_ GE190.out) | exact HB.out))))
                        have n5_ := Aside0.mk (blk_below (g := gb181) (o := .cells #[.string ((rd_T29 l0 x11_1).f0), .string ((rd_T29 l0 x11_1).f1), .slice (some ad189) ((rd_T29 l0 x11_1).f2).length c180_2, .slice A180_3 ((rd_T29 l0 x11_1).f3).length c180_3, .slice A180_4 ((rd_T29 l0 x11_1).f4).length c180_4, .int .i64 ((rd_T29 l0 x11_1).f5)] 29 (0, 0)) (by (with_reducible repeat (first | refine blk_drewN ?_ _ | refine blk_drew ?_ | refine blk_alloc ?_ _)); exact BK181.out) hb)
                        have n6_ := Aside0.mk (blk_below (g := gb188) (o := .cells #[.string ((rd_T29 l0 x11_1).f0), .string ((rd_T29 l0 x11_1).f1), u189002, .slice Ao18 t182.length co18, .slice Ao17 t185.length co17, .int .i64 ((rd_T29 l0 x11_1).f5)] 76 (0, 0)) (by (with_reducible repeat (first | refine blk_drewN ?_ _ | refine blk_drew ?_ | refine blk_alloc ?_ _)); exact BK188.out) hb)
                        have n7_ := Aside0.mk (blk_below (g := gb190) (o := .cells #[.string ((rd_T24 ((rd_T29 l0 x11_1).f2) x31_2).f0), .string ((rd_T24 ((rd_T29 l0 x11_1).f2) x31_2).f1), .int .i64 ((rd_T24 ((rd_T29 l0 x11_1).f2) x31_2).f2), .slice A189_3 ((rd_T24 ((rd_T29 l0 x11_1).f2) x31_2).f3).length c189_3, .int .i64 ((rd_T24 ((rd_T29 l0 x11_1).f2) x31_2).f4)] 24 (0, 0)) (by (with_reducible repeat (first | refine blk_drewN ?_ _ | refine blk_drew ?_ | refine blk_alloc ?_ _)); exact BK190.out) hb)
                        have n8_ := Aside0.mk (below_step (by repeat (first | (with_reducible first | exact HB.out | apply below_alloc | apply pw_below_drewN | apply below_drew1 | refine below_set ?_ GE181.out | refine below_set ?_ GE188.out | refine below_set ?_ GE190.out) | exact HB.out)) hb)
                        clear HO_3
                        clear HO_189002
                        clear HO_189003
                        clear HO_189004
                        clear BK181
                        clear BK188
                        clear BK190
                        clear HB
                        have HO_3 := n0_
                        have HO_189002 := n1_
                        have HO_189003 := n2_
                        have HO_189004 := n3_
                        have HO196 := n4_
                        have BK181 := n5_
                        have BK188 := n6_
                        have BK190 := n7_
                        have HB := n8_
                        clear n0_ n1_ n2_ n3_ n4_ n5_ n6_ n7_ n8_
                        (try clear hb)
                        (try clear hb2)
                        (try clear hk)
                        (try clear hi)
                        (try clear ho0)
                        obtain ⟨Ao40, co40, eo40⟩ := Kd.R_slice HO196.out
                        (first | subst eo40 | (injection eo40 with f1_ f2_ f3_; have f4_ := f1_.symm; have f5_ := f3_.symm; clear f1_ f2_ f3_; subst f4_; subst f5_))
                        refine hK.out _ _ ⟨(blk_cell BK188.out 0).trans rfl, (blk_cell BK188.out 1).trans rfl, (blk_cell BK188.out 2).trans rfl, (blk_cell BK188.out 3).trans rfl, (blk_cell BK188.out 4).trans rfl, (blk_cell BK188.out 5).trans rfl, (blk_cell BK190.out 0).trans rfl, (blk_cell BK190.out 1).trans rfl, (blk_cell BK190.out 2).trans rfl, (blk_cell BK190.out 3).trans rfl, (blk_cell BK190.out 4).trans rfl⟩ (fun hHeld => ?_)
                        clear hK K
                        refine norm_ (a' := ?_) ?_ ?_
                        rotate_left
                        · show Act.put _ (some 38) _ = _
                          simp only [Act.put, List.setIfInBounds_toArray, List.set_cons_zero, List.set_cons_succ, i64_w, i32_w]
                          rfl
                        refine one_ (i := 4) (N := some 39) #[true, true, true, true, true, false, false, false] rfl rfl (one_of HT_.out (by kernel_rfl)) (by decide) (fun K hK => ?_)
                        refine value_ (w1 := ?_) (v := ?_) (by rfl) rfl ?_ ?_
                        rotate_left 2
                        · go_simp
                          constructor
                          · rfl
                          · rfl
                        refine hK.out _ _ ⟨(blk_cell (blk_alloc BK188.out _) 0).trans rfl, (blk_cell (blk_alloc BK188.out _) 1).trans rfl, (blk_cell (blk_alloc BK188.out _) 2).trans rfl, (blk_cell (blk_alloc BK188.out _) 3).trans rfl, (blk_cell (blk_alloc BK188.out _) 4).trans rfl, (blk_cell (blk_alloc BK188.out _) 5).trans rfl, (blk_cell (blk_alloc BK190.out _) 0).trans rfl, (blk_cell (blk_alloc BK190.out _) 1).trans rfl, (blk_cell (blk_alloc BK190.out _) 2).trans rfl, (blk_cell (blk_alloc BK190.out _) 3).trans rfl, (blk_cell (blk_alloc BK190.out _) 4).trans rfl⟩ (fun hHeld => ?_)
                        clear hK K
                        refine norm_ (a' := ?_) ?_ ?_
                        rotate_left
                        · show Act.put _ (some 39) _ = _
                          simp only [Act.put, List.setIfInBounds_toArray, List.set_cons_zero, List.set_cons_succ, i64_w, i32_w]
                          rfl
                        refine one_ (i := 5) (N := some 40) #[true, true, true, true, true, true, false, false] rfl rfl (one_of HT_.out (by kernel_rfl)) (by decide) (fun K hK => ?_)
                        refine Kd.R_append_step k33 (w0 := w) w.heap.size (by rfl) (.tmp 36) (.tmp 39) 31 33 (.agg #[(.string ⟨#[]⟩), (.string ⟨#[]⟩), (.int .i64 0), (.slice none 0 0), (.int .i64 0)]) 72 rfl Tryd.underlying31 info33 rfl (by decide) (by omega) u189002 x189002_2 (⟨t191, t192, t193, t194, t197⟩ : S33) [.string t191, .string t192, .int .i64 t193, .slice Ao40 t194.length co40, .int .i64 t197] (fun _ => True) (fun k_ => ((fun _ => True)) k_ ∧ some k_ ≠ (u189002 : Value).ownBlock) rfl rfl ?aP (fun _ hk => hk) ?aF ?aO ?aB ?aS ?aL ?_
                        (case aP => exact k33_mkM _ _ _ (⟨t191, t192, t193, t194, t197⟩ : S33) (Kd.R_mono (HO196.out) (fun k_ hk => ⟨trivial, hk.2⟩)))
                        (case aB => exact (by repeat (first | (with_reducible first | exact HB.out | apply below_alloc | apply pw_below_drewN | apply below_drew1 | refine below_set ?_ GE181.out | refine below_set ?_ GE188.out | refine below_set ?_ GE190.out) | exact HB.out)))
                        (case aF => exact (fun _ _ => trivial))
                        (case aO => exact (by (with_reducible repeat (first | apply Kd.R_alloc | apply Kd.R_drewN | apply Kd.R_drew)); exact Kd.R_mono HO_189002.out (fun _ hk => trivial)))
                        (case aS => exact (below_size (by repeat (first | (with_reducible first | exact HB.out | apply below_alloc | apply pw_below_drewN | apply below_drew1 | refine below_set ?_ GE181.out | refine below_set ?_ GE188.out | refine below_set ?_ GE190.out) | exact HB.out))))
                        (case aL => have := LMc31.out; omega)
                        intro v199 w39 ho hb hg hat
                        rw [← Ny198.out] at ho
                        have n0_ := Aside0.mk (Kd.R_after (ok := (fun k_ => some k_ ≠ (.slice Ao18 t182.length co18 : Value).ownBlock ∧ some k_ ≠ (.slice Ao17 t185.length co17 : Value).ownBlock ∧ some k_ ≠ (.slice Ao40 t194.length co40 : Value).ownBlock ∧ k_ ≠ gb188)) (by (with_reducible repeat (first | apply Kd.R_alloc | apply Kd.R_drewN | apply Kd.R_drew)); exact Kd.R_mono HO_3.out (fun _ hk => ⟨⟨hk.1.2.1, ⟨hk.1.2.2.1, ⟨hk.2, hk.1.2.2.2⟩⟩⟩, hk.1.1⟩)) hg hat)
                        have n1_ := Aside0.mk (Kd.R_after (ok := (fun k_ => some k_ ≠ (u3 : Value).ownBlock ∧ some k_ ≠ (.slice Ao17 t185.length co17 : Value).ownBlock ∧ some k_ ≠ (.slice Ao40 t194.length co40 : Value).ownBlock ∧ k_ ≠ gb188)) (by (with_reducible repeat (first | apply Kd.R_alloc | apply Kd.R_drewN | apply Kd.R_drew)); exact Kd.R_mono HO_189003.out (fun _ hk => ⟨⟨hk.1.1, ⟨hk.1.2.2.1, ⟨hk.2, hk.1.2.2.2⟩⟩⟩, hk.1.2.1⟩)) hg hat)
                        have n2_ := Aside0.mk (Kd.R_after (ok := (fun k_ => some k_ ≠ (u3 : Value).ownBlock ∧ some k_ ≠ (.slice Ao18 t182.length co18 : Value).ownBlock ∧ some k_ ≠ (.slice Ao40 t194.length co40 : Value).ownBlock ∧ k_ ≠ gb188)) (by (with_reducible repeat (first | apply Kd.R_alloc | apply Kd.R_drewN | apply Kd.R_drew)); exact Kd.R_mono HO_189004.out (fun _ hk => ⟨⟨hk.1.1, ⟨hk.1.2.2.1, ⟨hk.2, hk.1.2.2.2⟩⟩⟩, hk.1.2.1⟩)) hg hat)
                        have n3_ := Aside0.mk (blk_grown (g := gb181) (o := .cells #[.string ((rd_T29 l0 x11_1).f0), .string ((rd_T29 l0 x11_1).f1), .slice (some ad189) ((rd_T29 l0 x11_1).f2).length c180_2, .slice A180_3 ((rd_T29 l0 x11_1).f3).length c180_3, .slice A180_4 ((rd_T29 l0 x11_1).f4).length c180_4, .int .i64 ((rd_T29 l0 x11_1).f5)] 29 (0, 0)) (by (with_reducible repeat (first | refine blk_drewN ?_ _ | refine blk_drew ?_ | refine blk_alloc ?_ _)); exact BK181.out) hg (Kd.R_ne HO_189002.out BK181.out (by decide)))
                        have n4_ := Aside0.mk (blk_grown (g := gb188) (o := .cells #[.string ((rd_T29 l0 x11_1).f0), .string ((rd_T29 l0 x11_1).f1), u189002, .slice Ao18 t182.length co18, .slice Ao17 t185.length co17, .int .i64 ((rd_T29 l0 x11_1).f5)] 76 (0, 0)) (by (with_reducible repeat (first | refine blk_drewN ?_ _ | refine blk_drew ?_ | refine blk_alloc ?_ _)); exact BK188.out) hg (Kd.R_ne HO_189002.out BK188.out (by decide)))
                        have n5_ := Aside0.mk (blk_grown (g := gb190) (o := .cells #[.string ((rd_T24 ((rd_T29 l0 x11_1).f2) x31_2).f0), .string ((rd_T24 ((rd_T29 l0 x11_1).f2) x31_2).f1), .int .i64 ((rd_T24 ((rd_T29 l0 x11_1).f2) x31_2).f2), .slice A189_3 ((rd_T24 ((rd_T29 l0 x11_1).f2) x31_2).f3).length c189_3, .int .i64 ((rd_T24 ((rd_T29 l0 x11_1).f2) x31_2).f4)] 24 (0, 0)) (by (with_reducible repeat (first | refine blk_drewN ?_ _ | refine blk_drew ?_ | refine blk_alloc ?_ _)); exact BK190.out) hg (Kd.R_ne HO_189002.out BK190.out (by decide)))
                        have n6_ := Aside0.mk (hb)
                        have n7_ := Aside0.mk (ho)
                        clear HO_3
                        clear HO_189003
                        clear HO_189004
                        clear BK181
                        clear BK188
                        clear BK190
                        clear HB
                        clear HO_189002
                        clear HO196
                        have HO_3 := n0_
                        have HO_189003 := n1_
                        have HO_189004 := n2_
                        have BK181 := n3_
                        have BK188 := n4_
                        have BK190 := n5_
                        have HB := n6_
                        have HO200 := n7_
                        clear n0_ n1_ n2_ n3_ n4_ n5_ n6_ n7_
                        clear ho hb hg hat
                        obtain ⟨Ao41, co41, eo41⟩ := Kd.R_slice HO200.out
                        (first | subst eo41 | (injection eo41 with f1_ f2_ f3_; have f4_ := f1_.symm; have f5_ := f3_.symm; clear f1_ f2_ f3_; subst f4_; subst f5_))
                        refine hK.out _ _ ⟨(blk_cell BK188.out 0).trans rfl, (blk_cell BK188.out 1).trans rfl, (blk_cell BK188.out 2).trans rfl, (blk_cell BK188.out 3).trans rfl, (blk_cell BK188.out 4).trans rfl, (blk_cell BK188.out 5).trans rfl, (blk_cell BK190.out 0).trans rfl, (blk_cell BK190.out 1).trans rfl, (blk_cell BK190.out 2).trans rfl, (blk_cell BK190.out 3).trans rfl, (blk_cell BK190.out 4).trans rfl⟩ (fun hHeld => ?_)
                        clear hK K
                        refine norm_ (a' := ?_) ?_ ?_
                        rotate_left
                        · show Act.put _ (some 40) _ = _
                          simp only [Act.put, List.setIfInBounds_toArray, List.set_cons_zero, List.set_cons_succ, i64_w, i32_w]
                          rfl
                        refine pure_ (i := 6) (N := some 41) (v := ?_) (a' := ?_) #[true, true, true, true, true, true, true, false] rfl rfl (any_of HT_.out (by kernel_rfl)) (fun _ _ _ h => h) (Or.inl ⟨by rfl, ?_⟩) ?_ ?_
                        rotate_left
                        · intro w'
                          go_simp
                          with_reducible rfl
                        rotate_left
                        · simp only [Act.put, List.setIfInBounds_toArray, List.set_cons_zero, List.set_cons_succ, i64_w, i32_w]
                          rfl
                        refine last_ (i := 7) (N := none) #[true, true, true, true, true, true, true, true] rfl rfl (one_of HT_.out (by kernel_rfl)) (by decide) (fun K hK => ?_)
                        have hs42 : w39.cell? ⟨gb188, 2, none⟩ = some (u189002) := (blk_cell BK188.out 2).trans rfl
                        have hfs42 := blk_frozen BK188.out 2
                        have hns42_0 := NB181_188.out
                        have hns42_2 := NB190_188.out
                        have hms42_0 := NB188_181.out
                        have hms42_2 := NB188_190.out
                        refine skip_ (w1 := ?_) (by rfl) rfl ?_ ?_
                        rotate_left
                        · go_simp
                          rfl
                        refine hK.out _ _ ?_
                        clear hK K
                        refine done_ (done_of HT_.out (by kernel_rfl)) ?_
                        try go_wp2
                        go_roundg k2
                        case measure => have := HK1.out; have := HK2.out; omega
                        case rel => exact ⟨(wrap64 (x31_2 + 1)), (y198), (.slice Ao41 y198.length co41), (by first | rfl | (simp; done) | (simp [*]; done)), H', ⟨by have := HK1.out; have := HK2.out; omega⟩, ⟨by (with_reducible repeat (first | apply Kd.R_alloc | apply Kd.R_drewN | apply Kd.R_drew)); exact Kd.R_mono (Kd.R_far (p := ⟨gb188, 2, none⟩) (Kd.R_mono HO_3.out (fun k_ hk => (⟨hk, hk.1.2.2.2⟩ : _ ∧ k_ ≠ gb188))) (fun _ hk => hk.2) (.slice Ao41 y198.length co41)) (fun _ hk => ⟨hk.1.2, ⟨hk.1.1.1, ⟨hk.1.1.2.1, hk.1.1.2.2.2⟩⟩⟩)⟩, ⟨by (with_reducible repeat (first | apply Kd.R_alloc | apply Kd.R_drewN | apply Kd.R_drew)); exact Kd.R_mono (Kd.R_far (p := ⟨gb188, 2, none⟩) (Kd.R_types HO200.out BK188.out (by decide)) (fun _ hk => hk.2) (.slice Ao41 y198.length co41)) (fun _ hk => trivial)⟩, ⟨by (with_reducible repeat (first | apply Kd.R_alloc | apply Kd.R_drewN | apply Kd.R_drew)); exact Kd.R_mono (Kd.R_far (p := ⟨gb188, 2, none⟩) (Kd.R_mono HO_189003.out (fun k_ hk => (⟨hk, hk.1.2.2.2⟩ : _ ∧ k_ ≠ gb188))) (fun _ hk => hk.2) (.slice Ao41 y198.length co41)) (fun _ hk => ⟨hk.1.1.1, ⟨hk.1.2, ⟨hk.1.1.2.1, hk.1.1.2.2.2⟩⟩⟩)⟩, ⟨by (with_reducible repeat (first | apply Kd.R_alloc | apply Kd.R_drewN | apply Kd.R_drew)); exact Kd.R_mono (Kd.R_far (p := ⟨gb188, 2, none⟩) (Kd.R_mono HO_189004.out (fun k_ hk => (⟨hk, hk.1.2.2.2⟩ : _ ∧ k_ ≠ gb188))) (fun _ hk => hk.2) (.slice Ao41 y198.length co41)) (fun _ hk => ⟨hk.1.1.1, ⟨hk.1.2, ⟨hk.1.1.2.1, hk.1.1.2.2.2⟩⟩⟩)⟩, ⟨by (with_reducible repeat (first | refine blk_drewN ?_ _ | refine blk_drew ?_ | refine blk_alloc ?_ _)); refine blk_far ?_ NB181_188.out _; (with_reducible repeat (first | refine blk_drewN ?_ _ | refine blk_drew ?_ | refine blk_alloc ?_ _)); exact BK181.out⟩, ⟨by (with_reducible repeat (first | refine blk_drewN ?_ _ | refine blk_drew ?_ | refine blk_alloc ?_ _)); refine blk_put (cs := #[.string ((rd_T29 l0 x11_1).f0), .string ((rd_T29 l0 x11_1).f1), u189002, .slice Ao18 t182.length co18, .slice Ao17 t185.length co17, .int .i64 ((rd_T29 l0 x11_1).f5)]) ?_ 2 _ rfl; (with_reducible repeat (first | refine blk_drewN ?_ _ | refine blk_drew ?_ | refine blk_alloc ?_ _)); exact BK188.out⟩, ⟨by repeat (first | (with_reducible first | exact HB.out | apply below_alloc | apply pw_below_drewN | apply below_drew1 | refine below_set ?_ GE181.out | refine below_set ?_ GE188.out | refine below_set ?_ GE190.out) | exact HB.out)⟩⟩
                      · rw [if_neg c31] at H
                        exact absurd H (by simp)
                    · rw [if_neg c29] at H
                      exact absurd H (by simp)
                  · rw [if_neg c28] at H
                    exact absurd H (by simp)
                · rw [if_neg c27] at H
                  have c27b0 : decide (x31_2 < (((rd_T29 l0 x11_1).f2).length : Int)) = false := decide_eq_false c27
                  clear c27
                  by_cases c43 : x3_1.length < 1256584717458
                  · rw [if_pos c43] at H
                    have LMc43 := Aside0.mk c43
                    clear c43
                    obtain ⟨y201, hy201⟩ : ∃ y_ : List (S76), y_ = (x3_1 ++ [(⟨((rd_T29 l0 x11_1).f0), ((rd_T29 l0 x11_1).f1), x189002_2, t182, t185, ((rd_T29 l0 x11_1).f5)⟩ : S76)]) := ⟨_, rfl⟩
                    replace H : (helmsmanlaw12_Stmts.l0 k2 y201 l0 (l0.length : Int) (wrap64 (x11_1 + 1))) = some r := by first | (rw [hy201]; with_reducible exact H) | (have H2_ := (Option.bind_some _ _).symm.trans H; rw [hy201]; with_reducible exact H2_) | (have H2_ := (Option.bind_some _ _).symm.trans H; with_reducible exact H2_) | with_reducible exact H | (rw [hy201]; exact H) | exact H
                    have Ny201 := Aside0.mk hy201
                    clear hy201
                    have H' := Aside0.mk H
                    clear H
                    have hnb44 := NB188_181.out
                    have hnc44 := NB181_188.out
                    have hcz45_0 : wr.cell? ⟨gb188, 0, none⟩ = some (.string ((rd_T29 l0 x11_1).f0)) := (blk_cell BK188.out 0).trans rfl
                    have hcz45_1 : wr.cell? ⟨gb188, 1, none⟩ = some (.string ((rd_T29 l0 x11_1).f1)) := (blk_cell BK188.out 1).trans rfl
                    have hcz45_2 : wr.cell? ⟨gb188, 2, none⟩ = some (u189002) := (blk_cell BK188.out 2).trans rfl
                    have hcz45_3 : wr.cell? ⟨gb188, 3, none⟩ = some (.slice Ao18 t182.length co18) := (blk_cell BK188.out 3).trans rfl
                    have hcz45_4 : wr.cell? ⟨gb188, 4, none⟩ = some (.slice Ao17 t185.length co17) := (blk_cell BK188.out 4).trans rfl
                    have hcz45_5 : wr.cell? ⟨gb188, 5, none⟩ = some (.int .i64 ((rd_T29 l0 x11_1).f5)) := (blk_cell BK188.out 5).trans rfl
                    have hfz45_0 := blk_frozen BK188.out 0
                    have hfz45_1 := blk_frozen BK188.out 1
                    have hfz45_2 := blk_frozen BK188.out 2
                    have hfz45_3 := blk_frozen BK188.out 3
                    have hfz45_4 := blk_frozen BK188.out 4
                    have hfz45_5 := blk_frozen BK188.out 5
                    obtain ⟨Ao47, co47, eo47⟩ := Kd.R_slice HO_189002.out
                    subst eo47
                    go_wp2_with (first | ((with_reducible refine gate_builtin (b := .append) (xs := #[.tmp 43, .tmp 45]) rfl ?_); at_builtin; refine Kd.R_append k76 (w0 := w) w.heap.size rfl (.tmp 43) (.tmp 45) 48 76 (.agg #[(.string ⟨#[]⟩), (.string ⟨#[]⟩), (.slice none 0 0), (.slice none 0 0), (.slice none 0 0), (.int .i64 0)]) 112 rfl Tryd.underlying48 info76 rfl (by decide) (by omega) u3 x3_1 (⟨((rd_T29 l0 x11_1).f0), ((rd_T29 l0 x11_1).f1), x189002_2, t182, t185, ((rd_T29 l0 x11_1).f5)⟩ : S76) [.string ((rd_T29 l0 x11_1).f0), .string ((rd_T29 l0 x11_1).f1), .slice Ao47 x189002_2.length co47, .slice Ao18 t182.length co18, .slice Ao17 t185.length co17, .int .i64 ((rd_T29 l0 x11_1).f5)] (fun k_ => k_ ≠ gb188) (fun k_ => ((fun k_ => k_ ≠ gb188)) k_ ∧ some k_ ≠ (u3 : Value).ownBlock) rfl rfl ?aP (fun _ hk => hk) ?aF ?aO ?aB ?aS ?aL ?_; (case aP => exact k76_mkM _ _ _ (⟨((rd_T29 l0 x11_1).f0), ((rd_T29 l0 x11_1).f1), x189002_2, t182, t185, ((rd_T29 l0 x11_1).f5)⟩ : S76) (Kd.R_mono (Kd.R_types (Kd.R_apart' (HO_189002.out) (Kd.R_typed HO_3.out) (by decide)) BK188.out (by decide)) (fun k_ hk => ⟨hk.2, hk.1.2⟩)) (Kd.R_mono (HO_189003.out) (fun k_ hk => ⟨hk.2.2.2, hk.1⟩)) (Kd.R_mono (HO_189004.out) (fun k_ hk => ⟨hk.2.2.2, hk.1⟩))); (case aB => exact (by repeat (first | (with_reducible first | exact HB.out | apply below_alloc | apply pw_below_drewN | apply below_drew1 | refine below_set ?_ GE181.out | refine below_set ?_ GE188.out) | exact HB.out))); (case aF => exact (fun k_ hk => Kd.freshB (g := gb188) (o := .cells #[.string ((rd_T29 l0 x11_1).f0), .string ((rd_T29 l0 x11_1).f1), .slice Ao47 x189002_2.length co47, .slice Ao18 t182.length co18, .slice Ao17 t185.length co17, .int .i64 ((rd_T29 l0 x11_1).f5)] 76 (0, 0)) (by (with_reducible repeat (first | refine blk_drewN ?_ _ | refine blk_drew ?_ | refine blk_alloc ?_ _)); exact BK188.out) k_ hk)); (case aO => exact (by (with_reducible repeat (first | apply Kd.R_alloc | apply Kd.R_drewN | apply Kd.R_drew)); exact Kd.R_mono HO_3.out (fun _ hk => hk.2.2.2))); (case aS => exact (below_size (by repeat (first | (with_reducible first | exact HB.out | apply below_alloc | apply pw_below_drewN | apply below_drew1 | refine below_set ?_ GE181.out | refine below_set ?_ GE188.out) | exact HB.out)))); (case aL => have := LMc43.out; omega); intro v202 w46 ho hb hg hat; rw [← Ny201.out] at ho; have n0_ := Aside0.mk (blk_grown (g := gb181) (o := .cells #[.string ((rd_T29 l0 x11_1).f0), .string ((rd_T29 l0 x11_1).f1), .slice A180_2 ((rd_T29 l0 x11_1).f2).length c180_2, .slice A180_3 ((rd_T29 l0 x11_1).f3).length c180_3, .slice A180_4 ((rd_T29 l0 x11_1).f4).length c180_4, .int .i64 ((rd_T29 l0 x11_1).f5)] 29 (0, 0)) (by (with_reducible repeat (first | refine blk_drewN ?_ _ | refine blk_drew ?_ | refine blk_alloc ?_ _)); exact BK181.out) hg (Kd.R_ne HO_3.out BK181.out (by decide))); have n1_ := Aside0.mk (blk_grown (g := gb188) (o := .cells #[.string ((rd_T29 l0 x11_1).f0), .string ((rd_T29 l0 x11_1).f1), .slice Ao47 x189002_2.length co47, .slice Ao18 t182.length co18, .slice Ao17 t185.length co17, .int .i64 ((rd_T29 l0 x11_1).f5)] 76 (0, 0)) (by (with_reducible repeat (first | refine blk_drewN ?_ _ | refine blk_drew ?_ | refine blk_alloc ?_ _)); exact BK188.out) hg (Kd.R_away HO_3.out (fun _ hk => hk.2.2.2))); have n2_ := Aside0.mk (hb); have n3_ := Aside0.mk (ho); clear BK181; clear BK188; clear HB; clear HO_3; clear HO_189002; clear HO_189003; clear HO_189004; have BK181 := n0_; have BK188 := n1_; have HB := n2_; have HO203 := n3_; clear n0_ n1_ n2_ n3_; clear ho hb hg hat))
                    go_roundg k2
                    case measure => have := HK1.out; have := HK2.out; omega
                    case rel => exact ⟨(y201), (wrap64 (x11_1 + 1)), (by first | rfl | (simp; done) | (simp [*]; done)), H', ⟨by have := HK1.out; have := HK2.out; omega⟩, ⟨by (with_reducible repeat (first | apply Kd.R_alloc | apply Kd.R_drewN | apply Kd.R_drew)); exact Kd.R_mono HO203.out (fun _ hk => trivial)⟩, ⟨by repeat (first | (with_reducible first | exact HB.out | apply below_alloc | apply pw_below_drewN | apply below_drew1 | refine below_set ?_ GE181.out | refine below_set ?_ GE188.out) | exact HB.out)⟩⟩
                  · rw [if_neg c43] at H
                    exact absurd H (by simp)
          · rw [if_neg c4] at H
            exact absurd H (by simp)
        · rw [if_neg c3] at H
          exact absurd H (by simp)
      · rw [if_neg c2] at H
        have c2b0 : decide (x11_1 < (l0.length : Int)) = false := decide_eq_false c2
        clear c2
        obtain rfl := Option.some.inj H
        go_wp2
        go_ret
        exact ⟨_, by first | rfl | (simp [errW_none, errW_some] <;> rfl) | (simp [*, errW_none, errW_some] <;> rfl), by (with_reducible repeat (first | apply Kd.R_alloc | apply Kd.R_drewN | apply Kd.R_drew)); exact HO_3.out, by repeat (first | (with_reducible first | exact HB.out | apply below_alloc | apply pw_below_drewN | apply below_drew1) | exact HB.out)⟩

end Go.Proofs.YtnnbbeloifhofaaDoor.P
end

section
namespace Go.Proofs.YtnnbbeloifhofaaDoor.P
open Go.RowKit Go.Proofs.YtnnbbeloifhofaaDoorW.PrintWords Go.Proofs.YtnnbbeloifhofaaDoorW.PrintLast Go.Proofs.YtnnbbeloifhofaaDoorW.PrintMore
attribute [local go_sem] max2_int min2_int max_two min_two max_three min_three max_four min_four   -- for this text's walks alone
set_option linter.unusedVariables false
set_option linter.unusedSimpArgs false

/-! ### helmsmanlaw12_movedExprs: function 52 -/
mutual
def helmsmanlaw12_movedExprs.l0 : Nat → Int → List (S33) → List (S33) → Int → Int → Option ((List (S33)))
  | 0, _, _, _, _, _ => none
  | k + 1, x1, x5, x9, x10, x11 => if x11 < x10 then (if 0 ≤ x11 then (if x11 < (x9.length : Int) then ((helmsmanlaw12_movedExprs.f k ((rd_T33 x9 x11).f3) x1).bind fun t427 => (if x5.length < 1954687338268 then (helmsmanlaw12_movedExprs.l0 k x1 (x5 ++ [(⟨(rd_T33 x9 x11).f0, (rd_T33 x9 x11).f1, (rd_T33 x9 x11).f2, t427, wrap64 (((rd_T33 x9 x11).f4) + x1)⟩ : S33)]) x9 x10 (wrap64 (x11 + 1))) else (none))) else (none)) else (none)) else (some x5)
def helmsmanlaw12_movedExprs.f : Nat → List (S33) → Int → Option ((List (S33)))
  | 0, _, _ => none
  | k + 1, l0, a1 => helmsmanlaw12_movedExprs.l0 k a1 ([] : List (S33)) l0 (l0.length : Int) 0
end
theorem helmsmanlaw12_movedExprs.mono_l : ∀ k, (∀ y0 y1, LeO (helmsmanlaw12_movedExprs.f k y0 y1) (helmsmanlaw12_movedExprs.f (k + 1) y0 y1)) ∧ (∀ y0 y1 y2 y3 y4, LeO (helmsmanlaw12_movedExprs.l0 k y0 y1 y2 y3 y4) (helmsmanlaw12_movedExprs.l0 (k + 1) y0 y1 y2 y3 y4))
  | 0 => ⟨fun _ _ r h => by simp [helmsmanlaw12_movedExprs.f] at h, fun _ _ _ _ _ r h => by simp [helmsmanlaw12_movedExprs.l0] at h⟩
  | k + 1 => by
    obtain ⟨ih0, ih1⟩ := helmsmanlaw12_movedExprs.mono_l k
    refine ⟨?_, ?_⟩
    · intro y0 y1
      unfold helmsmanlaw12_movedExprs.f
      repeat' first
      | (with_reducible exact ih0 _ _)
      | (with_reducible exact ih1 _ _ _ _ _)
      | (with_reducible exact LeO.refl _)
      | (with_reducible exact LeO.none _)
      | (with_reducible refine LeO.ite ?_ ?_)
      | (with_reducible refine LeO.bind ?_ (fun _ => ?_))
      | exact ih0 _ _
      | exact ih1 _ _ _ _ _
      | exact LeO.none _
      | refine LeO.ite ?_ ?_
      | refine LeO.bind ?_ (fun _ => ?_)
    · intro y0 y1 y2 y3 y4
      unfold helmsmanlaw12_movedExprs.l0
      repeat' first
      | (with_reducible exact ih0 _ _)
      | (with_reducible exact ih1 _ _ _ _ _)
      | (with_reducible exact LeO.refl _)
      | (with_reducible exact LeO.none _)
      | (with_reducible refine LeO.ite ?_ ?_)
      | (with_reducible refine LeO.bind ?_ (fun _ => ?_))
      | exact ih0 _ _
      | exact ih1 _ _ _ _ _
      | exact LeO.none _
      | refine LeO.ite ?_ ?_
      | refine LeO.bind ?_ (fun _ => ?_)
theorem helmsmanlaw12_movedExprs.mono : ∀ a0 a1 k, LeO (helmsmanlaw12_movedExprs.f k a0 a1) (helmsmanlaw12_movedExprs.f (k + 1) a0 a1) := by
  intro a0 a1 k
  obtain ⟨ih0, ih1⟩ := helmsmanlaw12_movedExprs.mono_l k
  exact ih0 a0 a1
def helmsmanlaw12_movedExprs.T6 : Bool × List (List Nat × List Nat) := (true, [([], []), ([0], [0]), ([], []), ([1, 2], [1, 2]), ([], []), ([4], [4]), ([], []), ([5, 6], [5, 6]), ([0, 1, 2, 3], []), ([8, 3, 7, 0, 1, 2, 3], [3, 8]), ([0, 1, 2, 3, 4, 5, 6, 7, 8, 9], []), ([10, 7, 9, 0, 1, 2, 3, 4, 5, 6, 7, 8, 9], [7, 10])])
def helmsmanlaw12_movedExprs.B6 : List Nat := [0, 1, 0, 7, 0, 16, 0, 112, 15, 511, 1023, 2047]
theorem helmsmanlaw12_movedExprs.tab6 : rtab .any (opsOf Tryd.f52 6) = helmsmanlaw12_movedExprs.T6 := by kernel_rfl
theorem helmsmanlaw12_movedExprs.bits6 : waitsOk helmsmanlaw12_movedExprs.T6.2 helmsmanlaw12_movedExprs.B6 = true := by kernel_rfl
set_option maxHeartbeats 8000000 in
set_option maxRecDepth 100000 in
theorem helmsmanlaw12_movedExprs.calls (k : Nat) : ∀ (A0 : Option Addr) (c0 : Nat) (l0 : List (S33)) (a1 : Int) (r : List (S33)) (w : World) (hr0 : Kd.C k33 w A0 l0.length l0) (hc0 : l0.length ≤ c0) (h : helmsmanlaw12_movedExprs.f k l0 a1 = some r),
    Calls Tryd.prog 52 #[.slice A0 l0.length c0, .int .i64 a1] w fun e w' => ∃ v0_ : Value, e = .returned (v0_) ∧ Kd.R k33 33 w' w.heap.size (fun _ => True) v0_ r ∧ Below w.heap.size w w' := by
  induction k using Nat.strongRecOn with
  | _ k ih =>
  intro A0 c0 l0 a1 r w hr0 hc0 h
  cases k with
  | zero => exact absurd h (by simp [helmsmanlaw12_movedExprs.f])
  | succ k =>
  simp only [helmsmanlaw12_movedExprs.f] at h
  have hu33 := Tryd.underlying33
  have HR0 := Aside0.mk hr0
  have HC0 := Aside0.mk hc0
  clear hr0 hc0
  have HB := Aside0.mk (Below.refl w.heap.size w)
  have H : (helmsmanlaw12_movedExprs.l0 k a1 ([] : List (S33)) l0 (l0.length : Int) 0) = some r := h
  clear h
  have H' := Aside0.mk H
  clear H
  go_enter Tryd.func52, Tryd.ntmps52
  go_wp2
  (try simp only [Act.put, List.setIfInBounds_toArray, List.set_cons_succ, List.set_cons_zero])
  go_loopg [5, 11] k (fun kq v5 v11 w' => ∃ (x5_1 : List (S33)) (x11_1 : Int), v11 = .int .i64 x11_1 ∧ Aside0 (helmsmanlaw12_movedExprs.l0 kq a1 x5_1 l0 (l0.length : Int) x11_1 = some r) ∧ Aside0 (kq ≤ k) ∧ Aside0 (Kd.R k33 33 w' w.heap.size (fun _ => True) v5 x5_1) ∧ Aside0 (Below w.heap.size w w'))
  case atStart => exact ⟨(([] : List (S33))), (0), (by first | rfl | (simp; done) | (simp [*]; done)), H', ⟨Nat.le_refl _⟩, ⟨by first | exact Kd.R_nil _ _ _ _ _ | exact Kd.N_nil _ _ _ _ _ | exact Kd.V_nil _ _ _ _ _ | exact Kd.Q_nil _ _ _ _ _ | exact Kd.S_nil _ _ _ _ _⟩, ⟨by repeat (first | (with_reducible first | exact HB.out | apply below_alloc | apply pw_below_drewN | apply below_drew1) | exact HB.out)⟩⟩
  case round =>
    clear H'
    try clear p2
    obtain ⟨x5_1, x11_1, rfl, HA, HK1, HO_5, HB⟩ := hrel
    cases gk with
    | zero => exact absurd HA.out (by simp [helmsmanlaw12_movedExprs.l0])
    | succ k1 =>
      have H := HA.out
      clear HA
      simp only [helmsmanlaw12_movedExprs.l0] at H
      by_cases c3 : x11_1 < (l0.length : Int)
      · rw [if_pos c3] at H
        have c3b0 : decide (x11_1 < (l0.length : Int)) = true := decide_eq_true c3
        clear c3
        by_cases c4 : 0 ≤ x11_1
        · rw [if_pos c4] at H
          have c4b0 : decide (0 ≤ x11_1) = true := decide_eq_true c4
          clear c4
          by_cases c5 : x11_1 < (l0.length : Int)
          · rw [if_pos c5] at H
            have c5b0 : decide (x11_1 < (l0.length : Int)) = true := decide_eq_true c5
            clear c5
            replace H := Option.bind_eq_some_iff.mp H
            obtain ⟨t427, A60, H⟩ := H
            replace H : (if x5_1.length < 1954687338268 then (helmsmanlaw12_movedExprs.l0 k1 a1 (x5_1 ++ [(⟨(rd_T33 l0 x11_1).f0, (rd_T33 l0 x11_1).f1, (rd_T33 l0 x11_1).f2, t427, wrap64 (((rd_T33 l0 x11_1).f4) + a1)⟩ : S33)]) l0 (l0.length : Int) (wrap64 (x11_1 + 1))) else (none)) = some r := H
            have A6 := Aside0.mk A60
            clear A60
            by_cases c7 : x5_1.length < 1954687338268
            · rw [if_pos c7] at H
              have LMc7 := Aside0.mk c7
              clear c7
              obtain ⟨y430, hy430⟩ : ∃ y_ : List (S33), y_ = (x5_1 ++ [(⟨(rd_T33 l0 x11_1).f0, (rd_T33 l0 x11_1).f1, (rd_T33 l0 x11_1).f2, t427, wrap64 (((rd_T33 l0 x11_1).f4) + a1)⟩ : S33)]) := ⟨_, rfl⟩
              replace H : (helmsmanlaw12_movedExprs.l0 k1 a1 y430 l0 (l0.length : Int) (wrap64 (x11_1 + 1))) = some r := by first | (rw [hy430]; with_reducible exact H) | (have H2_ := (Option.bind_some _ _).symm.trans H; rw [hy430]; with_reducible exact H2_) | (have H2_ := (Option.bind_some _ _).symm.trans H; with_reducible exact H2_) | with_reducible exact H | (rw [hy430]; exact H) | exact H
              have Ny430 := Aside0.mk hy430
              clear hy430
              have H' := Aside0.mk H
              clear H
              have p424 : 0 ≤ (x11_1 : Int) := of_decide_eq_true (by first | (with_reducible assumption) | assumption)
              have q424 : x11_1 < (l0.length : Int) := of_decide_eq_true (by first | (with_reducible assumption) | assumption)
              obtain ⟨ad424, A424_3, c424_3, e424, hx424_0, hx424_1, hx424_2, hx424_3, hx424_4, hl424_3, hi424_3⟩ := at_T33 HR0.out x11_1 p424 q424
              cases e424
              replace hx424_0 := (HB.out.cell (World.block_lt_of_cell? w _ hx424_0)).trans hx424_0
              replace hx424_1 := (HB.out.cell (World.block_lt_of_cell? w _ hx424_1)).trans hx424_1
              replace hx424_2 := (HB.out.cell (World.block_lt_of_cell? w _ hx424_2)).trans hx424_2
              replace hx424_3 := (HB.out.cell (World.block_lt_of_cell? w _ hx424_3)).trans hx424_3
              replace hx424_4 := (HB.out.cell (World.block_lt_of_cell? w _ hx424_4)).trans hx424_4
              have HR424_3 := Aside0.mk hi424_3
              have HC424_3 := Aside0.mk hl424_3
              clear hi424_3 hl424_3
              replace p424 := eq_true p424
              replace q424 := eq_true q424
              try go_wp2_with (first | ((with_reducible refine gate_dst (N := 7) rfl ?_); refine box_event ?hg (N := 7) ?hd (cs := #[.string (⟨#[]⟩ : ByteArray), .string (⟨#[]⟩ : ByteArray), .int .i64 0, .slice none 0 0, .int .i64 0]) (t := 33) ?hr ?_; (case hd => rfl); (case hg => rfl); (case hr => first | (go_simp; done) | (go_simp; rfl)); intro gb425 hg w8 hbox hb; have n0_ := Aside0.mk (Kd.R_below (Kd.R_elderB (by (with_reducible repeat (first | apply Kd.R_alloc | apply Kd.R_drewN | apply Kd.R_drew)); exact HO_5.out) gb425 (Nat.le_of_eq hg.symm)) hb); have n1_ := Aside0.mk (below_step (by repeat (first | (with_reducible first | exact HB.out | apply below_alloc | apply pw_below_drewN | apply below_drew1) | exact HB.out)) hb); have n2_ := Aside0.mk (hbox); have n3_ := Aside0.mk ((by rw [hg]; exact (below_size (by repeat (first | (with_reducible first | exact HB.out | apply below_alloc | apply pw_below_drewN | apply below_drew1) | exact HB.out))) : w.heap.size ≤ gb425)); have n4_ := Aside0.mk ((by rw [hg]; exact (below_size (by repeat (first | (with_reducible first | exact HB.out | apply below_alloc | apply pw_below_drewN | apply below_drew1) | exact HB.out))) : w.heap.size ≤ gb425)); clear HO_5; clear HB; have HO_5 := n0_; have HB := n1_; have BK425 := n2_; have GW425 := n3_; have GE425 := n4_; clear n0_ n1_ n2_ n3_ n4_; clear hb hbox hg; have hcz9_0 : w8.cell? ⟨gb425, 0, none⟩ = some (.string (⟨#[]⟩ : ByteArray)) := (blk_cell BK425.out 0).trans rfl; have hcz9_1 : w8.cell? ⟨gb425, 1, none⟩ = some (.string (⟨#[]⟩ : ByteArray)) := (blk_cell BK425.out 1).trans rfl; have hcz9_2 : w8.cell? ⟨gb425, 2, none⟩ = some (.int .i64 0) := (blk_cell BK425.out 2).trans rfl; have hcz9_3 : w8.cell? ⟨gb425, 3, none⟩ = some (.slice none 0 0) := (blk_cell BK425.out 3).trans rfl; have hcz9_4 : w8.cell? ⟨gb425, 4, none⟩ = some (.int .i64 0) := (blk_cell BK425.out 4).trans rfl; have hfz9_0 := blk_frozen BK425.out 0; have hfz9_1 := blk_frozen BK425.out 1; have hfz9_2 := blk_frozen BK425.out 2; have hfz9_3 := blk_frozen BK425.out 3; have hfz9_4 := blk_frozen BK425.out 4) | ((with_reducible refine gate_dst (N := 8) rfl ?_); refine box_event ?hg (N := 8) ?hd (cs := #[.string (⟨#[]⟩ : ByteArray), .string (⟨#[]⟩ : ByteArray), .int .i64 0, .slice none 0 0, .int .i64 0]) (t := 33) ?hr ?_; (case hd => rfl); (case hg => rfl); (case hr => first | (go_simp; done) | (go_simp; rfl)); intro gb426 hg w10 hbox hb; have n0_ := Aside0.mk (Kd.R_below (Kd.R_elderB (by (with_reducible repeat (first | apply Kd.R_alloc | apply Kd.R_drewN | apply Kd.R_drew)); exact (Kd.R_mono (Kd.R_far (p := ⟨gb425, 4, none⟩) (Kd.R_far (p := ⟨gb425, 3, none⟩) (Kd.R_far (p := ⟨gb425, 2, none⟩) (Kd.R_far (p := ⟨gb425, 1, none⟩) (Kd.R_far (p := ⟨gb425, 0, none⟩) (Kd.R_mono HO_5.out (fun k_ hk => (⟨hk, hk.2⟩ : _ ∧ k_ ≠ gb425))) (fun _ hk => hk.2) (.string ((rd_T33 l0 x11_1).f0))) (fun _ hk => hk.2) (.string ((rd_T33 l0 x11_1).f1))) (fun _ hk => hk.2) (.int .i64 ((rd_T33 l0 x11_1).f2))) (fun _ hk => hk.2) (.slice A424_3 ((rd_T33 l0 x11_1).f3).length c424_3)) (fun _ hk => hk.2) (.int .i64 ((rd_T33 l0 x11_1).f4))) (fun _ h_ => h_.1))) gb426 (Nat.le_of_eq hg.symm)) hb); have n1_ := Aside0.mk (blk_below (g := gb425) (o := .cells #[.string ((rd_T33 l0 x11_1).f0), .string ((rd_T33 l0 x11_1).f1), .int .i64 ((rd_T33 l0 x11_1).f2), .slice A424_3 ((rd_T33 l0 x11_1).f3).length c424_3, .int .i64 ((rd_T33 l0 x11_1).f4)] 33 (0, 0)) (by (with_reducible repeat (first | refine blk_drewN ?_ _ | refine blk_drew ?_ | refine blk_alloc ?_ _)); refine blk_put (cs := #[.string ((rd_T33 l0 x11_1).f0), .string ((rd_T33 l0 x11_1).f1), .int .i64 ((rd_T33 l0 x11_1).f2), .slice A424_3 ((rd_T33 l0 x11_1).f3).length c424_3, .int .i64 0]) ?_ 4 _ rfl; (with_reducible repeat (first | refine blk_drewN ?_ _ | refine blk_drew ?_ | refine blk_alloc ?_ _)); refine blk_put (cs := #[.string ((rd_T33 l0 x11_1).f0), .string ((rd_T33 l0 x11_1).f1), .int .i64 ((rd_T33 l0 x11_1).f2), .slice none 0 0, .int .i64 0]) ?_ 3 _ rfl; (with_reducible repeat (first | refine blk_drewN ?_ _ | refine blk_drew ?_ | refine blk_alloc ?_ _)); refine blk_put (cs := #[.string ((rd_T33 l0 x11_1).f0), .string ((rd_T33 l0 x11_1).f1), .int .i64 0, .slice none 0 0, .int .i64 0]) ?_ 2 _ rfl; (with_reducible repeat (first | refine blk_drewN ?_ _ | refine blk_drew ?_ | refine blk_alloc ?_ _)); refine blk_put (cs := #[.string ((rd_T33 l0 x11_1).f0), .string (⟨#[]⟩ : ByteArray), .int .i64 0, .slice none 0 0, .int .i64 0]) ?_ 1 _ rfl; (with_reducible repeat (first | refine blk_drewN ?_ _ | refine blk_drew ?_ | refine blk_alloc ?_ _)); refine blk_put (cs := #[.string (⟨#[]⟩ : ByteArray), .string (⟨#[]⟩ : ByteArray), .int .i64 0, .slice none 0 0, .int .i64 0]) ?_ 0 _ rfl; (with_reducible repeat (first | refine blk_drewN ?_ _ | refine blk_drew ?_ | refine blk_alloc ?_ _)); exact BK425.out) hb); have n2_ := Aside0.mk (below_step (by repeat (first | (with_reducible first | exact HB.out | apply below_alloc | apply pw_below_drewN | apply below_drew1 | refine below_set ?_ GE425.out) | exact HB.out)) hb); have n3_ := Aside0.mk (hbox); have n4_ := Aside0.mk ((by rw [hg]; exact (below_size (by repeat (first | (with_reducible first | exact HB.out | apply below_alloc | apply pw_below_drewN | apply below_drew1 | refine below_set ?_ GE425.out) | exact HB.out))) : w.heap.size ≤ gb426)); have n5_ := Aside0.mk ((by rw [hg]; exact (below_size (by repeat (first | (with_reducible first | exact HB.out | apply below_alloc | apply pw_below_drewN | apply below_drew1 | refine below_set ?_ GE425.out) | exact HB.out))) : w.heap.size ≤ gb426)); have n6_ := Aside0.mk ((by rw [hg]; exact Nat.ne_of_lt (blk_lt (g := gb425) (o := .cells #[.string ((rd_T33 l0 x11_1).f0), .string ((rd_T33 l0 x11_1).f1), .int .i64 ((rd_T33 l0 x11_1).f2), .slice A424_3 ((rd_T33 l0 x11_1).f3).length c424_3, .int .i64 ((rd_T33 l0 x11_1).f4)] 33 (0, 0)) (by (with_reducible repeat (first | refine blk_drewN ?_ _ | refine blk_drew ?_ | refine blk_alloc ?_ _)); refine blk_put (cs := #[.string ((rd_T33 l0 x11_1).f0), .string ((rd_T33 l0 x11_1).f1), .int .i64 ((rd_T33 l0 x11_1).f2), .slice A424_3 ((rd_T33 l0 x11_1).f3).length c424_3, .int .i64 0]) ?_ 4 _ rfl; (with_reducible repeat (first | refine blk_drewN ?_ _ | refine blk_drew ?_ | refine blk_alloc ?_ _)); refine blk_put (cs := #[.string ((rd_T33 l0 x11_1).f0), .string ((rd_T33 l0 x11_1).f1), .int .i64 ((rd_T33 l0 x11_1).f2), .slice none 0 0, .int .i64 0]) ?_ 3 _ rfl; (with_reducible repeat (first | refine blk_drewN ?_ _ | refine blk_drew ?_ | refine blk_alloc ?_ _)); refine blk_put (cs := #[.string ((rd_T33 l0 x11_1).f0), .string ((rd_T33 l0 x11_1).f1), .int .i64 0, .slice none 0 0, .int .i64 0]) ?_ 2 _ rfl; (with_reducible repeat (first | refine blk_drewN ?_ _ | refine blk_drew ?_ | refine blk_alloc ?_ _)); refine blk_put (cs := #[.string ((rd_T33 l0 x11_1).f0), .string (⟨#[]⟩ : ByteArray), .int .i64 0, .slice none 0 0, .int .i64 0]) ?_ 1 _ rfl; (with_reducible repeat (first | refine blk_drewN ?_ _ | refine blk_drew ?_ | refine blk_alloc ?_ _)); refine blk_put (cs := #[.string (⟨#[]⟩ : ByteArray), .string (⟨#[]⟩ : ByteArray), .int .i64 0, .slice none 0 0, .int .i64 0]) ?_ 0 _ rfl; (with_reducible repeat (first | refine blk_drewN ?_ _ | refine blk_drew ?_ | refine blk_alloc ?_ _)); exact BK425.out)) : gb425 ≠ gb426)); have n7_ := Aside0.mk ((by rw [hg]; exact Nat.ne_of_gt (blk_lt (g := gb425) (o := .cells #[.string ((rd_T33 l0 x11_1).f0), .string ((rd_T33 l0 x11_1).f1), .int .i64 ((rd_T33 l0 x11_1).f2), .slice A424_3 ((rd_T33 l0 x11_1).f3).length c424_3, .int .i64 ((rd_T33 l0 x11_1).f4)] 33 (0, 0)) (by (with_reducible repeat (first | refine blk_drewN ?_ _ | refine blk_drew ?_ | refine blk_alloc ?_ _)); refine blk_put (cs := #[.string ((rd_T33 l0 x11_1).f0), .string ((rd_T33 l0 x11_1).f1), .int .i64 ((rd_T33 l0 x11_1).f2), .slice A424_3 ((rd_T33 l0 x11_1).f3).length c424_3, .int .i64 0]) ?_ 4 _ rfl; (with_reducible repeat (first | refine blk_drewN ?_ _ | refine blk_drew ?_ | refine blk_alloc ?_ _)); refine blk_put (cs := #[.string ((rd_T33 l0 x11_1).f0), .string ((rd_T33 l0 x11_1).f1), .int .i64 ((rd_T33 l0 x11_1).f2), .slice none 0 0, .int .i64 0]) ?_ 3 _ rfl; (with_reducible repeat (first | refine blk_drewN ?_ _ | refine blk_drew ?_ | refine blk_alloc ?_ _)); refine blk_put (cs := #[.string ((rd_T33 l0 x11_1).f0), .string ((rd_T33 l0 x11_1).f1), .int .i64 0, .slice none 0 0, .int .i64 0]) ?_ 2 _ rfl; (with_reducible repeat (first | refine blk_drewN ?_ _ | refine blk_drew ?_ | refine blk_alloc ?_ _)); refine blk_put (cs := #[.string ((rd_T33 l0 x11_1).f0), .string (⟨#[]⟩ : ByteArray), .int .i64 0, .slice none 0 0, .int .i64 0]) ?_ 1 _ rfl; (with_reducible repeat (first | refine blk_drewN ?_ _ | refine blk_drew ?_ | refine blk_alloc ?_ _)); refine blk_put (cs := #[.string (⟨#[]⟩ : ByteArray), .string (⟨#[]⟩ : ByteArray), .int .i64 0, .slice none 0 0, .int .i64 0]) ?_ 0 _ rfl; (with_reducible repeat (first | refine blk_drewN ?_ _ | refine blk_drew ?_ | refine blk_alloc ?_ _)); exact BK425.out)) : gb426 ≠ gb425)); clear HO_5; clear BK425; clear HB; have HO_5 := n0_; have BK425 := n1_; have HB := n2_; have BK426 := n3_; have GW426 := n4_; have GE426 := n5_; have NB425_426 := n6_; have NB426_425 := n7_; clear n0_ n1_ n2_ n3_ n4_ n5_ n6_ n7_; clear hb hbox hg; have hnb11 := NB426_425.out; have hnc11 := NB425_426.out; have hcz12_0 : w10.cell? ⟨gb426, 0, none⟩ = some (.string (⟨#[]⟩ : ByteArray)) := (blk_cell BK426.out 0).trans rfl; have hcz12_1 : w10.cell? ⟨gb426, 1, none⟩ = some (.string (⟨#[]⟩ : ByteArray)) := (blk_cell BK426.out 1).trans rfl; have hcz12_2 : w10.cell? ⟨gb426, 2, none⟩ = some (.int .i64 0) := (blk_cell BK426.out 2).trans rfl; have hcz12_3 : w10.cell? ⟨gb426, 3, none⟩ = some (.slice none 0 0) := (blk_cell BK426.out 3).trans rfl; have hcz12_4 : w10.cell? ⟨gb426, 4, none⟩ = some (.int .i64 0) := (blk_cell BK426.out 4).trans rfl; have hfz12_0 := blk_frozen BK426.out 0; have hfz12_1 := blk_frozen BK426.out 1; have hfz12_2 := blk_frozen BK426.out 2; have hfz12_3 := blk_frozen BK426.out 3; have hfz12_4 := blk_frozen BK426.out 4))
              have n0_ : Aside0 (Kd.R k33 33 (((((w10.setCell ⟨gb426, 0, none⟩ (.string ((rd_T33 l0 x11_1).f0))).setCell ⟨gb426, 1, none⟩ (.string ((rd_T33 l0 x11_1).f1))).setCell ⟨gb426, 2, none⟩ (.int .i64 ((rd_T33 l0 x11_1).f2))).setCell ⟨gb426, 3, none⟩ (.slice A424_3 ((rd_T33 l0 x11_1).f3).length c424_3)).setCell ⟨gb426, 4, none⟩ (.int .i64 ((rd_T33 l0 x11_1).f4))) w.heap.size (fun k_ => k_ ≠ gb425 ∧ k_ ≠ gb426) u5 x5_1) := ⟨by (with_reducible repeat (first | apply Kd.R_alloc | apply Kd.R_drewN | apply Kd.R_drew)); exact Kd.R_mono (Kd.R_far (p := ⟨gb426, 4, none⟩) (Kd.R_far (p := ⟨gb426, 3, none⟩) (Kd.R_far (p := ⟨gb426, 2, none⟩) (Kd.R_far (p := ⟨gb426, 1, none⟩) (Kd.R_far (p := ⟨gb426, 0, none⟩) (Kd.R_mono HO_5.out (fun k_ hk => (⟨hk, hk.2⟩ : _ ∧ k_ ≠ gb426))) (fun _ hk => hk.2) (.string ((rd_T33 l0 x11_1).f0))) (fun _ hk => hk.2) (.string ((rd_T33 l0 x11_1).f1))) (fun _ hk => hk.2) (.int .i64 ((rd_T33 l0 x11_1).f2))) (fun _ hk => hk.2) (.slice A424_3 ((rd_T33 l0 x11_1).f3).length c424_3)) (fun _ hk => hk.2) (.int .i64 ((rd_T33 l0 x11_1).f4))) (fun _ hk => ⟨hk.1.1.2, hk.1.2⟩)⟩
              have n1_ : Aside0 ((((((w10.setCell ⟨gb426, 0, none⟩ (.string ((rd_T33 l0 x11_1).f0))).setCell ⟨gb426, 1, none⟩ (.string ((rd_T33 l0 x11_1).f1))).setCell ⟨gb426, 2, none⟩ (.int .i64 ((rd_T33 l0 x11_1).f2))).setCell ⟨gb426, 3, none⟩ (.slice A424_3 ((rd_T33 l0 x11_1).f3).length c424_3)).setCell ⟨gb426, 4, none⟩ (.int .i64 ((rd_T33 l0 x11_1).f4))).heap[gb425]? = some (.cells #[.string ((rd_T33 l0 x11_1).f0), .string ((rd_T33 l0 x11_1).f1), .int .i64 ((rd_T33 l0 x11_1).f2), .slice A424_3 ((rd_T33 l0 x11_1).f3).length c424_3, .int .i64 ((rd_T33 l0 x11_1).f4)] 33 (0, 0))) := ⟨by (with_reducible repeat (first | refine blk_drewN ?_ _ | refine blk_drew ?_ | refine blk_alloc ?_ _)); refine blk_far ?_ NB425_426.out _; (with_reducible repeat (first | refine blk_drewN ?_ _ | refine blk_drew ?_ | refine blk_alloc ?_ _)); refine blk_far ?_ NB425_426.out _; (with_reducible repeat (first | refine blk_drewN ?_ _ | refine blk_drew ?_ | refine blk_alloc ?_ _)); refine blk_far ?_ NB425_426.out _; (with_reducible repeat (first | refine blk_drewN ?_ _ | refine blk_drew ?_ | refine blk_alloc ?_ _)); refine blk_far ?_ NB425_426.out _; (with_reducible repeat (first | refine blk_drewN ?_ _ | refine blk_drew ?_ | refine blk_alloc ?_ _)); refine blk_far ?_ NB425_426.out _; (with_reducible repeat (first | refine blk_drewN ?_ _ | refine blk_drew ?_ | refine blk_alloc ?_ _)); exact BK425.out⟩
              have n2_ : Aside0 ((((((w10.setCell ⟨gb426, 0, none⟩ (.string ((rd_T33 l0 x11_1).f0))).setCell ⟨gb426, 1, none⟩ (.string ((rd_T33 l0 x11_1).f1))).setCell ⟨gb426, 2, none⟩ (.int .i64 ((rd_T33 l0 x11_1).f2))).setCell ⟨gb426, 3, none⟩ (.slice A424_3 ((rd_T33 l0 x11_1).f3).length c424_3)).setCell ⟨gb426, 4, none⟩ (.int .i64 ((rd_T33 l0 x11_1).f4))).heap[gb426]? = some (.cells #[.string ((rd_T33 l0 x11_1).f0), .string ((rd_T33 l0 x11_1).f1), .int .i64 ((rd_T33 l0 x11_1).f2), .slice A424_3 ((rd_T33 l0 x11_1).f3).length c424_3, .int .i64 ((rd_T33 l0 x11_1).f4)] 33 (0, 0))) := ⟨by (with_reducible repeat (first | refine blk_drewN ?_ _ | refine blk_drew ?_ | refine blk_alloc ?_ _)); refine blk_put (cs := #[.string ((rd_T33 l0 x11_1).f0), .string ((rd_T33 l0 x11_1).f1), .int .i64 ((rd_T33 l0 x11_1).f2), .slice A424_3 ((rd_T33 l0 x11_1).f3).length c424_3, .int .i64 0]) ?_ 4 _ rfl; (with_reducible repeat (first | refine blk_drewN ?_ _ | refine blk_drew ?_ | refine blk_alloc ?_ _)); refine blk_put (cs := #[.string ((rd_T33 l0 x11_1).f0), .string ((rd_T33 l0 x11_1).f1), .int .i64 ((rd_T33 l0 x11_1).f2), .slice none 0 0, .int .i64 0]) ?_ 3 _ rfl; (with_reducible repeat (first | refine blk_drewN ?_ _ | refine blk_drew ?_ | refine blk_alloc ?_ _)); refine blk_put (cs := #[.string ((rd_T33 l0 x11_1).f0), .string ((rd_T33 l0 x11_1).f1), .int .i64 0, .slice none 0 0, .int .i64 0]) ?_ 2 _ rfl; (with_reducible repeat (first | refine blk_drewN ?_ _ | refine blk_drew ?_ | refine blk_alloc ?_ _)); refine blk_put (cs := #[.string ((rd_T33 l0 x11_1).f0), .string (⟨#[]⟩ : ByteArray), .int .i64 0, .slice none 0 0, .int .i64 0]) ?_ 1 _ rfl; (with_reducible repeat (first | refine blk_drewN ?_ _ | refine blk_drew ?_ | refine blk_alloc ?_ _)); refine blk_put (cs := #[.string (⟨#[]⟩ : ByteArray), .string (⟨#[]⟩ : ByteArray), .int .i64 0, .slice none 0 0, .int .i64 0]) ?_ 0 _ rfl; (with_reducible repeat (first | refine blk_drewN ?_ _ | refine blk_drew ?_ | refine blk_alloc ?_ _)); exact BK426.out⟩
              have n3_ : Aside0 (Below w.heap.size w (((((w10.setCell ⟨gb426, 0, none⟩ (.string ((rd_T33 l0 x11_1).f0))).setCell ⟨gb426, 1, none⟩ (.string ((rd_T33 l0 x11_1).f1))).setCell ⟨gb426, 2, none⟩ (.int .i64 ((rd_T33 l0 x11_1).f2))).setCell ⟨gb426, 3, none⟩ (.slice A424_3 ((rd_T33 l0 x11_1).f3).length c424_3)).setCell ⟨gb426, 4, none⟩ (.int .i64 ((rd_T33 l0 x11_1).f4)))) := ⟨by repeat (first | (with_reducible first | exact HB.out | apply below_alloc | apply pw_below_drewN | apply below_drew1 | refine below_set ?_ GE425.out | refine below_set ?_ GE426.out) | exact HB.out)⟩
              (try clear HO_5)
              (try clear BK425)
              (try clear BK426)
              (try clear HB)
              generalize (((((w10.setCell ⟨gb426, 0, none⟩ (.string ((rd_T33 l0 x11_1).f0))).setCell ⟨gb426, 1, none⟩ (.string ((rd_T33 l0 x11_1).f1))).setCell ⟨gb426, 2, none⟩ (.int .i64 ((rd_T33 l0 x11_1).f2))).setCell ⟨gb426, 3, none⟩ (.slice A424_3 ((rd_T33 l0 x11_1).f3).length c424_3)).setCell ⟨gb426, 4, none⟩ (.int .i64 ((rd_T33 l0 x11_1).f4))) = w13 at n0_ n1_ n2_ n3_ ⊢
              have HO_5 := n0_
              have BK425 := n1_
              have BK426 := n2_
              have HB := n3_
              clear n0_ n1_ n2_ n3_
              have n0_ := Aside0.mk (Kd.R_drew HO_5.out)
              have n1_ := Aside0.mk (blk_drew BK425.out)
              have n2_ := Aside0.mk (blk_drew BK426.out)
              have n3_ := Aside0.mk (below_drew1 HB.out)
              clear HO_5
              clear BK425
              clear BK426
              clear HB
              have HO_5 := n0_
              have BK425 := n1_
              have BK426 := n2_
              have HB := n3_
              clear n0_ n1_ n2_ n3_
              refine start_ (n := 12) (S := fun w' => w'.cell? ⟨gb425, 0, none⟩ = some (.string ((rd_T33 l0 x11_1).f0)) ∧ w'.cell? ⟨gb425, 1, none⟩ = some (.string ((rd_T33 l0 x11_1).f1)) ∧ w'.cell? ⟨gb425, 2, none⟩ = some (.int .i64 ((rd_T33 l0 x11_1).f2)) ∧ w'.cell? ⟨gb425, 3, none⟩ = some (.slice A424_3 ((rd_T33 l0 x11_1).f3).length c424_3) ∧ w'.cell? ⟨gb425, 4, none⟩ = some (.int .i64 ((rd_T33 l0 x11_1).f4))) (ds := []) #[false, false, false, false, false, false, false, false, false, false, false, false] (by kernel_rfl) rfl rfl ⟨(blk_cell BK425.out 0).trans rfl, (blk_cell BK425.out 1).trans rfl, (blk_cell BK425.out 2).trans rfl, (blk_cell BK425.out 3).trans rfl, (blk_cell BK425.out 4).trans rfl⟩ (fun hHeld => ?_); refine with_tabW helmsmanlaw12_movedExprs.tab6 helmsmanlaw12_movedExprs.bits6 (fun HT_ HW_ => ?_)
              generalize w13.drew = w14 at HO_5 BK425 BK426 HB hHeld ⊢
              refine pure_ (i := 0) (N := some 16) (v := ?_) (a' := ?_) #[true, false, false, false, false, false, false, false, false, false, false, false] rfl rfl (any_of HT_.out (by kernel_rfl)) (fun _ _ _ h => h) (Or.inl ⟨by rfl, ?_⟩) ?_ ?_
              rotate_left
              · intro w'
                go_simp
                with_reducible rfl
              rotate_left
              · simp only [Act.put, List.setIfInBounds_toArray, List.set_cons_zero, List.set_cons_succ, i64_w, i32_w]
                rfl
              refine pure_ (i := 2) (N := some 18) (v := ?_) (a' := ?_) #[true, false, true, false, false, false, false, false, false, false, false, false] rfl rfl (any_of HT_.out (by kernel_rfl)) (fun _ _ _ h => h) (Or.inl ⟨by rfl, ?_⟩) ?_ ?_
              rotate_left
              · intro w'
                go_simp
                with_reducible rfl
              rotate_left
              · simp only [Act.put, List.setIfInBounds_toArray, List.set_cons_zero, List.set_cons_succ, i64_w, i32_w]
                rfl
              refine pure_ (i := 4) (N := some 20) (v := ?_) (a' := ?_) #[true, false, true, false, true, false, false, false, false, false, false, false] rfl rfl (any_of HT_.out (by kernel_rfl)) (fun _ _ _ h => h) (Or.inl ⟨by rfl, ?_⟩) ?_ ?_
              rotate_left
              · intro w'
                go_simp
                with_reducible rfl
              rotate_left
              · simp only [Act.put, List.setIfInBounds_toArray, List.set_cons_zero, List.set_cons_succ, i64_w, i32_w]
                rfl
              refine pure_ (i := 6) (N := some 22) (v := ?_) (a' := ?_) #[true, false, true, false, true, false, true, false, false, false, false, false] rfl rfl (any_of HT_.out (by kernel_rfl)) (fun _ _ _ h => h) (Or.inl ⟨by rfl, ?_⟩) ?_ ?_
              rotate_left
              · intro w'
                go_simp
                with_reducible rfl
              rotate_left
              · simp only [Act.put, List.setIfInBounds_toArray, List.set_cons_zero, List.set_cons_succ, i64_w, i32_w]
                rfl
              refine take_ (i := 1) (N := some 17) (v := ?_) (a' := ?_) #[true, true, true, false, true, false, true, false, false, false, false, false] rfl rfl (take_ofW HT_.out HW_.out (by kernel_rfl)) (fun _ _ _ h => h) (Or.inl ⟨by rfl, ?_⟩) hHeld ?_ ?_
              rotate_left
              · rintro w' ⟨s0, s1, s2, s3, s4⟩
                go_simp
                with_reducible rfl
              rotate_left
              · simp only [Act.put, List.setIfInBounds_toArray, List.set_cons_zero, List.set_cons_succ, i64_w, i32_w]
                rfl
              refine pure_ (i := 3) (N := some 19) (v := ?_) (a' := ?_) #[true, true, true, true, true, false, true, false, false, false, false, false] rfl rfl (any_of HT_.out (by kernel_rfl)) (fun _ _ _ h => h) (Or.inl ⟨by rfl, ?_⟩) ?_ ?_
              rotate_left
              · intro w'
                go_simp
                with_reducible rfl
              rotate_left
              · simp only [Act.put, List.setIfInBounds_toArray, List.set_cons_zero, List.set_cons_succ, i64_w, i32_w]
                rfl
              refine pure_ (i := 8) (N := some 24) (v := ?_) (a' := ?_) #[true, true, true, true, true, false, true, false, true, false, false, false] rfl rfl (any_of HT_.out (by kernel_rfl)) (fun _ _ _ h => h) (Or.inl ⟨by rfl, ?_⟩) ?_ ?_
              rotate_left
              · intro w'
                go_simp
                with_reducible rfl
              rotate_left
              · simp only [Act.put, List.setIfInBounds_toArray, List.set_cons_zero, List.set_cons_succ, i64_w, i32_w]
                rfl
              refine take_ (i := 5) (N := some 21) (v := ?_) (a' := ?_) #[true, true, true, true, true, true, true, false, true, false, false, false] rfl rfl (take_ofW HT_.out HW_.out (by kernel_rfl)) (fun _ _ _ h => h) (Or.inl ⟨by rfl, ?_⟩) hHeld ?_ ?_
              rotate_left
              · rintro w' ⟨s0, s1, s2, s3, s4⟩
                go_simp
                with_reducible rfl
              rotate_left
              · simp only [Act.put, List.setIfInBounds_toArray, List.set_cons_zero, List.set_cons_succ, i64_w, i32_w]
                rfl
              refine one_ (i := 7) (N := some 23) #[true, true, true, true, true, true, true, true, true, false, false, false] rfl rfl (one_of HT_.out (by kernel_rfl)) (by decide) (fun K hK => ?_)
              refine goes_ Tryd.func52 (by kernel_rfl) rfl #[.slice A424_3 ((rd_T33 l0 x11_1).f3).length c424_3, .int .i64 a1] (by rfl) rfl rfl (by (try simp only [List.map_toArray, List.map_cons, List.map_nil]); first | done | rfl | (simp only [List.length_drop, List.length_take]; rfl)) ?_
              with_reducible refine (ih k1 (by have := HK1.out; omega) _ _ ((rd_T33 l0 x11_1).f3) a1 t427 _ ?side1 ?side2 A6.out).mono ?_
              (case side1 => repeat (first | exact (Kd.C_below HR424_3.out HB.out) | (with_reducible refine Kd.C_alloc ?_ _) | (with_reducible refine Kd.C_drewN ?_ _) | (with_reducible refine Kd.C_drew ?_)))
              (case side2 => exact HC424_3.out)
              rintro e w15 ⟨v428, rfl, ho0, hb⟩
              refine ⟨_, rfl, ?_⟩
              have n0_ := Aside0.mk (Kd.R_elder' (by (with_reducible repeat (first | apply Kd.R_alloc | apply Kd.R_drewN | apply Kd.R_drew)); exact HO_5.out) (Kd.R_base ho0) hb)
              have n1_ := Aside0.mk (Kd.R_lower (Kd.R_newB (Kd.R_newB (Kd.R_new' ho0 (Kd.R_lt (by (with_reducible repeat (first | apply Kd.R_alloc | apply Kd.R_drewN | apply Kd.R_drew)); exact HO_5.out))) (g := gb425) (o := .cells #[.string ((rd_T33 l0 x11_1).f0), .string ((rd_T33 l0 x11_1).f1), .int .i64 ((rd_T33 l0 x11_1).f2), .slice A424_3 ((rd_T33 l0 x11_1).f3).length c424_3, .int .i64 ((rd_T33 l0 x11_1).f4)] 33 (0, 0)) (by (with_reducible repeat (first | refine blk_drewN ?_ _ | refine blk_drew ?_ | refine blk_alloc ?_ _)); exact BK425.out)) (g := gb426) (o := .cells #[.string ((rd_T33 l0 x11_1).f0), .string ((rd_T33 l0 x11_1).f1), .int .i64 ((rd_T33 l0 x11_1).f2), .slice A424_3 ((rd_T33 l0 x11_1).f3).length c424_3, .int .i64 ((rd_T33 l0 x11_1).f4)] 33 (0, 0)) (by (with_reducible repeat (first | refine blk_drewN ?_ _ | refine blk_drew ?_ | refine blk_alloc ?_ _)); exact BK426.out)) (below_size (by repeat (first | (with_reducible first | exact HB.out | apply below_alloc | apply pw_below_drewN | apply below_drew1 | refine below_set ?_ GE425.out | refine below_set ?_ GE426.out) | exact HB.out))))
              have n2_ := Aside0.mk (blk_below (g := gb425) (o := .cells #[.string ((rd_T33 l0 x11_1).f0), .string ((rd_T33 l0 x11_1).f1), .int .i64 ((rd_T33 l0 x11_1).f2), .slice A424_3 ((rd_T33 l0 x11_1).f3).length c424_3, .int .i64 ((rd_T33 l0 x11_1).f4)] 33 (0, 0)) (by (with_reducible repeat (first | refine blk_drewN ?_ _ | refine blk_drew ?_ | refine blk_alloc ?_ _)); exact BK425.out) hb)
              have n3_ := Aside0.mk (blk_below (g := gb426) (o := .cells #[.string ((rd_T33 l0 x11_1).f0), .string ((rd_T33 l0 x11_1).f1), .int .i64 ((rd_T33 l0 x11_1).f2), .slice A424_3 ((rd_T33 l0 x11_1).f3).length c424_3, .int .i64 ((rd_T33 l0 x11_1).f4)] 33 (0, 0)) (by (with_reducible repeat (first | refine blk_drewN ?_ _ | refine blk_drew ?_ | refine blk_alloc ?_ _)); exact BK426.out) hb)
              have n4_ := Aside0.mk (below_step (by repeat (first | (with_reducible first | exact HB.out | apply below_alloc | apply pw_below_drewN | apply below_drew1 | refine below_set ?_ GE425.out | refine below_set ?_ GE426.out) | exact HB.out)) hb)
              clear HO_5
              clear BK425
              clear BK426
              clear HB
              have HO_5 := n0_
              have HO429 := n1_
              have BK425 := n2_
              have BK426 := n3_
              have HB := n4_
              clear n0_ n1_ n2_ n3_ n4_
              (try clear hb)
              (try clear hb2)
              (try clear hk)
              (try clear hi)
              (try clear ho0)
              obtain ⟨Ao17, co17, eo17⟩ := Kd.R_slice HO429.out
              (first | subst eo17 | (injection eo17 with f1_ f2_ f3_; have f4_ := f1_.symm; have f5_ := f3_.symm; clear f1_ f2_ f3_; subst f4_; subst f5_))
              refine hK.out _ _ ⟨(blk_cell BK425.out 0).trans rfl, (blk_cell BK425.out 1).trans rfl, (blk_cell BK425.out 2).trans rfl, (blk_cell BK425.out 3).trans rfl, (blk_cell BK425.out 4).trans rfl⟩ (fun hHeld => ?_)
              clear hK K
              refine norm_ (a' := ?_) ?_ ?_
              rotate_left
              · show Act.put _ (some 23) _ = _
                simp only [Act.put, List.setIfInBounds_toArray, List.set_cons_zero, List.set_cons_succ, i64_w, i32_w]
                rfl
              refine one_ (i := 9) (N := none) #[true, true, true, true, true, true, true, true, true, true, false, false] rfl rfl (one_of HT_.out (by kernel_rfl)) (by decide) (fun K hK => ?_)
              have hs16 : w15.cell? ⟨gb426, 4, none⟩ = some (.int .i64 ((rd_T33 l0 x11_1).f4)) := (blk_cell BK426.out 4).trans rfl
              have hfs16 := blk_frozen BK426.out 4
              have hns16_0 := NB425_426.out
              have hms16_0 := NB426_425.out
              refine skip_ (w1 := ?_) (by rfl) rfl ?_ ?_
              rotate_left
              · go_simp
                rfl
              refine hK.out _ _ ⟨((cell_far (p := ⟨gb426, _, none⟩) NB425_426.out _).trans (hHeld.1)), ((cell_far (p := ⟨gb426, _, none⟩) NB425_426.out _).trans (hHeld.2.1)), ((cell_far (p := ⟨gb426, _, none⟩) NB425_426.out _).trans (hHeld.2.2.1)), ((cell_far (p := ⟨gb426, _, none⟩) NB425_426.out _).trans (hHeld.2.2.2.1)), ((cell_far (p := ⟨gb426, _, none⟩) NB425_426.out _).trans (hHeld.2.2.2.2))⟩ (fun hHeld => ?_)
              clear hK K
              refine pure_ (i := 10) (N := some 25) (v := ?_) (a' := ?_) #[true, true, true, true, true, true, true, true, true, true, true, false] rfl rfl (any_of HT_.out (by kernel_rfl)) (fun _ _ _ h => h) (Or.inl ⟨by rfl, ?_⟩) ?_ ?_
              rotate_left
              · intro w'
                go_simp
                with_reducible rfl
              rotate_left
              · simp only [Act.put, List.setIfInBounds_toArray, List.set_cons_zero, List.set_cons_succ, i64_w, i32_w]
                rfl
              refine one_ (i := 11) (N := none) #[true, true, true, true, true, true, true, true, true, true, true, true] rfl rfl (one_of HT_.out (by kernel_rfl)) (by decide) (fun K hK => ?_)
              have hs18 : w15.cell? ⟨gb426, 3, none⟩ = some (.slice A424_3 ((rd_T33 l0 x11_1).f3).length c424_3) := (blk_cell BK426.out 3).trans rfl
              have hfs18 := blk_frozen BK426.out 3
              have hns18_0 := NB425_426.out
              have hms18_0 := NB426_425.out
              refine skip_ (w1 := ?_) (by rfl) rfl ?_ ?_
              rotate_left
              · go_simp
                rfl
              refine hK.out _ _ ⟨((cell_far (p := ⟨gb426, _, none⟩) NB425_426.out _).trans (hHeld.1)), ((cell_far (p := ⟨gb426, _, none⟩) NB425_426.out _).trans (hHeld.2.1)), ((cell_far (p := ⟨gb426, _, none⟩) NB425_426.out _).trans (hHeld.2.2.1)), ((cell_far (p := ⟨gb426, _, none⟩) NB425_426.out _).trans (hHeld.2.2.2.1)), ((cell_far (p := ⟨gb426, _, none⟩) NB425_426.out _).trans (hHeld.2.2.2.2))⟩ (fun hHeld => ?_)
              clear hK K
              refine done_ (done_of HT_.out (by kernel_rfl)) ?_
              have n0_ : Aside0 (Kd.R k33 33 ((w15.setCell ⟨gb426, 4, none⟩ (.int .i64 (wrap64 (((rd_T33 l0 x11_1).f4) + a1)))).setCell ⟨gb426, 3, none⟩ (.slice Ao17 t427.length co17)) w.heap.size (fun k_ => some k_ ≠ (.slice Ao17 t427.length co17 : Value).ownBlock ∧ k_ ≠ gb425 ∧ k_ ≠ gb426) u5 x5_1) := ⟨by (with_reducible repeat (first | apply Kd.R_alloc | apply Kd.R_drewN | apply Kd.R_drew)); exact Kd.R_mono (Kd.R_far (p := ⟨gb426, 3, none⟩) (Kd.R_far (p := ⟨gb426, 4, none⟩) (Kd.R_mono HO_5.out (fun k_ hk => (⟨hk, hk.1.2⟩ : _ ∧ k_ ≠ gb426))) (fun _ hk => hk.2) (.int .i64 (wrap64 (((rd_T33 l0 x11_1).f4) + a1)))) (fun _ hk => hk.2) (.slice Ao17 t427.length co17)) (fun _ hk => ⟨hk.1.2, ⟨hk.1.1.1, hk.1.1.2⟩⟩)⟩
              have n1_ : Aside0 (Kd.R k33 33 ((w15.setCell ⟨gb426, 4, none⟩ (.int .i64 (wrap64 (((rd_T33 l0 x11_1).f4) + a1)))).setCell ⟨gb426, 3, none⟩ (.slice Ao17 t427.length co17)) w.heap.size (fun k_ => some k_ ≠ (u5 : Value).ownBlock ∧ k_ ≠ gb425 ∧ k_ ≠ gb426) (.slice Ao17 t427.length co17) t427) := ⟨by (with_reducible repeat (first | apply Kd.R_alloc | apply Kd.R_drewN | apply Kd.R_drew)); exact Kd.R_mono (Kd.R_far (p := ⟨gb426, 3, none⟩) (Kd.R_far (p := ⟨gb426, 4, none⟩) (Kd.R_mono HO429.out (fun k_ hk => (⟨hk, hk.2⟩ : _ ∧ k_ ≠ gb426))) (fun _ hk => hk.2) (.int .i64 (wrap64 (((rd_T33 l0 x11_1).f4) + a1)))) (fun _ hk => hk.2) (.slice Ao17 t427.length co17)) (fun _ hk => ⟨hk.1.1.1.2, ⟨hk.1.1.2, hk.1.2⟩⟩)⟩
              have n2_ : Aside0 (((w15.setCell ⟨gb426, 4, none⟩ (.int .i64 (wrap64 (((rd_T33 l0 x11_1).f4) + a1)))).setCell ⟨gb426, 3, none⟩ (.slice Ao17 t427.length co17)).heap[gb425]? = some (.cells #[.string ((rd_T33 l0 x11_1).f0), .string ((rd_T33 l0 x11_1).f1), .int .i64 ((rd_T33 l0 x11_1).f2), .slice A424_3 ((rd_T33 l0 x11_1).f3).length c424_3, .int .i64 ((rd_T33 l0 x11_1).f4)] 33 (0, 0))) := ⟨by (with_reducible repeat (first | refine blk_drewN ?_ _ | refine blk_drew ?_ | refine blk_alloc ?_ _)); refine blk_far ?_ NB425_426.out _; (with_reducible repeat (first | refine blk_drewN ?_ _ | refine blk_drew ?_ | refine blk_alloc ?_ _)); refine blk_far ?_ NB425_426.out _; (with_reducible repeat (first | refine blk_drewN ?_ _ | refine blk_drew ?_ | refine blk_alloc ?_ _)); exact BK425.out⟩
              have n3_ : Aside0 (((w15.setCell ⟨gb426, 4, none⟩ (.int .i64 (wrap64 (((rd_T33 l0 x11_1).f4) + a1)))).setCell ⟨gb426, 3, none⟩ (.slice Ao17 t427.length co17)).heap[gb426]? = some (.cells #[.string ((rd_T33 l0 x11_1).f0), .string ((rd_T33 l0 x11_1).f1), .int .i64 ((rd_T33 l0 x11_1).f2), .slice Ao17 t427.length co17, .int .i64 (wrap64 (((rd_T33 l0 x11_1).f4) + a1))] 33 (0, 0))) := ⟨by (with_reducible repeat (first | refine blk_drewN ?_ _ | refine blk_drew ?_ | refine blk_alloc ?_ _)); refine blk_put (cs := #[.string ((rd_T33 l0 x11_1).f0), .string ((rd_T33 l0 x11_1).f1), .int .i64 ((rd_T33 l0 x11_1).f2), .slice A424_3 ((rd_T33 l0 x11_1).f3).length c424_3, .int .i64 (wrap64 (((rd_T33 l0 x11_1).f4) + a1))]) ?_ 3 _ rfl; (with_reducible repeat (first | refine blk_drewN ?_ _ | refine blk_drew ?_ | refine blk_alloc ?_ _)); refine blk_put (cs := #[.string ((rd_T33 l0 x11_1).f0), .string ((rd_T33 l0 x11_1).f1), .int .i64 ((rd_T33 l0 x11_1).f2), .slice A424_3 ((rd_T33 l0 x11_1).f3).length c424_3, .int .i64 ((rd_T33 l0 x11_1).f4)]) ?_ 4 _ rfl; (with_reducible repeat (first | refine blk_drewN ?_ _ | refine blk_drew ?_ | refine blk_alloc ?_ _)); exact BK426.out⟩
              have n4_ : Aside0 (Below w.heap.size w ((w15.setCell ⟨gb426, 4, none⟩ (.int .i64 (wrap64 (((rd_T33 l0 x11_1).f4) + a1)))).setCell ⟨gb426, 3, none⟩ (.slice Ao17 t427.length co17))) := ⟨by repeat (first | (with_reducible first | exact HB.out | apply below_alloc | apply pw_below_drewN | apply below_drew1 | refine below_set ?_ GE425.out | refine below_set ?_ GE426.out) | exact HB.out)⟩
              (try clear HO_5)
              (try clear HO429)
              (try clear BK425)
              (try clear BK426)
              (try clear HB)
              generalize ((w15.setCell ⟨gb426, 4, none⟩ (.int .i64 (wrap64 (((rd_T33 l0 x11_1).f4) + a1)))).setCell ⟨gb426, 3, none⟩ (.slice Ao17 t427.length co17)) = w19 at n0_ n1_ n2_ n3_ n4_ ⊢
              have HO_5 := n0_
              have HO429 := n1_
              have BK425 := n2_
              have BK426 := n3_
              have HB := n4_
              clear n0_ n1_ n2_ n3_ n4_
              have hcz20_0 : w19.cell? ⟨gb426, 0, none⟩ = some (.string ((rd_T33 l0 x11_1).f0)) := (blk_cell BK426.out 0).trans rfl
              have hcz20_1 : w19.cell? ⟨gb426, 1, none⟩ = some (.string ((rd_T33 l0 x11_1).f1)) := (blk_cell BK426.out 1).trans rfl
              have hcz20_2 : w19.cell? ⟨gb426, 2, none⟩ = some (.int .i64 ((rd_T33 l0 x11_1).f2)) := (blk_cell BK426.out 2).trans rfl
              have hcz20_3 : w19.cell? ⟨gb426, 3, none⟩ = some (.slice Ao17 t427.length co17) := (blk_cell BK426.out 3).trans rfl
              have hcz20_4 : w19.cell? ⟨gb426, 4, none⟩ = some (.int .i64 (wrap64 (((rd_T33 l0 x11_1).f4) + a1))) := (blk_cell BK426.out 4).trans rfl
              have hfz20_0 := blk_frozen BK426.out 0
              have hfz20_1 := blk_frozen BK426.out 1
              have hfz20_2 := blk_frozen BK426.out 2
              have hfz20_3 := blk_frozen BK426.out 3
              have hfz20_4 := blk_frozen BK426.out 4
              try go_wp2_with (first | ((with_reducible refine gate_builtin (b := .append) (xs := #[.tmp 26, .tmp 28]) rfl ?_); at_builtin; refine Kd.R_append k33 (w0 := w) w.heap.size rfl (.tmp 26) (.tmp 28) 31 33 (.agg #[(.string ⟨#[]⟩), (.string ⟨#[]⟩), (.int .i64 0), (.slice none 0 0), (.int .i64 0)]) 72 rfl Tryd.underlying31 info33 rfl (by decide) (by omega) u5 x5_1 (⟨(rd_T33 l0 x11_1).f0, (rd_T33 l0 x11_1).f1, (rd_T33 l0 x11_1).f2, t427, wrap64 (((rd_T33 l0 x11_1).f4) + a1)⟩ : S33) [.string ((rd_T33 l0 x11_1).f0), .string ((rd_T33 l0 x11_1).f1), .int .i64 ((rd_T33 l0 x11_1).f2), .slice Ao17 t427.length co17, .int .i64 (wrap64 (((rd_T33 l0 x11_1).f4) + a1))] (fun k_ => k_ ≠ gb425 ∧ k_ ≠ gb426) (fun k_ => ((fun k_ => k_ ≠ gb425 ∧ k_ ≠ gb426)) k_ ∧ some k_ ≠ (u5 : Value).ownBlock) rfl rfl ?aP (fun _ hk => hk) ?aF ?aO ?aB ?aS ?aL ?_; (case aP => exact k33_mkM _ _ _ (⟨(rd_T33 l0 x11_1).f0, (rd_T33 l0 x11_1).f1, (rd_T33 l0 x11_1).f2, t427, wrap64 (((rd_T33 l0 x11_1).f4) + a1)⟩ : S33) (Kd.R_mono (HO429.out) (fun k_ hk => ⟨⟨hk.2.1, hk.2.2⟩, hk.1⟩))); (case aB => exact (by repeat (first | (with_reducible first | exact HB.out | apply below_alloc | apply pw_below_drewN | apply below_drew1 | refine below_set ?_ GE425.out | refine below_set ?_ GE426.out) | exact HB.out))); (case aF => exact (fun k_ hk => ⟨Kd.freshB (g := gb425) (o := .cells #[.string ((rd_T33 l0 x11_1).f0), .string ((rd_T33 l0 x11_1).f1), .int .i64 ((rd_T33 l0 x11_1).f2), .slice A424_3 ((rd_T33 l0 x11_1).f3).length c424_3, .int .i64 ((rd_T33 l0 x11_1).f4)] 33 (0, 0)) (by (with_reducible repeat (first | refine blk_drewN ?_ _ | refine blk_drew ?_ | refine blk_alloc ?_ _)); exact BK425.out) k_ hk, Kd.freshB (g := gb426) (o := .cells #[.string ((rd_T33 l0 x11_1).f0), .string ((rd_T33 l0 x11_1).f1), .int .i64 ((rd_T33 l0 x11_1).f2), .slice Ao17 t427.length co17, .int .i64 (wrap64 (((rd_T33 l0 x11_1).f4) + a1))] 33 (0, 0)) (by (with_reducible repeat (first | refine blk_drewN ?_ _ | refine blk_drew ?_ | refine blk_alloc ?_ _)); exact BK426.out) k_ hk⟩)); (case aO => exact (by (with_reducible repeat (first | apply Kd.R_alloc | apply Kd.R_drewN | apply Kd.R_drew)); exact Kd.R_mono HO_5.out (fun _ hk => ⟨hk.2.1, hk.2.2⟩))); (case aS => exact (below_size (by repeat (first | (with_reducible first | exact HB.out | apply below_alloc | apply pw_below_drewN | apply below_drew1 | refine below_set ?_ GE425.out | refine below_set ?_ GE426.out) | exact HB.out)))); (case aL => have := LMc7.out; omega); intro v431 w21 ho hb hg hat; rw [← Ny430.out] at ho; have n0_ := Aside0.mk (blk_grown (g := gb425) (o := .cells #[.string ((rd_T33 l0 x11_1).f0), .string ((rd_T33 l0 x11_1).f1), .int .i64 ((rd_T33 l0 x11_1).f2), .slice A424_3 ((rd_T33 l0 x11_1).f3).length c424_3, .int .i64 ((rd_T33 l0 x11_1).f4)] 33 (0, 0)) (by (with_reducible repeat (first | refine blk_drewN ?_ _ | refine blk_drew ?_ | refine blk_alloc ?_ _)); exact BK425.out) hg (Kd.R_away HO_5.out (fun _ hk => hk.2.1))); have n1_ := Aside0.mk (blk_grown (g := gb426) (o := .cells #[.string ((rd_T33 l0 x11_1).f0), .string ((rd_T33 l0 x11_1).f1), .int .i64 ((rd_T33 l0 x11_1).f2), .slice Ao17 t427.length co17, .int .i64 (wrap64 (((rd_T33 l0 x11_1).f4) + a1))] 33 (0, 0)) (by (with_reducible repeat (first | refine blk_drewN ?_ _ | refine blk_drew ?_ | refine blk_alloc ?_ _)); exact BK426.out) hg (Kd.R_away HO_5.out (fun _ hk => hk.2.2))); have n2_ := Aside0.mk (hb); have n3_ := Aside0.mk (ho); clear BK425; clear BK426; clear HB; clear HO_5; clear HO429; have BK425 := n0_; have BK426 := n1_; have HB := n2_; have HO432 := n3_; clear n0_ n1_ n2_ n3_; clear ho hb hg hat))
              go_roundg k1
              case measure => have := HK1.out; omega
              case rel => exact ⟨(y430), (wrap64 (x11_1 + 1)), (by first | rfl | (simp; done) | (simp [*]; done)), H', ⟨by have := HK1.out; omega⟩, ⟨by (with_reducible repeat (first | apply Kd.R_alloc | apply Kd.R_drewN | apply Kd.R_drew)); exact Kd.R_mono HO432.out (fun _ hk => trivial)⟩, ⟨by repeat (first | (with_reducible first | exact HB.out | apply below_alloc | apply pw_below_drewN | apply below_drew1 | refine below_set ?_ GE425.out | refine below_set ?_ GE426.out) | exact HB.out)⟩⟩
            · rw [if_neg c7] at H
              exact absurd H (by simp)
          · rw [if_neg c5] at H
            exact absurd H (by simp)
        · rw [if_neg c4] at H
          exact absurd H (by simp)
      · rw [if_neg c3] at H
        have c3b0 : decide (x11_1 < (l0.length : Int)) = false := decide_eq_false c3
        clear c3
        obtain rfl := Option.some.inj H
        go_wp2
        go_ret
        exact ⟨_, by first | rfl | (simp [errW_none, errW_some] <;> rfl) | (simp [*, errW_none, errW_some] <;> rfl), by (with_reducible repeat (first | apply Kd.R_alloc | apply Kd.R_drewN | apply Kd.R_drew)); exact HO_5.out, by repeat (first | (with_reducible first | exact HB.out | apply below_alloc | apply pw_below_drewN | apply below_drew1) | exact HB.out)⟩

end Go.Proofs.YtnnbbeloifhofaaDoor.P
end

section
namespace Go.Proofs.YtnnbbeloifhofaaDoor.P
open Go.RowKit Go.Proofs.YtnnbbeloifhofaaDoorW.PrintWords Go.Proofs.YtnnbbeloifhofaaDoorW.PrintLast Go.Proofs.YtnnbbeloifhofaaDoorW.PrintMore
attribute [local go_sem] max2_int min2_int max_two min_two max_three min_three max_four min_four   -- for this text's walks alone
set_option linter.unusedVariables false
set_option linter.unusedSimpArgs false

/-! ### helmsmanlaw12_moved: function 29 -/
mutual
def helmsmanlaw12_moved.l0 : Nat → Int → List (S76) → List (S76) → Int → Int → Option ((List (S76)))
  | 0, _, _, _, _, _ => none
  | k + 1, x1, x5, x9, x10, x11 => if x11 < x10 then (if 0 ≤ x11 then (if x11 < (x9.length : Int) then ((helmsmanlaw12_moved.f k ((rd_T76 x9 x11).f3) x1).bind fun t436 => ((helmsmanlaw12_moved.f k ((rd_T76 x9 x11).f4) x1).bind fun t439 => ((helmsmanlaw12_movedExprs.f k ((rd_T76 x9 x11).f2) x1).bind fun t442 => (if x5.length < 1256584717458 then (helmsmanlaw12_moved.l0 k x1 (x5 ++ [(⟨(rd_T76 x9 x11).f0, (rd_T76 x9 x11).f1, t442, t436, t439, wrap64 (((rd_T76 x9 x11).f5) + x1)⟩ : S76)]) x9 x10 (wrap64 (x11 + 1))) else (none))))) else (none)) else (none)) else (some x5)
def helmsmanlaw12_moved.f : Nat → List (S76) → Int → Option ((List (S76)))
  | 0, _, _ => none
  | k + 1, l0, a1 => helmsmanlaw12_moved.l0 k a1 ([] : List (S76)) l0 (l0.length : Int) 0
end
theorem helmsmanlaw12_moved.mono_l : ∀ k, (∀ y0 y1, LeO (helmsmanlaw12_moved.f k y0 y1) (helmsmanlaw12_moved.f (k + 1) y0 y1)) ∧ (∀ y0 y1 y2 y3 y4, LeO (helmsmanlaw12_moved.l0 k y0 y1 y2 y3 y4) (helmsmanlaw12_moved.l0 (k + 1) y0 y1 y2 y3 y4))
  | 0 => ⟨fun _ _ r h => by simp [helmsmanlaw12_moved.f] at h, fun _ _ _ _ _ r h => by simp [helmsmanlaw12_moved.l0] at h⟩
  | k + 1 => by
    obtain ⟨ih0, ih1⟩ := helmsmanlaw12_moved.mono_l k
    refine ⟨?_, ?_⟩
    · intro y0 y1
      unfold helmsmanlaw12_moved.f
      repeat' first
      | (with_reducible exact ih0 _ _)
      | (with_reducible exact ih1 _ _ _ _ _)
      | (with_reducible exact helmsmanlaw12_movedExprs.mono _ _ _)
      | (with_reducible exact LeO.refl _)
      | (with_reducible exact LeO.none _)
      | (with_reducible refine LeO.ite ?_ ?_)
      | (with_reducible refine LeO.bind ?_ (fun _ => ?_))
      | exact ih0 _ _
      | exact ih1 _ _ _ _ _
      | exact helmsmanlaw12_movedExprs.mono _ _ _
      | exact LeO.none _
      | refine LeO.ite ?_ ?_
      | refine LeO.bind ?_ (fun _ => ?_)
    · intro y0 y1 y2 y3 y4
      unfold helmsmanlaw12_moved.l0
      repeat' first
      | (with_reducible exact ih0 _ _)
      | (with_reducible exact ih1 _ _ _ _ _)
      | (with_reducible exact helmsmanlaw12_movedExprs.mono _ _ _)
      | (with_reducible exact LeO.refl _)
      | (with_reducible exact LeO.none _)
      | (with_reducible refine LeO.ite ?_ ?_)
      | (with_reducible refine LeO.bind ?_ (fun _ => ?_))
      | exact ih0 _ _
      | exact ih1 _ _ _ _ _
      | exact helmsmanlaw12_movedExprs.mono _ _ _
      | exact LeO.none _
      | refine LeO.ite ?_ ?_
      | refine LeO.bind ?_ (fun _ => ?_)
theorem helmsmanlaw12_moved.mono : ∀ a0 a1 k, LeO (helmsmanlaw12_moved.f k a0 a1) (helmsmanlaw12_moved.f (k + 1) a0 a1) := by
  intro a0 a1 k
  obtain ⟨ih0, ih1⟩ := helmsmanlaw12_moved.mono_l k
  exact ih0 a0 a1
def helmsmanlaw12_moved.T6 : Bool × List (List Nat × List Nat) := (true, [([], []), ([0], [0]), ([], []), ([1, 2], [1, 2]), ([], []), ([4], [4]), ([], []), ([5, 6], [5, 6]), ([], []), ([8], [8]), ([], []), ([9, 10, 7], [9, 10]), ([], []), ([12], [12]), ([], []), ([13, 14, 11], [13, 14]), ([0, 1, 2, 3], []), ([16, 3, 15, 0, 1, 2, 3], [3, 16]), ([0, 1, 2, 3, 4, 5, 6, 7, 16, 17], []), ([18, 7, 17, 0, 1, 2, 3, 4, 5, 6, 7, 16, 17], [7, 18]), ([0, 1, 2, 3, 4, 5, 6, 7, 8, 9, 10, 11, 16, 17, 18, 19], []), ([20, 11, 19, 0, 1, 2, 3, 4, 5, 6, 7, 8, 9, 10, 11, 16, 17, 18, 19], [11, 20]), ([0, 1, 2, 3, 4, 5, 6, 7, 8, 9, 10, 11, 12, 13, 14, 15, 16, 17, 18, 19, 20, 21], []), ([22, 15, 21, 0, 1, 2, 3, 4, 5, 6, 7, 8, 9, 10, 11, 12, 13, 14, 15, 16, 17, 18, 19, 20, 21], [15, 22])])
def helmsmanlaw12_moved.B6 : List Nat := [0, 1, 0, 7, 0, 16, 0, 112, 0, 256, 0, 2032, 0, 4096, 0, 32752, 15, 131071, 262143, 524287, 1048575, 2097151, 4194303, 8388607]
theorem helmsmanlaw12_moved.tab6 : rtab .any (opsOf Tryd.f29 6) = helmsmanlaw12_moved.T6 := by kernel_rfl
theorem helmsmanlaw12_moved.bits6 : waitsOk helmsmanlaw12_moved.T6.2 helmsmanlaw12_moved.B6 = true := by kernel_rfl
set_option maxHeartbeats 8000000 in
set_option maxRecDepth 100000 in
theorem helmsmanlaw12_moved.calls (k : Nat) : ∀ (A0 : Option Addr) (c0 : Nat) (l0 : List (S76)) (a1 : Int) (r : List (S76)) (w : World) (hr0 : Kd.C k76 w A0 l0.length l0) (hc0 : l0.length ≤ c0) (h : helmsmanlaw12_moved.f k l0 a1 = some r),
    Calls Tryd.prog 29 #[.slice A0 l0.length c0, .int .i64 a1] w fun e w' => ∃ v0_ : Value, e = .returned (v0_) ∧ Kd.R k76 76 w' w.heap.size (fun _ => True) v0_ r ∧ Below w.heap.size w w' := by
  induction k using Nat.strongRecOn with
  | _ k ih =>
  intro A0 c0 l0 a1 r w hr0 hc0 h
  cases k with
  | zero => exact absurd h (by simp [helmsmanlaw12_moved.f])
  | succ k =>
  simp only [helmsmanlaw12_moved.f] at h
  have hu76 := Tryd.underlying76
  have HR0 := Aside0.mk hr0
  have HC0 := Aside0.mk hc0
  clear hr0 hc0
  have HB := Aside0.mk (Below.refl w.heap.size w)
  have H : (helmsmanlaw12_moved.l0 k a1 ([] : List (S76)) l0 (l0.length : Int) 0) = some r := h
  clear h
  have H' := Aside0.mk H
  clear H
  go_enter Tryd.func29, Tryd.ntmps29
  go_wp2
  (try simp only [Act.put, List.setIfInBounds_toArray, List.set_cons_succ, List.set_cons_zero])
  go_loopg [5, 11] k (fun kq v5 v11 w' => ∃ (x5_1 : List (S76)) (x11_1 : Int), v11 = .int .i64 x11_1 ∧ Aside0 (helmsmanlaw12_moved.l0 kq a1 x5_1 l0 (l0.length : Int) x11_1 = some r) ∧ Aside0 (kq ≤ k) ∧ Aside0 (Kd.R k76 76 w' w.heap.size (fun _ => True) v5 x5_1) ∧ Aside0 (Below w.heap.size w w'))
  case atStart => exact ⟨(([] : List (S76))), (0), (by first | rfl | (simp; done) | (simp [*]; done)), H', ⟨Nat.le_refl _⟩, ⟨by first | exact Kd.R_nil _ _ _ _ _ | exact Kd.N_nil _ _ _ _ _ | exact Kd.V_nil _ _ _ _ _ | exact Kd.Q_nil _ _ _ _ _ | exact Kd.S_nil _ _ _ _ _⟩, ⟨by repeat (first | (with_reducible first | exact HB.out | apply below_alloc | apply pw_below_drewN | apply below_drew1) | exact HB.out)⟩⟩
  case round =>
    clear H'
    try clear c2
    try clear p2
    obtain ⟨x5_1, x11_1, rfl, HA, HK1, HO_5, HB⟩ := hrel
    cases gk with
    | zero => exact absurd HA.out (by simp [helmsmanlaw12_moved.l0])
    | succ k1 =>
      have H := HA.out
      clear HA
      simp only [helmsmanlaw12_moved.l0] at H
      by_cases c3 : x11_1 < (l0.length : Int)
      · rw [if_pos c3] at H
        have c3b0 : decide (x11_1 < (l0.length : Int)) = true := decide_eq_true c3
        clear c3
        by_cases c4 : 0 ≤ x11_1
        · rw [if_pos c4] at H
          have c4b0 : decide (0 ≤ x11_1) = true := decide_eq_true c4
          clear c4
          by_cases c5 : x11_1 < (l0.length : Int)
          · rw [if_pos c5] at H
            have c5b0 : decide (x11_1 < (l0.length : Int)) = true := decide_eq_true c5
            clear c5
            replace H := Option.bind_eq_some_iff.mp H
            obtain ⟨t436, A60, H⟩ := H
            replace H : ((helmsmanlaw12_moved.f k1 ((rd_T76 l0 x11_1).f4) a1).bind fun t439 => ((helmsmanlaw12_movedExprs.f k1 ((rd_T76 l0 x11_1).f2) a1).bind fun t442 => (if x5_1.length < 1256584717458 then (helmsmanlaw12_moved.l0 k1 a1 (x5_1 ++ [(⟨(rd_T76 l0 x11_1).f0, (rd_T76 l0 x11_1).f1, t442, t436, t439, wrap64 (((rd_T76 l0 x11_1).f5) + a1)⟩ : S76)]) l0 (l0.length : Int) (wrap64 (x11_1 + 1))) else (none)))) = some r := H
            have A6 := Aside0.mk A60
            clear A60
            replace H := Option.bind_eq_some_iff.mp H
            obtain ⟨t439, A70, H⟩ := H
            replace H : ((helmsmanlaw12_movedExprs.f k1 ((rd_T76 l0 x11_1).f2) a1).bind fun t442 => (if x5_1.length < 1256584717458 then (helmsmanlaw12_moved.l0 k1 a1 (x5_1 ++ [(⟨(rd_T76 l0 x11_1).f0, (rd_T76 l0 x11_1).f1, t442, t436, t439, wrap64 (((rd_T76 l0 x11_1).f5) + a1)⟩ : S76)]) l0 (l0.length : Int) (wrap64 (x11_1 + 1))) else (none))) = some r := H
            have A7 := Aside0.mk A70
            clear A70
            replace H := Option.bind_eq_some_iff.mp H
            obtain ⟨t442, A80, H⟩ := H
            replace H : (if x5_1.length < 1256584717458 then (helmsmanlaw12_moved.l0 k1 a1 (x5_1 ++ [(⟨(rd_T76 l0 x11_1).f0, (rd_T76 l0 x11_1).f1, t442, t436, t439, wrap64 (((rd_T76 l0 x11_1).f5) + a1)⟩ : S76)]) l0 (l0.length : Int) (wrap64 (x11_1 + 1))) else (none)) = some r := H
            have A8 := Aside0.mk A80
            clear A80
            by_cases c9 : x5_1.length < 1256584717458
            · rw [if_pos c9] at H
              have LMc9 := Aside0.mk c9
              clear c9
              obtain ⟨y445, hy445⟩ : ∃ y_ : List (S76), y_ = (x5_1 ++ [(⟨(rd_T76 l0 x11_1).f0, (rd_T76 l0 x11_1).f1, t442, t436, t439, wrap64 (((rd_T76 l0 x11_1).f5) + a1)⟩ : S76)]) := ⟨_, rfl⟩
              replace H : (helmsmanlaw12_moved.l0 k1 a1 y445 l0 (l0.length : Int) (wrap64 (x11_1 + 1))) = some r := by first | (rw [hy445]; with_reducible exact H) | (have H2_ := (Option.bind_some _ _).symm.trans H; rw [hy445]; with_reducible exact H2_) | (have H2_ := (Option.bind_some _ _).symm.trans H; with_reducible exact H2_) | with_reducible exact H | (rw [hy445]; exact H) | exact H
              have Ny445 := Aside0.mk hy445
              clear hy445
              have H' := Aside0.mk H
              clear H
              have p433 : 0 ≤ (x11_1 : Int) := of_decide_eq_true (by first | (with_reducible assumption) | assumption)
              have q433 : x11_1 < (l0.length : Int) := of_decide_eq_true (by first | (with_reducible assumption) | assumption)
              obtain ⟨ad433, A433_2, c433_2, A433_3, c433_3, A433_4, c433_4, e433, hx433_0, hx433_1, hx433_2, hx433_3, hx433_4, hx433_5, hl433_2, hi433_2, hl433_3, hi433_3, hl433_4, hi433_4⟩ := at_T76 HR0.out x11_1 p433 q433
              cases e433
              replace hx433_0 := (HB.out.cell (World.block_lt_of_cell? w _ hx433_0)).trans hx433_0
              replace hx433_1 := (HB.out.cell (World.block_lt_of_cell? w _ hx433_1)).trans hx433_1
              replace hx433_2 := (HB.out.cell (World.block_lt_of_cell? w _ hx433_2)).trans hx433_2
              replace hx433_3 := (HB.out.cell (World.block_lt_of_cell? w _ hx433_3)).trans hx433_3
              replace hx433_4 := (HB.out.cell (World.block_lt_of_cell? w _ hx433_4)).trans hx433_4
              replace hx433_5 := (HB.out.cell (World.block_lt_of_cell? w _ hx433_5)).trans hx433_5
              have HR433_2 := Aside0.mk hi433_2
              have HC433_2 := Aside0.mk hl433_2
              clear hi433_2 hl433_2
              have HR433_3 := Aside0.mk hi433_3
              have HC433_3 := Aside0.mk hl433_3
              clear hi433_3 hl433_3
              have HR433_4 := Aside0.mk hi433_4
              have HC433_4 := Aside0.mk hl433_4
              clear hi433_4 hl433_4
              replace p433 := eq_true p433
              replace q433 := eq_true q433
              try go_wp2_with (first | ((with_reducible refine gate_dst (N := 7) rfl ?_); refine box_event ?hg (N := 7) ?hd (cs := #[.string (⟨#[]⟩ : ByteArray), .string (⟨#[]⟩ : ByteArray), .slice none 0 0, .slice none 0 0, .slice none 0 0, .int .i64 0]) (t := 76) ?hr ?_; (case hd => rfl); (case hg => rfl); (case hr => first | (go_simp; done) | (go_simp; rfl)); intro gb434 hg w10 hbox hb; have n0_ := Aside0.mk (Kd.R_below (Kd.R_elderB (by (with_reducible repeat (first | apply Kd.R_alloc | apply Kd.R_drewN | apply Kd.R_drew)); exact HO_5.out) gb434 (Nat.le_of_eq hg.symm)) hb); have n1_ := Aside0.mk (below_step (by repeat (first | (with_reducible first | exact HB.out | apply below_alloc | apply pw_below_drewN | apply below_drew1) | exact HB.out)) hb); have n2_ := Aside0.mk (hbox); have n3_ := Aside0.mk ((by rw [hg]; exact (below_size (by repeat (first | (with_reducible first | exact HB.out | apply below_alloc | apply pw_below_drewN | apply below_drew1) | exact HB.out))) : w.heap.size ≤ gb434)); have n4_ := Aside0.mk ((by rw [hg]; exact (below_size (by repeat (first | (with_reducible first | exact HB.out | apply below_alloc | apply pw_below_drewN | apply below_drew1) | exact HB.out))) : w.heap.size ≤ gb434)); clear HO_5; clear HB; have HO_5 := n0_; have HB := n1_; have BK434 := n2_; have GW434 := n3_; have GE434 := n4_; clear n0_ n1_ n2_ n3_ n4_; clear hb hbox hg; have hcz11_0 : w10.cell? ⟨gb434, 0, none⟩ = some (.string (⟨#[]⟩ : ByteArray)) := (blk_cell BK434.out 0).trans rfl; have hcz11_1 : w10.cell? ⟨gb434, 1, none⟩ = some (.string (⟨#[]⟩ : ByteArray)) := (blk_cell BK434.out 1).trans rfl; have hcz11_2 : w10.cell? ⟨gb434, 2, none⟩ = some (.slice none 0 0) := (blk_cell BK434.out 2).trans rfl; have hcz11_3 : w10.cell? ⟨gb434, 3, none⟩ = some (.slice none 0 0) := (blk_cell BK434.out 3).trans rfl; have hcz11_4 : w10.cell? ⟨gb434, 4, none⟩ = some (.slice none 0 0) := (blk_cell BK434.out 4).trans rfl; have hcz11_5 : w10.cell? ⟨gb434, 5, none⟩ = some (.int .i64 0) := (blk_cell BK434.out 5).trans rfl; have hfz11_0 := blk_frozen BK434.out 0; have hfz11_1 := blk_frozen BK434.out 1; have hfz11_2 := blk_frozen BK434.out 2; have hfz11_3 := blk_frozen BK434.out 3; have hfz11_4 := blk_frozen BK434.out 4; have hfz11_5 := blk_frozen BK434.out 5) | ((with_reducible refine gate_dst (N := 8) rfl ?_); refine box_event ?hg (N := 8) ?hd (cs := #[.string (⟨#[]⟩ : ByteArray), .string (⟨#[]⟩ : ByteArray), .slice none 0 0, .slice none 0 0, .slice none 0 0, .int .i64 0]) (t := 76) ?hr ?_; (case hd => rfl); (case hg => rfl); (case hr => first | (go_simp; done) | (go_simp; rfl)); intro gb435 hg w12 hbox hb; have n0_ := Aside0.mk (Kd.R_below (Kd.R_elderB (by (with_reducible repeat (first | apply Kd.R_alloc | apply Kd.R_drewN | apply Kd.R_drew)); exact (Kd.R_mono (Kd.R_far (p := ⟨gb434, 5, none⟩) (Kd.R_far (p := ⟨gb434, 4, none⟩) (Kd.R_far (p := ⟨gb434, 3, none⟩) (Kd.R_far (p := ⟨gb434, 2, none⟩) (Kd.R_far (p := ⟨gb434, 1, none⟩) (Kd.R_far (p := ⟨gb434, 0, none⟩) (Kd.R_mono HO_5.out (fun k_ hk => (⟨hk, hk.2⟩ : _ ∧ k_ ≠ gb434))) (fun _ hk => hk.2) (.string ((rd_T76 l0 x11_1).f0))) (fun _ hk => hk.2) (.string ((rd_T76 l0 x11_1).f1))) (fun _ hk => hk.2) (.slice A433_2 ((rd_T76 l0 x11_1).f2).length c433_2)) (fun _ hk => hk.2) (.slice A433_3 ((rd_T76 l0 x11_1).f3).length c433_3)) (fun _ hk => hk.2) (.slice A433_4 ((rd_T76 l0 x11_1).f4).length c433_4)) (fun _ hk => hk.2) (.int .i64 ((rd_T76 l0 x11_1).f5))) (fun _ h_ => h_.1))) gb435 (Nat.le_of_eq hg.symm)) hb); have n1_ := Aside0.mk (blk_below (g := gb434) (o := .cells #[.string ((rd_T76 l0 x11_1).f0), .string ((rd_T76 l0 x11_1).f1), .slice A433_2 ((rd_T76 l0 x11_1).f2).length c433_2, .slice A433_3 ((rd_T76 l0 x11_1).f3).length c433_3, .slice A433_4 ((rd_T76 l0 x11_1).f4).length c433_4, .int .i64 ((rd_T76 l0 x11_1).f5)] 76 (0, 0)) (by (with_reducible repeat (first | refine blk_drewN ?_ _ | refine blk_drew ?_ | refine blk_alloc ?_ _)); refine blk_put (cs := #[.string ((rd_T76 l0 x11_1).f0), .string ((rd_T76 l0 x11_1).f1), .slice A433_2 ((rd_T76 l0 x11_1).f2).length c433_2, .slice A433_3 ((rd_T76 l0 x11_1).f3).length c433_3, .slice A433_4 ((rd_T76 l0 x11_1).f4).length c433_4, .int .i64 0]) ?_ 5 _ rfl; (with_reducible repeat (first | refine blk_drewN ?_ _ | refine blk_drew ?_ | refine blk_alloc ?_ _)); refine blk_put (cs := #[.string ((rd_T76 l0 x11_1).f0), .string ((rd_T76 l0 x11_1).f1), .slice A433_2 ((rd_T76 l0 x11_1).f2).length c433_2, .slice A433_3 ((rd_T76 l0 x11_1).f3).length c433_3, .slice none 0 0, .int .i64 0]) ?_ 4 _ rfl; (with_reducible repeat (first | refine blk_drewN ?_ _ | refine blk_drew ?_ | refine blk_alloc ?_ _)); refine blk_put (cs := #[.string ((rd_T76 l0 x11_1).f0), .string ((rd_T76 l0 x11_1).f1), .slice A433_2 ((rd_T76 l0 x11_1).f2).length c433_2, .slice none 0 0, .slice none 0 0, .int .i64 0]) ?_ 3 _ rfl; (with_reducible repeat (first | refine blk_drewN ?_ _ | refine blk_drew ?_ | refine blk_alloc ?_ _)); refine blk_put (cs := #[.string ((rd_T76 l0 x11_1).f0), .string ((rd_T76 l0 x11_1).f1), .slice none 0 0, .slice none 0 0, .slice none 0 0, .int .i64 0]) ?_ 2 _ rfl; (with_reducible repeat (first | refine blk_drewN ?_ _ | refine blk_drew ?_ | refine blk_alloc ?_ _)); refine blk_put (cs := #[.string ((rd_T76 l0 x11_1).f0), .string (⟨#[]⟩ : ByteArray), .slice none 0 0, .slice none 0 0, .slice none 0 0, .int .i64 0]) ?_ 1 _ rfl; (with_reducible repeat (first | refine blk_drewN ?_ _ | refine blk_drew ?_ | refine blk_alloc ?_ _)); refine blk_put (cs := #[.string (⟨#[]⟩ : ByteArray), .string (⟨#[]⟩ : ByteArray), .slice none 0 0, .slice none 0 0, .slice none 0 0, .int .i64 0]) ?_ 0 _ rfl; (with_reducible repeat (first | refine blk_drewN ?_ _ | refine blk_drew ?_ | refine blk_alloc ?_ _)); exact BK434.out) hb); have n2_ := Aside0.mk (below_step (by repeat (first | (with_reducible first | exact HB.out | apply below_alloc | apply pw_below_drewN | apply below_drew1 | refine below_set ?_ GE434.out) | exact HB.out)) hb); have n3_ := Aside0.mk (hbox); have n4_ := Aside0.mk ((by rw [hg]; exact (below_size (by repeat (first | (with_reducible first | exact HB.out | apply below_alloc | apply pw_below_drewN | apply below_drew1 | refine below_set ?_ GE434.out) | exact HB.out))) : w.heap.size ≤ gb435)); have n5_ := Aside0.mk ((by rw [hg]; exact (below_size (by repeat (first | (with_reducible first | exact HB.out | apply below_alloc | apply pw_below_drewN | apply below_drew1 | refine below_set ?_ GE434.out) | exact HB.out))) : w.heap.size ≤ gb435)); have n6_ := Aside0.mk ((by rw [hg]; exact Nat.ne_of_lt (blk_lt (g := gb434) (o := .cells #[.string ((rd_T76 l0 x11_1).f0), .string ((rd_T76 l0 x11_1).f1), .slice A433_2 ((rd_T76 l0 x11_1).f2).length c433_2, .slice A433_3 ((rd_T76 l0 x11_1).f3).length c433_3, .slice A433_4 ((rd_T76 l0 x11_1).f4).length c433_4, .int .i64 ((rd_T76 l0 x11_1).f5)] 76 (0, 0)) (by (with_reducible repeat (first | refine blk_drewN ?_ _ | refine blk_drew ?_ | refine blk_alloc ?_ _)); refine blk_put (cs := #[.string ((rd_T76 l0 x11_1).f0), .string ((rd_T76 l0 x11_1).f1), .slice A433_2 ((rd_T76 l0 x11_1).f2).length c433_2, .slice A433_3 ((rd_T76 l0 x11_1).f3).length c433_3, .slice A433_4 ((rd_T76 l0 x11_1).f4).length c433_4, .int .i64 0]) ?_ 5 _ rfl; (with_reducible repeat (first | refine blk_drewN ?_ _ | refine blk_drew ?_ | refine blk_alloc ?_ _)); refine blk_put (cs := #[.string ((rd_T76 l0 x11_1).f0), .string ((rd_T76 l0 x11_1).f1), .slice A433_2 ((rd_T76 l0 x11_1).f2).length c433_2, .slice A433_3 ((rd_T76 l0 x11_1).f3).length c433_3, .slice none 0 0, .int .i64 0]) ?_ 4 _ rfl; (with_reducible repeat (first | refine blk_drewN ?_ _ | refine blk_drew ?_ | refine blk_alloc ?_ _)); refine blk_put (cs := #[.string ((rd_T76 l0 x11_1).f0), .string ((rd_T76 l0 x11_1).f1), .slice A433_2 ((rd_T76 l0 x11_1).f2).length c433_2, .slice none 0 0, .slice none 0 0, .int .i64 0]) ?_ 3 _ rfl; (with_reducible repeat (first | refine blk_drewN ?_ _ | refine blk_drew ?_ | refine blk_alloc ?_ _)); refine blk_put (cs := #[.string ((rd_T76 l0 x11_1).f0), .string ((rd_T76 l0 x11_1).f1), .slice none 0 0, .slice none 0 0, .slice none 0 0, .int .i64 0]) ?_ 2 _ rfl; (with_reducible repeat (first | refine blk_drewN ?_ _ | refine blk_drew ?_ | refine blk_alloc ?_ _)); refine blk_put (cs := #[.string ((rd_T76 l0 x11_1).f0), .string (⟨#[]⟩ : ByteArray), .slice none 0 0, .slice none 0 0, .slice none 0 0, .int .i64 0]) ?_ 1 _ rfl; (with_reducible repeat (first | refine blk_drewN ?_ _ | refine blk_drew ?_ | refine blk_alloc ?_ _)); refine blk_put (cs := #[.string (⟨#[]⟩ : ByteArray), .string (⟨#[]⟩ : ByteArray), .slice none 0 0, .slice none 0 0, .slice none 0 0, .int .i64 0]) ?_ 0 _ rfl; (with_reducible repeat (first | refine blk_drewN ?_ _ | refine blk_drew ?_ | refine blk_alloc ?_ _)); exact BK434.out)) : gb434 ≠ gb435)); have n7_ := Aside0.mk ((by rw [hg]; exact Nat.ne_of_gt (blk_lt (g := gb434) (o := .cells #[.string ((rd_T76 l0 x11_1).f0), .string ((rd_T76 l0 x11_1).f1), .slice A433_2 ((rd_T76 l0 x11_1).f2).length c433_2, .slice A433_3 ((rd_T76 l0 x11_1).f3).length c433_3, .slice A433_4 ((rd_T76 l0 x11_1).f4).length c433_4, .int .i64 ((rd_T76 l0 x11_1).f5)] 76 (0, 0)) (by (with_reducible repeat (first | refine blk_drewN ?_ _ | refine blk_drew ?_ | refine blk_alloc ?_ _)); refine blk_put (cs := #[.string ((rd_T76 l0 x11_1).f0), .string ((rd_T76 l0 x11_1).f1), .slice A433_2 ((rd_T76 l0 x11_1).f2).length c433_2, .slice A433_3 ((rd_T76 l0 x11_1).f3).length c433_3, .slice A433_4 ((rd_T76 l0 x11_1).f4).length c433_4, .int .i64 0]) ?_ 5 _ rfl; (with_reducible repeat (first | refine blk_drewN ?_ _ | refine blk_drew ?_ | refine blk_alloc ?_ _)); refine blk_put (cs := #[.string ((rd_T76 l0 x11_1).f0), .string ((rd_T76 l0 x11_1).f1), .slice A433_2 ((rd_T76 l0 x11_1).f2).length c433_2, .slice A433_3 ((rd_T76 l0 x11_1).f3).length c433_3, .slice none 0 0, .int .i64 0]) ?_ 4 _ rfl; (with_reducible repeat (first | refine blk_drewN ?_ _ | refine blk_drew ?_ | refine blk_alloc ?_ _)); refine blk_put (cs := #[.string ((rd_T76 l0 x11_1).f0), .string ((rd_T76 l0 x11_1).f1), .slice A433_2 ((rd_T76 l0 x11_1).f2).length c433_2, .slice none 0 0, .slice none 0 0, .int .i64 0]) ?_ 3 _ rfl; (with_reducible repeat (first | refine blk_drewN ?_ _ | refine blk_drew ?_ | refine blk_alloc ?_ _)); refine blk_put (cs := #[.string ((rd_T76 l0 x11_1).f0), .string ((rd_T76 l0 x11_1).f1), .slice none 0 0, .slice none 0 0, .slice none 0 0, .int .i64 0]) ?_ 2 _ rfl; (with_reducible repeat (first | refine blk_drewN ?_ _ | refine blk_drew ?_ | refine blk_alloc ?_ _)); refine blk_put (cs := #[.string ((rd_T76 l0 x11_1).f0), .string (⟨#[]⟩ : ByteArray), .slice none 0 0, .slice none 0 0, .slice none 0 0, .int .i64 0]) ?_ 1 _ rfl; (with_reducible repeat (first | refine blk_drewN ?_ _ | refine blk_drew ?_ | refine blk_alloc ?_ _)); refine blk_put (cs := #[.string (⟨#[]⟩ : ByteArray), .string (⟨#[]⟩ : ByteArray), .slice none 0 0, .slice none 0 0, .slice none 0 0, .int .i64 0]) ?_ 0 _ rfl; (with_reducible repeat (first | refine blk_drewN ?_ _ | refine blk_drew ?_ | refine blk_alloc ?_ _)); exact BK434.out)) : gb435 ≠ gb434)); clear HO_5; clear BK434; clear HB; have HO_5 := n0_; have BK434 := n1_; have HB := n2_; have BK435 := n3_; have GW435 := n4_; have GE435 := n5_; have NB434_435 := n6_; have NB435_434 := n7_; clear n0_ n1_ n2_ n3_ n4_ n5_ n6_ n7_; clear hb hbox hg; have hnb13 := NB435_434.out; have hnc13 := NB434_435.out; have hcz14_0 : w12.cell? ⟨gb435, 0, none⟩ = some (.string (⟨#[]⟩ : ByteArray)) := (blk_cell BK435.out 0).trans rfl; have hcz14_1 : w12.cell? ⟨gb435, 1, none⟩ = some (.string (⟨#[]⟩ : ByteArray)) := (blk_cell BK435.out 1).trans rfl; have hcz14_2 : w12.cell? ⟨gb435, 2, none⟩ = some (.slice none 0 0) := (blk_cell BK435.out 2).trans rfl; have hcz14_3 : w12.cell? ⟨gb435, 3, none⟩ = some (.slice none 0 0) := (blk_cell BK435.out 3).trans rfl; have hcz14_4 : w12.cell? ⟨gb435, 4, none⟩ = some (.slice none 0 0) := (blk_cell BK435.out 4).trans rfl; have hcz14_5 : w12.cell? ⟨gb435, 5, none⟩ = some (.int .i64 0) := (blk_cell BK435.out 5).trans rfl; have hfz14_0 := blk_frozen BK435.out 0; have hfz14_1 := blk_frozen BK435.out 1; have hfz14_2 := blk_frozen BK435.out 2; have hfz14_3 := blk_frozen BK435.out 3; have hfz14_4 := blk_frozen BK435.out 4; have hfz14_5 := blk_frozen BK435.out 5))
              have n0_ : Aside0 (Kd.R k76 76 ((((((w12.setCell ⟨gb435, 0, none⟩ (.string ((rd_T76 l0 x11_1).f0))).setCell ⟨gb435, 1, none⟩ (.string ((rd_T76 l0 x11_1).f1))).setCell ⟨gb435, 2, none⟩ (.slice A433_2 ((rd_T76 l0 x11_1).f2).length c433_2)).setCell ⟨gb435, 3, none⟩ (.slice A433_3 ((rd_T76 l0 x11_1).f3).length c433_3)).setCell ⟨gb435, 4, none⟩ (.slice A433_4 ((rd_T76 l0 x11_1).f4).length c433_4)).setCell ⟨gb435, 5, none⟩ (.int .i64 ((rd_T76 l0 x11_1).f5))) w.heap.size (fun k_ => k_ ≠ gb434 ∧ k_ ≠ gb435) u5 x5_1) := ⟨by (with_reducible repeat (first | apply Kd.R_alloc | apply Kd.R_drewN | apply Kd.R_drew)); exact Kd.R_mono (Kd.R_far (p := ⟨gb435, 5, none⟩) (Kd.R_far (p := ⟨gb435, 4, none⟩) (Kd.R_far (p := ⟨gb435, 3, none⟩) (Kd.R_far (p := ⟨gb435, 2, none⟩) (Kd.R_far (p := ⟨gb435, 1, none⟩) (Kd.R_far (p := ⟨gb435, 0, none⟩) (Kd.R_mono HO_5.out (fun k_ hk => (⟨hk, hk.2⟩ : _ ∧ k_ ≠ gb435))) (fun _ hk => hk.2) (.string ((rd_T76 l0 x11_1).f0))) (fun _ hk => hk.2) (.string ((rd_T76 l0 x11_1).f1))) (fun _ hk => hk.2) (.slice A433_2 ((rd_T76 l0 x11_1).f2).length c433_2)) (fun _ hk => hk.2) (.slice A433_3 ((rd_T76 l0 x11_1).f3).length c433_3)) (fun _ hk => hk.2) (.slice A433_4 ((rd_T76 l0 x11_1).f4).length c433_4)) (fun _ hk => hk.2) (.int .i64 ((rd_T76 l0 x11_1).f5))) (fun _ hk => ⟨hk.1.1.2, hk.1.2⟩)⟩
              have n1_ : Aside0 (((((((w12.setCell ⟨gb435, 0, none⟩ (.string ((rd_T76 l0 x11_1).f0))).setCell ⟨gb435, 1, none⟩ (.string ((rd_T76 l0 x11_1).f1))).setCell ⟨gb435, 2, none⟩ (.slice A433_2 ((rd_T76 l0 x11_1).f2).length c433_2)).setCell ⟨gb435, 3, none⟩ (.slice A433_3 ((rd_T76 l0 x11_1).f3).length c433_3)).setCell ⟨gb435, 4, none⟩ (.slice A433_4 ((rd_T76 l0 x11_1).f4).length c433_4)).setCell ⟨gb435, 5, none⟩ (.int .i64 ((rd_T76 l0 x11_1).f5))).heap[gb434]? = some (.cells #[.string ((rd_T76 l0 x11_1).f0), .string ((rd_T76 l0 x11_1).f1), .slice A433_2 ((rd_T76 l0 x11_1).f2).length c433_2, .slice A433_3 ((rd_T76 l0 x11_1).f3).length c433_3, .slice A433_4 ((rd_T76 l0 x11_1).f4).length c433_4, .int .i64 ((rd_T76 l0 x11_1).f5)] 76 (0, 0))) := ⟨by (with_reducible repeat (first | refine blk_drewN ?_ _ | refine blk_drew ?_ | refine blk_alloc ?_ _)); refine blk_far ?_ NB434_435.out _; (with_reducible repeat (first | refine blk_drewN ?_ _ | refine blk_drew ?_ | refine blk_alloc ?_ _)); refine blk_far ?_ NB434_435.out _; (with_reducible repeat (first | refine blk_drewN ?_ _ | refine blk_drew ?_ | refine blk_alloc ?_ _)); refine blk_far ?_ NB434_435.out _; (with_reducible repeat (first | refine blk_drewN ?_ _ | refine blk_drew ?_ | refine blk_alloc ?_ _)); refine blk_far ?_ NB434_435.out _; (with_reducible repeat (first | refine blk_drewN ?_ _ | refine blk_drew ?_ | refine blk_alloc ?_ _)); refine blk_far ?_ NB434_435.out _; (with_reducible repeat (first | refine blk_drewN ?_ _ | refine blk_drew ?_ | refine blk_alloc ?_ _)); refine blk_far ?_ NB434_435.out _; (with_reducible repeat (first | refine blk_drewN ?_ _ | refine blk_drew ?_ | refine blk_alloc ?_ _)); exact BK434.out⟩
              have n2_ : Aside0 (((((((w12.setCell ⟨gb435, 0, none⟩ (.string ((rd_T76 l0 x11_1).f0))).setCell ⟨gb435, 1, none⟩ (.string ((rd_T76 l0 x11_1).f1))).setCell ⟨gb435, 2, none⟩ (.slice A433_2 ((rd_T76 l0 x11_1).f2).length c433_2)).setCell ⟨gb435, 3, none⟩ (.slice A433_3 ((rd_T76 l0 x11_1).f3).length c433_3)).setCell ⟨gb435, 4, none⟩ (.slice A433_4 ((rd_T76 l0 x11_1).f4).length c433_4)).setCell ⟨gb435, 5, none⟩ (.int .i64 ((rd_T76 l0 x11_1).f5))).heap[gb435]? = some (.cells #[.string ((rd_T76 l0 x11_1).f0), .string ((rd_T76 l0 x11_1).f1), .slice A433_2 ((rd_T76 l0 x11_1).f2).length c433_2, .slice A433_3 ((rd_T76 l0 x11_1).f3).length c433_3, .slice A433_4 ((rd_T76 l0 x11_1).f4).length c433_4, .int .i64 ((rd_T76 l0 x11_1).f5)] 76 (0, 0))) := ⟨by (with_reducible repeat (first | refine blk_drewN ?_ _ | refine blk_drew ?_ | refine blk_alloc ?_ _)); refine blk_put (cs := #[.string ((rd_T76 l0 x11_1).f0), .string ((rd_T76 l0 x11_1).f1), .slice A433_2 ((rd_T76 l0 x11_1).f2).length c433_2, .slice A433_3 ((rd_T76 l0 x11_1).f3).length c433_3, .slice A433_4 ((rd_T76 l0 x11_1).f4).length c433_4, .int .i64 0]) ?_ 5 _ rfl; (with_reducible repeat (first | refine blk_drewN ?_ _ | refine blk_drew ?_ | refine blk_alloc ?_ _)); refine blk_put (cs := #[.string ((rd_T76 l0 x11_1).f0), .string ((rd_T76 l0 x11_1).f1), .slice A433_2 ((rd_T76 l0 x11_1).f2).length c433_2, .slice A433_3 ((rd_T76 l0 x11_1).f3).length c433_3, .slice none 0 0, .int .i64 0]) ?_ 4 _ rfl; (with_reducible repeat (first | refine blk_drewN ?_ _ | refine blk_drew ?_ | refine blk_alloc ?_ _)); refine blk_put (cs := #[.string ((rd_T76 l0 x11_1).f0), .string ((rd_T76 l0 x11_1).f1), .slice A433_2 ((rd_T76 l0 x11_1).f2).length c433_2, .slice none 0 0, .slice none 0 0, .int .i64 0]) ?_ 3 _ rfl; (with_reducible repeat (first | refine blk_drewN ?_ _ | refine blk_drew ?_ | refine blk_alloc ?_ _)); refine blk_put (cs := #[.string ((rd_T76 l0 x11_1).f0), .string ((rd_T76 l0 x11_1).f1), .slice none 0 0, .slice none 0 0, .slice none 0 0, .int .i64 0]) ?_ 2 _ rfl; (with_reducible repeat (first | refine blk_drewN ?_ _ | refine blk_drew ?_ | refine blk_alloc ?_ _)); refine blk_put (cs := #[.string ((rd_T76 l0 x11_1).f0), .string (⟨#[]⟩ : ByteArray), .slice none 0 0, .slice none 0 0, .slice none 0 0, .int .i64 0]) ?_ 1 _ rfl; (with_reducible repeat (first | refine blk_drewN ?_ _ | refine blk_drew ?_ | refine blk_alloc ?_ _)); refine blk_put (cs := #[.string (⟨#[]⟩ : ByteArray), .string (⟨#[]⟩ : ByteArray), .slice none 0 0, .slice none 0 0, .slice none 0 0, .int .i64 0]) ?_ 0 _ rfl; (with_reducible repeat (first | refine blk_drewN ?_ _ | refine blk_drew ?_ | refine blk_alloc ?_ _)); exact BK435.out⟩
              have n3_ : Aside0 (Below w.heap.size w ((((((w12.setCell ⟨gb435, 0, none⟩ (.string ((rd_T76 l0 x11_1).f0))).setCell ⟨gb435, 1, none⟩ (.string ((rd_T76 l0 x11_1).f1))).setCell ⟨gb435, 2, none⟩ (.slice A433_2 ((rd_T76 l0 x11_1).f2).length c433_2)).setCell ⟨gb435, 3, none⟩ (.slice A433_3 ((rd_T76 l0 x11_1).f3).length c433_3)).setCell ⟨gb435, 4, none⟩ (.slice A433_4 ((rd_T76 l0 x11_1).f4).length c433_4)).setCell ⟨gb435, 5, none⟩ (.int .i64 ((rd_T76 l0 x11_1).f5)))) := ⟨by repeat (first | (with_reducible first | exact HB.out | apply below_alloc | apply pw_below_drewN | apply below_drew1 | refine below_set ?_ GE434.out | refine below_set ?_ GE435.out) | exact HB.out)⟩
              (try clear HO_5)
              (try clear BK434)
              (try clear BK435)
              (try clear HB)
              generalize ((((((w12.setCell ⟨gb435, 0, none⟩ (.string ((rd_T76 l0 x11_1).f0))).setCell ⟨gb435, 1, none⟩ (.string ((rd_T76 l0 x11_1).f1))).setCell ⟨gb435, 2, none⟩ (.slice A433_2 ((rd_T76 l0 x11_1).f2).length c433_2)).setCell ⟨gb435, 3, none⟩ (.slice A433_3 ((rd_T76 l0 x11_1).f3).length c433_3)).setCell ⟨gb435, 4, none⟩ (.slice A433_4 ((rd_T76 l0 x11_1).f4).length c433_4)).setCell ⟨gb435, 5, none⟩ (.int .i64 ((rd_T76 l0 x11_1).f5))) = w15 at n0_ n1_ n2_ n3_ ⊢
              have HO_5 := n0_
              have BK434 := n1_
              have BK435 := n2_
              have HB := n3_
              clear n0_ n1_ n2_ n3_
              have n0_ := Aside0.mk (Kd.R_drew HO_5.out)
              have n1_ := Aside0.mk (blk_drew BK434.out)
              have n2_ := Aside0.mk (blk_drew BK435.out)
              have n3_ := Aside0.mk (below_drew1 HB.out)
              clear HO_5
              clear BK434
              clear BK435
              clear HB
              have HO_5 := n0_
              have BK434 := n1_
              have BK435 := n2_
              have HB := n3_
              clear n0_ n1_ n2_ n3_
              refine start_ (n := 24) (S := fun w' => w'.cell? ⟨gb434, 0, none⟩ = some (.string ((rd_T76 l0 x11_1).f0)) ∧ w'.cell? ⟨gb434, 1, none⟩ = some (.string ((rd_T76 l0 x11_1).f1)) ∧ w'.cell? ⟨gb434, 2, none⟩ = some (.slice A433_2 ((rd_T76 l0 x11_1).f2).length c433_2) ∧ w'.cell? ⟨gb434, 3, none⟩ = some (.slice A433_3 ((rd_T76 l0 x11_1).f3).length c433_3) ∧ w'.cell? ⟨gb434, 4, none⟩ = some (.slice A433_4 ((rd_T76 l0 x11_1).f4).length c433_4) ∧ w'.cell? ⟨gb434, 5, none⟩ = some (.int .i64 ((rd_T76 l0 x11_1).f5))) (ds := []) #[false, false, false, false, false, false, false, false, false, false, false, false, false, false, false, false, false, false, false, false, false, false, false, false] (by kernel_rfl) rfl rfl ⟨(blk_cell BK434.out 0).trans rfl, (blk_cell BK434.out 1).trans rfl, (blk_cell BK434.out 2).trans rfl, (blk_cell BK434.out 3).trans rfl, (blk_cell BK434.out 4).trans rfl, (blk_cell BK434.out 5).trans rfl⟩ (fun hHeld => ?_); refine with_tabW helmsmanlaw12_moved.tab6 helmsmanlaw12_moved.bits6 (fun HT_ HW_ => ?_)
              generalize w15.drew = w16 at HO_5 BK434 BK435 HB hHeld ⊢
              refine pure_ (i := 0) (N := some 16) (v := ?_) (a' := ?_) #[true, false, false, false, false, false, false, false, false, false, false, false, false, false, false, false, false, false, false, false, false, false, false, false] rfl rfl (any_of HT_.out (by kernel_rfl)) (fun _ _ _ h => h) (Or.inl ⟨by rfl, ?_⟩) ?_ ?_
              rotate_left
              · intro w'
                go_simp
                with_reducible rfl
              rotate_left
              · simp only [Act.put, List.setIfInBounds_toArray, List.set_cons_zero, List.set_cons_succ, i64_w, i32_w]
                rfl
              refine pure_ (i := 2) (N := some 18) (v := ?_) (a' := ?_) #[true, false, true, false, false, false, false, false, false, false, false, false, false, false, false, false, false, false, false, false, false, false, false, false] rfl rfl (any_of HT_.out (by kernel_rfl)) (fun _ _ _ h => h) (Or.inl ⟨by rfl, ?_⟩) ?_ ?_
              rotate_left
              · intro w'
                go_simp
                with_reducible rfl
              rotate_left
              · simp only [Act.put, List.setIfInBounds_toArray, List.set_cons_zero, List.set_cons_succ, i64_w, i32_w]
                rfl
              refine pure_ (i := 4) (N := some 20) (v := ?_) (a' := ?_) #[true, false, true, false, true, false, false, false, false, false, false, false, false, false, false, false, false, false, false, false, false, false, false, false] rfl rfl (any_of HT_.out (by kernel_rfl)) (fun _ _ _ h => h) (Or.inl ⟨by rfl, ?_⟩) ?_ ?_
              rotate_left
              · intro w'
                go_simp
                with_reducible rfl
              rotate_left
              · simp only [Act.put, List.setIfInBounds_toArray, List.set_cons_zero, List.set_cons_succ, i64_w, i32_w]
                rfl
              refine pure_ (i := 6) (N := some 22) (v := ?_) (a' := ?_) #[true, false, true, false, true, false, true, false, false, false, false, false, false, false, false, false, false, false, false, false, false, false, false, false] rfl rfl (any_of HT_.out (by kernel_rfl)) (fun _ _ _ h => h) (Or.inl ⟨by rfl, ?_⟩) ?_ ?_
              rotate_left
              · intro w'
                go_simp
                with_reducible rfl
              rotate_left
              · simp only [Act.put, List.setIfInBounds_toArray, List.set_cons_zero, List.set_cons_succ, i64_w, i32_w]
                rfl
              refine pure_ (i := 8) (N := some 24) (v := ?_) (a' := ?_) #[true, false, true, false, true, false, true, false, true, false, false, false, false, false, false, false, false, false, false, false, false, false, false, false] rfl rfl (any_of HT_.out (by kernel_rfl)) (fun _ _ _ h => h) (Or.inl ⟨by rfl, ?_⟩) ?_ ?_
              rotate_left
              · intro w'
                go_simp
                with_reducible rfl
              rotate_left
              · simp only [Act.put, List.setIfInBounds_toArray, List.set_cons_zero, List.set_cons_succ, i64_w, i32_w]
                rfl
              refine pure_ (i := 10) (N := some 26) (v := ?_) (a' := ?_) #[true, false, true, false, true, false, true, false, true, false, true, false, false, false, false, false, false, false, false, false, false, false, false, false] rfl rfl (any_of HT_.out (by kernel_rfl)) (fun _ _ _ h => h) (Or.inl ⟨by rfl, ?_⟩) ?_ ?_
              rotate_left
              · intro w'
                go_simp
                with_reducible rfl
              rotate_left
              · simp only [Act.put, List.setIfInBounds_toArray, List.set_cons_zero, List.set_cons_succ, i64_w, i32_w]
                rfl
              refine pure_ (i := 12) (N := some 28) (v := ?_) (a' := ?_) #[true, false, true, false, true, false, true, false, true, false, true, false, true, false, false, false, false, false, false, false, false, false, false, false] rfl rfl (any_of HT_.out (by kernel_rfl)) (fun _ _ _ h => h) (Or.inl ⟨by rfl, ?_⟩) ?_ ?_
              rotate_left
              · intro w'
                go_simp
                with_reducible rfl
              rotate_left
              · simp only [Act.put, List.setIfInBounds_toArray, List.set_cons_zero, List.set_cons_succ, i64_w, i32_w]
                rfl
              refine pure_ (i := 14) (N := some 30) (v := ?_) (a' := ?_) #[true, false, true, false, true, false, true, false, true, false, true, false, true, false, true, false, false, false, false, false, false, false, false, false] rfl rfl (any_of HT_.out (by kernel_rfl)) (fun _ _ _ h => h) (Or.inl ⟨by rfl, ?_⟩) ?_ ?_
              rotate_left
              · intro w'
                go_simp
                with_reducible rfl
              rotate_left
              · simp only [Act.put, List.setIfInBounds_toArray, List.set_cons_zero, List.set_cons_succ, i64_w, i32_w]
                rfl
              refine take_ (i := 1) (N := some 17) (v := ?_) (a' := ?_) #[true, true, true, false, true, false, true, false, true, false, true, false, true, false, true, false, false, false, false, false, false, false, false, false] rfl rfl (take_ofW HT_.out HW_.out (by kernel_rfl)) (fun _ _ _ h => h) (Or.inl ⟨by rfl, ?_⟩) hHeld ?_ ?_
              rotate_left
              · rintro w' ⟨s0, s1, s2, s3, s4, s5⟩
                go_simp
                with_reducible rfl
              rotate_left
              · simp only [Act.put, List.setIfInBounds_toArray, List.set_cons_zero, List.set_cons_succ, i64_w, i32_w]
                rfl
              refine pure_ (i := 3) (N := some 19) (v := ?_) (a' := ?_) #[true, true, true, true, true, false, true, false, true, false, true, false, true, false, true, false, false, false, false, false, false, false, false, false] rfl rfl (any_of HT_.out (by kernel_rfl)) (fun _ _ _ h => h) (Or.inl ⟨by rfl, ?_⟩) ?_ ?_
              rotate_left
              · intro w'
                go_simp
                with_reducible rfl
              rotate_left
              · simp only [Act.put, List.setIfInBounds_toArray, List.set_cons_zero, List.set_cons_succ, i64_w, i32_w]
                rfl
              refine pure_ (i := 16) (N := some 32) (v := ?_) (a' := ?_) #[true, true, true, true, true, false, true, false, true, false, true, false, true, false, true, false, true, false, false, false, false, false, false, false] rfl rfl (any_of HT_.out (by kernel_rfl)) (fun _ _ _ h => h) (Or.inl ⟨by rfl, ?_⟩) ?_ ?_
              rotate_left
              · intro w'
                go_simp
                with_reducible rfl
              rotate_left
              · simp only [Act.put, List.setIfInBounds_toArray, List.set_cons_zero, List.set_cons_succ, i64_w, i32_w]
                rfl
              refine take_ (i := 5) (N := some 21) (v := ?_) (a' := ?_) #[true, true, true, true, true, true, true, false, true, false, true, false, true, false, true, false, true, false, false, false, false, false, false, false] rfl rfl (take_ofW HT_.out HW_.out (by kernel_rfl)) (fun _ _ _ h => h) (Or.inl ⟨by rfl, ?_⟩) hHeld ?_ ?_
              rotate_left
              · rintro w' ⟨s0, s1, s2, s3, s4, s5⟩
                go_simp
                with_reducible rfl
              rotate_left
              · simp only [Act.put, List.setIfInBounds_toArray, List.set_cons_zero, List.set_cons_succ, i64_w, i32_w]
                rfl
              refine take_ (i := 9) (N := some 25) (v := ?_) (a' := ?_) #[true, true, true, true, true, true, true, false, true, true, true, false, true, false, true, false, true, false, false, false, false, false, false, false] rfl rfl (take_ofW HT_.out HW_.out (by kernel_rfl)) (fun _ _ _ h => h) (Or.inl ⟨by rfl, ?_⟩) hHeld ?_ ?_
              rotate_left
              · rintro w' ⟨s0, s1, s2, s3, s4, s5⟩
                go_simp
                with_reducible rfl
              rotate_left
              · simp only [Act.put, List.setIfInBounds_toArray, List.set_cons_zero, List.set_cons_succ, i64_w, i32_w]
                rfl
              refine take_ (i := 13) (N := some 29) (v := ?_) (a' := ?_) #[true, true, true, true, true, true, true, false, true, true, true, false, true, true, true, false, true, false, false, false, false, false, false, false] rfl rfl (take_ofW HT_.out HW_.out (by kernel_rfl)) (fun _ _ _ h => h) (Or.inl ⟨by rfl, ?_⟩) hHeld ?_ ?_
              rotate_left
              · rintro w' ⟨s0, s1, s2, s3, s4, s5⟩
                go_simp
                with_reducible rfl
              rotate_left
              · simp only [Act.put, List.setIfInBounds_toArray, List.set_cons_zero, List.set_cons_succ, i64_w, i32_w]
                rfl
              refine one_ (i := 7) (N := some 23) #[true, true, true, true, true, true, true, true, true, true, true, false, true, true, true, false, true, false, false, false, false, false, false, false] rfl rfl (one_of HT_.out (by kernel_rfl)) (by decide) (fun K hK => ?_)
              refine goes_ Tryd.func29 (by kernel_rfl) rfl #[.slice A433_3 ((rd_T76 l0 x11_1).f3).length c433_3, .int .i64 a1] (by rfl) rfl rfl (by (try simp only [List.map_toArray, List.map_cons, List.map_nil]); first | done | rfl | (simp only [List.length_drop, List.length_take]; rfl)) ?_
              with_reducible refine (ih k1 (by have := HK1.out; omega) _ _ ((rd_T76 l0 x11_1).f3) a1 t436 _ ?side1 ?side2 A6.out).mono ?_
              (case side1 => repeat (first | exact (Kd.C_below HR433_3.out HB.out) | (with_reducible refine Kd.C_alloc ?_ _) | (with_reducible refine Kd.C_drewN ?_ _) | (with_reducible refine Kd.C_drew ?_)))
              (case side2 => exact HC433_3.out)
              rintro e w17 ⟨v437, rfl, ho0, hb⟩
              refine ⟨_, rfl, ?_⟩
              have n0_ := Aside0.mk (Kd.R_elder' (by (with_reducible repeat (first | apply Kd.R_alloc | apply Kd.R_drewN | apply Kd.R_drew)); exact HO_5.out) (Kd.R_base ho0) hb)
              have n1_ := Aside0.mk (Kd.R_lower (Kd.R_newB (Kd.R_newB (Kd.R_new' ho0 (Kd.R_lt (by (with_reducible repeat (first | apply Kd.R_alloc | apply Kd.R_drewN | apply Kd.R_drew)); exact HO_5.out))) (g := gb434) (o := .cells #[.string ((rd_T76 l0 x11_1).f0), .string ((rd_T76 l0 x11_1).f1), .slice A433_2 ((rd_T76 l0 x11_1).f2).length c433_2, .slice A433_3 ((rd_T76 l0 x11_1).f3).length c433_3, .slice A433_4 ((rd_T76 l0 x11_1).f4).length c433_4, .int .i64 ((rd_T76 l0 x11_1).f5)] 76 (0, 0)) (by (with_reducible repeat (first | refine blk_drewN ?_ _ | refine blk_drew ?_ | refine blk_alloc ?_ _)); exact BK434.out)) (g := gb435) (o := .cells #[.string ((rd_T76 l0 x11_1).f0), .string ((rd_T76 l0 x11_1).f1), .slice A433_2 ((rd_T76 l0 x11_1).f2).length c433_2, .slice A433_3 ((rd_T76 l0 x11_1).f3).length c433_3, .slice A433_4 ((rd_T76 l0 x11_1).f4).length c433_4, .int .i64 ((rd_T76 l0 x11_1).f5)] 76 (0, 0)) (by (with_reducible repeat (first | refine blk_drewN ?_ _ | refine blk_drew ?_ | refine blk_alloc ?_ _)); exact BK435.out)) (below_size (by repeat (first | (with_reducible first | exact HB.out | apply below_alloc | apply pw_below_drewN | apply below_drew1 | refine below_set ?_ GE434.out | refine below_set ?_ GE435.out) | exact HB.out))))
              have n2_ := Aside0.mk (blk_below (g := gb434) (o := .cells #[.string ((rd_T76 l0 x11_1).f0), .string ((rd_T76 l0 x11_1).f1), .slice A433_2 ((rd_T76 l0 x11_1).f2).length c433_2, .slice A433_3 ((rd_T76 l0 x11_1).f3).length c433_3, .slice A433_4 ((rd_T76 l0 x11_1).f4).length c433_4, .int .i64 ((rd_T76 l0 x11_1).f5)] 76 (0, 0)) (by (with_reducible repeat (first | refine blk_drewN ?_ _ | refine blk_drew ?_ | refine blk_alloc ?_ _)); exact BK434.out) hb)
              have n3_ := Aside0.mk (blk_below (g := gb435) (o := .cells #[.string ((rd_T76 l0 x11_1).f0), .string ((rd_T76 l0 x11_1).f1), .slice A433_2 ((rd_T76 l0 x11_1).f2).length c433_2, .slice A433_3 ((rd_T76 l0 x11_1).f3).length c433_3, .slice A433_4 ((rd_T76 l0 x11_1).f4).length c433_4, .int .i64 ((rd_T76 l0 x11_1).f5)] 76 (0, 0)) (by (with_reducible repeat (first | refine blk_drewN ?_ _ | refine blk_drew ?_ | refine blk_alloc ?_ _)); exact BK435.out) hb)
              have n4_ := Aside0.mk (below_step (by repeat (first | (with_reducible first | exact HB.out | apply below_alloc | apply pw_below_drewN | apply below_drew1 | refine below_set ?_ GE434.out | refine below_set ?_ GE435.out) | exact HB.out)) hb)
              clear HO_5
              clear BK434
              clear BK435
              clear HB
              have HO_5 := n0_
              have HO438 := n1_
              have BK434 := n2_
              have BK435 := n3_
              have HB := n4_
              clear n0_ n1_ n2_ n3_ n4_
              (try clear hb)
              (try clear hb2)
              (try clear hk)
              (try clear hi)
              (try clear ho0)
              refine hK.out _ _ ⟨(blk_cell BK434.out 0).trans rfl, (blk_cell BK434.out 1).trans rfl, (blk_cell BK434.out 2).trans rfl, (blk_cell BK434.out 3).trans rfl, (blk_cell BK434.out 4).trans rfl, (blk_cell BK434.out 5).trans rfl⟩ (fun hHeld => ?_)
              clear hK K
              refine norm_ (a' := ?_) ?_ ?_
              rotate_left
              · show Act.put _ (some 23) _ = _
                simp only [Act.put, List.setIfInBounds_toArray, List.set_cons_zero, List.set_cons_succ, i64_w, i32_w]
                rfl
              refine one_ (i := 11) (N := some 27) #[true, true, true, true, true, true, true, true, true, true, true, true, true, true, true, false, true, false, false, false, false, false, false, false] rfl rfl (one_of HT_.out (by kernel_rfl)) (by decide) (fun K hK => ?_)
              refine goes_ Tryd.func29 (by kernel_rfl) rfl #[.slice A433_4 ((rd_T76 l0 x11_1).f4).length c433_4, .int .i64 a1] (by rfl) rfl rfl (by (try simp only [List.map_toArray, List.map_cons, List.map_nil]); first | done | rfl | (simp only [List.length_drop, List.length_take]; rfl)) ?_
              with_reducible refine (ih k1 (by have := HK1.out; omega) _ _ ((rd_T76 l0 x11_1).f4) a1 t439 _ ?side1 ?side2 A7.out).mono ?_
              (case side1 => repeat (first | exact (Kd.C_below HR433_4.out HB.out) | (with_reducible refine Kd.C_alloc ?_ _) | (with_reducible refine Kd.C_drewN ?_ _) | (with_reducible refine Kd.C_drew ?_)))
              (case side2 => exact HC433_4.out)
              rintro e w18 ⟨v440, rfl, ho0, hb⟩
              refine ⟨_, rfl, ?_⟩
              have n0_ := Aside0.mk (Kd.R_elder' (by (with_reducible repeat (first | apply Kd.R_alloc | apply Kd.R_drewN | apply Kd.R_drew)); exact HO_5.out) (Kd.R_base ho0) hb)
              have n1_ := Aside0.mk (Kd.R_elder' (by (with_reducible repeat (first | apply Kd.R_alloc | apply Kd.R_drewN | apply Kd.R_drew)); exact HO438.out) (Kd.R_base ho0) hb)
              have n2_ := Aside0.mk (Kd.R_lower (Kd.R_newB (Kd.R_newB (Kd.R_new' (Kd.R_new' ho0 (Kd.R_lt (by (with_reducible repeat (first | apply Kd.R_alloc | apply Kd.R_drewN | apply Kd.R_drew)); exact HO_5.out))) (Kd.R_lt (by (with_reducible repeat (first | apply Kd.R_alloc | apply Kd.R_drewN | apply Kd.R_drew)); exact HO438.out))) (g := gb434) (o := .cells #[.string ((rd_T76 l0 x11_1).f0), .string ((rd_T76 l0 x11_1).f1), .slice A433_2 ((rd_T76 l0 x11_1).f2).length c433_2, .slice A433_3 ((rd_T76 l0 x11_1).f3).length c433_3, .slice A433_4 ((rd_T76 l0 x11_1).f4).length c433_4, .int .i64 ((rd_T76 l0 x11_1).f5)] 76 (0, 0)) (by (with_reducible repeat (first | refine blk_drewN ?_ _ | refine blk_drew ?_ | refine blk_alloc ?_ _)); exact BK434.out)) (g := gb435) (o := .cells #[.string ((rd_T76 l0 x11_1).f0), .string ((rd_T76 l0 x11_1).f1), .slice A433_2 ((rd_T76 l0 x11_1).f2).length c433_2, .slice A433_3 ((rd_T76 l0 x11_1).f3).length c433_3, .slice A433_4 ((rd_T76 l0 x11_1).f4).length c433_4, .int .i64 ((rd_T76 l0 x11_1).f5)] 76 (0, 0)) (by (with_reducible repeat (first | refine blk_drewN ?_ _ | refine blk_drew ?_ | refine blk_alloc ?_ _)); exact BK435.out)) (below_size (by repeat (first | (with_reducible first | exact HB.out | apply below_alloc | apply pw_below_drewN | apply below_drew1 | refine below_set ?_ GE434.out | refine below_set ?_ GE435.out) | exact HB.out))))
              have n3_ := Aside0.mk (blk_below (g := gb434) (o := .cells #[.string ((rd_T76 l0 x11_1).f0), .string ((rd_T76 l0 x11_1).f1), .slice A433_2 ((rd_T76 l0 x11_1).f2).length c433_2, .slice A433_3 ((rd_T76 l0 x11_1).f3).length c433_3, .slice A433_4 ((rd_T76 l0 x11_1).f4).length c433_4, .int .i64 ((rd_T76 l0 x11_1).f5)] 76 (0, 0)) (by (with_reducible repeat (first | refine blk_drewN ?_ _ | refine blk_drew ?_ | refine blk_alloc ?_ _)); exact BK434.out) hb)
              have n4_ := Aside0.mk (blk_below (g := gb435) (o := .cells #[.string ((rd_T76 l0 x11_1).f0), .string ((rd_T76 l0 x11_1).f1), .slice A433_2 ((rd_T76 l0 x11_1).f2).length c433_2, .slice A433_3 ((rd_T76 l0 x11_1).f3).length c433_3, .slice A433_4 ((rd_T76 l0 x11_1).f4).length c433_4, .int .i64 ((rd_T76 l0 x11_1).f5)] 76 (0, 0)) (by (with_reducible repeat (first | refine blk_drewN ?_ _ | refine blk_drew ?_ | refine blk_alloc ?_ _)); exact BK435.out) hb)
              have n5_ := Aside0.mk (below_step (by repeat (first | (with_reducible first | exact HB.out | apply below_alloc | apply pw_below_drewN | apply below_drew1 | refine below_set ?_ GE434.out | refine below_set ?_ GE435.out) | exact HB.out)) hb)
              clear HO_5
              clear HO438
              clear BK434
              clear BK435
              clear HB
              have HO_5 := n0_
              have HO438 := n1_
              have HO441 := n2_
              have BK434 := n3_
              have BK435 := n4_
              have HB := n5_
              clear n0_ n1_ n2_ n3_ n4_ n5_
              (try clear hb)
              (try clear hb2)
              (try clear hk)
              (try clear hi)
              (try clear ho0)
              refine hK.out _ _ ⟨(blk_cell BK434.out 0).trans rfl, (blk_cell BK434.out 1).trans rfl, (blk_cell BK434.out 2).trans rfl, (blk_cell BK434.out 3).trans rfl, (blk_cell BK434.out 4).trans rfl, (blk_cell BK434.out 5).trans rfl⟩ (fun hHeld => ?_)
              clear hK K
              refine norm_ (a' := ?_) ?_ ?_
              rotate_left
              · show Act.put _ (some 27) _ = _
                simp only [Act.put, List.setIfInBounds_toArray, List.set_cons_zero, List.set_cons_succ, i64_w, i32_w]
                rfl
              refine one_ (i := 15) (N := some 31) #[true, true, true, true, true, true, true, true, true, true, true, true, true, true, true, true, true, false, false, false, false, false, false, false] rfl rfl (one_of HT_.out (by kernel_rfl)) (by decide) (fun K hK => ?_)
              refine goes_ Tryd.func52 (by kernel_rfl) rfl #[.slice A433_2 ((rd_T76 l0 x11_1).f2).length c433_2, .int .i64 a1] (by rfl) rfl rfl (by (try simp only [List.map_toArray, List.map_cons, List.map_nil]); first | done | rfl | (simp only [List.length_drop, List.length_take]; rfl)) ?_
              with_reducible refine (helmsmanlaw12_movedExprs.calls k1 _ _ ((rd_T76 l0 x11_1).f2) a1 t442 _ ?side1 ?side2 A8.out).mono ?_
              (case side1 => repeat (first | exact (Kd.C_below HR433_2.out HB.out) | (with_reducible refine Kd.C_alloc ?_ _) | (with_reducible refine Kd.C_drewN ?_ _) | (with_reducible refine Kd.C_drew ?_)))
              (case side2 => exact HC433_2.out)
              rintro e w19 ⟨v443, rfl, ho0, hb⟩
              refine ⟨_, rfl, ?_⟩
              have n0_ := Aside0.mk (Kd.R_elder' (by (with_reducible repeat (first | apply Kd.R_alloc | apply Kd.R_drewN | apply Kd.R_drew)); exact HO_5.out) (Kd.R_base ho0) hb)
              have n1_ := Aside0.mk (Kd.R_elder' (by (with_reducible repeat (first | apply Kd.R_alloc | apply Kd.R_drewN | apply Kd.R_drew)); exact HO438.out) (Kd.R_base ho0) hb)
              have n2_ := Aside0.mk (Kd.R_elder' (by (with_reducible repeat (first | apply Kd.R_alloc | apply Kd.R_drewN | apply Kd.R_drew)); exact HO441.out) (Kd.R_base ho0) hb)
              have n3_ := Aside0.mk (Kd.R_lower ho0 (below_size (by repeat (first | (with_reducible first | exact HB.out | apply below_alloc | apply pw_below_drewN | apply below_drew1 | refine below_set ?_ GE434.out | refine below_set ?_ GE435.out) | exact HB.out))))
              have n4_ := Aside0.mk (blk_below (g := gb434) (o := .cells #[.string ((rd_T76 l0 x11_1).f0), .string ((rd_T76 l0 x11_1).f1), .slice A433_2 ((rd_T76 l0 x11_1).f2).length c433_2, .slice A433_3 ((rd_T76 l0 x11_1).f3).length c433_3, .slice A433_4 ((rd_T76 l0 x11_1).f4).length c433_4, .int .i64 ((rd_T76 l0 x11_1).f5)] 76 (0, 0)) (by (with_reducible repeat (first | refine blk_drewN ?_ _ | refine blk_drew ?_ | refine blk_alloc ?_ _)); exact BK434.out) hb)
              have n5_ := Aside0.mk (blk_below (g := gb435) (o := .cells #[.string ((rd_T76 l0 x11_1).f0), .string ((rd_T76 l0 x11_1).f1), .slice A433_2 ((rd_T76 l0 x11_1).f2).length c433_2, .slice A433_3 ((rd_T76 l0 x11_1).f3).length c433_3, .slice A433_4 ((rd_T76 l0 x11_1).f4).length c433_4, .int .i64 ((rd_T76 l0 x11_1).f5)] 76 (0, 0)) (by (with_reducible repeat (first | refine blk_drewN ?_ _ | refine blk_drew ?_ | refine blk_alloc ?_ _)); exact BK435.out) hb)
              have n6_ := Aside0.mk (below_step (by repeat (first | (with_reducible first | exact HB.out | apply below_alloc | apply pw_below_drewN | apply below_drew1 | refine below_set ?_ GE434.out | refine below_set ?_ GE435.out) | exact HB.out)) hb)
              clear HO_5
              clear HO438
              clear HO441
              clear BK434
              clear BK435
              clear HB
              have HO_5 := n0_
              have HO438 := n1_
              have HO441 := n2_
              have HO444 := n3_
              have BK434 := n4_
              have BK435 := n5_
              have HB := n6_
              clear n0_ n1_ n2_ n3_ n4_ n5_ n6_
              (try clear hb)
              (try clear hb2)
              (try clear hk)
              (try clear hi)
              (try clear ho0)
              obtain ⟨Ao21, co21, eo21⟩ := Kd.R_slice HO438.out
              (first | subst eo21 | (injection eo21 with f1_ f2_ f3_; have f4_ := f1_.symm; have f5_ := f3_.symm; clear f1_ f2_ f3_; subst f4_; subst f5_))
              obtain ⟨Ao23, co23, eo23⟩ := Kd.R_slice HO441.out
              (first | subst eo23 | (injection eo23 with f1_ f2_ f3_; have f4_ := f1_.symm; have f5_ := f3_.symm; clear f1_ f2_ f3_; subst f4_; subst f5_))
              obtain ⟨Ao25, co25, eo25⟩ := Kd.R_slice HO444.out
              (first | subst eo25 | (injection eo25 with f1_ f2_ f3_; have f4_ := f1_.symm; have f5_ := f3_.symm; clear f1_ f2_ f3_; subst f4_; subst f5_))
              refine hK.out _ _ ⟨(blk_cell BK434.out 0).trans rfl, (blk_cell BK434.out 1).trans rfl, (blk_cell BK434.out 2).trans rfl, (blk_cell BK434.out 3).trans rfl, (blk_cell BK434.out 4).trans rfl, (blk_cell BK434.out 5).trans rfl⟩ (fun hHeld => ?_)
              clear hK K
              refine norm_ (a' := ?_) ?_ ?_
              rotate_left
              · show Act.put _ (some 31) _ = _
                simp only [Act.put, List.setIfInBounds_toArray, List.set_cons_zero, List.set_cons_succ, i64_w, i32_w]
                rfl
              refine one_ (i := 17) (N := none) #[true, true, true, true, true, true, true, true, true, true, true, true, true, true, true, true, true, true, false, false, false, false, false, false] rfl rfl (one_of HT_.out (by kernel_rfl)) (by decide) (fun K hK => ?_)
              have hs20 : w19.cell? ⟨gb435, 5, none⟩ = some (.int .i64 ((rd_T76 l0 x11_1).f5)) := (blk_cell BK435.out 5).trans rfl
              have hfs20 := blk_frozen BK435.out 5
              have hns20_0 := NB434_435.out
              have hms20_0 := NB435_434.out
              refine skip_ (w1 := ?_) (by rfl) rfl ?_ ?_
              rotate_left
              · go_simp
                rfl
              refine hK.out _ _ ⟨((cell_far (p := ⟨gb435, _, none⟩) NB434_435.out _).trans (hHeld.1)), ((cell_far (p := ⟨gb435, _, none⟩) NB434_435.out _).trans (hHeld.2.1)), ((cell_far (p := ⟨gb435, _, none⟩) NB434_435.out _).trans (hHeld.2.2.1)), ((cell_far (p := ⟨gb435, _, none⟩) NB434_435.out _).trans (hHeld.2.2.2.1)), ((cell_far (p := ⟨gb435, _, none⟩) NB434_435.out _).trans (hHeld.2.2.2.2.1)), ((cell_far (p := ⟨gb435, _, none⟩) NB434_435.out _).trans (hHeld.2.2.2.2.2))⟩ (fun hHeld => ?_)
              clear hK K
              refine pure_ (i := 18) (N := some 33) (v := ?_) (a' := ?_) #[true, true, true, true, true, true, true, true, true, true, true, true, true, true, true, true, true, true, true, false, false, false, false, false] rfl rfl (any_of HT_.out (by kernel_rfl)) (fun _ _ _ h => h) (Or.inl ⟨by rfl, ?_⟩) ?_ ?_
              rotate_left
              · intro w'
                go_simp
                with_reducible rfl
              rotate_left
              · simp only [Act.put, List.setIfInBounds_toArray, List.set_cons_zero, List.set_cons_succ, i64_w, i32_w]
                rfl
              refine one_ (i := 19) (N := none) #[true, true, true, true, true, true, true, true, true, true, true, true, true, true, true, true, true, true, true, true, false, false, false, false] rfl rfl (one_of HT_.out (by kernel_rfl)) (by decide) (fun K hK => ?_)
              have hs22 : w19.cell? ⟨gb435, 3, none⟩ = some (.slice A433_3 ((rd_T76 l0 x11_1).f3).length c433_3) := (blk_cell BK435.out 3).trans rfl
              have hfs22 := blk_frozen BK435.out 3
              have hns22_0 := NB434_435.out
              have hms22_0 := NB435_434.out
              refine skip_ (w1 := ?_) (by rfl) rfl ?_ ?_
              rotate_left
              · go_simp
                rfl
              refine hK.out _ _ ⟨((cell_far (p := ⟨gb435, _, none⟩) NB434_435.out _).trans (hHeld.1)), ((cell_far (p := ⟨gb435, _, none⟩) NB434_435.out _).trans (hHeld.2.1)), ((cell_far (p := ⟨gb435, _, none⟩) NB434_435.out _).trans (hHeld.2.2.1)), ((cell_far (p := ⟨gb435, _, none⟩) NB434_435.out _).trans (hHeld.2.2.2.1)), ((cell_far (p := ⟨gb435, _, none⟩) NB434_435.out _).trans (hHeld.2.2.2.2.1)), ((cell_far (p := ⟨gb435, _, none⟩) NB434_435.out _).trans (hHeld.2.2.2.2.2))⟩ (fun hHeld => ?_)
              clear hK K
              refine pure_ (i := 20) (N := some 34) (v := ?_) (a' := ?_) #[true, true, true, true, true, true, true, true, true, true, true, true, true, true, true, true, true, true, true, true, true, false, false, false] rfl rfl (any_of HT_.out (by kernel_rfl)) (fun _ _ _ h => h) (Or.inl ⟨by rfl, ?_⟩) ?_ ?_
              rotate_left
              · intro w'
                go_simp
                with_reducible rfl
              rotate_left
              · simp only [Act.put, List.setIfInBounds_toArray, List.set_cons_zero, List.set_cons_succ, i64_w, i32_w]
                rfl
              refine one_ (i := 21) (N := none) #[true, true, true, true, true, true, true, true, true, true, true, true, true, true, true, true, true, true, true, true, true, true, false, false] rfl rfl (one_of HT_.out (by kernel_rfl)) (by decide) (fun K hK => ?_)
              have hs24 : w19.cell? ⟨gb435, 4, none⟩ = some (.slice A433_4 ((rd_T76 l0 x11_1).f4).length c433_4) := (blk_cell BK435.out 4).trans rfl
              have hfs24 := blk_frozen BK435.out 4
              have hns24_0 := NB434_435.out
              have hms24_0 := NB435_434.out
              refine skip_ (w1 := ?_) (by rfl) rfl ?_ ?_
              rotate_left
              · go_simp
                rfl
              refine hK.out _ _ ⟨((cell_far (p := ⟨gb435, _, none⟩) NB434_435.out _).trans (hHeld.1)), ((cell_far (p := ⟨gb435, _, none⟩) NB434_435.out _).trans (hHeld.2.1)), ((cell_far (p := ⟨gb435, _, none⟩) NB434_435.out _).trans (hHeld.2.2.1)), ((cell_far (p := ⟨gb435, _, none⟩) NB434_435.out _).trans (hHeld.2.2.2.1)), ((cell_far (p := ⟨gb435, _, none⟩) NB434_435.out _).trans (hHeld.2.2.2.2.1)), ((cell_far (p := ⟨gb435, _, none⟩) NB434_435.out _).trans (hHeld.2.2.2.2.2))⟩ (fun hHeld => ?_)
              clear hK K
              refine pure_ (i := 22) (N := some 35) (v := ?_) (a' := ?_) #[true, true, true, true, true, true, true, true, true, true, true, true, true, true, true, true, true, true, true, true, true, true, true, false] rfl rfl (any_of HT_.out (by kernel_rfl)) (fun _ _ _ h => h) (Or.inl ⟨by rfl, ?_⟩) ?_ ?_
              rotate_left
              · intro w'
                go_simp
                with_reducible rfl
              rotate_left
              · simp only [Act.put, List.setIfInBounds_toArray, List.set_cons_zero, List.set_cons_succ, i64_w, i32_w]
                rfl
              refine one_ (i := 23) (N := none) #[true, true, true, true, true, true, true, true, true, true, true, true, true, true, true, true, true, true, true, true, true, true, true, true] rfl rfl (one_of HT_.out (by kernel_rfl)) (by decide) (fun K hK => ?_)
              have hs26 : w19.cell? ⟨gb435, 2, none⟩ = some (.slice A433_2 ((rd_T76 l0 x11_1).f2).length c433_2) := (blk_cell BK435.out 2).trans rfl
              have hfs26 := blk_frozen BK435.out 2
              have hns26_0 := NB434_435.out
              have hms26_0 := NB435_434.out
              refine skip_ (w1 := ?_) (by rfl) rfl ?_ ?_
              rotate_left
              · go_simp
                rfl
              refine hK.out _ _ ⟨((cell_far (p := ⟨gb435, _, none⟩) NB434_435.out _).trans (hHeld.1)), ((cell_far (p := ⟨gb435, _, none⟩) NB434_435.out _).trans (hHeld.2.1)), ((cell_far (p := ⟨gb435, _, none⟩) NB434_435.out _).trans (hHeld.2.2.1)), ((cell_far (p := ⟨gb435, _, none⟩) NB434_435.out _).trans (hHeld.2.2.2.1)), ((cell_far (p := ⟨gb435, _, none⟩) NB434_435.out _).trans (hHeld.2.2.2.2.1)), ((cell_far (p := ⟨gb435, _, none⟩) NB434_435.out _).trans (hHeld.2.2.2.2.2))⟩ (fun hHeld => ?_)
              clear hK K
              refine done_ (done_of HT_.out (by kernel_rfl)) ?_
              have n0_ : Aside0 (Kd.R k76 76 ((((w19.setCell ⟨gb435, 5, none⟩ (.int .i64 (wrap64 (((rd_T76 l0 x11_1).f5) + a1)))).setCell ⟨gb435, 3, none⟩ (.slice Ao21 t436.length co21)).setCell ⟨gb435, 4, none⟩ (.slice Ao23 t439.length co23)).setCell ⟨gb435, 2, none⟩ (.slice Ao25 t442.length co25)) w.heap.size (fun k_ => some k_ ≠ (.slice Ao21 t436.length co21 : Value).ownBlock ∧ some k_ ≠ (.slice Ao23 t439.length co23 : Value).ownBlock ∧ some k_ ≠ (.slice Ao25 t442.length co25 : Value).ownBlock ∧ k_ ≠ gb434 ∧ k_ ≠ gb435) u5 x5_1) := ⟨by (with_reducible repeat (first | apply Kd.R_alloc | apply Kd.R_drewN | apply Kd.R_drew)); exact Kd.R_mono (Kd.R_far (p := ⟨gb435, 2, none⟩) (Kd.R_far (p := ⟨gb435, 4, none⟩) (Kd.R_far (p := ⟨gb435, 3, none⟩) (Kd.R_far (p := ⟨gb435, 5, none⟩) (Kd.R_mono HO_5.out (fun k_ hk => (⟨hk, hk.1.1.1.2⟩ : _ ∧ k_ ≠ gb435))) (fun _ hk => hk.2) (.int .i64 (wrap64 (((rd_T76 l0 x11_1).f5) + a1)))) (fun _ hk => hk.2) (.slice Ao21 t436.length co21)) (fun _ hk => hk.2) (.slice Ao23 t439.length co23)) (fun _ hk => hk.2) (.slice Ao25 t442.length co25)) (fun _ hk => ⟨hk.1.1.1.2, ⟨hk.1.1.2, ⟨hk.1.2, ⟨hk.1.1.1.1.1, hk.1.1.1.1.2⟩⟩⟩⟩)⟩
              have n1_ : Aside0 (Kd.R k76 76 ((((w19.setCell ⟨gb435, 5, none⟩ (.int .i64 (wrap64 (((rd_T76 l0 x11_1).f5) + a1)))).setCell ⟨gb435, 3, none⟩ (.slice Ao21 t436.length co21)).setCell ⟨gb435, 4, none⟩ (.slice Ao23 t439.length co23)).setCell ⟨gb435, 2, none⟩ (.slice Ao25 t442.length co25)) w.heap.size (fun k_ => some k_ ≠ (u5 : Value).ownBlock ∧ some k_ ≠ (.slice Ao23 t439.length co23 : Value).ownBlock ∧ some k_ ≠ (.slice Ao25 t442.length co25 : Value).ownBlock ∧ k_ ≠ gb434 ∧ k_ ≠ gb435) (.slice Ao21 t436.length co21) t436) := ⟨by (with_reducible repeat (first | apply Kd.R_alloc | apply Kd.R_drewN | apply Kd.R_drew)); exact Kd.R_mono (Kd.R_far (p := ⟨gb435, 2, none⟩) (Kd.R_far (p := ⟨gb435, 4, none⟩) (Kd.R_far (p := ⟨gb435, 3, none⟩) (Kd.R_far (p := ⟨gb435, 5, none⟩) (Kd.R_mono HO438.out (fun k_ hk => (⟨hk, hk.1.1.2⟩ : _ ∧ k_ ≠ gb435))) (fun _ hk => hk.2) (.int .i64 (wrap64 (((rd_T76 l0 x11_1).f5) + a1)))) (fun _ hk => hk.2) (.slice Ao21 t436.length co21)) (fun _ hk => hk.2) (.slice Ao23 t439.length co23)) (fun _ hk => hk.2) (.slice Ao25 t442.length co25)) (fun _ hk => ⟨hk.1.1.1.1.1.2, ⟨hk.1.1.2, ⟨hk.1.2, ⟨hk.1.1.1.1.2, hk.1.1.1.2⟩⟩⟩⟩)⟩
              have n2_ : Aside0 (Kd.R k76 76 ((((w19.setCell ⟨gb435, 5, none⟩ (.int .i64 (wrap64 (((rd_T76 l0 x11_1).f5) + a1)))).setCell ⟨gb435, 3, none⟩ (.slice Ao21 t436.length co21)).setCell ⟨gb435, 4, none⟩ (.slice Ao23 t439.length co23)).setCell ⟨gb435, 2, none⟩ (.slice Ao25 t442.length co25)) w.heap.size (fun k_ => some k_ ≠ (u5 : Value).ownBlock ∧ some k_ ≠ (.slice Ao21 t436.length co21 : Value).ownBlock ∧ some k_ ≠ (.slice Ao25 t442.length co25 : Value).ownBlock ∧ k_ ≠ gb434 ∧ k_ ≠ gb435) (.slice Ao23 t439.length co23) t439) := ⟨by (with_reducible repeat (first | apply Kd.R_alloc | apply Kd.R_drewN | apply Kd.R_drew)); exact Kd.R_mono (Kd.R_far (p := ⟨gb435, 2, none⟩) (Kd.R_far (p := ⟨gb435, 4, none⟩) (Kd.R_far (p := ⟨gb435, 3, none⟩) (Kd.R_far (p := ⟨gb435, 5, none⟩) (Kd.R_mono HO441.out (fun k_ hk => (⟨hk, hk.1.2⟩ : _ ∧ k_ ≠ gb435))) (fun _ hk => hk.2) (.int .i64 (wrap64 (((rd_T76 l0 x11_1).f5) + a1)))) (fun _ hk => hk.2) (.slice Ao21 t436.length co21)) (fun _ hk => hk.2) (.slice Ao23 t439.length co23)) (fun _ hk => hk.2) (.slice Ao25 t442.length co25)) (fun _ hk => ⟨hk.1.1.1.1.1.2, ⟨hk.1.1.1.1.2, ⟨hk.1.2, ⟨hk.1.1.1.2, hk.1.1.2⟩⟩⟩⟩)⟩
              have n3_ : Aside0 (Kd.R k33 33 ((((w19.setCell ⟨gb435, 5, none⟩ (.int .i64 (wrap64 (((rd_T76 l0 x11_1).f5) + a1)))).setCell ⟨gb435, 3, none⟩ (.slice Ao21 t436.length co21)).setCell ⟨gb435, 4, none⟩ (.slice Ao23 t439.length co23)).setCell ⟨gb435, 2, none⟩ (.slice Ao25 t442.length co25)) w.heap.size (fun _ => True) (.slice Ao25 t442.length co25) t442) := ⟨by (with_reducible repeat (first | apply Kd.R_alloc | apply Kd.R_drewN | apply Kd.R_drew)); exact Kd.R_mono (Kd.R_far (p := ⟨gb435, 2, none⟩) (Kd.R_far (p := ⟨gb435, 4, none⟩) (Kd.R_far (p := ⟨gb435, 3, none⟩) (Kd.R_far (p := ⟨gb435, 5, none⟩) (Kd.R_types HO444.out BK435.out (by decide)) (fun _ hk => hk.2) (.int .i64 (wrap64 (((rd_T76 l0 x11_1).f5) + a1)))) (fun _ hk => hk.2) (.slice Ao21 t436.length co21)) (fun _ hk => hk.2) (.slice Ao23 t439.length co23)) (fun _ hk => hk.2) (.slice Ao25 t442.length co25)) (fun _ hk => trivial)⟩
              have n4_ : Aside0 (((((w19.setCell ⟨gb435, 5, none⟩ (.int .i64 (wrap64 (((rd_T76 l0 x11_1).f5) + a1)))).setCell ⟨gb435, 3, none⟩ (.slice Ao21 t436.length co21)).setCell ⟨gb435, 4, none⟩ (.slice Ao23 t439.length co23)).setCell ⟨gb435, 2, none⟩ (.slice Ao25 t442.length co25)).heap[gb434]? = some (.cells #[.string ((rd_T76 l0 x11_1).f0), .string ((rd_T76 l0 x11_1).f1), .slice A433_2 ((rd_T76 l0 x11_1).f2).length c433_2, .slice A433_3 ((rd_T76 l0 x11_1).f3).length c433_3, .slice A433_4 ((rd_T76 l0 x11_1).f4).length c433_4, .int .i64 ((rd_T76 l0 x11_1).f5)] 76 (0, 0))) := ⟨by (with_reducible repeat (first | refine blk_drewN ?_ _ | refine blk_drew ?_ | refine blk_alloc ?_ _)); refine blk_far ?_ NB434_435.out _; (with_reducible repeat (first | refine blk_drewN ?_ _ | refine blk_drew ?_ | refine blk_alloc ?_ _)); refine blk_far ?_ NB434_435.out _; (with_reducible repeat (first | refine blk_drewN ?_ _ | refine blk_drew ?_ | refine blk_alloc ?_ _)); refine blk_far ?_ NB434_435.out _; (with_reducible repeat (first | refine blk_drewN ?_ _ | refine blk_drew ?_ | refine blk_alloc ?_ _)); refine blk_far ?_ NB434_435.out _; (with_reducible repeat (first | refine blk_drewN ?_ _ | refine blk_drew ?_ | refine blk_alloc ?_ _)); exact BK434.out⟩
              have n5_ : Aside0 (((((w19.setCell ⟨gb435, 5, none⟩ (.int .i64 (wrap64 (((rd_T76 l0 x11_1).f5) + a1)))).setCell ⟨gb435, 3, none⟩ (.slice Ao21 t436.length co21)).setCell ⟨gb435, 4, none⟩ (.slice Ao23 t439.length co23)).setCell ⟨gb435, 2, none⟩ (.slice Ao25 t442.length co25)).heap[gb435]? = some (.cells #[.string ((rd_T76 l0 x11_1).f0), .string ((rd_T76 l0 x11_1).f1), .slice Ao25 t442.length co25, .slice Ao21 t436.length co21, .slice Ao23 t439.length co23, .int .i64 (wrap64 (((rd_T76 l0 x11_1).f5) + a1))] 76 (0, 0))) := ⟨by (with_reducible repeat (first | refine blk_drewN ?_ _ | refine blk_drew ?_ | refine blk_alloc ?_ _)); refine blk_put (cs := #[.string ((rd_T76 l0 x11_1).f0), .string ((rd_T76 l0 x11_1).f1), .slice A433_2 ((rd_T76 l0 x11_1).f2).length c433_2, .slice Ao21 t436.length co21, .slice Ao23 t439.length co23, .int .i64 (wrap64 (((rd_T76 l0 x11_1).f5) + a1))]) ?_ 2 _ rfl; (with_reducible repeat (first | refine blk_drewN ?_ _ | refine blk_drew ?_ | refine blk_alloc ?_ _)); refine blk_put (cs := #[.string ((rd_T76 l0 x11_1).f0), .string ((rd_T76 l0 x11_1).f1), .slice A433_2 ((rd_T76 l0 x11_1).f2).length c433_2, .slice Ao21 t436.length co21, .slice A433_4 ((rd_T76 l0 x11_1).f4).length c433_4, .int .i64 (wrap64 (((rd_T76 l0 x11_1).f5) + a1))]) ?_ 4 _ rfl; (with_reducible repeat (first | refine blk_drewN ?_ _ | refine blk_drew ?_ | refine blk_alloc ?_ _)); refine blk_put (cs := #[.string ((rd_T76 l0 x11_1).f0), .string ((rd_T76 l0 x11_1).f1), .slice A433_2 ((rd_T76 l0 x11_1).f2).length c433_2, .slice A433_3 ((rd_T76 l0 x11_1).f3).length c433_3, .slice A433_4 ((rd_T76 l0 x11_1).f4).length c433_4, .int .i64 (wrap64 (((rd_T76 l0 x11_1).f5) + a1))]) ?_ 3 _ rfl; (with_reducible repeat (first | refine blk_drewN ?_ _ | refine blk_drew ?_ | refine blk_alloc ?_ _)); refine blk_put (cs := #[.string ((rd_T76 l0 x11_1).f0), .string ((rd_T76 l0 x11_1).f1), .slice A433_2 ((rd_T76 l0 x11_1).f2).length c433_2, .slice A433_3 ((rd_T76 l0 x11_1).f3).length c433_3, .slice A433_4 ((rd_T76 l0 x11_1).f4).length c433_4, .int .i64 ((rd_T76 l0 x11_1).f5)]) ?_ 5 _ rfl; (with_reducible repeat (first | refine blk_drewN ?_ _ | refine blk_drew ?_ | refine blk_alloc ?_ _)); exact BK435.out⟩
              have n6_ : Aside0 (Below w.heap.size w ((((w19.setCell ⟨gb435, 5, none⟩ (.int .i64 (wrap64 (((rd_T76 l0 x11_1).f5) + a1)))).setCell ⟨gb435, 3, none⟩ (.slice Ao21 t436.length co21)).setCell ⟨gb435, 4, none⟩ (.slice Ao23 t439.length co23)).setCell ⟨gb435, 2, none⟩ (.slice Ao25 t442.length co25))) := ⟨by repeat (first | (with_reducible first | exact HB.out | apply below_alloc | apply pw_below_drewN | apply below_drew1 | refine below_set ?_ GE434.out | refine below_set ?_ GE435.out) | exact HB.out)⟩
              (try clear HO_5)
              (try clear HO438)
              (try clear HO441)
              (try clear HO444)
              (try clear BK434)
              (try clear BK435)
              (try clear HB)
              generalize ((((w19.setCell ⟨gb435, 5, none⟩ (.int .i64 (wrap64 (((rd_T76 l0 x11_1).f5) + a1)))).setCell ⟨gb435, 3, none⟩ (.slice Ao21 t436.length co21)).setCell ⟨gb435, 4, none⟩ (.slice Ao23 t439.length co23)).setCell ⟨gb435, 2, none⟩ (.slice Ao25 t442.length co25)) = w27 at n0_ n1_ n2_ n3_ n4_ n5_ n6_ ⊢
              have HO_5 := n0_
              have HO438 := n1_
              have HO441 := n2_
              have HO444 := n3_
              have BK434 := n4_
              have BK435 := n5_
              have HB := n6_
              clear n0_ n1_ n2_ n3_ n4_ n5_ n6_
              have hcz28_0 : w27.cell? ⟨gb435, 0, none⟩ = some (.string ((rd_T76 l0 x11_1).f0)) := (blk_cell BK435.out 0).trans rfl
              have hcz28_1 : w27.cell? ⟨gb435, 1, none⟩ = some (.string ((rd_T76 l0 x11_1).f1)) := (blk_cell BK435.out 1).trans rfl
              have hcz28_2 : w27.cell? ⟨gb435, 2, none⟩ = some (.slice Ao25 t442.length co25) := (blk_cell BK435.out 2).trans rfl
              have hcz28_3 : w27.cell? ⟨gb435, 3, none⟩ = some (.slice Ao21 t436.length co21) := (blk_cell BK435.out 3).trans rfl
              have hcz28_4 : w27.cell? ⟨gb435, 4, none⟩ = some (.slice Ao23 t439.length co23) := (blk_cell BK435.out 4).trans rfl
              have hcz28_5 : w27.cell? ⟨gb435, 5, none⟩ = some (.int .i64 (wrap64 (((rd_T76 l0 x11_1).f5) + a1))) := (blk_cell BK435.out 5).trans rfl
              have hfz28_0 := blk_frozen BK435.out 0
              have hfz28_1 := blk_frozen BK435.out 1
              have hfz28_2 := blk_frozen BK435.out 2
              have hfz28_3 := blk_frozen BK435.out 3
              have hfz28_4 := blk_frozen BK435.out 4
              have hfz28_5 := blk_frozen BK435.out 5
              try go_wp2_with (first | ((with_reducible refine gate_builtin (b := .append) (xs := #[.tmp 36, .tmp 38]) rfl ?_); at_builtin; refine Kd.R_append k76 (w0 := w) w.heap.size rfl (.tmp 36) (.tmp 38) 48 76 (.agg #[(.string ⟨#[]⟩), (.string ⟨#[]⟩), (.slice none 0 0), (.slice none 0 0), (.slice none 0 0), (.int .i64 0)]) 112 rfl Tryd.underlying48 info76 rfl (by decide) (by omega) u5 x5_1 (⟨(rd_T76 l0 x11_1).f0, (rd_T76 l0 x11_1).f1, t442, t436, t439, wrap64 (((rd_T76 l0 x11_1).f5) + a1)⟩ : S76) [.string ((rd_T76 l0 x11_1).f0), .string ((rd_T76 l0 x11_1).f1), .slice Ao25 t442.length co25, .slice Ao21 t436.length co21, .slice Ao23 t439.length co23, .int .i64 (wrap64 (((rd_T76 l0 x11_1).f5) + a1))] (fun k_ => k_ ≠ gb434 ∧ k_ ≠ gb435) (fun k_ => ((fun k_ => k_ ≠ gb434 ∧ k_ ≠ gb435)) k_ ∧ some k_ ≠ (u5 : Value).ownBlock) rfl rfl ?aP (fun _ hk => hk) ?aF ?aO ?aB ?aS ?aL ?_; (case aP => exact k76_mkM _ _ _ (⟨(rd_T76 l0 x11_1).f0, (rd_T76 l0 x11_1).f1, t442, t436, t439, wrap64 (((rd_T76 l0 x11_1).f5) + a1)⟩ : S76) (Kd.R_mono (Kd.R_types (Kd.R_types (Kd.R_apart' (HO444.out) (Kd.R_typed HO_5.out) (by decide)) BK434.out (by decide)) BK435.out (by decide)) (fun k_ hk => ⟨⟨hk.1.2, hk.2⟩, hk.1.1.2⟩)) (Kd.R_mono (HO438.out) (fun k_ hk => ⟨⟨hk.2.2.2.1, hk.2.2.2.2⟩, hk.1⟩)) (Kd.R_mono (HO441.out) (fun k_ hk => ⟨⟨hk.2.2.2.1, hk.2.2.2.2⟩, hk.1⟩))); (case aB => exact (by repeat (first | (with_reducible first | exact HB.out | apply below_alloc | apply pw_below_drewN | apply below_drew1 | refine below_set ?_ GE434.out | refine below_set ?_ GE435.out) | exact HB.out))); (case aF => exact (fun k_ hk => ⟨Kd.freshB (g := gb434) (o := .cells #[.string ((rd_T76 l0 x11_1).f0), .string ((rd_T76 l0 x11_1).f1), .slice A433_2 ((rd_T76 l0 x11_1).f2).length c433_2, .slice A433_3 ((rd_T76 l0 x11_1).f3).length c433_3, .slice A433_4 ((rd_T76 l0 x11_1).f4).length c433_4, .int .i64 ((rd_T76 l0 x11_1).f5)] 76 (0, 0)) (by (with_reducible repeat (first | refine blk_drewN ?_ _ | refine blk_drew ?_ | refine blk_alloc ?_ _)); exact BK434.out) k_ hk, Kd.freshB (g := gb435) (o := .cells #[.string ((rd_T76 l0 x11_1).f0), .string ((rd_T76 l0 x11_1).f1), .slice Ao25 t442.length co25, .slice Ao21 t436.length co21, .slice Ao23 t439.length co23, .int .i64 (wrap64 (((rd_T76 l0 x11_1).f5) + a1))] 76 (0, 0)) (by (with_reducible repeat (first | refine blk_drewN ?_ _ | refine blk_drew ?_ | refine blk_alloc ?_ _)); exact BK435.out) k_ hk⟩)); (case aO => exact (by (with_reducible repeat (first | apply Kd.R_alloc | apply Kd.R_drewN | apply Kd.R_drew)); exact Kd.R_mono HO_5.out (fun _ hk => ⟨hk.2.2.2.1, hk.2.2.2.2⟩))); (case aS => exact (below_size (by repeat (first | (with_reducible first | exact HB.out | apply below_alloc | apply pw_below_drewN | apply below_drew1 | refine below_set ?_ GE434.out | refine below_set ?_ GE435.out) | exact HB.out)))); (case aL => have := LMc9.out; omega); intro v446 w29 ho hb hg hat; rw [← Ny445.out] at ho; have n0_ := Aside0.mk (blk_grown (g := gb434) (o := .cells #[.string ((rd_T76 l0 x11_1).f0), .string ((rd_T76 l0 x11_1).f1), .slice A433_2 ((rd_T76 l0 x11_1).f2).length c433_2, .slice A433_3 ((rd_T76 l0 x11_1).f3).length c433_3, .slice A433_4 ((rd_T76 l0 x11_1).f4).length c433_4, .int .i64 ((rd_T76 l0 x11_1).f5)] 76 (0, 0)) (by (with_reducible repeat (first | refine blk_drewN ?_ _ | refine blk_drew ?_ | refine blk_alloc ?_ _)); exact BK434.out) hg (Kd.R_away HO_5.out (fun _ hk => hk.2.2.2.1))); have n1_ := Aside0.mk (blk_grown (g := gb435) (o := .cells #[.string ((rd_T76 l0 x11_1).f0), .string ((rd_T76 l0 x11_1).f1), .slice Ao25 t442.length co25, .slice Ao21 t436.length co21, .slice Ao23 t439.length co23, .int .i64 (wrap64 (((rd_T76 l0 x11_1).f5) + a1))] 76 (0, 0)) (by (with_reducible repeat (first | refine blk_drewN ?_ _ | refine blk_drew ?_ | refine blk_alloc ?_ _)); exact BK435.out) hg (Kd.R_away HO_5.out (fun _ hk => hk.2.2.2.2))); have n2_ := Aside0.mk (hb); have n3_ := Aside0.mk (ho); clear BK434; clear BK435; clear HB; clear HO_5; clear HO438; clear HO441; clear HO444; have BK434 := n0_; have BK435 := n1_; have HB := n2_; have HO447 := n3_; clear n0_ n1_ n2_ n3_; clear ho hb hg hat))
              go_roundg k1
              case measure => have := HK1.out; omega
              case rel => exact ⟨(y445), (wrap64 (x11_1 + 1)), (by first | rfl | (simp; done) | (simp [*]; done)), H', ⟨by have := HK1.out; omega⟩, ⟨by (with_reducible repeat (first | apply Kd.R_alloc | apply Kd.R_drewN | apply Kd.R_drew)); exact Kd.R_mono HO447.out (fun _ hk => trivial)⟩, ⟨by repeat (first | (with_reducible first | exact HB.out | apply below_alloc | apply pw_below_drewN | apply below_drew1 | refine below_set ?_ GE434.out | refine below_set ?_ GE435.out) | exact HB.out)⟩⟩
            · rw [if_neg c9] at H
              exact absurd H (by simp)
          · rw [if_neg c5] at H
            exact absurd H (by simp)
        · rw [if_neg c4] at H
          exact absurd H (by simp)
      · rw [if_neg c3] at H
        have c3b0 : decide (x11_1 < (l0.length : Int)) = false := decide_eq_false c3
        clear c3
        obtain rfl := Option.some.inj H
        go_wp2
        go_ret
        exact ⟨_, by first | rfl | (simp [errW_none, errW_some] <;> rfl) | (simp [*, errW_none, errW_some] <;> rfl), by (with_reducible repeat (first | apply Kd.R_alloc | apply Kd.R_drewN | apply Kd.R_drew)); exact HO_5.out, by repeat (first | (with_reducible first | exact HB.out | apply below_alloc | apply pw_below_drewN | apply below_drew1) | exact HB.out)⟩

end Go.Proofs.YtnnbbeloifhofaaDoor.P
end
