/- Texts of this claim, joined. -/
import Derived.Test.YtnnbbeloifhofaaDoorCTreeKindsUpto2
import Derived.Test.YtnnbbeloifhofaaDoorCTreeKindsUpto0
import Derived.RegionTactic
import Derived.BigRegion
import Derived.Test.YtnnbbeloifhofaaDoorRows
import Derived.Deep.Slices
import Derived.DataReads
import Derived.ChangeArms
section
namespace Go.Proofs.YtnnbbeloifhofaaDoor.P
open Go Go.RowKit Go.Proofs
open Go.Proofs.YtnnbbeloifhofaaDoorW.PrintWords Go.Proofs.YtnnbbeloifhofaaDoorW.PrintLast Go.Proofs.YtnnbbeloifhofaaDoorW.PrintMore
set_option linter.unusedVariables false
set_option linter.unusedSimpArgs false
set_option maxHeartbeats 2000000 in
set_option maxRecDepth 100000 in
theorem stmt_set (s:RS) (c1:s.f0.toList=oSet):StmtOk s:=by
  intro b t d A2 A3 A4 c2 c3 c4 w0 w hP hB hT g2 l2 g3 l3 g4 l4 ho hd0 hd hlen
  rw [okS_eq] at ho
  rw [bulkS_eq] at hd
  rw [stmtB_eq] at hlen ⊢
  unfold stmtF at hlen ⊢
  rw [if_pos c1] at hlen ⊢
  obtain ⟨k,hp⟩:=part_k s.f2 0 ho.1 (by omega)
  obtain ⟨k',hp'⟩:=part_k s.f2 1 ho.1 (by omega)
  have c1b:=opIs c1
  clear c1
  have G2:=Aside0.mk g2
  have L2:=Aside0.mk l2
  have HB0:=Aside0.mk hB
  have HLEN:=Aside0.mk hlen
  have HD:=Aside0.mk hd
  have HPP:=Aside0.mk hp
  have HQQ:=Aside0.mk hp'
  have HP:=Aside0.mk hP
  clear g2 l2 g3 l3 g4 l4 hB hlen hd hp hp' hP
  go_enter Tryd.func61,Tryd.ntmps61
  go_wp2_with (first|((with_reducible refine gate_dst (N:=3) rfl ?_);refine box_event ?hg (N:=3) ?hd (cs:=#[.string s.f0,.string s.f1,.slice A2 (convEs s.f2).length c2,.slice A3 (convSs s.f3).length c3,.slice A4 (convSs s.f4).length c4,.int .i64 s.f5]) (t:=76) ?hr ?_;(case hd=>rfl);(case hg=>rfl);(case hr=>first|(go_simp;done)|(go_simp;rfl));intro gb hg w1 hbox hb;have BK:=Aside0.mk hbox;have GW:=Aside0.mk hg;have HB1:=Aside0.mk hb;clear hb hbox hg;have z0:w1.cell? ⟨gb,0,none⟩=some (.string s.f0):=(blk_cell BK.out 0).trans rfl;have z1:w1.cell? ⟨gb,1,none⟩=some (.string s.f1):=(blk_cell BK.out 1).trans rfl;have z2:w1.cell? ⟨gb,2,none⟩=some (.slice A2 (convEs s.f2).length c2):=(blk_cell BK.out 2).trans rfl;have z3:w1.cell? ⟨gb,3,none⟩=some (.slice A3 (convSs s.f3).length c3):=(blk_cell BK.out 3).trans rfl;have z4:w1.cell? ⟨gb,4,none⟩=some (.slice A4 (convSs s.f4).length c4):=(blk_cell BK.out 4).trans rfl))
  have hHeld0:w1.drew.cell? ⟨gb,0,none⟩=some (.string s.f0)∧w1.drew.cell? ⟨gb,1,none⟩=some (.string s.f1)∧w1.drew.cell? ⟨gb,2,none⟩=some (.slice A2 (convEs s.f2).length c2)∧Below w1.heap.size w1 w1.drew:=⟨z0,z1,z2,Below.drew (Below.refl _ w1)⟩
  refine start_ (n:=8) (ds:=[7]) (S:=fun w'=>w'.cell? ⟨gb,0,none⟩=some (.string s.f0)∧w'.cell? ⟨gb,1,none⟩=some (.string s.f1)∧w'.cell? ⟨gb,2,none⟩=some (.slice A2 (convEs s.f2).length c2)∧Below w1.heap.size w1 w') #[false,false,false,false,false,false,false,false] (by kernel_rfl) rfl rfl hHeld0 (fun hHeld=>?_)
  generalize w1.drew=w2 at hHeld ⊢
  refine pure_ (i:=0) (N:=some 13) (v:=?_) (a':=?_) #[true,false,false,false,false,false,false,false] rfl rfl (by kernel_rfl) (fun _ _ _ h=>h) (Or.inl ⟨by rfl,?_⟩) ?_ ?_
  rotate_left
  · intro w'
    go_simp
    with_reducible rfl
  rotate_left
  · simp only [Act.put,List.setIfInBounds_toArray,List.set_cons_zero,List.set_cons_succ,i64_w,i32_w]
    rfl
  refine pure_ (i:=1) (N:=some 14) (v:=?_) (a':=?_) #[true,true,false,false,false,false,false,false] rfl rfl (by kernel_rfl) (fun _ _ _ h=>h) (Or.inl ⟨by rfl,?_⟩) ?_ ?_
  rotate_left
  · intro w'
    go_simp
    with_reducible rfl
  rotate_left
  · simp only [Act.put,List.setIfInBounds_toArray,List.set_cons_zero,List.set_cons_succ,i64_w,i32_w]
    rfl
  refine pure_ (i:=3) (N:=some 16) (v:=?_) (a':=?_) #[true,true,false,true,false,false,false,false] rfl rfl (by kernel_rfl) (fun _ _ _ h=>h) (Or.inl ⟨by rfl,?_⟩) ?_ ?_
  rotate_left
  · intro w'
    go_simp
    with_reducible rfl
  rotate_left
  · simp only [Act.put,List.setIfInBounds_toArray,List.set_cons_zero,List.set_cons_succ,i64_w,i32_w]
    rfl
  refine take_ (i:=2) (N:=some 15) (v:=?_) (a':=?_) #[true,true,true,true,false,false,false,false] rfl rfl (by kernel_rfl) (fun _ _ _ h=>h) (Or.inl ⟨by rfl,?_⟩) hHeld ?_ ?_
  rotate_left
  · rintro w' ⟨s0,s1,s2,s3⟩
    go_simp
    with_reducible rfl
  rotate_left
  · simp only [Act.put,List.setIfInBounds_toArray,List.set_cons_zero,List.set_cons_succ,i64_w,i32_w]
    rfl
  refine take_ (i:=4) (N:=some 17) (v:=?_) (a':=?_) #[true,true,true,true,true,false,false,false] rfl rfl (by kernel_rfl) (fun _ _ _ h=>h) (Or.inl ⟨by rfl,?_⟩) hHeld ?_ ?_
  rotate_left
  · rintro w' ⟨s0,s1,s2,s3⟩
    go_simp
    with_reducible rfl
  rotate_left
  · simp only [Act.put,List.setIfInBounds_toArray,List.set_cons_zero,List.set_cons_succ,i64_w,i32_w]
    rfl
  refine one_ (i:=5) (N:=some 18) #[true,true,true,true,true,true,false,false] rfl rfl (by kernel_rfl) (by decide) (fun K hK=>?_)
  refine goes_ Tryd.func32 (by kernel_rfl) rfl #[.slice A2 (convEs s.f2).length c2,.int .i64 0] (by rfl) rfl rfl (by (try simp only [List.map_toArray,List.map_cons,List.map_nil]);first|done|rfl) ?_
  have hb2:Below w0.heap.size w0 w2:=HB0.out.trans ((HB1.out.trans (hHeld.2.2.2.mono HB1.out.size)).mono HB0.out.size)
  refine (tree_part.calls k A2 c2 (convEs s.f2) 0 _ w2 (hT.later hb2) (Kd.C_below G2.out hb2) L2.out HPP.out).mono ?_
  clear hb2
  rintro e w3 ⟨rfl,hb⟩
  refine ⟨_,rfl,?_⟩
  obtain ⟨t0,t1,t2,t3⟩:=hHeld
  have hHeld:w3.cell? ⟨gb,0,none⟩=some (.string s.f0)∧w3.cell? ⟨gb,1,none⟩=some (.string s.f1)∧w3.cell? ⟨gb,2,none⟩=some (.slice A2 (convEs s.f2).length c2)∧Below w1.heap.size w1 w3:=⟨(hb.cell (World.block_lt_of_cell? w2 _ t0)).trans t0,(hb.cell (World.block_lt_of_cell? w2 _ t1)).trans t1,(hb.cell (World.block_lt_of_cell? w2 _ t2)).trans t2,t3.trans (hb.mono t3.size)⟩
  refine hK.out _ _ hHeld (fun hHeld=>?_)
  clear hK K t0 t1 t2 t3 hb
  refine norm_ (a':=?_) ?_ ?_
  rotate_left
  · show Act.put _ (some 18) _=_
    simp only [Act.put,List.setIfInBounds_toArray,List.set_cons_zero,List.set_cons_succ,i64_w,i32_w]
    rfl
  refine one_ (i:=6) (N:=some 19) #[true,true,true,true,true,true,true,false] rfl rfl (by kernel_rfl) (by decide) (fun K hK=>?_)
  refine Kd.R_lit_step Kd.string (w0:=w3) w3.heap.size 9 (by rfl) (N:=19) rfl (xs:=[s.f1,(lit [32,61,32]),(nth (textEs s.f2) 0),(lit [59])]) (inner:=[.string s.f1,.string (lit [32,61,32]),.string (nth (textEs s.f2) 0),.string (lit [59])]) (ok:=fun _=>True) (okp:=fun _=>True) ?hr ?hp (fun _ hk=>hk) trivial (Below.refl _ _) (Nat.le_refl _) (by simp) ?_
  case hr=>first|(go_simp;done)|(go_simp;rfl)
  case hp=>exact Reps.one (show Kd.M Kd.string _ _ _ (s.f1) [.string (s.f1)] from rfl) (Reps.one (show Kd.M Kd.string _ _ _ ((lit [32,61,32])) [.string ((lit [32,61,32]))] from rfl) (Reps.one (show Kd.M Kd.string _ _ _ ((nth (textEs s.f2) 0)) [.string ((nth (textEs s.f2) 0))] from rfl) (Reps.one (show Kd.M Kd.string _ _ _ ((lit [59])) [.string ((lit [59]))] from rfl) (Reps.none _ _))))
  intro vrow w4 hrow hb hg_ hnew_
  clear hg_ hnew_
  obtain ⟨Ao,co,rfl⟩:=Kd.R_slice hrow
  have hro:=(Kd.R_reads' hrow).2
  obtain ⟨t0,t1,t2,t3⟩:=hHeld
  have hHeld:w4.cell? ⟨gb,0,none⟩=some (.string s.f0)∧w4.cell? ⟨gb,1,none⟩=some (.string s.f1)∧w4.cell? ⟨gb,2,none⟩=some (.slice A2 (convEs s.f2).length c2)∧Below w1.heap.size w1 w4:=⟨(hb.cell (World.block_lt_of_cell? w3 _ t0)).trans t0,(hb.cell (World.block_lt_of_cell? w3 _ t1)).trans t1,(hb.cell (World.block_lt_of_cell? w3 _ t2)).trans t2,t3.trans (hb.mono t3.size)⟩
  refine hK.out _ _ hHeld (fun hHeld=>?_)
  clear hK K t0 t1 t2 t3 hb hrow
  refine norm_ (a':=?_) ?_ ?_
  rotate_left
  · show Act.put _ (some 19) _=_
    simp only [Act.put,List.setIfInBounds_toArray,List.set_cons_zero,List.set_cons_succ,i64_w,i32_w]
    rfl
  have e4:Below w.heap.size w w4:=HB1.out.trans (hHeld.2.2.2.mono HB1.out.size)
  refine last_ (i:=7) (N:=some 20) #[true,true,true,true,true,true,true,true] rfl rfl (by kernel_rfl) (by decide) (fun K hK=>?_)
  refine goes_ Tryd.func38 (by kernel_rfl) rfl #[.pointer (some ⟨b,0,none⟩),.slice Ao 4 co] (by rfl) rfl rfl (by (try simp only [List.map_toArray,List.map_cons,List.map_nil]);first|done|rfl) ?_
  refine (line_pr w0.heap.size b t d Ao co [s.f1,(lit [32,61,32]),(nth (textEs s.f2) 0),(lit [59])] w4 (HP.out.kept e4) hro.2 hro.1 hd0 (by have:=HD.out;omega) (by simp) HLEN.out (Nat.le_trans HB0.out.size e4.size)).mono ?_
  rintro e w5 ⟨rfl,hP5,hb,hs5⟩
  refine ⟨_,rfl,?_⟩
  refine hK.out _ _ ?_
  refine done_ (by kernel_rfl) ?_
  try go_wp2
  go_end0
  exact ⟨rfl,.inr hP5,(e4.mono HB0.out.size).trans hb,(Beside.of e4).trans hs5⟩
end Go.Proofs.YtnnbbeloifhofaaDoor.P
end
section
namespace Go.Proofs.YtnnbbeloifhofaaDoor.P
open Go Go.RowKit Go.Proofs
open Go.Proofs.YtnnbbeloifhofaaDoorW.PrintWords Go.Proofs.YtnnbbeloifhofaaDoorW.PrintLast Go.Proofs.YtnnbbeloifhofaaDoorW.PrintMore
set_option linter.unusedVariables false
set_option linter.unusedSimpArgs false
set_option maxHeartbeats 2000000 in
set_option maxRecDepth 100000 in
theorem stmt_put (s:RS) (n0 : ¬ s.f0.toList=oSet) (c1:s.f0.toList=oPut):StmtOk s:=by
  intro b t d A2 A3 A4 c2 c3 c4 w0 w hP hB hT g2 l2 g3 l3 g4 l4 ho hd0 hd hlen
  rw [okS_eq] at ho
  rw [bulkS_eq] at hd
  rw [stmtB_eq] at hlen ⊢
  unfold stmtF at hlen ⊢
  rw [if_neg n0,if_pos c1] at hlen ⊢
  obtain ⟨k,hp⟩:=part_k s.f2 0 ho.1 (by omega)
  obtain ⟨k',hp'⟩:=part_k s.f2 1 ho.1 (by omega)
  have m0:=opNo n0
  clear n0
  have c1b:=opIs c1
  clear c1
  have G2:=Aside0.mk g2
  have L2:=Aside0.mk l2
  have HB0:=Aside0.mk hB
  have HLEN:=Aside0.mk hlen
  have HD:=Aside0.mk hd
  have HPP:=Aside0.mk hp
  have HQQ:=Aside0.mk hp'
  have HP:=Aside0.mk hP
  clear g2 l2 g3 l3 g4 l4 hB hlen hd hp hp' hP
  go_enter Tryd.func61,Tryd.ntmps61
  go_wp2_with (first|((with_reducible refine gate_dst (N:=3) rfl ?_);refine box_event ?hg (N:=3) ?hd (cs:=#[.string s.f0,.string s.f1,.slice A2 (convEs s.f2).length c2,.slice A3 (convSs s.f3).length c3,.slice A4 (convSs s.f4).length c4,.int .i64 s.f5]) (t:=76) ?hr ?_;(case hd=>rfl);(case hg=>rfl);(case hr=>first|(go_simp;done)|(go_simp;rfl));intro gb hg w1 hbox hb;have BK:=Aside0.mk hbox;have GW:=Aside0.mk hg;have HB1:=Aside0.mk hb;clear hb hbox hg;have z0:w1.cell? ⟨gb,0,none⟩=some (.string s.f0):=(blk_cell BK.out 0).trans rfl;have z1:w1.cell? ⟨gb,1,none⟩=some (.string s.f1):=(blk_cell BK.out 1).trans rfl;have z2:w1.cell? ⟨gb,2,none⟩=some (.slice A2 (convEs s.f2).length c2):=(blk_cell BK.out 2).trans rfl;have z3:w1.cell? ⟨gb,3,none⟩=some (.slice A3 (convSs s.f3).length c3):=(blk_cell BK.out 3).trans rfl;have z4:w1.cell? ⟨gb,4,none⟩=some (.slice A4 (convSs s.f4).length c4):=(blk_cell BK.out 4).trans rfl))
  have hHeld0:w1.drew.cell? ⟨gb,0,none⟩=some (.string s.f0)∧w1.drew.cell? ⟨gb,1,none⟩=some (.string s.f1)∧w1.drew.cell? ⟨gb,2,none⟩=some (.slice A2 (convEs s.f2).length c2)∧Below w1.heap.size w1 w1.drew:=⟨z0,z1,z2,Below.drew (Below.refl _ w1)⟩
  refine start_ (n:=11) (ds:=[10]) (S:=fun w'=>w'.cell? ⟨gb,0,none⟩=some (.string s.f0)∧w'.cell? ⟨gb,1,none⟩=some (.string s.f1)∧w'.cell? ⟨gb,2,none⟩=some (.slice A2 (convEs s.f2).length c2)∧Below w1.heap.size w1 w') #[false,false,false,false,false,false,false,false,false,false,false] (by kernel_rfl) rfl rfl hHeld0 (fun hHeld=>?_)
  generalize w1.drew=w2 at hHeld ⊢
  refine pure_ (i:=0) (N:=some 23) (v:=?_) (a':=?_) #[true,false,false,false,false,false,false,false,false,false,false] rfl rfl (by kernel_rfl) (fun _ _ _ h=>h) (Or.inl ⟨by rfl,?_⟩) ?_ ?_
  rotate_left
  · intro w'
    go_simp
    with_reducible rfl
  rotate_left
  · simp only [Act.put,List.setIfInBounds_toArray,List.set_cons_zero,List.set_cons_succ,i64_w,i32_w]
    rfl
  refine pure_ (i:=1) (N:=some 24) (v:=?_) (a':=?_) #[true,true,false,false,false,false,false,false,false,false,false] rfl rfl (by kernel_rfl) (fun _ _ _ h=>h) (Or.inl ⟨by rfl,?_⟩) ?_ ?_
  rotate_left
  · intro w'
    go_simp
    with_reducible rfl
  rotate_left
  · simp only [Act.put,List.setIfInBounds_toArray,List.set_cons_zero,List.set_cons_succ,i64_w,i32_w]
    rfl
  refine pure_ (i:=3) (N:=some 26) (v:=?_) (a':=?_) #[true,true,false,true,false,false,false,false,false,false,false] rfl rfl (by kernel_rfl) (fun _ _ _ h=>h) (Or.inl ⟨by rfl,?_⟩) ?_ ?_
  rotate_left
  · intro w'
    go_simp
    with_reducible rfl
  rotate_left
  · simp only [Act.put,List.setIfInBounds_toArray,List.set_cons_zero,List.set_cons_succ,i64_w,i32_w]
    rfl
  refine pure_ (i:=6) (N:=some 29) (v:=?_) (a':=?_) #[true,true,false,true,false,false,true,false,false,false,false] rfl rfl (by kernel_rfl) (fun _ _ _ h=>h) (Or.inl ⟨by rfl,?_⟩) ?_ ?_
  rotate_left
  · intro w'
    go_simp
    with_reducible rfl
  rotate_left
  · simp only [Act.put,List.setIfInBounds_toArray,List.set_cons_zero,List.set_cons_succ,i64_w,i32_w]
    rfl
  refine take_ (i:=2) (N:=some 25) (v:=?_) (a':=?_) #[true,true,true,true,false,false,true,false,false,false,false] rfl rfl (by kernel_rfl) (fun _ _ _ h=>h) (Or.inl ⟨by rfl,?_⟩) hHeld ?_ ?_
  rotate_left
  · rintro w' ⟨s0,s1,s2,s3⟩
    go_simp
    with_reducible rfl
  rotate_left
  · simp only [Act.put,List.setIfInBounds_toArray,List.set_cons_zero,List.set_cons_succ,i64_w,i32_w]
    rfl
  refine take_ (i:=4) (N:=some 27) (v:=?_) (a':=?_) #[true,true,true,true,true,false,true,false,false,false,false] rfl rfl (by kernel_rfl) (fun _ _ _ h=>h) (Or.inl ⟨by rfl,?_⟩) hHeld ?_ ?_
  rotate_left
  · rintro w' ⟨s0,s1,s2,s3⟩
    go_simp
    with_reducible rfl
  rotate_left
  · simp only [Act.put,List.setIfInBounds_toArray,List.set_cons_zero,List.set_cons_succ,i64_w,i32_w]
    rfl
  refine take_ (i:=7) (N:=some 30) (v:=?_) (a':=?_) #[true,true,true,true,true,false,true,true,false,false,false] rfl rfl (by kernel_rfl) (fun _ _ _ h=>h) (Or.inl ⟨by rfl,?_⟩) hHeld ?_ ?_
  rotate_left
  · rintro w' ⟨s0,s1,s2,s3⟩
    go_simp
    with_reducible rfl
  rotate_left
  · simp only [Act.put,List.setIfInBounds_toArray,List.set_cons_zero,List.set_cons_succ,i64_w,i32_w]
    rfl
  refine one_ (i:=5) (N:=some 28) #[true,true,true,true,true,true,true,true,false,false,false] rfl rfl (by kernel_rfl) (by decide) (fun K hK=>?_)
  refine goes_ Tryd.func32 (by kernel_rfl) rfl #[.slice A2 (convEs s.f2).length c2,.int .i64 0] (by rfl) rfl rfl (by (try simp only [List.map_toArray,List.map_cons,List.map_nil]);first|done|rfl) ?_
  have hb2:Below w0.heap.size w0 w2:=HB0.out.trans ((HB1.out.trans (hHeld.2.2.2.mono HB1.out.size)).mono HB0.out.size)
  refine (tree_part.calls k A2 c2 (convEs s.f2) 0 _ w2 (hT.later hb2) (Kd.C_below G2.out hb2) L2.out HPP.out).mono ?_
  clear hb2
  rintro e w3 ⟨rfl,hb⟩
  refine ⟨_,rfl,?_⟩
  obtain ⟨t0,t1,t2,t3⟩:=hHeld
  have hHeld:w3.cell? ⟨gb,0,none⟩=some (.string s.f0)∧w3.cell? ⟨gb,1,none⟩=some (.string s.f1)∧w3.cell? ⟨gb,2,none⟩=some (.slice A2 (convEs s.f2).length c2)∧Below w1.heap.size w1 w3:=⟨(hb.cell (World.block_lt_of_cell? w2 _ t0)).trans t0,(hb.cell (World.block_lt_of_cell? w2 _ t1)).trans t1,(hb.cell (World.block_lt_of_cell? w2 _ t2)).trans t2,t3.trans (hb.mono t3.size)⟩
  refine hK.out _ _ hHeld (fun hHeld=>?_)
  clear hK K t0 t1 t2 t3 hb
  refine norm_ (a':=?_) ?_ ?_
  rotate_left
  · show Act.put _ (some 28) _=_
    simp only [Act.put,List.setIfInBounds_toArray,List.set_cons_zero,List.set_cons_succ,i64_w,i32_w]
    rfl
  refine one_ (i:=8) (N:=some 31) #[true,true,true,true,true,true,true,true,true,false,false] rfl rfl (by kernel_rfl) (by decide) (fun K hK=>?_)
  refine goes_ Tryd.func32 (by kernel_rfl) rfl #[.slice A2 (convEs s.f2).length c2,.int .i64 1] (by rfl) rfl rfl (by (try simp only [List.map_toArray,List.map_cons,List.map_nil]);first|done|rfl) ?_
  have hb2:Below w0.heap.size w0 w3:=HB0.out.trans ((HB1.out.trans (hHeld.2.2.2.mono HB1.out.size)).mono HB0.out.size)
  refine (tree_part.calls k' A2 c2 (convEs s.f2) 1 _ w3 (hT.later hb2) (Kd.C_below G2.out hb2) L2.out HQQ.out).mono ?_
  clear hb2
  rintro e w4 ⟨rfl,hb⟩
  refine ⟨_,rfl,?_⟩
  obtain ⟨t0,t1,t2,t3⟩:=hHeld
  have hHeld:w4.cell? ⟨gb,0,none⟩=some (.string s.f0)∧w4.cell? ⟨gb,1,none⟩=some (.string s.f1)∧w4.cell? ⟨gb,2,none⟩=some (.slice A2 (convEs s.f2).length c2)∧Below w1.heap.size w1 w4:=⟨(hb.cell (World.block_lt_of_cell? w3 _ t0)).trans t0,(hb.cell (World.block_lt_of_cell? w3 _ t1)).trans t1,(hb.cell (World.block_lt_of_cell? w3 _ t2)).trans t2,t3.trans (hb.mono t3.size)⟩
  refine hK.out _ _ hHeld (fun hHeld=>?_)
  clear hK K t0 t1 t2 t3 hb
  refine norm_ (a':=?_) ?_ ?_
  rotate_left
  · show Act.put _ (some 31) _=_
    simp only [Act.put,List.setIfInBounds_toArray,List.set_cons_zero,List.set_cons_succ,i64_w,i32_w]
    rfl
  refine one_ (i:=9) (N:=some 32) #[true,true,true,true,true,true,true,true,true,true,false] rfl rfl (by kernel_rfl) (by decide) (fun K hK=>?_)
  refine Kd.R_lit_step Kd.string (w0:=w4) w4.heap.size 9 (by rfl) (N:=32) rfl (xs:=[s.f1,(lit [91]),(nth (textEs s.f2) 0),(lit [93,32,61,32]),(nth (textEs s.f2) 1),(lit [59])]) (inner:=[.string s.f1,.string (lit [91]),.string (nth (textEs s.f2) 0),.string (lit [93,32,61,32]),.string (nth (textEs s.f2) 1),.string (lit [59])]) (ok:=fun _=>True) (okp:=fun _=>True) ?hr ?hp (fun _ hk=>hk) trivial (Below.refl _ _) (Nat.le_refl _) (by simp) ?_
  case hr=>first|(go_simp;done)|(go_simp;rfl)
  case hp=>exact Reps.one (show Kd.M Kd.string _ _ _ (s.f1) [.string (s.f1)] from rfl) (Reps.one (show Kd.M Kd.string _ _ _ ((lit [91])) [.string ((lit [91]))] from rfl) (Reps.one (show Kd.M Kd.string _ _ _ ((nth (textEs s.f2) 0)) [.string ((nth (textEs s.f2) 0))] from rfl) (Reps.one (show Kd.M Kd.string _ _ _ ((lit [93,32,61,32])) [.string ((lit [93,32,61,32]))] from rfl) (Reps.one (show Kd.M Kd.string _ _ _ ((nth (textEs s.f2) 1)) [.string ((nth (textEs s.f2) 1))] from rfl) (Reps.one (show Kd.M Kd.string _ _ _ ((lit [59])) [.string ((lit [59]))] from rfl) (Reps.none _ _))))))
  intro vrow w5 hrow hb hg_ hnew_
  clear hg_ hnew_
  obtain ⟨Ao,co,rfl⟩:=Kd.R_slice hrow
  have hro:=(Kd.R_reads' hrow).2
  obtain ⟨t0,t1,t2,t3⟩:=hHeld
  have hHeld:w5.cell? ⟨gb,0,none⟩=some (.string s.f0)∧w5.cell? ⟨gb,1,none⟩=some (.string s.f1)∧w5.cell? ⟨gb,2,none⟩=some (.slice A2 (convEs s.f2).length c2)∧Below w1.heap.size w1 w5:=⟨(hb.cell (World.block_lt_of_cell? w4 _ t0)).trans t0,(hb.cell (World.block_lt_of_cell? w4 _ t1)).trans t1,(hb.cell (World.block_lt_of_cell? w4 _ t2)).trans t2,t3.trans (hb.mono t3.size)⟩
  refine hK.out _ _ hHeld (fun hHeld=>?_)
  clear hK K t0 t1 t2 t3 hb hrow
  refine norm_ (a':=?_) ?_ ?_
  rotate_left
  · show Act.put _ (some 32) _=_
    simp only [Act.put,List.setIfInBounds_toArray,List.set_cons_zero,List.set_cons_succ,i64_w,i32_w]
    rfl
  have e4:Below w.heap.size w w5:=HB1.out.trans (hHeld.2.2.2.mono HB1.out.size)
  refine last_ (i:=10) (N:=some 33) #[true,true,true,true,true,true,true,true,true,true,true] rfl rfl (by kernel_rfl) (by decide) (fun K hK=>?_)
  refine goes_ Tryd.func38 (by kernel_rfl) rfl #[.pointer (some ⟨b,0,none⟩),.slice Ao 6 co] (by rfl) rfl rfl (by (try simp only [List.map_toArray,List.map_cons,List.map_nil]);first|done|rfl) ?_
  refine (line_pr w0.heap.size b t d Ao co [s.f1,(lit [91]),(nth (textEs s.f2) 0),(lit [93,32,61,32]),(nth (textEs s.f2) 1),(lit [59])] w5 (HP.out.kept e4) hro.2 hro.1 hd0 (by have:=HD.out;omega) (by simp) HLEN.out (Nat.le_trans HB0.out.size e4.size)).mono ?_
  rintro e w6 ⟨rfl,hP5,hb,hs5⟩
  refine ⟨_,rfl,?_⟩
  refine hK.out _ _ ?_
  refine done_ (by kernel_rfl) ?_
  try go_wp2
  go_end0
  exact ⟨rfl,.inr hP5,(e4.mono HB0.out.size).trans hb,(Beside.of e4).trans hs5⟩
end Go.Proofs.YtnnbbeloifhofaaDoor.P
end
section
namespace Go.Proofs.YtnnbbeloifhofaaDoor.P
open Go Go.RowKit Go.Proofs
open Go.Proofs.YtnnbbeloifhofaaDoorW.PrintWords Go.Proofs.YtnnbbeloifhofaaDoorW.PrintLast Go.Proofs.YtnnbbeloifhofaaDoorW.PrintMore
set_option linter.unusedVariables false
set_option linter.unusedSimpArgs false
set_option maxHeartbeats 2000000 in
set_option maxRecDepth 100000 in
theorem stmt_input (s:RS) (n0 : ¬ s.f0.toList=oSet) (n1 : ¬ s.f0.toList=oPut) (c1:s.f0.toList=oInput) (ce : ¬ s.f2.length=0):StmtOk s:=by
  intro b t d A2 A3 A4 c2 c3 c4 w0 w hP hB hT g2 l2 g3 l3 g4 l4 ho hd0 hd hlen
  rw [okS_eq] at ho
  rw [bulkS_eq] at hd
  rw [stmtB_eq] at hlen ⊢
  unfold stmtF at hlen ⊢
  rw [if_neg n0,if_neg n1,if_pos c1,if_neg ce] at hlen ⊢
  obtain ⟨k,hp⟩:=part_k s.f2 0 ho.1 (by omega)
  obtain ⟨k',hp'⟩:=part_k s.f2 1 ho.1 (by omega)
  have m0:=opNo n0
  clear n0
  have m1:=opNo n1
  clear n1
  have c1b:=opIs c1
  have ceb:((s.f2.length:Int) == 0)=false:=by simp;intro e;exact ce (by simp [e])
  rw [← convEs_len] at ceb
  clear c1 ce
  have G2:=Aside0.mk g2
  have L2:=Aside0.mk l2
  have HB0:=Aside0.mk hB
  have HLEN:=Aside0.mk hlen
  have HD:=Aside0.mk hd
  have HPP:=Aside0.mk hp
  have HQQ:=Aside0.mk hp'
  have HP:=Aside0.mk hP
  clear g2 l2 g3 l3 g4 l4 hB hlen hd hp hp' hP
  go_enter Tryd.func61,Tryd.ntmps61
  go_wp2_with (first|((with_reducible refine gate_dst (N:=3) rfl ?_);refine box_event ?hg (N:=3) ?hd (cs:=#[.string s.f0,.string s.f1,.slice A2 (convEs s.f2).length c2,.slice A3 (convSs s.f3).length c3,.slice A4 (convSs s.f4).length c4,.int .i64 s.f5]) (t:=76) ?hr ?_;(case hd=>rfl);(case hg=>rfl);(case hr=>first|(go_simp;done)|(go_simp;rfl));intro gb hg w1 hbox hb;have BK:=Aside0.mk hbox;have GW:=Aside0.mk hg;have HB1:=Aside0.mk hb;clear hb hbox hg;have z0:w1.cell? ⟨gb,0,none⟩=some (.string s.f0):=(blk_cell BK.out 0).trans rfl;have z1:w1.cell? ⟨gb,1,none⟩=some (.string s.f1):=(blk_cell BK.out 1).trans rfl;have z2:w1.cell? ⟨gb,2,none⟩=some (.slice A2 (convEs s.f2).length c2):=(blk_cell BK.out 2).trans rfl;have z3:w1.cell? ⟨gb,3,none⟩=some (.slice A3 (convSs s.f3).length c3):=(blk_cell BK.out 3).trans rfl;have z4:w1.cell? ⟨gb,4,none⟩=some (.slice A4 (convSs s.f4).length c4):=(blk_cell BK.out 4).trans rfl))
  have hHeld0:w1.drew.cell? ⟨gb,0,none⟩=some (.string s.f0)∧w1.drew.cell? ⟨gb,1,none⟩=some (.string s.f1)∧w1.drew.cell? ⟨gb,2,none⟩=some (.slice A2 (convEs s.f2).length c2)∧Below w1.heap.size w1 w1.drew:=⟨z0,z1,z2,Below.drew (Below.refl _ w1)⟩
  refine start_ (n:=11) (ds:=[10]) (S:=fun w'=>w'.cell? ⟨gb,0,none⟩=some (.string s.f0)∧w'.cell? ⟨gb,1,none⟩=some (.string s.f1)∧w'.cell? ⟨gb,2,none⟩=some (.slice A2 (convEs s.f2).length c2)∧Below w1.heap.size w1 w') #[false,false,false,false,false,false,false,false,false,false,false] (by kernel_rfl) rfl rfl hHeld0 (fun hHeld=>?_)
  generalize w1.drew=w2 at hHeld ⊢
  refine pure_ (i:=0) (N:=some 45) (v:=?_) (a':=?_) #[true,false,false,false,false,false,false,false,false,false,false] rfl rfl (by kernel_rfl) (fun _ _ _ h=>h) (Or.inl ⟨by rfl,?_⟩) ?_ ?_
  rotate_left
  · intro w'
    go_simp
    with_reducible rfl
  rotate_left
  · simp only [Act.put,List.setIfInBounds_toArray,List.set_cons_zero,List.set_cons_succ,i64_w,i32_w]
    rfl
  refine pure_ (i:=1) (N:=some 46) (v:=?_) (a':=?_) #[true,true,false,false,false,false,false,false,false,false,false] rfl rfl (by kernel_rfl) (fun _ _ _ h=>h) (Or.inl ⟨by rfl,?_⟩) ?_ ?_
  rotate_left
  · intro w'
    go_simp
    with_reducible rfl
  rotate_left
  · simp only [Act.put,List.setIfInBounds_toArray,List.set_cons_zero,List.set_cons_succ,i64_w,i32_w]
    rfl
  refine pure_ (i:=3) (N:=some 48) (v:=?_) (a':=?_) #[true,true,false,true,false,false,false,false,false,false,false] rfl rfl (by kernel_rfl) (fun _ _ _ h=>h) (Or.inl ⟨by rfl,?_⟩) ?_ ?_
  rotate_left
  · intro w'
    go_simp
    with_reducible rfl
  rotate_left
  · simp only [Act.put,List.setIfInBounds_toArray,List.set_cons_zero,List.set_cons_succ,i64_w,i32_w]
    rfl
  refine pure_ (i:=6) (N:=some 51) (v:=?_) (a':=?_) #[true,true,false,true,false,false,true,false,false,false,false] rfl rfl (by kernel_rfl) (fun _ _ _ h=>h) (Or.inl ⟨by rfl,?_⟩) ?_ ?_
  rotate_left
  · intro w'
    go_simp
    with_reducible rfl
  rotate_left
  · simp only [Act.put,List.setIfInBounds_toArray,List.set_cons_zero,List.set_cons_succ,i64_w,i32_w]
    rfl
  refine take_ (i:=2) (N:=some 47) (v:=?_) (a':=?_) #[true,true,true,true,false,false,true,false,false,false,false] rfl rfl (by kernel_rfl) (fun _ _ _ h=>h) (Or.inl ⟨by rfl,?_⟩) hHeld ?_ ?_
  rotate_left
  · rintro w' ⟨s0,s1,s2,s3⟩
    go_simp
    with_reducible rfl
  rotate_left
  · simp only [Act.put,List.setIfInBounds_toArray,List.set_cons_zero,List.set_cons_succ,i64_w,i32_w]
    rfl
  refine take_ (i:=4) (N:=some 49) (v:=?_) (a':=?_) #[true,true,true,true,true,false,true,false,false,false,false] rfl rfl (by kernel_rfl) (fun _ _ _ h=>h) (Or.inl ⟨by rfl,?_⟩) hHeld ?_ ?_
  rotate_left
  · rintro w' ⟨s0,s1,s2,s3⟩
    go_simp
    with_reducible rfl
  rotate_left
  · simp only [Act.put,List.setIfInBounds_toArray,List.set_cons_zero,List.set_cons_succ,i64_w,i32_w]
    rfl
  refine take_ (i:=7) (N:=some 52) (v:=?_) (a':=?_) #[true,true,true,true,true,false,true,true,false,false,false] rfl rfl (by kernel_rfl) (fun _ _ _ h=>h) (Or.inl ⟨by rfl,?_⟩) hHeld ?_ ?_
  rotate_left
  · rintro w' ⟨s0,s1,s2,s3⟩
    go_simp
    with_reducible rfl
  rotate_left
  · simp only [Act.put,List.setIfInBounds_toArray,List.set_cons_zero,List.set_cons_succ,i64_w,i32_w]
    rfl
  refine one_ (i:=5) (N:=some 50) #[true,true,true,true,true,true,true,true,false,false,false] rfl rfl (by kernel_rfl) (by decide) (fun K hK=>?_)
  refine goes_ Tryd.func32 (by kernel_rfl) rfl #[.slice A2 (convEs s.f2).length c2,.int .i64 0] (by rfl) rfl rfl (by (try simp only [List.map_toArray,List.map_cons,List.map_nil]);first|done|rfl) ?_
  have hb2:Below w0.heap.size w0 w2:=HB0.out.trans ((HB1.out.trans (hHeld.2.2.2.mono HB1.out.size)).mono HB0.out.size)
  refine (tree_part.calls k A2 c2 (convEs s.f2) 0 _ w2 (hT.later hb2) (Kd.C_below G2.out hb2) L2.out HPP.out).mono ?_
  clear hb2
  rintro e w3 ⟨rfl,hb⟩
  refine ⟨_,rfl,?_⟩
  obtain ⟨t0,t1,t2,t3⟩:=hHeld
  have hHeld:w3.cell? ⟨gb,0,none⟩=some (.string s.f0)∧w3.cell? ⟨gb,1,none⟩=some (.string s.f1)∧w3.cell? ⟨gb,2,none⟩=some (.slice A2 (convEs s.f2).length c2)∧Below w1.heap.size w1 w3:=⟨(hb.cell (World.block_lt_of_cell? w2 _ t0)).trans t0,(hb.cell (World.block_lt_of_cell? w2 _ t1)).trans t1,(hb.cell (World.block_lt_of_cell? w2 _ t2)).trans t2,t3.trans (hb.mono t3.size)⟩
  refine hK.out _ _ hHeld (fun hHeld=>?_)
  clear hK K t0 t1 t2 t3 hb
  refine norm_ (a':=?_) ?_ ?_
  rotate_left
  · show Act.put _ (some 50) _=_
    simp only [Act.put,List.setIfInBounds_toArray,List.set_cons_zero,List.set_cons_succ,i64_w,i32_w]
    rfl
  refine one_ (i:=8) (N:=some 53) #[true,true,true,true,true,true,true,true,true,false,false] rfl rfl (by kernel_rfl) (by decide) (fun K hK=>?_)
  refine goes_ Tryd.func32 (by kernel_rfl) rfl #[.slice A2 (convEs s.f2).length c2,.int .i64 1] (by rfl) rfl rfl (by (try simp only [List.map_toArray,List.map_cons,List.map_nil]);first|done|rfl) ?_
  have hb2:Below w0.heap.size w0 w3:=HB0.out.trans ((HB1.out.trans (hHeld.2.2.2.mono HB1.out.size)).mono HB0.out.size)
  refine (tree_part.calls k' A2 c2 (convEs s.f2) 1 _ w3 (hT.later hb2) (Kd.C_below G2.out hb2) L2.out HQQ.out).mono ?_
  clear hb2
  rintro e w4 ⟨rfl,hb⟩
  refine ⟨_,rfl,?_⟩
  obtain ⟨t0,t1,t2,t3⟩:=hHeld
  have hHeld:w4.cell? ⟨gb,0,none⟩=some (.string s.f0)∧w4.cell? ⟨gb,1,none⟩=some (.string s.f1)∧w4.cell? ⟨gb,2,none⟩=some (.slice A2 (convEs s.f2).length c2)∧Below w1.heap.size w1 w4:=⟨(hb.cell (World.block_lt_of_cell? w3 _ t0)).trans t0,(hb.cell (World.block_lt_of_cell? w3 _ t1)).trans t1,(hb.cell (World.block_lt_of_cell? w3 _ t2)).trans t2,t3.trans (hb.mono t3.size)⟩
  refine hK.out _ _ hHeld (fun hHeld=>?_)
  clear hK K t0 t1 t2 t3 hb
  refine norm_ (a':=?_) ?_ ?_
  rotate_left
  · show Act.put _ (some 53) _=_
    simp only [Act.put,List.setIfInBounds_toArray,List.set_cons_zero,List.set_cons_succ,i64_w,i32_w]
    rfl
  refine one_ (i:=9) (N:=some 54) #[true,true,true,true,true,true,true,true,true,true,false] rfl rfl (by kernel_rfl) (by decide) (fun K hK=>?_)
  refine Kd.R_lit_step Kd.string (w0:=w4) w4.heap.size 9 (by rfl) (N:=54) rfl (xs:=[s.f1,(lit [32,61,32,105,110,112,117,116,40]),(nth (textEs s.f2) 0),(lit [44,32]),(nth (textEs s.f2) 1),(lit [41,59])]) (inner:=[.string s.f1,.string (lit [32,61,32,105,110,112,117,116,40]),.string (nth (textEs s.f2) 0),.string (lit [44,32]),.string (nth (textEs s.f2) 1),.string (lit [41,59])]) (ok:=fun _=>True) (okp:=fun _=>True) ?hr ?hp (fun _ hk=>hk) trivial (Below.refl _ _) (Nat.le_refl _) (by simp) ?_
  case hr=>first|(go_simp;done)|(go_simp;rfl)
  case hp=>exact Reps.one (show Kd.M Kd.string _ _ _ (s.f1) [.string (s.f1)] from rfl) (Reps.one (show Kd.M Kd.string _ _ _ ((lit [32,61,32,105,110,112,117,116,40])) [.string ((lit [32,61,32,105,110,112,117,116,40]))] from rfl) (Reps.one (show Kd.M Kd.string _ _ _ ((nth (textEs s.f2) 0)) [.string ((nth (textEs s.f2) 0))] from rfl) (Reps.one (show Kd.M Kd.string _ _ _ ((lit [44,32])) [.string ((lit [44,32]))] from rfl) (Reps.one (show Kd.M Kd.string _ _ _ ((nth (textEs s.f2) 1)) [.string ((nth (textEs s.f2) 1))] from rfl) (Reps.one (show Kd.M Kd.string _ _ _ ((lit [41,59])) [.string ((lit [41,59]))] from rfl) (Reps.none _ _))))))
  intro vrow w5 hrow hb hg_ hnew_
  clear hg_ hnew_
  obtain ⟨Ao,co,rfl⟩:=Kd.R_slice hrow
  have hro:=(Kd.R_reads' hrow).2
  obtain ⟨t0,t1,t2,t3⟩:=hHeld
  have hHeld:w5.cell? ⟨gb,0,none⟩=some (.string s.f0)∧w5.cell? ⟨gb,1,none⟩=some (.string s.f1)∧w5.cell? ⟨gb,2,none⟩=some (.slice A2 (convEs s.f2).length c2)∧Below w1.heap.size w1 w5:=⟨(hb.cell (World.block_lt_of_cell? w4 _ t0)).trans t0,(hb.cell (World.block_lt_of_cell? w4 _ t1)).trans t1,(hb.cell (World.block_lt_of_cell? w4 _ t2)).trans t2,t3.trans (hb.mono t3.size)⟩
  refine hK.out _ _ hHeld (fun hHeld=>?_)
  clear hK K t0 t1 t2 t3 hb hrow
  refine norm_ (a':=?_) ?_ ?_
  rotate_left
  · show Act.put _ (some 54) _=_
    simp only [Act.put,List.setIfInBounds_toArray,List.set_cons_zero,List.set_cons_succ,i64_w,i32_w]
    rfl
  have e4:Below w.heap.size w w5:=HB1.out.trans (hHeld.2.2.2.mono HB1.out.size)
  refine last_ (i:=10) (N:=some 55) #[true,true,true,true,true,true,true,true,true,true,true] rfl rfl (by kernel_rfl) (by decide) (fun K hK=>?_)
  refine goes_ Tryd.func38 (by kernel_rfl) rfl #[.pointer (some ⟨b,0,none⟩),.slice Ao 6 co] (by rfl) rfl rfl (by (try simp only [List.map_toArray,List.map_cons,List.map_nil]);first|done|rfl) ?_
  refine (line_pr w0.heap.size b t d Ao co [s.f1,(lit [32,61,32,105,110,112,117,116,40]),(nth (textEs s.f2) 0),(lit [44,32]),(nth (textEs s.f2) 1),(lit [41,59])] w5 (HP.out.kept e4) hro.2 hro.1 hd0 (by have:=HD.out;omega) (by simp) HLEN.out (Nat.le_trans HB0.out.size e4.size)).mono ?_
  rintro e w6 ⟨rfl,hP5,hb,hs5⟩
  refine ⟨_,rfl,?_⟩
  refine hK.out _ _ ?_
  refine done_ (by kernel_rfl) ?_
  try go_wp2
  go_end0
  exact ⟨rfl,.inr hP5,(e4.mono HB0.out.size).trans hb,(Beside.of e4).trans hs5⟩
end Go.Proofs.YtnnbbeloifhofaaDoor.P
end
section
namespace Go.Proofs.YtnnbbeloifhofaaDoor.P
open Go Go.RowKit Go.Proofs
open Go.Proofs.YtnnbbeloifhofaaDoorW.PrintWords Go.Proofs.YtnnbbeloifhofaaDoorW.PrintLast Go.Proofs.YtnnbbeloifhofaaDoorW.PrintMore
set_option linter.unusedVariables false
set_option linter.unusedSimpArgs false
set_option maxHeartbeats 2000000 in
set_option maxRecDepth 100000 in
theorem stmt_input0 (s:RS) (n0 : ¬ s.f0.toList=oSet) (n1 : ¬ s.f0.toList=oPut) (c1:s.f0.toList=oInput) (ce:s.f2.length=0):StmtOk s:=by
  intro b t d A2 A3 A4 c2 c3 c4 w0 w hP hB hT g2 l2 g3 l3 g4 l4 ho hd0 hd hlen
  rw [okS_eq] at ho
  rw [bulkS_eq] at hd
  rw [stmtB_eq] at hlen ⊢
  unfold stmtF at hlen ⊢
  rw [if_neg n0,if_neg n1,if_pos c1,if_pos ce] at hlen ⊢
  obtain ⟨k,hp⟩:=part_k s.f2 0 ho.1 (by omega)
  obtain ⟨k',hp'⟩:=part_k s.f2 1 ho.1 (by omega)
  have m0:=opNo n0
  clear n0
  have m1:=opNo n1
  clear n1
  have c1b:=opIs c1
  have ceb:(convEs s.f2).length=0:=by rw [convEs_len];exact ce
  clear c1 ce
  have G2:=Aside0.mk g2
  have L2:=Aside0.mk l2
  have HB0:=Aside0.mk hB
  have HLEN:=Aside0.mk hlen
  have HD:=Aside0.mk hd
  have HPP:=Aside0.mk hp
  have HQQ:=Aside0.mk hp'
  have HP:=Aside0.mk hP
  clear g2 l2 g3 l3 g4 l4 hB hlen hd hp hp' hP
  go_enter Tryd.func61,Tryd.ntmps61
  go_wp2_with (first|((with_reducible refine gate_dst (N:=3) rfl ?_);refine box_event ?hg (N:=3) ?hd (cs:=#[.string s.f0,.string s.f1,.slice A2 (convEs s.f2).length c2,.slice A3 (convSs s.f3).length c3,.slice A4 (convSs s.f4).length c4,.int .i64 s.f5]) (t:=76) ?hr ?_;(case hd=>rfl);(case hg=>rfl);(case hr=>first|(go_simp;done)|(go_simp;rfl));intro gb hg w1 hbox hb;have BK:=Aside0.mk hbox;have GW:=Aside0.mk hg;have HB1:=Aside0.mk hb;clear hb hbox hg;have z0:w1.cell? ⟨gb,0,none⟩=some (.string s.f0):=(blk_cell BK.out 0).trans rfl;have z1:w1.cell? ⟨gb,1,none⟩=some (.string s.f1):=(blk_cell BK.out 1).trans rfl;have z2:w1.cell? ⟨gb,2,none⟩=some (.slice A2 (convEs s.f2).length c2):=(blk_cell BK.out 2).trans rfl;have z3:w1.cell? ⟨gb,3,none⟩=some (.slice A3 (convSs s.f3).length c3):=(blk_cell BK.out 3).trans rfl;have z4:w1.cell? ⟨gb,4,none⟩=some (.slice A4 (convSs s.f4).length c4):=(blk_cell BK.out 4).trans rfl)|((with_reducible refine gate_dst (N:=43) rfl ?_);(try (refine gate_guard (by rfl) ?_;dsimp only));refine Kd.R_lit Kd.string (w0:=w1) w1.heap.size 9 ?hg (N:=43) ?hd (xs:=[s.f1,(lit [32,61,32,105,110,112,117,116,59])]) (inner:=[.string s.f1,.string (lit [32,61,32,105,110,112,117,116,59])]) (ok:=fun _=>True) (okp:=fun _=>True) ?hr ?hp (fun _ hk=>hk) trivial (Below.refl _ _) (Nat.le_refl _) (by simp) ?_;(case hd=>rfl);(case hg=>rfl);(case hr=>first|(go_simp;done)|(go_simp;rfl));(case hp=>exact Reps.one (show Kd.M Kd.string _ _ _ (s.f1) [.string (s.f1)] from rfl) (Reps.one (show Kd.M Kd.string _ _ _ ((lit [32,61,32,105,110,112,117,116,59])) [.string ((lit [32,61,32,105,110,112,117,116,59]))] from rfl) (Reps.none _ _)));intro vrow w2 hrow hb hg_ hnew_;have HB2:=Aside0.mk hb;clear hg_ hnew_ hb;obtain ⟨Ao,co,rfl⟩:=Kd.R_slice hrow;have hro:=(Kd.R_reads' hrow).2;have HRO:=Aside0.mk hro;clear hro hrow))
  have e4:Below w.heap.size w w2:=HB1.out.trans (HB2.out.mono HB1.out.size)
  refine (line_pr w0.heap.size b t d Ao co [s.f1,(lit [32,61,32,105,110,112,117,116,59])] w2 (HP.out.kept e4) HRO.out.2 HRO.out.1 hd0 (by have:=HD.out;omega) (by simp) HLEN.out (Nat.le_trans HB0.out.size e4.size)).mono ?_
  rintro e w5 ⟨rfl,hP5,hb,hs5⟩
  try go_wp2
  refine bodyPost_ret (results_none rfl _ _ _) rfl ?_
  exact ⟨rfl,.inr hP5,(e4.mono HB0.out.size).trans hb,(Beside.of e4).trans hs5⟩
end Go.Proofs.YtnnbbeloifhofaaDoor.P
end
section
namespace Go.Proofs.YtnnbbeloifhofaaDoor.P
open Go Go.RowKit Go.Proofs
open Go.Proofs.YtnnbbeloifhofaaDoorW.PrintWords Go.Proofs.YtnnbbeloifhofaaDoorW.PrintLast Go.Proofs.YtnnbbeloifhofaaDoorW.PrintMore
set_option linter.unusedVariables false
set_option linter.unusedSimpArgs false
set_option maxHeartbeats 2000000 in
set_option maxRecDepth 100000 in
theorem stmt_if0 (s:RS) (n0 : ¬ s.f0.toList=oSet) (n1 : ¬ s.f0.toList=oPut) (n2 : ¬ s.f0.toList=oInput) (c1:s.f0.toList=oIf) (ce:s.f4.length=0) (iha : ∀ y ∈ s.f3,StmtOk y) (ihb : ∀ y ∈ s.f4,StmtOk y):StmtOk s:=by
  intro b t d A2 A3 A4 c2 c3 c4 w0 w hP hB hT g2 l2 g3 l3 g4 l4 ho hd0 hd hlen
  rw [okS_eq] at ho
  rw [bulkS_eq] at hd
  rw [stmtB_eq] at hlen ⊢
  unfold stmtF at hlen ⊢
  rw [if_neg n0,if_neg n1,if_neg n2,if_pos (.inl c1),if_neg (fun h=>by have:=of_decide_eq_true h.2;omega)] at hlen ⊢
  obtain ⟨k,hp⟩:=part_k s.f2 0 ho.1 (by omega)
  obtain ⟨k',hp'⟩:=part_k s.f2 1 ho.1 (by omega)
  have m0:=opNo n0
  clear n0
  have m1:=opNo n1
  clear n1
  have m2:=opNo n2
  clear n2
  have c1b:=opIs c1
  have ceb:decide (0 < (convSs s.f4).length)=false:=decide_eq_false (by rw [convSs_len];omega)
  clear c1 ce
  have G3:=Aside0.mk g3
  have L3:=Aside0.mk l3
  have G4:=Aside0.mk g4
  have L4:=Aside0.mk l4
  have OK:=Aside0.mk ho
  have G2:=Aside0.mk g2
  have L2:=Aside0.mk l2
  have HB0:=Aside0.mk hB
  have HLEN:=Aside0.mk hlen
  have HD:=Aside0.mk hd
  have HPP:=Aside0.mk hp
  have HQQ:=Aside0.mk hp'
  have HP:=Aside0.mk hP
  clear ho g2 l2 g3 l3 g4 l4 hB hlen hd hp hp' hP
  go_enter Tryd.func61,Tryd.ntmps61
  go_wp2_with (first|((with_reducible refine gate_dst (N:=3) rfl ?_);refine box_event ?hg (N:=3) ?hd (cs:=#[.string s.f0,.string s.f1,.slice A2 (convEs s.f2).length c2,.slice A3 (convSs s.f3).length c3,.slice A4 (convSs s.f4).length c4,.int .i64 s.f5]) (t:=76) ?hr ?_;(case hd=>rfl);(case hg=>rfl);(case hr=>first|(go_simp;done)|(go_simp;rfl));intro gb hg w1 hbox hb;have BK:=Aside0.mk hbox;have GW:=Aside0.mk hg;have HB1:=Aside0.mk hb;clear hb hbox hg;have z0:w1.cell? ⟨gb,0,none⟩=some (.string s.f0):=(blk_cell BK.out 0).trans rfl;have z1:w1.cell? ⟨gb,1,none⟩=some (.string s.f1):=(blk_cell BK.out 1).trans rfl;have z2:w1.cell? ⟨gb,2,none⟩=some (.slice A2 (convEs s.f2).length c2):=(blk_cell BK.out 2).trans rfl;have z3:w1.cell? ⟨gb,3,none⟩=some (.slice A3 (convSs s.f3).length c3):=(blk_cell BK.out 3).trans rfl;have z4:w1.cell? ⟨gb,4,none⟩=some (.slice A4 (convSs s.f4).length c4):=(blk_cell BK.out 4).trans rfl))
  have hHeld0:w1.drew.cell? ⟨gb,0,none⟩=some (.string s.f0)∧w1.drew.cell? ⟨gb,1,none⟩=some (.string s.f1)∧w1.drew.cell? ⟨gb,2,none⟩=some (.slice A2 (convEs s.f2).length c2)∧Below w1.heap.size w1 w1.drew:=⟨z0,z1,z2,Below.drew (Below.refl _ w1)⟩
  refine start_ (n:=8) (ds:=[7]) (S:=fun w'=>w'.cell? ⟨gb,0,none⟩=some (.string s.f0)∧w'.cell? ⟨gb,1,none⟩=some (.string s.f1)∧w'.cell? ⟨gb,2,none⟩=some (.slice A2 (convEs s.f2).length c2)∧Below w1.heap.size w1 w') #[false,false,false,false,false,false,false,false] (by kernel_rfl) rfl rfl hHeld0 (fun hHeld=>?_)
  generalize w1.drew=w2 at hHeld ⊢
  refine pure_ (i:=0) (N:=some 59) (v:=?_) (a':=?_) #[true,false,false,false,false,false,false,false] rfl rfl (by kernel_rfl) (fun _ _ _ h=>h) (Or.inl ⟨by rfl,?_⟩) ?_ ?_
  rotate_left
  · intro w'
    go_simp
    with_reducible rfl
  rotate_left
  · simp only [Act.put,List.setIfInBounds_toArray,List.set_cons_zero,List.set_cons_succ,i64_w,i32_w]
    rfl
  refine pure_ (i:=1) (N:=some 60) (v:=?_) (a':=?_) #[true,true,false,false,false,false,false,false] rfl rfl (by kernel_rfl) (fun _ _ _ h=>h) (Or.inl ⟨by rfl,?_⟩) ?_ ?_
  rotate_left
  · intro w'
    go_simp
    with_reducible rfl
  rotate_left
  · simp only [Act.put,List.setIfInBounds_toArray,List.set_cons_zero,List.set_cons_succ,i64_w,i32_w]
    rfl
  refine pure_ (i:=3) (N:=some 62) (v:=?_) (a':=?_) #[true,true,false,true,false,false,false,false] rfl rfl (by kernel_rfl) (fun _ _ _ h=>h) (Or.inl ⟨by rfl,?_⟩) ?_ ?_
  rotate_left
  · intro w'
    go_simp
    with_reducible rfl
  rotate_left
  · simp only [Act.put,List.setIfInBounds_toArray,List.set_cons_zero,List.set_cons_succ,i64_w,i32_w]
    rfl
  refine take_ (i:=2) (N:=some 61) (v:=?_) (a':=?_) #[true,true,true,true,false,false,false,false] rfl rfl (by kernel_rfl) (fun _ _ _ h=>h) (Or.inl ⟨by rfl,?_⟩) hHeld ?_ ?_
  rotate_left
  · rintro w' ⟨s0,s1,s2,s3⟩
    go_simp
    with_reducible rfl
  rotate_left
  · simp only [Act.put,List.setIfInBounds_toArray,List.set_cons_zero,List.set_cons_succ,i64_w,i32_w]
    rfl
  refine take_ (i:=4) (N:=some 63) (v:=?_) (a':=?_) #[true,true,true,true,true,false,false,false] rfl rfl (by kernel_rfl) (fun _ _ _ h=>h) (Or.inl ⟨by rfl,?_⟩) hHeld ?_ ?_
  rotate_left
  · rintro w' ⟨s0,s1,s2,s3⟩
    go_simp
    with_reducible rfl
  rotate_left
  · simp only [Act.put,List.setIfInBounds_toArray,List.set_cons_zero,List.set_cons_succ,i64_w,i32_w]
    rfl
  refine one_ (i:=5) (N:=some 64) #[true,true,true,true,true,true,false,false] rfl rfl (by kernel_rfl) (by decide) (fun K hK=>?_)
  refine goes_ Tryd.func32 (by kernel_rfl) rfl #[.slice A2 (convEs s.f2).length c2,.int .i64 0] (by rfl) rfl rfl (by (try simp only [List.map_toArray,List.map_cons,List.map_nil]);first|done|rfl) ?_
  have hb2:Below w0.heap.size w0 w2:=HB0.out.trans ((HB1.out.trans (hHeld.2.2.2.mono HB1.out.size)).mono HB0.out.size)
  refine (tree_part.calls k A2 c2 (convEs s.f2) 0 _ w2 (hT.later hb2) (Kd.C_below G2.out hb2) L2.out HPP.out).mono ?_
  clear hb2
  rintro e w3 ⟨rfl,hb⟩
  refine ⟨_,rfl,?_⟩
  obtain ⟨t0,t1,t2,t3⟩:=hHeld
  have hHeld:w3.cell? ⟨gb,0,none⟩=some (.string s.f0)∧w3.cell? ⟨gb,1,none⟩=some (.string s.f1)∧w3.cell? ⟨gb,2,none⟩=some (.slice A2 (convEs s.f2).length c2)∧Below w1.heap.size w1 w3:=⟨(hb.cell (World.block_lt_of_cell? w2 _ t0)).trans t0,(hb.cell (World.block_lt_of_cell? w2 _ t1)).trans t1,(hb.cell (World.block_lt_of_cell? w2 _ t2)).trans t2,t3.trans (hb.mono t3.size)⟩
  refine hK.out _ _ hHeld (fun hHeld=>?_)
  clear hK K t0 t1 t2 t3 hb
  refine norm_ (a':=?_) ?_ ?_
  rotate_left
  · show Act.put _ (some 64) _=_
    simp only [Act.put,List.setIfInBounds_toArray,List.set_cons_zero,List.set_cons_succ,i64_w,i32_w]
    rfl
  refine one_ (i:=6) (N:=some 65) #[true,true,true,true,true,true,true,false] rfl rfl (by kernel_rfl) (by decide) (fun K hK=>?_)
  refine Kd.R_lit_step Kd.string (w0:=w3) w3.heap.size 9 (by rfl) (N:=65) rfl (xs:=[s.f0,(lit [32]),(nth (textEs s.f2) 0),(lit [32,123])]) (inner:=[.string s.f0,.string (lit [32]),.string (nth (textEs s.f2) 0),.string (lit [32,123])]) (ok:=fun _=>True) (okp:=fun _=>True) ?hr ?hp (fun _ hk=>hk) trivial (Below.refl _ _) (Nat.le_refl _) (by simp) ?_
  case hr=>first|(go_simp;done)|(go_simp;rfl)
  case hp=>exact Reps.one (show Kd.M Kd.string _ _ _ (s.f0) [.string (s.f0)] from rfl) (Reps.one (show Kd.M Kd.string _ _ _ ((lit [32])) [.string ((lit [32]))] from rfl) (Reps.one (show Kd.M Kd.string _ _ _ ((nth (textEs s.f2) 0)) [.string ((nth (textEs s.f2) 0))] from rfl) (Reps.one (show Kd.M Kd.string _ _ _ ((lit [32,123])) [.string ((lit [32,123]))] from rfl) (Reps.none _ _))))
  intro vrow w4 hrow hb hg_ hnew_
  clear hg_ hnew_
  obtain ⟨Ao,co,rfl⟩:=Kd.R_slice hrow
  have hro:=(Kd.R_reads' hrow).2
  obtain ⟨t0,t1,t2,t3⟩:=hHeld
  have hHeld:w4.cell? ⟨gb,0,none⟩=some (.string s.f0)∧w4.cell? ⟨gb,1,none⟩=some (.string s.f1)∧w4.cell? ⟨gb,2,none⟩=some (.slice A2 (convEs s.f2).length c2)∧Below w1.heap.size w1 w4:=⟨(hb.cell (World.block_lt_of_cell? w3 _ t0)).trans t0,(hb.cell (World.block_lt_of_cell? w3 _ t1)).trans t1,(hb.cell (World.block_lt_of_cell? w3 _ t2)).trans t2,t3.trans (hb.mono t3.size)⟩
  refine hK.out _ _ hHeld (fun hHeld=>?_)
  clear hK K t0 t1 t2 t3 hb hrow
  refine norm_ (a':=?_) ?_ ?_
  rotate_left
  · show Act.put _ (some 65) _=_
    simp only [Act.put,List.setIfInBounds_toArray,List.set_cons_zero,List.set_cons_succ,i64_w,i32_w]
    rfl
  have e4:Below w.heap.size w w4:=HB1.out.trans (hHeld.2.2.2.mono HB1.out.size)
  refine last_ (i:=7) (N:=some 66) #[true,true,true,true,true,true,true,true] rfl rfl (by kernel_rfl) (by decide) (fun K hK=>?_)
  refine goes_ Tryd.func38 (by kernel_rfl) rfl #[.pointer (some ⟨b,0,none⟩),.slice Ao 4 co] (by rfl) rfl rfl (by (try simp only [List.map_toArray,List.map_cons,List.map_nil]);first|done|rfl) ?_
  refine (line_pr w0.heap.size b t d Ao co [s.f0,(lit [32]),(nth (textEs s.f2) 0),(lit [32,123])] w4 (HP.out.kept e4) hro.2 hro.1 hd0 (by have:=HD.out;omega) (by simp) (by have:=HLEN.out;simp only [List.length_append] at this;omega) (Nat.le_trans HB0.out.size e4.size)).mono ?_
  rintro e w5 ⟨rfl,hP5,hb,hs5⟩
  refine ⟨_,rfl,?_⟩
  refine hK.out _ _ ?_
  refine done_ (by kernel_rfl) ?_
  have hgb:gb≠b:=fun e=>by have:=HP.out.lt;have:=GW.out;omega
  have BK5:=Aside0.mk ((Beside.trans (Beside.of (hHeld.2.2.2)) hs5) gb _ _ _ hgb (by decide) BK.out)
  have HB5:=Aside0.mk ((e4.mono HB0.out.size).trans hb)
  have HS5:=Aside0.mk ((Beside.of e4).trans hs5)
  have HP5:Aside0 (IsPr w0.heap.size b (Lib.byteCells (t++lineB d [s.f0,lit [32],nth (textEs s.f2) 0,lit [32,123]])) d w5):=⟨.inr hP5⟩
  clear hK hHeld z0 z1 z2 z3 z4 hb hs5 hro hP5 e4 BK
  have z0:w5.cell? ⟨gb,0,none⟩=some (.string s.f0):=by rw [Lib.cell_of_heap BK5.out];rfl
  have z1:w5.cell? ⟨gb,1,none⟩=some (.string s.f1):=by rw [Lib.cell_of_heap BK5.out];rfl
  have z2:w5.cell? ⟨gb,2,none⟩=some (.slice A2 (convEs s.f2).length c2):=by rw [Lib.cell_of_heap BK5.out];rfl
  have z3:w5.cell? ⟨gb,3,none⟩=some (.slice A3 (convSs s.f3).length c3):=by rw [Lib.cell_of_heap BK5.out];rfl
  have z4:w5.cell? ⟨gb,4,none⟩=some (.slice A4 (convSs s.f4).length c4):=by rw [Lib.cell_of_heap BK5.out];rfl
  go_wp2_with fail
  refine (block_pr s.f3 iha b (t++lineB d [s.f0,lit [32],nth (textEs s.f2) 0,lit [32,123]]) d A3 c3 w0 w5 HP5.out (HB0.out.trans HB5.out) hT G3.out L3.out OK.out.2.1 hd0 (by have:=HD.out;omega) (by have:=HLEN.out;simp only [List.length_append] at this ⊢;omega)).mono ?_
  rintro e w6 ⟨rfl,hP',hb',hs'⟩
  have HP6:=Aside0.mk hP'
  have HB6:=Aside0.mk (HB5.out.trans hb')
  have HS6:=Aside0.mk (HS5.out.trans hs')
  have BK6:=Aside0.mk (hs' gb _ _ _ hgb (by decide) BK5.out)
  clear hP' hb' hs' z0 z1 z2 z3 z4 BK5
  have z0:w6.cell? ⟨gb,0,none⟩=some (.string s.f0):=by rw [Lib.cell_of_heap BK6.out];rfl
  have z1:w6.cell? ⟨gb,1,none⟩=some (.string s.f1):=by rw [Lib.cell_of_heap BK6.out];rfl
  have z2:w6.cell? ⟨gb,2,none⟩=some (.slice A2 (convEs s.f2).length c2):=by rw [Lib.cell_of_heap BK6.out];rfl
  have z3:w6.cell? ⟨gb,3,none⟩=some (.slice A3 (convSs s.f3).length c3):=by rw [Lib.cell_of_heap BK6.out];rfl
  have z4:w6.cell? ⟨gb,4,none⟩=some (.slice A4 (convSs s.f4).length c4):=by rw [Lib.cell_of_heap BK6.out];rfl
  go_wp2_with (first|((with_reducible refine gate_dst (N:=88) rfl ?_);(try (refine gate_guard (by rfl) ?_;dsimp only));refine Kd.R_lit Kd.string (w0:=w6) w6.heap.size 9 ?hg11 (N:=88) ?hd11 (xs:=[(lit [125])]) (inner:=[.string (lit [125])]) (ok:=fun _=>True) (okp:=fun _=>True) ?hr11 ?hp11 (fun _ hk=>hk) trivial (Below.refl _ _) (Nat.le_refl _) (by simp) ?_;(case hd11=>rfl);(case hg11=>rfl);(case hr11=>first|(go_simp;done)|(go_simp;rfl));(case hp11=>exact Reps.one (show Kd.M Kd.string _ _ _ ((lit [125])) [.string ((lit [125]))] from rfl) (Reps.none _ _));intro vrow w10 hrow hb hg_ hnew_;have HL11:=Aside0.mk hb;clear hg_ hnew_ hb;obtain ⟨Ao11,co11,rfl⟩:=Kd.R_slice hrow;have hro:=(Kd.R_reads' hrow).2;have HR11:=Aside0.mk hro;clear hro hrow))
  refine (line_pr w0.heap.size b ((t++lineB d [s.f0,lit [32],nth (textEs s.f2) 0,lit [32,123]])++stmtsB s.f3 (d+1)) d Ao11 co11 [(lit [125])] w10 (HP6.out.kept HL11.out) HR11.out.2 HR11.out.1 hd0 (by have:=HD.out;omega) (by simp) (by have:=HLEN.out;simp only [List.length_append] at this ⊢;omega) (Nat.le_trans HB0.out.size (Nat.le_trans HB6.out.size HL11.out.size))).mono ?_
  rintro e w11 ⟨rfl,hP',hb',hs'⟩
  have HP11:Aside0 (IsPr w0.heap.size b _ d w11):=⟨.inr hP'⟩
  have HB11:=Aside0.mk ((HB6.out.trans (HL11.out.mono (Nat.le_trans HB0.out.size HB6.out.size))).trans hb')
  have HS11:=Aside0.mk ((HS6.out.trans (Beside.of HL11.out)).trans hs')
  have BK11:=Aside0.mk (((Beside.of HL11.out).trans hs') gb _ _ _ hgb (by decide) BK6.out)
  clear hP' hb' hs' z0 z1 z2 z3 z4 BK6 HL11 HR11
  have z0:w11.cell? ⟨gb,0,none⟩=some (.string s.f0):=by rw [Lib.cell_of_heap BK11.out];rfl
  have z1:w11.cell? ⟨gb,1,none⟩=some (.string s.f1):=by rw [Lib.cell_of_heap BK11.out];rfl
  have z2:w11.cell? ⟨gb,2,none⟩=some (.slice A2 (convEs s.f2).length c2):=by rw [Lib.cell_of_heap BK11.out];rfl
  have z3:w11.cell? ⟨gb,3,none⟩=some (.slice A3 (convSs s.f3).length c3):=by rw [Lib.cell_of_heap BK11.out];rfl
  have z4:w11.cell? ⟨gb,4,none⟩=some (.slice A4 (convSs s.f4).length c4):=by rw [Lib.cell_of_heap BK11.out];rfl
  try go_wp2
  go_end0
  refine ⟨rfl,?_,HB11.out,HS11.out⟩
  have h11:=HP11.out
  simp only [List.append_assoc,List.nil_append,List.append_nil] at h11 ⊢
  exact h11
end Go.Proofs.YtnnbbeloifhofaaDoor.P
end
section
namespace Go.Proofs.YtnnbbeloifhofaaDoor.P
open Go Go.RowKit Go.Proofs
open Go.Proofs.YtnnbbeloifhofaaDoorW.PrintWords Go.Proofs.YtnnbbeloifhofaaDoorW.PrintLast Go.Proofs.YtnnbbeloifhofaaDoorW.PrintMore
set_option linter.unusedVariables false
set_option linter.unusedSimpArgs false
set_option maxHeartbeats 2000000 in
set_option maxRecDepth 100000 in
theorem stmt_if1 (s:RS) (n0 : ¬ s.f0.toList=oSet) (n1 : ¬ s.f0.toList=oPut) (n2 : ¬ s.f0.toList=oInput) (c1:s.f0.toList=oIf) (ce:0 < s.f4.length) (iha : ∀ y ∈ s.f3,StmtOk y) (ihb : ∀ y ∈ s.f4,StmtOk y):StmtOk s:=by
  intro b t d A2 A3 A4 c2 c3 c4 w0 w hP hB hT g2 l2 g3 l3 g4 l4 ho hd0 hd hlen
  rw [okS_eq] at ho
  rw [bulkS_eq] at hd
  rw [stmtB_eq] at hlen ⊢
  unfold stmtF at hlen ⊢
  rw [if_neg n0,if_neg n1,if_neg n2,if_pos (.inl c1),if_pos ⟨c1,decide_eq_true ce⟩] at hlen ⊢
  obtain ⟨k,hp⟩:=part_k s.f2 0 ho.1 (by omega)
  obtain ⟨k',hp'⟩:=part_k s.f2 1 ho.1 (by omega)
  have m0:=opNo n0
  clear n0
  have m1:=opNo n1
  clear n1
  have m2:=opNo n2
  clear n2
  have c1b:=opIs c1
  have ceb:decide (0 < (convSs s.f4).length)=true:=decide_eq_true (by rw [convSs_len];omega)
  clear c1 ce
  have G3:=Aside0.mk g3
  have L3:=Aside0.mk l3
  have G4:=Aside0.mk g4
  have L4:=Aside0.mk l4
  have OK:=Aside0.mk ho
  have G2:=Aside0.mk g2
  have L2:=Aside0.mk l2
  have HB0:=Aside0.mk hB
  have HLEN:=Aside0.mk hlen
  have HD:=Aside0.mk hd
  have HPP:=Aside0.mk hp
  have HQQ:=Aside0.mk hp'
  have HP:=Aside0.mk hP
  clear ho g2 l2 g3 l3 g4 l4 hB hlen hd hp hp' hP
  go_enter Tryd.func61,Tryd.ntmps61
  go_wp2_with (first|((with_reducible refine gate_dst (N:=3) rfl ?_);refine box_event ?hg (N:=3) ?hd (cs:=#[.string s.f0,.string s.f1,.slice A2 (convEs s.f2).length c2,.slice A3 (convSs s.f3).length c3,.slice A4 (convSs s.f4).length c4,.int .i64 s.f5]) (t:=76) ?hr ?_;(case hd=>rfl);(case hg=>rfl);(case hr=>first|(go_simp;done)|(go_simp;rfl));intro gb hg w1 hbox hb;have BK:=Aside0.mk hbox;have GW:=Aside0.mk hg;have HB1:=Aside0.mk hb;clear hb hbox hg;have z0:w1.cell? ⟨gb,0,none⟩=some (.string s.f0):=(blk_cell BK.out 0).trans rfl;have z1:w1.cell? ⟨gb,1,none⟩=some (.string s.f1):=(blk_cell BK.out 1).trans rfl;have z2:w1.cell? ⟨gb,2,none⟩=some (.slice A2 (convEs s.f2).length c2):=(blk_cell BK.out 2).trans rfl;have z3:w1.cell? ⟨gb,3,none⟩=some (.slice A3 (convSs s.f3).length c3):=(blk_cell BK.out 3).trans rfl;have z4:w1.cell? ⟨gb,4,none⟩=some (.slice A4 (convSs s.f4).length c4):=(blk_cell BK.out 4).trans rfl))
  have hHeld0:w1.drew.cell? ⟨gb,0,none⟩=some (.string s.f0)∧w1.drew.cell? ⟨gb,1,none⟩=some (.string s.f1)∧w1.drew.cell? ⟨gb,2,none⟩=some (.slice A2 (convEs s.f2).length c2)∧Below w1.heap.size w1 w1.drew:=⟨z0,z1,z2,Below.drew (Below.refl _ w1)⟩
  refine start_ (n:=8) (ds:=[7]) (S:=fun w'=>w'.cell? ⟨gb,0,none⟩=some (.string s.f0)∧w'.cell? ⟨gb,1,none⟩=some (.string s.f1)∧w'.cell? ⟨gb,2,none⟩=some (.slice A2 (convEs s.f2).length c2)∧Below w1.heap.size w1 w') #[false,false,false,false,false,false,false,false] (by kernel_rfl) rfl rfl hHeld0 (fun hHeld=>?_)
  generalize w1.drew=w2 at hHeld ⊢
  refine pure_ (i:=0) (N:=some 59) (v:=?_) (a':=?_) #[true,false,false,false,false,false,false,false] rfl rfl (by kernel_rfl) (fun _ _ _ h=>h) (Or.inl ⟨by rfl,?_⟩) ?_ ?_
  rotate_left
  · intro w'
    go_simp
    with_reducible rfl
  rotate_left
  · simp only [Act.put,List.setIfInBounds_toArray,List.set_cons_zero,List.set_cons_succ,i64_w,i32_w]
    rfl
  refine pure_ (i:=1) (N:=some 60) (v:=?_) (a':=?_) #[true,true,false,false,false,false,false,false] rfl rfl (by kernel_rfl) (fun _ _ _ h=>h) (Or.inl ⟨by rfl,?_⟩) ?_ ?_
  rotate_left
  · intro w'
    go_simp
    with_reducible rfl
  rotate_left
  · simp only [Act.put,List.setIfInBounds_toArray,List.set_cons_zero,List.set_cons_succ,i64_w,i32_w]
    rfl
  refine pure_ (i:=3) (N:=some 62) (v:=?_) (a':=?_) #[true,true,false,true,false,false,false,false] rfl rfl (by kernel_rfl) (fun _ _ _ h=>h) (Or.inl ⟨by rfl,?_⟩) ?_ ?_
  rotate_left
  · intro w'
    go_simp
    with_reducible rfl
  rotate_left
  · simp only [Act.put,List.setIfInBounds_toArray,List.set_cons_zero,List.set_cons_succ,i64_w,i32_w]
    rfl
  refine take_ (i:=2) (N:=some 61) (v:=?_) (a':=?_) #[true,true,true,true,false,false,false,false] rfl rfl (by kernel_rfl) (fun _ _ _ h=>h) (Or.inl ⟨by rfl,?_⟩) hHeld ?_ ?_
  rotate_left
  · rintro w' ⟨s0,s1,s2,s3⟩
    go_simp
    with_reducible rfl
  rotate_left
  · simp only [Act.put,List.setIfInBounds_toArray,List.set_cons_zero,List.set_cons_succ,i64_w,i32_w]
    rfl
  refine take_ (i:=4) (N:=some 63) (v:=?_) (a':=?_) #[true,true,true,true,true,false,false,false] rfl rfl (by kernel_rfl) (fun _ _ _ h=>h) (Or.inl ⟨by rfl,?_⟩) hHeld ?_ ?_
  rotate_left
  · rintro w' ⟨s0,s1,s2,s3⟩
    go_simp
    with_reducible rfl
  rotate_left
  · simp only [Act.put,List.setIfInBounds_toArray,List.set_cons_zero,List.set_cons_succ,i64_w,i32_w]
    rfl
  refine one_ (i:=5) (N:=some 64) #[true,true,true,true,true,true,false,false] rfl rfl (by kernel_rfl) (by decide) (fun K hK=>?_)
  refine goes_ Tryd.func32 (by kernel_rfl) rfl #[.slice A2 (convEs s.f2).length c2,.int .i64 0] (by rfl) rfl rfl (by (try simp only [List.map_toArray,List.map_cons,List.map_nil]);first|done|rfl) ?_
  have hb2:Below w0.heap.size w0 w2:=HB0.out.trans ((HB1.out.trans (hHeld.2.2.2.mono HB1.out.size)).mono HB0.out.size)
  refine (tree_part.calls k A2 c2 (convEs s.f2) 0 _ w2 (hT.later hb2) (Kd.C_below G2.out hb2) L2.out HPP.out).mono ?_
  clear hb2
  rintro e w3 ⟨rfl,hb⟩
  refine ⟨_,rfl,?_⟩
  obtain ⟨t0,t1,t2,t3⟩:=hHeld
  have hHeld:w3.cell? ⟨gb,0,none⟩=some (.string s.f0)∧w3.cell? ⟨gb,1,none⟩=some (.string s.f1)∧w3.cell? ⟨gb,2,none⟩=some (.slice A2 (convEs s.f2).length c2)∧Below w1.heap.size w1 w3:=⟨(hb.cell (World.block_lt_of_cell? w2 _ t0)).trans t0,(hb.cell (World.block_lt_of_cell? w2 _ t1)).trans t1,(hb.cell (World.block_lt_of_cell? w2 _ t2)).trans t2,t3.trans (hb.mono t3.size)⟩
  refine hK.out _ _ hHeld (fun hHeld=>?_)
  clear hK K t0 t1 t2 t3 hb
  refine norm_ (a':=?_) ?_ ?_
  rotate_left
  · show Act.put _ (some 64) _=_
    simp only [Act.put,List.setIfInBounds_toArray,List.set_cons_zero,List.set_cons_succ,i64_w,i32_w]
    rfl
  refine one_ (i:=6) (N:=some 65) #[true,true,true,true,true,true,true,false] rfl rfl (by kernel_rfl) (by decide) (fun K hK=>?_)
  refine Kd.R_lit_step Kd.string (w0:=w3) w3.heap.size 9 (by rfl) (N:=65) rfl (xs:=[s.f0,(lit [32]),(nth (textEs s.f2) 0),(lit [32,123])]) (inner:=[.string s.f0,.string (lit [32]),.string (nth (textEs s.f2) 0),.string (lit [32,123])]) (ok:=fun _=>True) (okp:=fun _=>True) ?hr ?hp (fun _ hk=>hk) trivial (Below.refl _ _) (Nat.le_refl _) (by simp) ?_
  case hr=>first|(go_simp;done)|(go_simp;rfl)
  case hp=>exact Reps.one (show Kd.M Kd.string _ _ _ (s.f0) [.string (s.f0)] from rfl) (Reps.one (show Kd.M Kd.string _ _ _ ((lit [32])) [.string ((lit [32]))] from rfl) (Reps.one (show Kd.M Kd.string _ _ _ ((nth (textEs s.f2) 0)) [.string ((nth (textEs s.f2) 0))] from rfl) (Reps.one (show Kd.M Kd.string _ _ _ ((lit [32,123])) [.string ((lit [32,123]))] from rfl) (Reps.none _ _))))
  intro vrow w4 hrow hb hg_ hnew_
  clear hg_ hnew_
  obtain ⟨Ao,co,rfl⟩:=Kd.R_slice hrow
  have hro:=(Kd.R_reads' hrow).2
  obtain ⟨t0,t1,t2,t3⟩:=hHeld
  have hHeld:w4.cell? ⟨gb,0,none⟩=some (.string s.f0)∧w4.cell? ⟨gb,1,none⟩=some (.string s.f1)∧w4.cell? ⟨gb,2,none⟩=some (.slice A2 (convEs s.f2).length c2)∧Below w1.heap.size w1 w4:=⟨(hb.cell (World.block_lt_of_cell? w3 _ t0)).trans t0,(hb.cell (World.block_lt_of_cell? w3 _ t1)).trans t1,(hb.cell (World.block_lt_of_cell? w3 _ t2)).trans t2,t3.trans (hb.mono t3.size)⟩
  refine hK.out _ _ hHeld (fun hHeld=>?_)
  clear hK K t0 t1 t2 t3 hb hrow
  refine norm_ (a':=?_) ?_ ?_
  rotate_left
  · show Act.put _ (some 65) _=_
    simp only [Act.put,List.setIfInBounds_toArray,List.set_cons_zero,List.set_cons_succ,i64_w,i32_w]
    rfl
  have e4:Below w.heap.size w w4:=HB1.out.trans (hHeld.2.2.2.mono HB1.out.size)
  refine last_ (i:=7) (N:=some 66) #[true,true,true,true,true,true,true,true] rfl rfl (by kernel_rfl) (by decide) (fun K hK=>?_)
  refine goes_ Tryd.func38 (by kernel_rfl) rfl #[.pointer (some ⟨b,0,none⟩),.slice Ao 4 co] (by rfl) rfl rfl (by (try simp only [List.map_toArray,List.map_cons,List.map_nil]);first|done|rfl) ?_
  refine (line_pr w0.heap.size b t d Ao co [s.f0,(lit [32]),(nth (textEs s.f2) 0),(lit [32,123])] w4 (HP.out.kept e4) hro.2 hro.1 hd0 (by have:=HD.out;omega) (by simp) (by have:=HLEN.out;simp only [List.length_append] at this;omega) (Nat.le_trans HB0.out.size e4.size)).mono ?_
  rintro e w5 ⟨rfl,hP5,hb,hs5⟩
  refine ⟨_,rfl,?_⟩
  refine hK.out _ _ ?_
  refine done_ (by kernel_rfl) ?_
  have hgb:gb≠b:=fun e=>by have:=HP.out.lt;have:=GW.out;omega
  have BK5:=Aside0.mk ((Beside.trans (Beside.of (hHeld.2.2.2)) hs5) gb _ _ _ hgb (by decide) BK.out)
  have HB5:=Aside0.mk ((e4.mono HB0.out.size).trans hb)
  have HS5:=Aside0.mk ((Beside.of e4).trans hs5)
  have HP5:Aside0 (IsPr w0.heap.size b (Lib.byteCells (t++lineB d [s.f0,lit [32],nth (textEs s.f2) 0,lit [32,123]])) d w5):=⟨.inr hP5⟩
  clear hK hHeld z0 z1 z2 z3 z4 hb hs5 hro hP5 e4 BK
  have z0:w5.cell? ⟨gb,0,none⟩=some (.string s.f0):=by rw [Lib.cell_of_heap BK5.out];rfl
  have z1:w5.cell? ⟨gb,1,none⟩=some (.string s.f1):=by rw [Lib.cell_of_heap BK5.out];rfl
  have z2:w5.cell? ⟨gb,2,none⟩=some (.slice A2 (convEs s.f2).length c2):=by rw [Lib.cell_of_heap BK5.out];rfl
  have z3:w5.cell? ⟨gb,3,none⟩=some (.slice A3 (convSs s.f3).length c3):=by rw [Lib.cell_of_heap BK5.out];rfl
  have z4:w5.cell? ⟨gb,4,none⟩=some (.slice A4 (convSs s.f4).length c4):=by rw [Lib.cell_of_heap BK5.out];rfl
  go_wp2_with fail
  refine (block_pr s.f3 iha b (t++lineB d [s.f0,lit [32],nth (textEs s.f2) 0,lit [32,123]]) d A3 c3 w0 w5 HP5.out (HB0.out.trans HB5.out) hT G3.out L3.out OK.out.2.1 hd0 (by have:=HD.out;omega) (by have:=HLEN.out;simp only [List.length_append] at this ⊢;omega)).mono ?_
  rintro e w6 ⟨rfl,hP',hb',hs'⟩
  have HP6:=Aside0.mk hP'
  have HB6:=Aside0.mk (HB5.out.trans hb')
  have HS6:=Aside0.mk (HS5.out.trans hs')
  have BK6:=Aside0.mk (hs' gb _ _ _ hgb (by decide) BK5.out)
  clear hP' hb' hs' z0 z1 z2 z3 z4 BK5
  have z0:w6.cell? ⟨gb,0,none⟩=some (.string s.f0):=by rw [Lib.cell_of_heap BK6.out];rfl
  have z1:w6.cell? ⟨gb,1,none⟩=some (.string s.f1):=by rw [Lib.cell_of_heap BK6.out];rfl
  have z2:w6.cell? ⟨gb,2,none⟩=some (.slice A2 (convEs s.f2).length c2):=by rw [Lib.cell_of_heap BK6.out];rfl
  have z3:w6.cell? ⟨gb,3,none⟩=some (.slice A3 (convSs s.f3).length c3):=by rw [Lib.cell_of_heap BK6.out];rfl
  have z4:w6.cell? ⟨gb,4,none⟩=some (.slice A4 (convSs s.f4).length c4):=by rw [Lib.cell_of_heap BK6.out];rfl
  go_wp2_with (first|((with_reducible refine gate_dst (N:=81) rfl ?_);(try (refine gate_guard (by rfl) ?_;dsimp only));refine Kd.R_lit Kd.string (w0:=w6) w6.heap.size 9 ?hg8 (N:=81) ?hd8 (xs:=[(lit [125,32,101,108,115,101,32,123])]) (inner:=[.string (lit [125,32,101,108,115,101,32,123])]) (ok:=fun _=>True) (okp:=fun _=>True) ?hr8 ?hp8 (fun _ hk=>hk) trivial (Below.refl _ _) (Nat.le_refl _) (by simp) ?_;(case hd8=>rfl);(case hg8=>rfl);(case hr8=>first|(go_simp;done)|(go_simp;rfl));(case hp8=>exact Reps.one (show Kd.M Kd.string _ _ _ ((lit [125,32,101,108,115,101,32,123])) [.string ((lit [125,32,101,108,115,101,32,123]))] from rfl) (Reps.none _ _));intro vrow w7 hrow hb hg_ hnew_;have HL8:=Aside0.mk hb;clear hg_ hnew_ hb;obtain ⟨Ao8,co8,rfl⟩:=Kd.R_slice hrow;have hro:=(Kd.R_reads' hrow).2;have HR8:=Aside0.mk hro;clear hro hrow))
  refine (line_pr w0.heap.size b ((t++lineB d [s.f0,lit [32],nth (textEs s.f2) 0,lit [32,123]])++stmtsB s.f3 (d+1)) d Ao8 co8 [(lit [125,32,101,108,115,101,32,123])] w7 (HP6.out.kept HL8.out) HR8.out.2 HR8.out.1 hd0 (by have:=HD.out;omega) (by simp) (by have:=HLEN.out;simp only [List.length_append] at this ⊢;omega) (Nat.le_trans HB0.out.size (Nat.le_trans HB6.out.size HL8.out.size))).mono ?_
  rintro e w8 ⟨rfl,hP',hb',hs'⟩
  have HP8:Aside0 (IsPr w0.heap.size b _ d w8):=⟨.inr hP'⟩
  have HB8:=Aside0.mk ((HB6.out.trans (HL8.out.mono (Nat.le_trans HB0.out.size HB6.out.size))).trans hb')
  have HS8:=Aside0.mk ((HS6.out.trans (Beside.of HL8.out)).trans hs')
  have BK8:=Aside0.mk (((Beside.of HL8.out).trans hs') gb _ _ _ hgb (by decide) BK6.out)
  clear hP' hb' hs' z0 z1 z2 z3 z4 BK6 HL8 HR8
  have z0:w8.cell? ⟨gb,0,none⟩=some (.string s.f0):=by rw [Lib.cell_of_heap BK8.out];rfl
  have z1:w8.cell? ⟨gb,1,none⟩=some (.string s.f1):=by rw [Lib.cell_of_heap BK8.out];rfl
  have z2:w8.cell? ⟨gb,2,none⟩=some (.slice A2 (convEs s.f2).length c2):=by rw [Lib.cell_of_heap BK8.out];rfl
  have z3:w8.cell? ⟨gb,3,none⟩=some (.slice A3 (convSs s.f3).length c3):=by rw [Lib.cell_of_heap BK8.out];rfl
  have z4:w8.cell? ⟨gb,4,none⟩=some (.slice A4 (convSs s.f4).length c4):=by rw [Lib.cell_of_heap BK8.out];rfl
  go_wp2_with fail
  refine (block_pr s.f4 ihb b (((t++lineB d [s.f0,lit [32],nth (textEs s.f2) 0,lit [32,123]])++stmtsB s.f3 (d+1))++lineB d [lit [125,32,101,108,115,101,32,123]]) d A4 c4 w0 w8 HP8.out (HB0.out.trans HB8.out) hT G4.out L4.out OK.out.2.2 hd0 (by have:=HD.out;omega) (by have:=HLEN.out;simp only [List.length_append] at this ⊢;omega)).mono ?_
  rintro e w9 ⟨rfl,hP',hb',hs'⟩
  have HP9:=Aside0.mk hP'
  have HB9:=Aside0.mk (HB8.out.trans hb')
  have HS9:=Aside0.mk (HS8.out.trans hs')
  have BK9:=Aside0.mk (hs' gb _ _ _ hgb (by decide) BK8.out)
  clear hP' hb' hs' z0 z1 z2 z3 z4 BK8
  have z0:w9.cell? ⟨gb,0,none⟩=some (.string s.f0):=by rw [Lib.cell_of_heap BK9.out];rfl
  have z1:w9.cell? ⟨gb,1,none⟩=some (.string s.f1):=by rw [Lib.cell_of_heap BK9.out];rfl
  have z2:w9.cell? ⟨gb,2,none⟩=some (.slice A2 (convEs s.f2).length c2):=by rw [Lib.cell_of_heap BK9.out];rfl
  have z3:w9.cell? ⟨gb,3,none⟩=some (.slice A3 (convSs s.f3).length c3):=by rw [Lib.cell_of_heap BK9.out];rfl
  have z4:w9.cell? ⟨gb,4,none⟩=some (.slice A4 (convSs s.f4).length c4):=by rw [Lib.cell_of_heap BK9.out];rfl
  go_wp2_with (first|((with_reducible refine gate_dst (N:=88) rfl ?_);(try (refine gate_guard (by rfl) ?_;dsimp only));refine Kd.R_lit Kd.string (w0:=w9) w9.heap.size 9 ?hg11 (N:=88) ?hd11 (xs:=[(lit [125])]) (inner:=[.string (lit [125])]) (ok:=fun _=>True) (okp:=fun _=>True) ?hr11 ?hp11 (fun _ hk=>hk) trivial (Below.refl _ _) (Nat.le_refl _) (by simp) ?_;(case hd11=>rfl);(case hg11=>rfl);(case hr11=>first|(go_simp;done)|(go_simp;rfl));(case hp11=>exact Reps.one (show Kd.M Kd.string _ _ _ ((lit [125])) [.string ((lit [125]))] from rfl) (Reps.none _ _));intro vrow w10 hrow hb hg_ hnew_;have HL11:=Aside0.mk hb;clear hg_ hnew_ hb;obtain ⟨Ao11,co11,rfl⟩:=Kd.R_slice hrow;have hro:=(Kd.R_reads' hrow).2;have HR11:=Aside0.mk hro;clear hro hrow))
  refine (line_pr w0.heap.size b ((((t++lineB d [s.f0,lit [32],nth (textEs s.f2) 0,lit [32,123]])++stmtsB s.f3 (d+1))++lineB d [lit [125,32,101,108,115,101,32,123]])++stmtsB s.f4 (d+1)) d Ao11 co11 [(lit [125])] w10 (HP9.out.kept HL11.out) HR11.out.2 HR11.out.1 hd0 (by have:=HD.out;omega) (by simp) (by have:=HLEN.out;simp only [List.length_append] at this ⊢;omega) (Nat.le_trans HB0.out.size (Nat.le_trans HB9.out.size HL11.out.size))).mono ?_
  rintro e w11 ⟨rfl,hP',hb',hs'⟩
  have HP11:Aside0 (IsPr w0.heap.size b _ d w11):=⟨.inr hP'⟩
  have HB11:=Aside0.mk ((HB9.out.trans (HL11.out.mono (Nat.le_trans HB0.out.size HB9.out.size))).trans hb')
  have HS11:=Aside0.mk ((HS9.out.trans (Beside.of HL11.out)).trans hs')
  have BK11:=Aside0.mk (((Beside.of HL11.out).trans hs') gb _ _ _ hgb (by decide) BK9.out)
  clear hP' hb' hs' z0 z1 z2 z3 z4 BK9 HL11 HR11
  have z0:w11.cell? ⟨gb,0,none⟩=some (.string s.f0):=by rw [Lib.cell_of_heap BK11.out];rfl
  have z1:w11.cell? ⟨gb,1,none⟩=some (.string s.f1):=by rw [Lib.cell_of_heap BK11.out];rfl
  have z2:w11.cell? ⟨gb,2,none⟩=some (.slice A2 (convEs s.f2).length c2):=by rw [Lib.cell_of_heap BK11.out];rfl
  have z3:w11.cell? ⟨gb,3,none⟩=some (.slice A3 (convSs s.f3).length c3):=by rw [Lib.cell_of_heap BK11.out];rfl
  have z4:w11.cell? ⟨gb,4,none⟩=some (.slice A4 (convSs s.f4).length c4):=by rw [Lib.cell_of_heap BK11.out];rfl
  try go_wp2
  go_end0
  refine ⟨rfl,?_,HB11.out,HS11.out⟩
  have h11:=HP11.out
  simp only [List.append_assoc,List.nil_append,List.append_nil] at h11 ⊢
  exact h11
end Go.Proofs.YtnnbbeloifhofaaDoor.P
end
section
namespace Go.Proofs.YtnnbbeloifhofaaDoor.P
open Go Go.RowKit Go.Proofs
open Go.Proofs.YtnnbbeloifhofaaDoorW.PrintWords Go.Proofs.YtnnbbeloifhofaaDoorW.PrintLast Go.Proofs.YtnnbbeloifhofaaDoorW.PrintMore
set_option linter.unusedVariables false
set_option linter.unusedSimpArgs false
set_option maxHeartbeats 2000000 in
set_option maxRecDepth 100000 in
theorem stmt_while (s:RS) (n0 : ¬ s.f0.toList=oSet) (n1 : ¬ s.f0.toList=oPut) (n2 : ¬ s.f0.toList=oInput) (n3 : ¬ s.f0.toList=oIf) (c1:s.f0.toList=oWhile) (iha : ∀ y ∈ s.f3,StmtOk y) (ihb : ∀ y ∈ s.f4,StmtOk y):StmtOk s:=by
  intro b t d A2 A3 A4 c2 c3 c4 w0 w hP hB hT g2 l2 g3 l3 g4 l4 ho hd0 hd hlen
  rw [okS_eq] at ho
  rw [bulkS_eq] at hd
  rw [stmtB_eq] at hlen ⊢
  unfold stmtF at hlen ⊢
  rw [if_neg n0,if_neg n1,if_neg n2,if_pos (.inr c1),if_neg (fun h=>n3 h.1)] at hlen ⊢
  obtain ⟨k,hp⟩:=part_k s.f2 0 ho.1 (by omega)
  obtain ⟨k',hp'⟩:=part_k s.f2 1 ho.1 (by omega)
  have m0:=opNo n0
  clear n0
  have m1:=opNo n1
  clear n1
  have m2:=opNo n2
  clear n2
  have m3:=opNo n3
  clear n3
  have c1b:=opIs c1
  clear c1
  have G3:=Aside0.mk g3
  have L3:=Aside0.mk l3
  have G4:=Aside0.mk g4
  have L4:=Aside0.mk l4
  have OK:=Aside0.mk ho
  have G2:=Aside0.mk g2
  have L2:=Aside0.mk l2
  have HB0:=Aside0.mk hB
  have HLEN:=Aside0.mk hlen
  have HD:=Aside0.mk hd
  have HPP:=Aside0.mk hp
  have HQQ:=Aside0.mk hp'
  have HP:=Aside0.mk hP
  clear ho g2 l2 g3 l3 g4 l4 hB hlen hd hp hp' hP
  go_enter Tryd.func61,Tryd.ntmps61
  go_wp2_with (first|((with_reducible refine gate_dst (N:=3) rfl ?_);refine box_event ?hg (N:=3) ?hd (cs:=#[.string s.f0,.string s.f1,.slice A2 (convEs s.f2).length c2,.slice A3 (convSs s.f3).length c3,.slice A4 (convSs s.f4).length c4,.int .i64 s.f5]) (t:=76) ?hr ?_;(case hd=>rfl);(case hg=>rfl);(case hr=>first|(go_simp;done)|(go_simp;rfl));intro gb hg w1 hbox hb;have BK:=Aside0.mk hbox;have GW:=Aside0.mk hg;have HB1:=Aside0.mk hb;clear hb hbox hg;have z0:w1.cell? ⟨gb,0,none⟩=some (.string s.f0):=(blk_cell BK.out 0).trans rfl;have z1:w1.cell? ⟨gb,1,none⟩=some (.string s.f1):=(blk_cell BK.out 1).trans rfl;have z2:w1.cell? ⟨gb,2,none⟩=some (.slice A2 (convEs s.f2).length c2):=(blk_cell BK.out 2).trans rfl;have z3:w1.cell? ⟨gb,3,none⟩=some (.slice A3 (convSs s.f3).length c3):=(blk_cell BK.out 3).trans rfl;have z4:w1.cell? ⟨gb,4,none⟩=some (.slice A4 (convSs s.f4).length c4):=(blk_cell BK.out 4).trans rfl))
  have hHeld0:w1.drew.cell? ⟨gb,0,none⟩=some (.string s.f0)∧w1.drew.cell? ⟨gb,1,none⟩=some (.string s.f1)∧w1.drew.cell? ⟨gb,2,none⟩=some (.slice A2 (convEs s.f2).length c2)∧Below w1.heap.size w1 w1.drew:=⟨z0,z1,z2,Below.drew (Below.refl _ w1)⟩
  refine start_ (n:=8) (ds:=[7]) (S:=fun w'=>w'.cell? ⟨gb,0,none⟩=some (.string s.f0)∧w'.cell? ⟨gb,1,none⟩=some (.string s.f1)∧w'.cell? ⟨gb,2,none⟩=some (.slice A2 (convEs s.f2).length c2)∧Below w1.heap.size w1 w') #[false,false,false,false,false,false,false,false] (by kernel_rfl) rfl rfl hHeld0 (fun hHeld=>?_)
  generalize w1.drew=w2 at hHeld ⊢
  refine pure_ (i:=0) (N:=some 59) (v:=?_) (a':=?_) #[true,false,false,false,false,false,false,false] rfl rfl (by kernel_rfl) (fun _ _ _ h=>h) (Or.inl ⟨by rfl,?_⟩) ?_ ?_
  rotate_left
  · intro w'
    go_simp
    with_reducible rfl
  rotate_left
  · simp only [Act.put,List.setIfInBounds_toArray,List.set_cons_zero,List.set_cons_succ,i64_w,i32_w]
    rfl
  refine pure_ (i:=1) (N:=some 60) (v:=?_) (a':=?_) #[true,true,false,false,false,false,false,false] rfl rfl (by kernel_rfl) (fun _ _ _ h=>h) (Or.inl ⟨by rfl,?_⟩) ?_ ?_
  rotate_left
  · intro w'
    go_simp
    with_reducible rfl
  rotate_left
  · simp only [Act.put,List.setIfInBounds_toArray,List.set_cons_zero,List.set_cons_succ,i64_w,i32_w]
    rfl
  refine pure_ (i:=3) (N:=some 62) (v:=?_) (a':=?_) #[true,true,false,true,false,false,false,false] rfl rfl (by kernel_rfl) (fun _ _ _ h=>h) (Or.inl ⟨by rfl,?_⟩) ?_ ?_
  rotate_left
  · intro w'
    go_simp
    with_reducible rfl
  rotate_left
  · simp only [Act.put,List.setIfInBounds_toArray,List.set_cons_zero,List.set_cons_succ,i64_w,i32_w]
    rfl
  refine take_ (i:=2) (N:=some 61) (v:=?_) (a':=?_) #[true,true,true,true,false,false,false,false] rfl rfl (by kernel_rfl) (fun _ _ _ h=>h) (Or.inl ⟨by rfl,?_⟩) hHeld ?_ ?_
  rotate_left
  · rintro w' ⟨s0,s1,s2,s3⟩
    go_simp
    with_reducible rfl
  rotate_left
  · simp only [Act.put,List.setIfInBounds_toArray,List.set_cons_zero,List.set_cons_succ,i64_w,i32_w]
    rfl
  refine take_ (i:=4) (N:=some 63) (v:=?_) (a':=?_) #[true,true,true,true,true,false,false,false] rfl rfl (by kernel_rfl) (fun _ _ _ h=>h) (Or.inl ⟨by rfl,?_⟩) hHeld ?_ ?_
  rotate_left
  · rintro w' ⟨s0,s1,s2,s3⟩
    go_simp
    with_reducible rfl
  rotate_left
  · simp only [Act.put,List.setIfInBounds_toArray,List.set_cons_zero,List.set_cons_succ,i64_w,i32_w]
    rfl
  refine one_ (i:=5) (N:=some 64) #[true,true,true,true,true,true,false,false] rfl rfl (by kernel_rfl) (by decide) (fun K hK=>?_)
  refine goes_ Tryd.func32 (by kernel_rfl) rfl #[.slice A2 (convEs s.f2).length c2,.int .i64 0] (by rfl) rfl rfl (by (try simp only [List.map_toArray,List.map_cons,List.map_nil]);first|done|rfl) ?_
  have hb2:Below w0.heap.size w0 w2:=HB0.out.trans ((HB1.out.trans (hHeld.2.2.2.mono HB1.out.size)).mono HB0.out.size)
  refine (tree_part.calls k A2 c2 (convEs s.f2) 0 _ w2 (hT.later hb2) (Kd.C_below G2.out hb2) L2.out HPP.out).mono ?_
  clear hb2
  rintro e w3 ⟨rfl,hb⟩
  refine ⟨_,rfl,?_⟩
  obtain ⟨t0,t1,t2,t3⟩:=hHeld
  have hHeld:w3.cell? ⟨gb,0,none⟩=some (.string s.f0)∧w3.cell? ⟨gb,1,none⟩=some (.string s.f1)∧w3.cell? ⟨gb,2,none⟩=some (.slice A2 (convEs s.f2).length c2)∧Below w1.heap.size w1 w3:=⟨(hb.cell (World.block_lt_of_cell? w2 _ t0)).trans t0,(hb.cell (World.block_lt_of_cell? w2 _ t1)).trans t1,(hb.cell (World.block_lt_of_cell? w2 _ t2)).trans t2,t3.trans (hb.mono t3.size)⟩
  refine hK.out _ _ hHeld (fun hHeld=>?_)
  clear hK K t0 t1 t2 t3 hb
  refine norm_ (a':=?_) ?_ ?_
  rotate_left
  · show Act.put _ (some 64) _=_
    simp only [Act.put,List.setIfInBounds_toArray,List.set_cons_zero,List.set_cons_succ,i64_w,i32_w]
    rfl
  refine one_ (i:=6) (N:=some 65) #[true,true,true,true,true,true,true,false] rfl rfl (by kernel_rfl) (by decide) (fun K hK=>?_)
  refine Kd.R_lit_step Kd.string (w0:=w3) w3.heap.size 9 (by rfl) (N:=65) rfl (xs:=[s.f0,(lit [32]),(nth (textEs s.f2) 0),(lit [32,123])]) (inner:=[.string s.f0,.string (lit [32]),.string (nth (textEs s.f2) 0),.string (lit [32,123])]) (ok:=fun _=>True) (okp:=fun _=>True) ?hr ?hp (fun _ hk=>hk) trivial (Below.refl _ _) (Nat.le_refl _) (by simp) ?_
  case hr=>first|(go_simp;done)|(go_simp;rfl)
  case hp=>exact Reps.one (show Kd.M Kd.string _ _ _ (s.f0) [.string (s.f0)] from rfl) (Reps.one (show Kd.M Kd.string _ _ _ ((lit [32])) [.string ((lit [32]))] from rfl) (Reps.one (show Kd.M Kd.string _ _ _ ((nth (textEs s.f2) 0)) [.string ((nth (textEs s.f2) 0))] from rfl) (Reps.one (show Kd.M Kd.string _ _ _ ((lit [32,123])) [.string ((lit [32,123]))] from rfl) (Reps.none _ _))))
  intro vrow w4 hrow hb hg_ hnew_
  clear hg_ hnew_
  obtain ⟨Ao,co,rfl⟩:=Kd.R_slice hrow
  have hro:=(Kd.R_reads' hrow).2
  obtain ⟨t0,t1,t2,t3⟩:=hHeld
  have hHeld:w4.cell? ⟨gb,0,none⟩=some (.string s.f0)∧w4.cell? ⟨gb,1,none⟩=some (.string s.f1)∧w4.cell? ⟨gb,2,none⟩=some (.slice A2 (convEs s.f2).length c2)∧Below w1.heap.size w1 w4:=⟨(hb.cell (World.block_lt_of_cell? w3 _ t0)).trans t0,(hb.cell (World.block_lt_of_cell? w3 _ t1)).trans t1,(hb.cell (World.block_lt_of_cell? w3 _ t2)).trans t2,t3.trans (hb.mono t3.size)⟩
  refine hK.out _ _ hHeld (fun hHeld=>?_)
  clear hK K t0 t1 t2 t3 hb hrow
  refine norm_ (a':=?_) ?_ ?_
  rotate_left
  · show Act.put _ (some 65) _=_
    simp only [Act.put,List.setIfInBounds_toArray,List.set_cons_zero,List.set_cons_succ,i64_w,i32_w]
    rfl
  have e4:Below w.heap.size w w4:=HB1.out.trans (hHeld.2.2.2.mono HB1.out.size)
  refine last_ (i:=7) (N:=some 66) #[true,true,true,true,true,true,true,true] rfl rfl (by kernel_rfl) (by decide) (fun K hK=>?_)
  refine goes_ Tryd.func38 (by kernel_rfl) rfl #[.pointer (some ⟨b,0,none⟩),.slice Ao 4 co] (by rfl) rfl rfl (by (try simp only [List.map_toArray,List.map_cons,List.map_nil]);first|done|rfl) ?_
  refine (line_pr w0.heap.size b t d Ao co [s.f0,(lit [32]),(nth (textEs s.f2) 0),(lit [32,123])] w4 (HP.out.kept e4) hro.2 hro.1 hd0 (by have:=HD.out;omega) (by simp) (by have:=HLEN.out;simp only [List.length_append] at this;omega) (Nat.le_trans HB0.out.size e4.size)).mono ?_
  rintro e w5 ⟨rfl,hP5,hb,hs5⟩
  refine ⟨_,rfl,?_⟩
  refine hK.out _ _ ?_
  refine done_ (by kernel_rfl) ?_
  have hgb:gb≠b:=fun e=>by have:=HP.out.lt;have:=GW.out;omega
  have BK5:=Aside0.mk ((Beside.trans (Beside.of (hHeld.2.2.2)) hs5) gb _ _ _ hgb (by decide) BK.out)
  have HB5:=Aside0.mk ((e4.mono HB0.out.size).trans hb)
  have HS5:=Aside0.mk ((Beside.of e4).trans hs5)
  have HP5:Aside0 (IsPr w0.heap.size b (Lib.byteCells (t++lineB d [s.f0,lit [32],nth (textEs s.f2) 0,lit [32,123]])) d w5):=⟨.inr hP5⟩
  clear hK hHeld z0 z1 z2 z3 z4 hb hs5 hro hP5 e4 BK
  have z0:w5.cell? ⟨gb,0,none⟩=some (.string s.f0):=by rw [Lib.cell_of_heap BK5.out];rfl
  have z1:w5.cell? ⟨gb,1,none⟩=some (.string s.f1):=by rw [Lib.cell_of_heap BK5.out];rfl
  have z2:w5.cell? ⟨gb,2,none⟩=some (.slice A2 (convEs s.f2).length c2):=by rw [Lib.cell_of_heap BK5.out];rfl
  have z3:w5.cell? ⟨gb,3,none⟩=some (.slice A3 (convSs s.f3).length c3):=by rw [Lib.cell_of_heap BK5.out];rfl
  have z4:w5.cell? ⟨gb,4,none⟩=some (.slice A4 (convSs s.f4).length c4):=by rw [Lib.cell_of_heap BK5.out];rfl
  go_wp2_with fail
  refine (block_pr s.f3 iha b (t++lineB d [s.f0,lit [32],nth (textEs s.f2) 0,lit [32,123]]) d A3 c3 w0 w5 HP5.out (HB0.out.trans HB5.out) hT G3.out L3.out OK.out.2.1 hd0 (by have:=HD.out;omega) (by have:=HLEN.out;simp only [List.length_append] at this ⊢;omega)).mono ?_
  rintro e w6 ⟨rfl,hP',hb',hs'⟩
  have HP6:=Aside0.mk hP'
  have HB6:=Aside0.mk (HB5.out.trans hb')
  have HS6:=Aside0.mk (HS5.out.trans hs')
  have BK6:=Aside0.mk (hs' gb _ _ _ hgb (by decide) BK5.out)
  clear hP' hb' hs' z0 z1 z2 z3 z4 BK5
  have z0:w6.cell? ⟨gb,0,none⟩=some (.string s.f0):=by rw [Lib.cell_of_heap BK6.out];rfl
  have z1:w6.cell? ⟨gb,1,none⟩=some (.string s.f1):=by rw [Lib.cell_of_heap BK6.out];rfl
  have z2:w6.cell? ⟨gb,2,none⟩=some (.slice A2 (convEs s.f2).length c2):=by rw [Lib.cell_of_heap BK6.out];rfl
  have z3:w6.cell? ⟨gb,3,none⟩=some (.slice A3 (convSs s.f3).length c3):=by rw [Lib.cell_of_heap BK6.out];rfl
  have z4:w6.cell? ⟨gb,4,none⟩=some (.slice A4 (convSs s.f4).length c4):=by rw [Lib.cell_of_heap BK6.out];rfl
  go_wp2_with (first|((with_reducible refine gate_dst (N:=88) rfl ?_);(try (refine gate_guard (by rfl) ?_;dsimp only));refine Kd.R_lit Kd.string (w0:=w6) w6.heap.size 9 ?hg11 (N:=88) ?hd11 (xs:=[(lit [125])]) (inner:=[.string (lit [125])]) (ok:=fun _=>True) (okp:=fun _=>True) ?hr11 ?hp11 (fun _ hk=>hk) trivial (Below.refl _ _) (Nat.le_refl _) (by simp) ?_;(case hd11=>rfl);(case hg11=>rfl);(case hr11=>first|(go_simp;done)|(go_simp;rfl));(case hp11=>exact Reps.one (show Kd.M Kd.string _ _ _ ((lit [125])) [.string ((lit [125]))] from rfl) (Reps.none _ _));intro vrow w10 hrow hb hg_ hnew_;have HL11:=Aside0.mk hb;clear hg_ hnew_ hb;obtain ⟨Ao11,co11,rfl⟩:=Kd.R_slice hrow;have hro:=(Kd.R_reads' hrow).2;have HR11:=Aside0.mk hro;clear hro hrow))
  refine (line_pr w0.heap.size b ((t++lineB d [s.f0,lit [32],nth (textEs s.f2) 0,lit [32,123]])++stmtsB s.f3 (d+1)) d Ao11 co11 [(lit [125])] w10 (HP6.out.kept HL11.out) HR11.out.2 HR11.out.1 hd0 (by have:=HD.out;omega) (by simp) (by have:=HLEN.out;simp only [List.length_append] at this ⊢;omega) (Nat.le_trans HB0.out.size (Nat.le_trans HB6.out.size HL11.out.size))).mono ?_
  rintro e w11 ⟨rfl,hP',hb',hs'⟩
  have HP11:Aside0 (IsPr w0.heap.size b _ d w11):=⟨.inr hP'⟩
  have HB11:=Aside0.mk ((HB6.out.trans (HL11.out.mono (Nat.le_trans HB0.out.size HB6.out.size))).trans hb')
  have HS11:=Aside0.mk ((HS6.out.trans (Beside.of HL11.out)).trans hs')
  have BK11:=Aside0.mk (((Beside.of HL11.out).trans hs') gb _ _ _ hgb (by decide) BK6.out)
  clear hP' hb' hs' z0 z1 z2 z3 z4 BK6 HL11 HR11
  have z0:w11.cell? ⟨gb,0,none⟩=some (.string s.f0):=by rw [Lib.cell_of_heap BK11.out];rfl
  have z1:w11.cell? ⟨gb,1,none⟩=some (.string s.f1):=by rw [Lib.cell_of_heap BK11.out];rfl
  have z2:w11.cell? ⟨gb,2,none⟩=some (.slice A2 (convEs s.f2).length c2):=by rw [Lib.cell_of_heap BK11.out];rfl
  have z3:w11.cell? ⟨gb,3,none⟩=some (.slice A3 (convSs s.f3).length c3):=by rw [Lib.cell_of_heap BK11.out];rfl
  have z4:w11.cell? ⟨gb,4,none⟩=some (.slice A4 (convSs s.f4).length c4):=by rw [Lib.cell_of_heap BK11.out];rfl
  try go_wp2
  go_end0
  refine ⟨rfl,?_,HB11.out,HS11.out⟩
  have h11:=HP11.out
  simp only [List.append_assoc,List.nil_append,List.append_nil] at h11 ⊢
  exact h11
end Go.Proofs.YtnnbbeloifhofaaDoor.P
end
section
namespace Go.Proofs.YtnnbbeloifhofaaDoor.P
open Go Go.RowKit Go.Proofs
open Go.Proofs.YtnnbbeloifhofaaDoorW.PrintWords Go.Proofs.YtnnbbeloifhofaaDoorW.PrintLast Go.Proofs.YtnnbbeloifhofaaDoorW.PrintMore
set_option linter.unusedVariables false
set_option linter.unusedSimpArgs false
set_option maxHeartbeats 2000000 in
set_option maxRecDepth 100000 in
theorem stmt_assert (s:RS) (n0 : ¬ s.f0.toList=oSet) (n1 : ¬ s.f0.toList=oPut) (n2 : ¬ s.f0.toList=oInput) (n3 : ¬ s.f0.toList=oIf) (n4 : ¬ s.f0.toList=oWhile) (c1:s.f0.toList=oAssert):StmtOk s:=by
  intro b t d A2 A3 A4 c2 c3 c4 w0 w hP hB hT g2 l2 g3 l3 g4 l4 ho hd0 hd hlen
  rw [okS_eq] at ho
  rw [bulkS_eq] at hd
  rw [stmtB_eq] at hlen ⊢
  unfold stmtF at hlen ⊢
  rw [if_neg n0,if_neg n1,if_neg n2,if_neg (by simp only [n3,n4,or_false,not_false_iff]),if_pos (.inl c1)] at hlen ⊢
  obtain ⟨k,hp⟩:=part_k s.f2 0 ho.1 (by omega)
  obtain ⟨k',hp'⟩:=part_k s.f2 1 ho.1 (by omega)
  have m0:=opNo n0
  clear n0
  have m1:=opNo n1
  clear n1
  have m2:=opNo n2
  clear n2
  have m3:=opNo n3
  clear n3
  have m4:=opNo n4
  clear n4
  have c1b:=opIs c1
  clear c1
  have G2:=Aside0.mk g2
  have L2:=Aside0.mk l2
  have HB0:=Aside0.mk hB
  have HLEN:=Aside0.mk hlen
  have HD:=Aside0.mk hd
  have HPP:=Aside0.mk hp
  have HQQ:=Aside0.mk hp'
  have HP:=Aside0.mk hP
  clear g2 l2 g3 l3 g4 l4 hB hlen hd hp hp' hP
  go_enter Tryd.func61,Tryd.ntmps61
  go_wp2_with (first|((with_reducible refine gate_dst (N:=3) rfl ?_);refine box_event ?hg (N:=3) ?hd (cs:=#[.string s.f0,.string s.f1,.slice A2 (convEs s.f2).length c2,.slice A3 (convSs s.f3).length c3,.slice A4 (convSs s.f4).length c4,.int .i64 s.f5]) (t:=76) ?hr ?_;(case hd=>rfl);(case hg=>rfl);(case hr=>first|(go_simp;done)|(go_simp;rfl));intro gb hg w1 hbox hb;have BK:=Aside0.mk hbox;have GW:=Aside0.mk hg;have HB1:=Aside0.mk hb;clear hb hbox hg;have z0:w1.cell? ⟨gb,0,none⟩=some (.string s.f0):=(blk_cell BK.out 0).trans rfl;have z1:w1.cell? ⟨gb,1,none⟩=some (.string s.f1):=(blk_cell BK.out 1).trans rfl;have z2:w1.cell? ⟨gb,2,none⟩=some (.slice A2 (convEs s.f2).length c2):=(blk_cell BK.out 2).trans rfl;have z3:w1.cell? ⟨gb,3,none⟩=some (.slice A3 (convSs s.f3).length c3):=(blk_cell BK.out 3).trans rfl;have z4:w1.cell? ⟨gb,4,none⟩=some (.slice A4 (convSs s.f4).length c4):=(blk_cell BK.out 4).trans rfl))
  have hHeld0:w1.drew.cell? ⟨gb,0,none⟩=some (.string s.f0)∧w1.drew.cell? ⟨gb,1,none⟩=some (.string s.f1)∧w1.drew.cell? ⟨gb,2,none⟩=some (.slice A2 (convEs s.f2).length c2)∧Below w1.heap.size w1 w1.drew:=⟨z0,z1,z2,Below.drew (Below.refl _ w1)⟩
  refine start_ (n:=8) (ds:=[7]) (S:=fun w'=>w'.cell? ⟨gb,0,none⟩=some (.string s.f0)∧w'.cell? ⟨gb,1,none⟩=some (.string s.f1)∧w'.cell? ⟨gb,2,none⟩=some (.slice A2 (convEs s.f2).length c2)∧Below w1.heap.size w1 w') #[false,false,false,false,false,false,false,false] (by kernel_rfl) rfl rfl hHeld0 (fun hHeld=>?_)
  generalize w1.drew=w2 at hHeld ⊢
  refine pure_ (i:=0) (N:=some 93) (v:=?_) (a':=?_) #[true,false,false,false,false,false,false,false] rfl rfl (by kernel_rfl) (fun _ _ _ h=>h) (Or.inl ⟨by rfl,?_⟩) ?_ ?_
  rotate_left
  · intro w'
    go_simp
    with_reducible rfl
  rotate_left
  · simp only [Act.put,List.setIfInBounds_toArray,List.set_cons_zero,List.set_cons_succ,i64_w,i32_w]
    rfl
  refine pure_ (i:=1) (N:=some 94) (v:=?_) (a':=?_) #[true,true,false,false,false,false,false,false] rfl rfl (by kernel_rfl) (fun _ _ _ h=>h) (Or.inl ⟨by rfl,?_⟩) ?_ ?_
  rotate_left
  · intro w'
    go_simp
    with_reducible rfl
  rotate_left
  · simp only [Act.put,List.setIfInBounds_toArray,List.set_cons_zero,List.set_cons_succ,i64_w,i32_w]
    rfl
  refine pure_ (i:=3) (N:=some 96) (v:=?_) (a':=?_) #[true,true,false,true,false,false,false,false] rfl rfl (by kernel_rfl) (fun _ _ _ h=>h) (Or.inl ⟨by rfl,?_⟩) ?_ ?_
  rotate_left
  · intro w'
    go_simp
    with_reducible rfl
  rotate_left
  · simp only [Act.put,List.setIfInBounds_toArray,List.set_cons_zero,List.set_cons_succ,i64_w,i32_w]
    rfl
  refine take_ (i:=2) (N:=some 95) (v:=?_) (a':=?_) #[true,true,true,true,false,false,false,false] rfl rfl (by kernel_rfl) (fun _ _ _ h=>h) (Or.inl ⟨by rfl,?_⟩) hHeld ?_ ?_
  rotate_left
  · rintro w' ⟨s0,s1,s2,s3⟩
    go_simp
    with_reducible rfl
  rotate_left
  · simp only [Act.put,List.setIfInBounds_toArray,List.set_cons_zero,List.set_cons_succ,i64_w,i32_w]
    rfl
  refine take_ (i:=4) (N:=some 97) (v:=?_) (a':=?_) #[true,true,true,true,true,false,false,false] rfl rfl (by kernel_rfl) (fun _ _ _ h=>h) (Or.inl ⟨by rfl,?_⟩) hHeld ?_ ?_
  rotate_left
  · rintro w' ⟨s0,s1,s2,s3⟩
    go_simp
    with_reducible rfl
  rotate_left
  · simp only [Act.put,List.setIfInBounds_toArray,List.set_cons_zero,List.set_cons_succ,i64_w,i32_w]
    rfl
  refine one_ (i:=5) (N:=some 98) #[true,true,true,true,true,true,false,false] rfl rfl (by kernel_rfl) (by decide) (fun K hK=>?_)
  refine goes_ Tryd.func32 (by kernel_rfl) rfl #[.slice A2 (convEs s.f2).length c2,.int .i64 0] (by rfl) rfl rfl (by (try simp only [List.map_toArray,List.map_cons,List.map_nil]);first|done|rfl) ?_
  have hb2:Below w0.heap.size w0 w2:=HB0.out.trans ((HB1.out.trans (hHeld.2.2.2.mono HB1.out.size)).mono HB0.out.size)
  refine (tree_part.calls k A2 c2 (convEs s.f2) 0 _ w2 (hT.later hb2) (Kd.C_below G2.out hb2) L2.out HPP.out).mono ?_
  clear hb2
  rintro e w3 ⟨rfl,hb⟩
  refine ⟨_,rfl,?_⟩
  obtain ⟨t0,t1,t2,t3⟩:=hHeld
  have hHeld:w3.cell? ⟨gb,0,none⟩=some (.string s.f0)∧w3.cell? ⟨gb,1,none⟩=some (.string s.f1)∧w3.cell? ⟨gb,2,none⟩=some (.slice A2 (convEs s.f2).length c2)∧Below w1.heap.size w1 w3:=⟨(hb.cell (World.block_lt_of_cell? w2 _ t0)).trans t0,(hb.cell (World.block_lt_of_cell? w2 _ t1)).trans t1,(hb.cell (World.block_lt_of_cell? w2 _ t2)).trans t2,t3.trans (hb.mono t3.size)⟩
  refine hK.out _ _ hHeld (fun hHeld=>?_)
  clear hK K t0 t1 t2 t3 hb
  refine norm_ (a':=?_) ?_ ?_
  rotate_left
  · show Act.put _ (some 98) _=_
    simp only [Act.put,List.setIfInBounds_toArray,List.set_cons_zero,List.set_cons_succ,i64_w,i32_w]
    rfl
  refine one_ (i:=6) (N:=some 99) #[true,true,true,true,true,true,true,false] rfl rfl (by kernel_rfl) (by decide) (fun K hK=>?_)
  refine Kd.R_lit_step Kd.string (w0:=w3) w3.heap.size 9 (by rfl) (N:=99) rfl (xs:=[s.f0,(lit [32]),(nth (textEs s.f2) 0),(lit [59])]) (inner:=[.string s.f0,.string (lit [32]),.string (nth (textEs s.f2) 0),.string (lit [59])]) (ok:=fun _=>True) (okp:=fun _=>True) ?hr ?hp (fun _ hk=>hk) trivial (Below.refl _ _) (Nat.le_refl _) (by simp) ?_
  case hr=>first|(go_simp;done)|(go_simp;rfl)
  case hp=>exact Reps.one (show Kd.M Kd.string _ _ _ (s.f0) [.string (s.f0)] from rfl) (Reps.one (show Kd.M Kd.string _ _ _ ((lit [32])) [.string ((lit [32]))] from rfl) (Reps.one (show Kd.M Kd.string _ _ _ ((nth (textEs s.f2) 0)) [.string ((nth (textEs s.f2) 0))] from rfl) (Reps.one (show Kd.M Kd.string _ _ _ ((lit [59])) [.string ((lit [59]))] from rfl) (Reps.none _ _))))
  intro vrow w4 hrow hb hg_ hnew_
  clear hg_ hnew_
  obtain ⟨Ao,co,rfl⟩:=Kd.R_slice hrow
  have hro:=(Kd.R_reads' hrow).2
  obtain ⟨t0,t1,t2,t3⟩:=hHeld
  have hHeld:w4.cell? ⟨gb,0,none⟩=some (.string s.f0)∧w4.cell? ⟨gb,1,none⟩=some (.string s.f1)∧w4.cell? ⟨gb,2,none⟩=some (.slice A2 (convEs s.f2).length c2)∧Below w1.heap.size w1 w4:=⟨(hb.cell (World.block_lt_of_cell? w3 _ t0)).trans t0,(hb.cell (World.block_lt_of_cell? w3 _ t1)).trans t1,(hb.cell (World.block_lt_of_cell? w3 _ t2)).trans t2,t3.trans (hb.mono t3.size)⟩
  refine hK.out _ _ hHeld (fun hHeld=>?_)
  clear hK K t0 t1 t2 t3 hb hrow
  refine norm_ (a':=?_) ?_ ?_
  rotate_left
  · show Act.put _ (some 99) _=_
    simp only [Act.put,List.setIfInBounds_toArray,List.set_cons_zero,List.set_cons_succ,i64_w,i32_w]
    rfl
  have e4:Below w.heap.size w w4:=HB1.out.trans (hHeld.2.2.2.mono HB1.out.size)
  refine last_ (i:=7) (N:=some 100) #[true,true,true,true,true,true,true,true] rfl rfl (by kernel_rfl) (by decide) (fun K hK=>?_)
  refine goes_ Tryd.func38 (by kernel_rfl) rfl #[.pointer (some ⟨b,0,none⟩),.slice Ao 4 co] (by rfl) rfl rfl (by (try simp only [List.map_toArray,List.map_cons,List.map_nil]);first|done|rfl) ?_
  refine (line_pr w0.heap.size b t d Ao co [s.f0,(lit [32]),(nth (textEs s.f2) 0),(lit [59])] w4 (HP.out.kept e4) hro.2 hro.1 hd0 (by have:=HD.out;omega) (by simp) HLEN.out (Nat.le_trans HB0.out.size e4.size)).mono ?_
  rintro e w5 ⟨rfl,hP5,hb,hs5⟩
  refine ⟨_,rfl,?_⟩
  refine hK.out _ _ ?_
  refine done_ (by kernel_rfl) ?_
  try go_wp2
  go_end0
  exact ⟨rfl,.inr hP5,(e4.mono HB0.out.size).trans hb,(Beside.of e4).trans hs5⟩
end Go.Proofs.YtnnbbeloifhofaaDoor.P
end
section
namespace Go.Proofs.YtnnbbeloifhofaaDoor.P
open Go Go.RowKit Go.Proofs
open Go.Proofs.YtnnbbeloifhofaaDoorW.PrintWords Go.Proofs.YtnnbbeloifhofaaDoorW.PrintLast Go.Proofs.YtnnbbeloifhofaaDoorW.PrintMore
set_option linter.unusedVariables false
set_option linter.unusedSimpArgs false
set_option maxHeartbeats 2000000 in
set_option maxRecDepth 100000 in
theorem stmt_assume (s:RS) (n0 : ¬ s.f0.toList=oSet) (n1 : ¬ s.f0.toList=oPut) (n2 : ¬ s.f0.toList=oInput) (n3 : ¬ s.f0.toList=oIf) (n4 : ¬ s.f0.toList=oWhile) (n5 : ¬ s.f0.toList=oAssert) (c1:s.f0.toList=oAssume):StmtOk s:=by
  intro b t d A2 A3 A4 c2 c3 c4 w0 w hP hB hT g2 l2 g3 l3 g4 l4 ho hd0 hd hlen
  rw [okS_eq] at ho
  rw [bulkS_eq] at hd
  rw [stmtB_eq] at hlen ⊢
  unfold stmtF at hlen ⊢
  rw [if_neg n0,if_neg n1,if_neg n2,if_neg (by simp only [n3,n4,or_false,not_false_iff]),if_pos (.inr c1)] at hlen ⊢
  obtain ⟨k,hp⟩:=part_k s.f2 0 ho.1 (by omega)
  obtain ⟨k',hp'⟩:=part_k s.f2 1 ho.1 (by omega)
  have m0:=opNo n0
  clear n0
  have m1:=opNo n1
  clear n1
  have m2:=opNo n2
  clear n2
  have m3:=opNo n3
  clear n3
  have m4:=opNo n4
  clear n4
  have m5:=opNo n5
  clear n5
  have c1b:=opIs c1
  clear c1
  have G2:=Aside0.mk g2
  have L2:=Aside0.mk l2
  have HB0:=Aside0.mk hB
  have HLEN:=Aside0.mk hlen
  have HD:=Aside0.mk hd
  have HPP:=Aside0.mk hp
  have HQQ:=Aside0.mk hp'
  have HP:=Aside0.mk hP
  clear g2 l2 g3 l3 g4 l4 hB hlen hd hp hp' hP
  go_enter Tryd.func61,Tryd.ntmps61
  go_wp2_with (first|((with_reducible refine gate_dst (N:=3) rfl ?_);refine box_event ?hg (N:=3) ?hd (cs:=#[.string s.f0,.string s.f1,.slice A2 (convEs s.f2).length c2,.slice A3 (convSs s.f3).length c3,.slice A4 (convSs s.f4).length c4,.int .i64 s.f5]) (t:=76) ?hr ?_;(case hd=>rfl);(case hg=>rfl);(case hr=>first|(go_simp;done)|(go_simp;rfl));intro gb hg w1 hbox hb;have BK:=Aside0.mk hbox;have GW:=Aside0.mk hg;have HB1:=Aside0.mk hb;clear hb hbox hg;have z0:w1.cell? ⟨gb,0,none⟩=some (.string s.f0):=(blk_cell BK.out 0).trans rfl;have z1:w1.cell? ⟨gb,1,none⟩=some (.string s.f1):=(blk_cell BK.out 1).trans rfl;have z2:w1.cell? ⟨gb,2,none⟩=some (.slice A2 (convEs s.f2).length c2):=(blk_cell BK.out 2).trans rfl;have z3:w1.cell? ⟨gb,3,none⟩=some (.slice A3 (convSs s.f3).length c3):=(blk_cell BK.out 3).trans rfl;have z4:w1.cell? ⟨gb,4,none⟩=some (.slice A4 (convSs s.f4).length c4):=(blk_cell BK.out 4).trans rfl))
  have hHeld0:w1.drew.cell? ⟨gb,0,none⟩=some (.string s.f0)∧w1.drew.cell? ⟨gb,1,none⟩=some (.string s.f1)∧w1.drew.cell? ⟨gb,2,none⟩=some (.slice A2 (convEs s.f2).length c2)∧Below w1.heap.size w1 w1.drew:=⟨z0,z1,z2,Below.drew (Below.refl _ w1)⟩
  refine start_ (n:=8) (ds:=[7]) (S:=fun w'=>w'.cell? ⟨gb,0,none⟩=some (.string s.f0)∧w'.cell? ⟨gb,1,none⟩=some (.string s.f1)∧w'.cell? ⟨gb,2,none⟩=some (.slice A2 (convEs s.f2).length c2)∧Below w1.heap.size w1 w') #[false,false,false,false,false,false,false,false] (by kernel_rfl) rfl rfl hHeld0 (fun hHeld=>?_)
  generalize w1.drew=w2 at hHeld ⊢
  refine pure_ (i:=0) (N:=some 93) (v:=?_) (a':=?_) #[true,false,false,false,false,false,false,false] rfl rfl (by kernel_rfl) (fun _ _ _ h=>h) (Or.inl ⟨by rfl,?_⟩) ?_ ?_
  rotate_left
  · intro w'
    go_simp
    with_reducible rfl
  rotate_left
  · simp only [Act.put,List.setIfInBounds_toArray,List.set_cons_zero,List.set_cons_succ,i64_w,i32_w]
    rfl
  refine pure_ (i:=1) (N:=some 94) (v:=?_) (a':=?_) #[true,true,false,false,false,false,false,false] rfl rfl (by kernel_rfl) (fun _ _ _ h=>h) (Or.inl ⟨by rfl,?_⟩) ?_ ?_
  rotate_left
  · intro w'
    go_simp
    with_reducible rfl
  rotate_left
  · simp only [Act.put,List.setIfInBounds_toArray,List.set_cons_zero,List.set_cons_succ,i64_w,i32_w]
    rfl
  refine pure_ (i:=3) (N:=some 96) (v:=?_) (a':=?_) #[true,true,false,true,false,false,false,false] rfl rfl (by kernel_rfl) (fun _ _ _ h=>h) (Or.inl ⟨by rfl,?_⟩) ?_ ?_
  rotate_left
  · intro w'
    go_simp
    with_reducible rfl
  rotate_left
  · simp only [Act.put,List.setIfInBounds_toArray,List.set_cons_zero,List.set_cons_succ,i64_w,i32_w]
    rfl
  refine take_ (i:=2) (N:=some 95) (v:=?_) (a':=?_) #[true,true,true,true,false,false,false,false] rfl rfl (by kernel_rfl) (fun _ _ _ h=>h) (Or.inl ⟨by rfl,?_⟩) hHeld ?_ ?_
  rotate_left
  · rintro w' ⟨s0,s1,s2,s3⟩
    go_simp
    with_reducible rfl
  rotate_left
  · simp only [Act.put,List.setIfInBounds_toArray,List.set_cons_zero,List.set_cons_succ,i64_w,i32_w]
    rfl
  refine take_ (i:=4) (N:=some 97) (v:=?_) (a':=?_) #[true,true,true,true,true,false,false,false] rfl rfl (by kernel_rfl) (fun _ _ _ h=>h) (Or.inl ⟨by rfl,?_⟩) hHeld ?_ ?_
  rotate_left
  · rintro w' ⟨s0,s1,s2,s3⟩
    go_simp
    with_reducible rfl
  rotate_left
  · simp only [Act.put,List.setIfInBounds_toArray,List.set_cons_zero,List.set_cons_succ,i64_w,i32_w]
    rfl
  refine one_ (i:=5) (N:=some 98) #[true,true,true,true,true,true,false,false] rfl rfl (by kernel_rfl) (by decide) (fun K hK=>?_)
  refine goes_ Tryd.func32 (by kernel_rfl) rfl #[.slice A2 (convEs s.f2).length c2,.int .i64 0] (by rfl) rfl rfl (by (try simp only [List.map_toArray,List.map_cons,List.map_nil]);first|done|rfl) ?_
  have hb2:Below w0.heap.size w0 w2:=HB0.out.trans ((HB1.out.trans (hHeld.2.2.2.mono HB1.out.size)).mono HB0.out.size)
  refine (tree_part.calls k A2 c2 (convEs s.f2) 0 _ w2 (hT.later hb2) (Kd.C_below G2.out hb2) L2.out HPP.out).mono ?_
  clear hb2
  rintro e w3 ⟨rfl,hb⟩
  refine ⟨_,rfl,?_⟩
  obtain ⟨t0,t1,t2,t3⟩:=hHeld
  have hHeld:w3.cell? ⟨gb,0,none⟩=some (.string s.f0)∧w3.cell? ⟨gb,1,none⟩=some (.string s.f1)∧w3.cell? ⟨gb,2,none⟩=some (.slice A2 (convEs s.f2).length c2)∧Below w1.heap.size w1 w3:=⟨(hb.cell (World.block_lt_of_cell? w2 _ t0)).trans t0,(hb.cell (World.block_lt_of_cell? w2 _ t1)).trans t1,(hb.cell (World.block_lt_of_cell? w2 _ t2)).trans t2,t3.trans (hb.mono t3.size)⟩
  refine hK.out _ _ hHeld (fun hHeld=>?_)
  clear hK K t0 t1 t2 t3 hb
  refine norm_ (a':=?_) ?_ ?_
  rotate_left
  · show Act.put _ (some 98) _=_
    simp only [Act.put,List.setIfInBounds_toArray,List.set_cons_zero,List.set_cons_succ,i64_w,i32_w]
    rfl
  refine one_ (i:=6) (N:=some 99) #[true,true,true,true,true,true,true,false] rfl rfl (by kernel_rfl) (by decide) (fun K hK=>?_)
  refine Kd.R_lit_step Kd.string (w0:=w3) w3.heap.size 9 (by rfl) (N:=99) rfl (xs:=[s.f0,(lit [32]),(nth (textEs s.f2) 0),(lit [59])]) (inner:=[.string s.f0,.string (lit [32]),.string (nth (textEs s.f2) 0),.string (lit [59])]) (ok:=fun _=>True) (okp:=fun _=>True) ?hr ?hp (fun _ hk=>hk) trivial (Below.refl _ _) (Nat.le_refl _) (by simp) ?_
  case hr=>first|(go_simp;done)|(go_simp;rfl)
  case hp=>exact Reps.one (show Kd.M Kd.string _ _ _ (s.f0) [.string (s.f0)] from rfl) (Reps.one (show Kd.M Kd.string _ _ _ ((lit [32])) [.string ((lit [32]))] from rfl) (Reps.one (show Kd.M Kd.string _ _ _ ((nth (textEs s.f2) 0)) [.string ((nth (textEs s.f2) 0))] from rfl) (Reps.one (show Kd.M Kd.string _ _ _ ((lit [59])) [.string ((lit [59]))] from rfl) (Reps.none _ _))))
  intro vrow w4 hrow hb hg_ hnew_
  clear hg_ hnew_
  obtain ⟨Ao,co,rfl⟩:=Kd.R_slice hrow
  have hro:=(Kd.R_reads' hrow).2
  obtain ⟨t0,t1,t2,t3⟩:=hHeld
  have hHeld:w4.cell? ⟨gb,0,none⟩=some (.string s.f0)∧w4.cell? ⟨gb,1,none⟩=some (.string s.f1)∧w4.cell? ⟨gb,2,none⟩=some (.slice A2 (convEs s.f2).length c2)∧Below w1.heap.size w1 w4:=⟨(hb.cell (World.block_lt_of_cell? w3 _ t0)).trans t0,(hb.cell (World.block_lt_of_cell? w3 _ t1)).trans t1,(hb.cell (World.block_lt_of_cell? w3 _ t2)).trans t2,t3.trans (hb.mono t3.size)⟩
  refine hK.out _ _ hHeld (fun hHeld=>?_)
  clear hK K t0 t1 t2 t3 hb hrow
  refine norm_ (a':=?_) ?_ ?_
  rotate_left
  · show Act.put _ (some 99) _=_
    simp only [Act.put,List.setIfInBounds_toArray,List.set_cons_zero,List.set_cons_succ,i64_w,i32_w]
    rfl
  have e4:Below w.heap.size w w4:=HB1.out.trans (hHeld.2.2.2.mono HB1.out.size)
  refine last_ (i:=7) (N:=some 100) #[true,true,true,true,true,true,true,true] rfl rfl (by kernel_rfl) (by decide) (fun K hK=>?_)
  refine goes_ Tryd.func38 (by kernel_rfl) rfl #[.pointer (some ⟨b,0,none⟩),.slice Ao 4 co] (by rfl) rfl rfl (by (try simp only [List.map_toArray,List.map_cons,List.map_nil]);first|done|rfl) ?_
  refine (line_pr w0.heap.size b t d Ao co [s.f0,(lit [32]),(nth (textEs s.f2) 0),(lit [59])] w4 (HP.out.kept e4) hro.2 hro.1 hd0 (by have:=HD.out;omega) (by simp) HLEN.out (Nat.le_trans HB0.out.size e4.size)).mono ?_
  rintro e w5 ⟨rfl,hP5,hb,hs5⟩
  refine ⟨_,rfl,?_⟩
  refine hK.out _ _ ?_
  refine done_ (by kernel_rfl) ?_
  try go_wp2
  go_end0
  exact ⟨rfl,.inr hP5,(e4.mono HB0.out.size).trans hb,(Beside.of e4).trans hs5⟩
end Go.Proofs.YtnnbbeloifhofaaDoor.P
end
section
namespace Go.Proofs.YtnnbbeloifhofaaDoor.P
open Go Go.RowKit Go.Proofs
open Go.Proofs.YtnnbbeloifhofaaDoorW.PrintWords Go.Proofs.YtnnbbeloifhofaaDoorW.PrintLast Go.Proofs.YtnnbbeloifhofaaDoorW.PrintMore
set_option linter.unusedVariables false
set_option linter.unusedSimpArgs false
set_option maxHeartbeats 2000000 in
set_option maxRecDepth 100000 in
theorem stmt_call (s:RS) (n0 : ¬ s.f0.toList=oSet) (n1 : ¬ s.f0.toList=oPut) (n2 : ¬ s.f0.toList=oInput) (n3 : ¬ s.f0.toList=oIf) (n4 : ¬ s.f0.toList=oWhile) (n5 : ¬ s.f0.toList=oAssert) (n6 : ¬ s.f0.toList=oAssume) (c1:s.f0.toList=oCall):StmtOk s:=by
  intro b t d A2 A3 A4 c2 c3 c4 w0 w hP hB hT g2 l2 g3 l3 g4 l4 ho hd0 hd hlen
  rw [okS_eq] at ho
  rw [bulkS_eq] at hd
  rw [stmtB_eq] at hlen ⊢
  unfold stmtF at hlen ⊢
  rw [if_neg n0,if_neg n1,if_neg n2,if_neg (by simp only [n3,n4,or_false,not_false_iff]),if_neg (by simp only [n5,n6,or_false,not_false_iff]),if_pos c1] at hlen ⊢
  obtain ⟨k,hp⟩:=part_k s.f2 0 ho.1 (by omega)
  obtain ⟨k',hp'⟩:=part_k s.f2 1 ho.1 (by omega)
  have m0:=opNo n0
  clear n0
  have m1:=opNo n1
  clear n1
  have m2:=opNo n2
  clear n2
  have m3:=opNo n3
  clear n3
  have m4:=opNo n4
  clear n4
  have m5:=opNo n5
  clear n5
  have m6:=opNo n6
  clear n6
  have c1b:=opIs c1
  clear c1
  have G2:=Aside0.mk g2
  have L2:=Aside0.mk l2
  have HB0:=Aside0.mk hB
  have HLEN:=Aside0.mk hlen
  have HD:=Aside0.mk hd
  have HPP:=Aside0.mk hp
  have HQQ:=Aside0.mk hp'
  have HP:=Aside0.mk hP
  clear g2 l2 g3 l3 g4 l4 hB hlen hd hp hp' hP
  go_enter Tryd.func61,Tryd.ntmps61
  go_wp2_with (first|((with_reducible refine gate_dst (N:=3) rfl ?_);refine box_event ?hg (N:=3) ?hd (cs:=#[.string s.f0,.string s.f1,.slice A2 (convEs s.f2).length c2,.slice A3 (convSs s.f3).length c3,.slice A4 (convSs s.f4).length c4,.int .i64 s.f5]) (t:=76) ?hr ?_;(case hd=>rfl);(case hg=>rfl);(case hr=>first|(go_simp;done)|(go_simp;rfl));intro gb hg w1 hbox hb;have BK:=Aside0.mk hbox;have GW:=Aside0.mk hg;have HB1:=Aside0.mk hb;clear hb hbox hg;have z0:w1.cell? ⟨gb,0,none⟩=some (.string s.f0):=(blk_cell BK.out 0).trans rfl;have z1:w1.cell? ⟨gb,1,none⟩=some (.string s.f1):=(blk_cell BK.out 1).trans rfl;have z2:w1.cell? ⟨gb,2,none⟩=some (.slice A2 (convEs s.f2).length c2):=(blk_cell BK.out 2).trans rfl;have z3:w1.cell? ⟨gb,3,none⟩=some (.slice A3 (convSs s.f3).length c3):=(blk_cell BK.out 3).trans rfl;have z4:w1.cell? ⟨gb,4,none⟩=some (.slice A4 (convSs s.f4).length c4):=(blk_cell BK.out 4).trans rfl)|((with_reducible refine gate_dst (N:=106) rfl ?_);(try (refine gate_guard (by rfl) ?_;dsimp only));refine Kd.R_lit Kd.string (w0:=w1) w1.heap.size 9 ?hg (N:=106) ?hd (xs:=[(lit [99,97,108,108,32]),s.f1,(lit [59])]) (inner:=[.string (lit [99,97,108,108,32]),.string s.f1,.string (lit [59])]) (ok:=fun _=>True) (okp:=fun _=>True) ?hr ?hp (fun _ hk=>hk) trivial (Below.refl _ _) (Nat.le_refl _) (by simp) ?_;(case hd=>rfl);(case hg=>rfl);(case hr=>first|(go_simp;done)|(go_simp;rfl));(case hp=>exact Reps.one (show Kd.M Kd.string _ _ _ ((lit [99,97,108,108,32])) [.string ((lit [99,97,108,108,32]))] from rfl) (Reps.one (show Kd.M Kd.string _ _ _ (s.f1) [.string (s.f1)] from rfl) (Reps.one (show Kd.M Kd.string _ _ _ ((lit [59])) [.string ((lit [59]))] from rfl) (Reps.none _ _))));intro vrow w2 hrow hb hg_ hnew_;have HB2:=Aside0.mk hb;clear hg_ hnew_ hb;obtain ⟨Ao,co,rfl⟩:=Kd.R_slice hrow;have hro:=(Kd.R_reads' hrow).2;have HRO:=Aside0.mk hro;clear hro hrow))
  have e4:Below w.heap.size w w2:=HB1.out.trans (HB2.out.mono HB1.out.size)
  refine (line_pr w0.heap.size b t d Ao co [(lit [99,97,108,108,32]),s.f1,(lit [59])] w2 (HP.out.kept e4) HRO.out.2 HRO.out.1 hd0 (by have:=HD.out;omega) (by simp) HLEN.out (Nat.le_trans HB0.out.size e4.size)).mono ?_
  rintro e w5 ⟨rfl,hP5,hb,hs5⟩
  try go_wp2
  go_end0
  exact ⟨rfl,.inr hP5,(e4.mono HB0.out.size).trans hb,(Beside.of e4).trans hs5⟩
end Go.Proofs.YtnnbbeloifhofaaDoor.P
end
section
namespace Go.Proofs.YtnnbbeloifhofaaDoor.P
open Go Go.RowKit Go.Proofs
open Go.Proofs.YtnnbbeloifhofaaDoorW.PrintWords Go.Proofs.YtnnbbeloifhofaaDoorW.PrintLast Go.Proofs.YtnnbbeloifhofaaDoorW.PrintMore
set_option linter.unusedVariables false
set_option linter.unusedSimpArgs false
set_option maxHeartbeats 2000000 in
set_option maxRecDepth 100000 in
theorem stmt_else (s:RS) (n0 : ¬ s.f0.toList=oSet) (n1 : ¬ s.f0.toList=oPut) (n2 : ¬ s.f0.toList=oInput) (n3 : ¬ s.f0.toList=oIf) (n4 : ¬ s.f0.toList=oWhile) (n5 : ¬ s.f0.toList=oAssert) (n6 : ¬ s.f0.toList=oAssume) (n7 : ¬ s.f0.toList=oCall)  : StmtOk s:=by
  intro b t d A2 A3 A4 c2 c3 c4 w0 w hP hB hT g2 l2 g3 l3 g4 l4 ho hd0 hd hlen
  rw [okS_eq] at ho
  rw [bulkS_eq] at hd
  rw [stmtB_eq] at hlen ⊢
  unfold stmtF at hlen ⊢
  rw [if_neg n0,if_neg n1,if_neg n2,if_neg (by simp only [n3,n4,or_false,not_false_iff]),if_neg (by simp only [n5,n6,or_false,not_false_iff]),if_neg n7] at hlen ⊢
  obtain ⟨k,hp⟩:=part_k s.f2 0 ho.1 (by omega)
  obtain ⟨k',hp'⟩:=part_k s.f2 1 ho.1 (by omega)
  have m0:=opNo n0
  clear n0
  have m1:=opNo n1
  clear n1
  have m2:=opNo n2
  clear n2
  have m3:=opNo n3
  clear n3
  have m4:=opNo n4
  clear n4
  have m5:=opNo n5
  clear n5
  have m6:=opNo n6
  clear n6
  have m7:=opNo n7
  clear n7
  have G2:=Aside0.mk g2
  have L2:=Aside0.mk l2
  have HB0:=Aside0.mk hB
  have HLEN:=Aside0.mk hlen
  have HD:=Aside0.mk hd
  have HPP:=Aside0.mk hp
  have HQQ:=Aside0.mk hp'
  have HP:=Aside0.mk hP
  clear g2 l2 g3 l3 g4 l4 hB hlen hd hp hp' hP
  go_enter Tryd.func61,Tryd.ntmps61
  go_wp2_with (first|((with_reducible refine gate_dst (N:=3) rfl ?_);refine box_event ?hg (N:=3) ?hd (cs:=#[.string s.f0,.string s.f1,.slice A2 (convEs s.f2).length c2,.slice A3 (convSs s.f3).length c3,.slice A4 (convSs s.f4).length c4,.int .i64 s.f5]) (t:=76) ?hr ?_;(case hd=>rfl);(case hg=>rfl);(case hr=>first|(go_simp;done)|(go_simp;rfl));intro gb hg w1 hbox hb;have BK:=Aside0.mk hbox;have GW:=Aside0.mk hg;have HB1:=Aside0.mk hb;clear hb hbox hg;have z0:w1.cell? ⟨gb,0,none⟩=some (.string s.f0):=(blk_cell BK.out 0).trans rfl;have z1:w1.cell? ⟨gb,1,none⟩=some (.string s.f1):=(blk_cell BK.out 1).trans rfl;have z2:w1.cell? ⟨gb,2,none⟩=some (.slice A2 (convEs s.f2).length c2):=(blk_cell BK.out 2).trans rfl;have z3:w1.cell? ⟨gb,3,none⟩=some (.slice A3 (convSs s.f3).length c3):=(blk_cell BK.out 3).trans rfl;have z4:w1.cell? ⟨gb,4,none⟩=some (.slice A4 (convSs s.f4).length c4):=(blk_cell BK.out 4).trans rfl)|((with_reducible refine gate_dst (N:=9) rfl ?_);(try (refine gate_guard (by rfl) ?_;dsimp only));refine Kd.R_lit Kd.string (w0:=w1) w1.heap.size 9 ?hg (N:=9) ?hd (xs:=[s.f0,(lit [59])]) (inner:=[.string s.f0,.string (lit [59])]) (ok:=fun _=>True) (okp:=fun _=>True) ?hr ?hp (fun _ hk=>hk) trivial (Below.refl _ _) (Nat.le_refl _) (by simp) ?_;(case hd=>rfl);(case hg=>rfl);(case hr=>first|(go_simp;done)|(go_simp;rfl));(case hp=>exact Reps.one (show Kd.M Kd.string _ _ _ (s.f0) [.string (s.f0)] from rfl) (Reps.one (show Kd.M Kd.string _ _ _ ((lit [59])) [.string ((lit [59]))] from rfl) (Reps.none _ _)));intro vrow w2 hrow hb hg_ hnew_;have HB2:=Aside0.mk hb;clear hg_ hnew_ hb;obtain ⟨Ao,co,rfl⟩:=Kd.R_slice hrow;have hro:=(Kd.R_reads' hrow).2;have HRO:=Aside0.mk hro;clear hro hrow))
  have e4:Below w.heap.size w w2:=HB1.out.trans (HB2.out.mono HB1.out.size)
  refine (line_pr w0.heap.size b t d Ao co [s.f0,(lit [59])] w2 (HP.out.kept e4) HRO.out.2 HRO.out.1 hd0 (by have:=HD.out;omega) (by simp) HLEN.out (Nat.le_trans HB0.out.size e4.size)).mono ?_
  rintro e w5 ⟨rfl,hP5,hb,hs5⟩
  try go_wp2
  go_end0
  exact ⟨rfl,.inr hP5,(e4.mono HB0.out.size).trans hb,(Beside.of e4).trans hs5⟩
end Go.Proofs.YtnnbbeloifhofaaDoor.P
end
section
namespace Go.Proofs.YtnnbbeloifhofaaDoor.P
open Go Go.RowKit Go.Proofs
theorem stmt_pr : ∀ s:RS,StmtOk s:=RS.all fun s iha ihb=>by
  by_cases n0:s.f0.toList=oSet
  · exact stmt_set s n0
  by_cases n1:s.f0.toList=oPut
  · exact stmt_put s n0 n1
  by_cases n2:s.f0.toList=oInput
  · by_cases ce:s.f2.length=0
    · exact stmt_input0 s n0 n1 n2 ce
    · exact stmt_input s n0 n1 n2 ce
  by_cases n3:s.f0.toList=oIf
  · by_cases ce:s.f4.length=0
    · exact stmt_if0 s n0 n1 n2 n3 ce iha ihb
    · exact stmt_if1 s n0 n1 n2 n3 (by omega) iha ihb
  by_cases n4:s.f0.toList=oWhile
  · exact stmt_while s n0 n1 n2 n3 n4 iha ihb
  by_cases n5:s.f0.toList=oAssert
  · exact stmt_assert s n0 n1 n2 n3 n4 n5
  by_cases n6:s.f0.toList=oAssume
  · exact stmt_assume s n0 n1 n2 n3 n4 n5 n6
  by_cases n7:s.f0.toList=oCall
  · exact stmt_call s n0 n1 n2 n3 n4 n5 n6 n7
  · exact stmt_else s n0 n1 n2 n3 n4 n5 n6 n7
end Go.Proofs.YtnnbbeloifhofaaDoor.P
end
section
namespace Go.Proofs.YtnnbbeloifhofaaDoor.P
open Go Go.RowKit Go.Proofs
open Go.Proofs.YtnnbbeloifhofaaDoorW.PrintWords Go.Proofs.YtnnbbeloifhofaaDoorW.PrintLast Go.Proofs.YtnnbbeloifhofaaDoorW.PrintMore
set_option linter.unusedVariables false
theorem cellsByte:Tryd.prog.cellsOf 5=1:=by kernel_rfl
set_option maxHeartbeats 2000000 in
set_option maxRecDepth 100000 in
theorem string_pr (B b:Nat) (l:List UInt8) (d:Int) (w:World) (h:IsPr B b (Lib.byteCells l) d w) (h0:l≠[]) :
    Calls Tryd.prog 41 #[.pointer (some ⟨b,0,none⟩)] w fun e w'=>e=.returned (.string ⟨l.toArray⟩)∧Below B w w':=by
  obtain ⟨p,hB,v,hbk,hown,hne⟩ : ∃ p,PrAt B b p (Lib.byteCells l) d w:=by
    rcases h with h|h
    · exact ⟨_,h⟩
    · exact ⟨_,h⟩
  have hl0:l.length≠0:=by simpa using h0
  rw [Lib.byteCells_length] at hown
  obtain ⟨g,cap,cur,rfl,hbg,hg,hnc,hcm,hcs,htake⟩ : ∃ g cap cur,v=.slice (some ⟨g,0,none⟩) l.length cap∧B≤g∧w.heap[g]?=some (.cells cur 5 (0,0))∧l.length≤cap∧cap≤maxLen∧cur.size=cap * 1∧cur.toList.take (l.length * 1)=Lib.byteCells l:=by
    rcases hown.2 with ⟨_,hz⟩ | ⟨g,cap,cur,hv,r⟩
    · exact absurd hz hl0
    · exact ⟨g,cap,cur,hv,r⟩
  have c1:w.drew.cell? ⟨b,1,none⟩=some (.slice (some ⟨g,0,none⟩) l.length cap):=by
    have:w.drew.heap[b]?=some (.cells #[p,.slice (some ⟨g,0,none⟩) l.length cap,.int .i64 d] 88 (0,0)):=hbk
    rw [Lib.cell_of_heap this];rfl
  have hSD:(Builtin.unsafeSliceData_ #[84] 113 #[.slice (some ⟨g,0,none⟩) l.length cap]).run Tryd.prog w.drew=.ok (.pointer (some ⟨g,0,none⟩)) w.drew:=
    Lib.run_unsafeSliceData_row _ _ _ _ _ _ (by omega)
  have hUS:(Builtin.unsafeString_ #[113,3] 9 #[.pointer (some ⟨g,0,none⟩),.int .i64 l.length]).run Tryd.prog w.drew=.ok (.string ⟨l.toArray⟩) (w.drew.freeze ⟨g,0,none⟩ l.length):=by
    refine Lib.run_unsafeString_row w.drew 113 3 9 5 Tryd.underlying113 cellsByte g cur.size (by have hg':w.drew.heap[g]?=some (.cells cur 5 (0,0)):=hg;simp [World.shape?,hg']) l h0 (by omega) (by unfold maxLen at hcm;omega) ?_
    intro j x hx
    have:=hown.cells (g:=g) rfl j (.int .u8 x.toNat) (by simp [Lib.byteCells,hx])
    exact this
  clear hown htake hcs hcm hnc hg hbk hne
  go_enter Tryd.func41,Tryd.ntmps41
  go_wp2
  go_region
  all_goals (go_wp2;go_ret;exact ⟨rfl,Lib.below_freeze (Below.drew (Below.refl B w)) (p:=⟨g,0,none⟩) hbg _⟩)
end Go.Proofs.YtnnbbeloifhofaaDoor.P
end
section
namespace Go.Proofs.YtnnbbeloifhofaaDoor.P
open Go Go.RowKit Go.Proofs
open Go.Proofs.YtnnbbeloifhofaaDoorW.PrintWords Go.Proofs.YtnnbbeloifhofaaDoorW.PrintLast Go.Proofs.YtnnbbeloifhofaaDoorW.PrintMore
abbrev ES:=S79
abbrev VS:=S80
abbrev TP:=S66
abbrev RP:=S69
def convP (x:RP):TP:=⟨x.f0,convSs x.f1⟩
def convPs (l:List RP):List TP:=l.map convP
def enumB (e:ES):List UInt8:=lineB 0 [lit [101,110,117,109,32],e.f0,lit [32,123,32],strOf (joinF e.f1 (lit [44,32])),lit [32,125]]
def enumsB:List ES→List UInt8
  | []=>[]
  | x :: xs=>enumB x++enumsB xs
def manyT (n:Int):ByteArray:=if 0 < n then (lit [91]++itoaB n)++lit [93] else lit []
def varB (v:VS):List UInt8:=lineB 0 [lit [118,97,114,32],v.f0,lit [58,32],v.f1,manyT v.f2,lit [59]]
def varsB:List VS→List UInt8
  | []=>[]
  | x :: xs=>varB x++varsB xs
def procB (x:RP):List UInt8:=lineB 0 [lit [112,114,111,99,32],x.f0,lit [32,123]]++stmtsB x.f1 1++lineB 0 [lit [125]]
def procsB:List RP→List UInt8
  | []=>[]
  | x :: xs=>procB x++procsB xs
def mainB (m:List RS):List UInt8:=lineB 0 [lit [109,97,105,110,32,123]]++stmtsB m 1++lineB 0 [lit [125]]
def printB (ens:List ES) (vs:List VS) (ps:List RP) (m:List RS):List UInt8:=enumsB ens++varsB vs++procsB ps++mainB m
theorem printB_eq (ens:List ES) (vs:List VS) (ps:List RP) (m:List RS):printB ens vs ps m=enumsB ens++varsB vs++procsB ps++(lineB 0 [lit [109,97,105,110,32,123]]++stmtsB m 1++lineB 0 [lit [125]]):=rfl
theorem enumsB_app (l m:List ES):enumsB (l++m)=enumsB l++enumsB m:=by
  induction l with
  | nil=>rfl
  | cons x xs ih=>rw [List.cons_append,enumsB,enumsB,ih,List.append_assoc]
theorem varsB_app (l m:List VS):varsB (l++m)=varsB l++varsB m:=by
  induction l with
  | nil=>rfl
  | cons x xs ih=>rw [List.cons_append,varsB,varsB,ih,List.append_assoc]
theorem procsB_app (l m:List RP):procsB (l++m)=procsB l++procsB m:=by
  induction l with
  | nil=>rfl
  | cons x xs ih=>rw [List.cons_append,procsB,procsB,ih,List.append_assoc]
structure PrintOk (ens:List ES) (vs:List VS) (ps:List RP) (m:List RS):Prop where
  hE:ens.length≤1099511627776
  hV:vs.length≤1099511627776
  hP:ps.length≤1099511627776
  hJ : ∀ e ∈ ens,e.f1.length≤140737488355328
  hI : ∀ v ∈ vs,okI v.f2
  hB : ∀ x ∈ ps,okSs x.f1∧1+bulkSs x.f1≤1099511627770
  hM:okSs m
  hMb:1+bulkSs m≤1099511627770
  hlen:(printB ens vs ps m).length≤140737488355328
theorem take_app {α:Type} (f:List α→List UInt8) (happ : ∀ l m,f (l++m)=f l++f m) (l:List α) (i:Nat) (h:i < l.length):f (l.take (i+1))=f (l.take i)++f [l[i]]∧(f (l.take (i+1))).length≤(f l).length:=by
  refine ⟨by rw [List.take_succ_eq_append_getElem h,happ],?_⟩
  conv=>rhs;rw [← List.take_append_drop (i+1) l,happ,List.length_append]
  omega
theorem convPs_len (l:List RP):(convPs l).length=l.length:=List.length_map ..
theorem rd_ens {l:List ES} {i:Nat} (h:i < l.length):rd_T79 l (i:Int)=l[i]:=by
  rw [show rd_T79 l (i:Int)=l.getD i z79 from rfl,List.getD_eq_getElem?_getD,List.getElem?_eq_getElem h];rfl
theorem rd_vs {l:List VS} {i:Nat} (h:i < l.length):rd_T80 l (i:Int)=l[i]:=by
  rw [show rd_T80 l (i:Int)=l.getD i z80 from rfl,List.getD_eq_getElem?_getD,List.getElem?_eq_getElem h];rfl
theorem rd_ps {l:List RP} {i:Nat} (h:i < l.length):rd_T66 (convPs l) (i:Int)=convP l[i]:=by
  rw [show rd_T66 (convPs l) (i:Int)=(convPs l).getD i z66 from rfl,convPs,List.getD_eq_getElem?_getD,List.getElem?_map,List.getElem?_eq_getElem h];rfl
theorem joinE_cons (x:ByteArray) (xs:List ByteArray):joinF (x :: xs) ⟨#[]⟩=x.data.toList++joinF xs ⟨#[]⟩:=by
  cases xs with
  | nil=>unfold joinF;simp [Lib.join]
  | cons y ys=>unfold joinF;simp [Lib.join]
theorem join_in_enum (e:ES):(joinF e.f1 (lit [44,32])).length≤(enumB e).length:=by
  unfold enumB lineB
  rw [joinE_cons,joinE_cons,joinE_cons,joinE_cons]
  simp only [List.length_append,strOf_list]
  omega
end Go.Proofs.YtnnbbeloifhofaaDoor.P
end
section
namespace Go.Proofs.YtnnbbeloifhofaaDoor.P
open Go Go.RowKit Go.Proofs
open Go.Proofs.YtnnbbeloifhofaaDoorW.PrintWords Go.Proofs.YtnnbbeloifhofaaDoorW.PrintLast Go.Proofs.YtnnbbeloifhofaaDoorW.PrintMore
set_option linter.unusedVariables false
set_option linter.unusedSimpArgs false
set_option maxHeartbeats 4000000 in
set_option maxRecDepth 100000 in
theorem print_pr (ens:List ES) (vs:List VS) (ps:List RP) (m:List RS) (A0 A1 A2 A3:Option Addr) (c0 c1 c2 c3:Nat) (w:World) (hT:TabT w)
    (hC0:Kd.C k79 w A0 ens.length ens) (hC1:Kd.C k80 w A1 vs.length vs) (hC2:Kd.C k66 w A2 (convPs ps).length (convPs ps)) (hl2:(convPs ps).length≤c2) (hC3:Kd.C k76 w A3 (convSs m).length (convSs m)) (hl3:(convSs m).length≤c3) (hok:PrintOk ens vs ps m) :
    Calls Tryd.prog 22 #[.agg #[.slice A0 ens.length c0,.slice A1 vs.length c1,.slice A2 (convPs ps).length c2,.slice A3 (convSs m).length c3]] w fun e w'=>e=.returned (.string (strOf (printB ens vs ps m)))∧Below w.heap.size w w':=by
  obtain ⟨hE,hV,hP,hJ,hI,hB,hM,hMb,hlen⟩:=hok
  have HE:=Aside0.mk hE
  have HV:=Aside0.mk hV
  have HPs:=Aside0.mk hP
  have HJ:=Aside0.mk hJ
  have HI:=Aside0.mk hI
  have HBd:=Aside0.mk hB
  have HM:=Aside0.mk (And.intro hM hMb)
  have HC0:=Aside0.mk hC0
  have HC1:=Aside0.mk hC1
  have HC2:=Aside0.mk (And.intro hC2 hl2)
  have HC3:=Aside0.mk (And.intro hC3 hl3)
  rw [printB_eq] at hlen
  have HLEN:=Aside0.mk hlen
  clear hE hV hP hJ hI hB hM hMb hC0 hC1 hC2 hC3 hlen hl2 hl3
  go_enter Tryd.func22,Tryd.ntmps22
  go_wp2_with (first|((with_reducible refine gate_dst (N:=1) rfl ?_);refine box_event ?hgP (N:=1) ?hdP (cs:=#[.slice A0 ens.length c0,.slice A1 vs.length c1,.slice A2 (convPs ps).length c2,.slice A3 (convSs m).length c3]) (t:=50) ?hrP ?_;(case hdP=>rfl);(case hgP=>rfl);(case hrP=>first|(go_simp;done)|(go_simp;rfl));intro gA hg w1 hbox hb;have BKP:=Aside0.mk hbox;have GWP:=Aside0.mk hg;have HBP:=Aside0.mk hb;clear hb hbox hg;have zP0:w1.cell? ⟨gA,0,none⟩=some (.slice A0 ens.length c0):=(blk_cell BKP.out 0).trans rfl;have yP0:=blk_frozen BKP.out 0;have zP1:w1.cell? ⟨gA,1,none⟩=some (.slice A1 vs.length c1):=(blk_cell BKP.out 1).trans rfl;have yP1:=blk_frozen BKP.out 1;have zP2:w1.cell? ⟨gA,2,none⟩=some (.slice A2 (convPs ps).length c2):=(blk_cell BKP.out 2).trans rfl;have yP2:=blk_frozen BKP.out 2;have zP3:w1.cell? ⟨gA,3,none⟩=some (.slice A3 (convSs m).length c3):=(blk_cell BKP.out 3).trans rfl;have yP3:=blk_frozen BKP.out 3)|((with_reducible refine gate_dst (N:=12) rfl ?_);refine box_event ?hgQ (N:=12) ?hdQ (cs:=#[.pointer none,.slice none 0 0,.int .i64 0]) (t:=88) ?hrQ ?_;(case hdQ=>rfl);(case hgQ=>rfl);(case hrQ=>first|(go_simp;done)|(go_simp;rfl));intro b hg w2 hbox hb;have BKQ:=Aside0.mk hbox;have GWQ:=Aside0.mk hg;have HBQ:=Aside0.mk hb;clear hb hbox hg;have zQ0:w2.cell? ⟨b,0,none⟩=some (.pointer none):=(blk_cell BKQ.out 0).trans rfl;have yQ0:=blk_frozen BKQ.out 0;have zQ1:w2.cell? ⟨b,1,none⟩=some (.slice none 0 0):=(blk_cell BKQ.out 1).trans rfl;have yQ1:=blk_frozen BKQ.out 1;have zQ2:w2.cell? ⟨b,2,none⟩=some (.int .i64 0):=(blk_cell BKQ.out 2).trans rfl;have yQ2:=blk_frozen BKQ.out 2;have BKP2:=Aside0.mk (blk_below BKP.out HBQ.out);have p0:w2.cell? ⟨gA,0,none⟩=some (.slice A0 ens.length c0):=(blk_cell BKP2.out 0).trans rfl;have p1:w2.cell? ⟨gA,1,none⟩=some (.slice A1 vs.length c1):=(blk_cell BKP2.out 1).trans rfl;have p2:w2.cell? ⟨gA,2,none⟩=some (.slice A2 (convPs ps).length c2):=(blk_cell BKP2.out 2).trans rfl;have p3:w2.cell? ⟨gA,3,none⟩=some (.slice A3 (convSs m).length c3):=(blk_cell BKP2.out 3).trans rfl))
  have HNE:Aside0 (gA≠b):=⟨fun e=>by have h1:=blk_lt BKP.out;have h2:=GWQ.out;omega⟩
  have HG:Aside0 (w.heap.size≤b):=⟨by have h1:=HBP.out.size;have h2:=GWQ.out;omega⟩
  have HP0:Aside0 (IsPr w.heap.size b (Lib.byteCells []) 0 w2):=⟨.inl ⟨HG.out,.slice none 0 0,BKQ.out,own_nil _ _ _ _,by simp [Value.ownBlock]⟩⟩
  have HB0:Aside0 (Below w.heap.size w w2):=⟨HBP.out.trans (HBQ.out.mono HBP.out.size)⟩
  have BKP:=BKP2
  clear BKP2 zP0 zP1 zP2 zP3 zQ0 zQ1 zQ2 yP0 yP1 yP2 yP3 yQ0 yQ1 yQ2 BKQ HBP HBQ
  clear p0 p1 p2 p3
  go_loopg [16] (ens.length+1) (fun kq v16 w'=>∃ i:Nat,v16=.int .i64 (i:Int)∧Aside0 (i+kq=ens.length+1∧i≤ens.length)∧Aside0 (IsPr w.heap.size b (Lib.byteCells (enumsB (ens.take i))) 0 w')∧Aside0 (Below w.heap.size w w')∧Aside0 (Beside b w2 w'))
  case atStart=>exact ⟨0,rfl,⟨by omega,by omega⟩,HP0,HB0,⟨Beside.refl b w2⟩⟩
  case round=>
    obtain ⟨i,rfl,HIq,HPi,HBi,HSi⟩:=hrel
    by_cases hi:i < ens.length
    · have cc:decide ((i:Int) < (ens.length:Int))=true:=decide_eq_true (by omega)
      cases gk with
      | zero=>exact absurd HIq.out (by omega)
      | succ k1=>
      obtain ⟨ad,A5,c5,rfl,x0,x1,l1,g1⟩:=at_T79 HC0.out (i:Int) (by omega) (by omega)
      have hm:ens[i] ∈ ens:=List.getElem_mem hi
      rw [rd_ens hi] at x0 x1 l1 g1
      obtain ⟨hnx,hle⟩:=take_app enumsB enumsB_app ens i hi
      have hje:=HJ.out _ hm
      generalize hse:ens[i]=e at x0 x1 l1 g1 hnx hle hje hm
      clear hse hm
      simp only [Int.toNat_natCast] at x0 x1
      replace x0:=(HBi.out.cell (World.block_lt_of_cell? w _ x0)).trans x0
      replace x1:=(HBi.out.cell (World.block_lt_of_cell? w _ x1)).trans x1
      have p0:(0≤(i:Int))=True:=eq_true (by omega)
      have q0:((i:Int) < (ens.length:Int))=True:=eq_true (by omega)
      rw [enumsB,enumsB,List.append_nil] at hnx
      have HLN:Aside0 ((enumsB (ens.take i)).length+(enumB e).length≤140737488355328):=⟨by have h1:=HLEN.out;rw [hnx] at hle;simp only [List.length_append] at hle h1;omega⟩
      have HJN:Aside0 (strings_Join.f e.f1 (lit [44,32])=some (strOf (joinF e.f1 (lit [44,32])))):=⟨by
        unfold strings_Join.f
        have h1:=HLN.out
        have h2:(joinF e.f1 (lit [44,32])).length≤(enumB e).length:=join_in_enum e
        rw [if_pos ⟨by omega,hje⟩]⟩
      have HNX:=Aside0.mk hnx
      have HG1:=Aside0.mk (And.intro g1 l1)
      have HWI:Aside0 (wrap64 ((i:Int)+1)=((i+1:Nat):Int)):=⟨by rw [wrap64_small (by omega) (by have:=HE.out;omega)];rfl⟩
      clear hnx hle hje l1 g1
      go_wp2_with (first|((with_reducible refine gate_dst (N:=5) rfl ?_);refine box_event ?hgE (N:=5) ?hdE (cs:=#[.string (⟨#[]⟩:ByteArray),.slice none 0 0]) (t:=79) ?hrE ?_;(case hdE=>rfl);(case hgE=>rfl);(case hrE=>first|(go_simp;done)|(go_simp;rfl));intro gb hg w8 hbox hb;have BKE:=Aside0.mk hbox;have GWE:=Aside0.mk hg;have HBE:=Aside0.mk hb;clear hb hbox hg;have zE0:w8.cell? ⟨gb,0,none⟩=some (.string (⟨#[]⟩:ByteArray)):=(blk_cell BKE.out 0).trans rfl;have yE0:=blk_frozen BKE.out 0;have zE1:w8.cell? ⟨gb,1,none⟩=some (.slice none 0 0):=(blk_cell BKE.out 1).trans rfl;have yE1:=blk_frozen BKE.out 1))
      have hge:wr.heap.size≤gb:=Nat.le_of_eq GWE.out.symm
      have BK9:=blk_set (blk_set BKE.out 0 (.string e.f0)) 1 (.slice A5 e.f1.length c5)
      have e9:Below wr.heap.size wr ((w8.setCell ⟨gb,0,none⟩ (.string e.f0)).setCell ⟨gb,1,none⟩ (.slice A5 e.f1.length c5)):=(HBE.out.setCell (p:=⟨gb,0,none⟩) hge _).setCell (p:=⟨gb,1,none⟩) hge _
      generalize ((w8.setCell ⟨gb,0,none⟩ (.string e.f0)).setCell ⟨gb,1,none⟩ (.slice A5 e.f1.length c5))=w9 at BK9 e9 ⊢
      have z0:w9.cell? ⟨gb,0,none⟩=some (.string e.f0):=(blk_cell BK9 0).trans rfl
      have z1:w9.cell? ⟨gb,1,none⟩=some (.slice A5 e.f1.length c5):=(blk_cell BK9 1).trans rfl
      have HE9:=Aside0.mk e9
      clear e9 BK9 zE0 zE1 yE0 yE1 BKE HBE GWE hge x0 x1
      have hHeld0:w9.drew.cell? ⟨gb,0,none⟩=some (.string e.f0)∧w9.drew.cell? ⟨gb,1,none⟩=some (.slice A5 e.f1.length c5)∧Below w9.heap.size w9 w9.drew:=⟨z0,z1,Below.drew (Below.refl _ w9)⟩
      refine start_ (n:=8) (ds:=[7]) (S:=fun w'=>w'.cell? ⟨gb,0,none⟩=some (.string e.f0)∧w'.cell? ⟨gb,1,none⟩=some (.slice A5 e.f1.length c5)∧Below w9.heap.size w9 w') #[false,false,false,false,false,false,false,false] (by kernel_rfl) rfl rfl hHeld0 (fun hHeld=>?_)
      clear hHeld0 z0 z1
      generalize w9.drew=wa at hHeld ⊢
      refine pure_ (i:=0) (N:=some 20) (v:=?_) (a':=?_) #[true,false,false,false,false,false,false,false] rfl rfl (by kernel_rfl) (fun _ _ _ h=>h) (Or.inl ⟨by rfl,?_⟩) ?_ ?_
      rotate_left
      · intro w'
        go_simp
        with_reducible rfl
      rotate_left
      · simp only [Act.put,List.setIfInBounds_toArray,List.set_cons_zero,List.set_cons_succ,i64_w,i32_w]
        rfl
      refine pure_ (i:=1) (N:=some 21) (v:=?_) (a':=?_) #[true,true,false,false,false,false,false,false] rfl rfl (by kernel_rfl) (fun _ _ _ h=>h) (Or.inl ⟨by rfl,?_⟩) ?_ ?_
      rotate_left
      · intro w'
        go_simp
        with_reducible rfl
      rotate_left
      · simp only [Act.put,List.setIfInBounds_toArray,List.set_cons_zero,List.set_cons_succ,i64_w,i32_w]
        rfl
      refine pure_ (i:=3) (N:=some 23) (v:=?_) (a':=?_) #[true,true,false,true,false,false,false,false] rfl rfl (by kernel_rfl) (fun _ _ _ h=>h) (Or.inl ⟨by rfl,?_⟩) ?_ ?_
      rotate_left
      · intro w'
        go_simp
        with_reducible rfl
      rotate_left
      · simp only [Act.put,List.setIfInBounds_toArray,List.set_cons_zero,List.set_cons_succ,i64_w,i32_w]
        rfl
      refine take_ (i:=2) (N:=some 22) (v:=?_) (a':=?_) #[true,true,true,true,false,false,false,false] rfl rfl (by kernel_rfl) (fun _ _ _ h=>h) (Or.inl ⟨by rfl,?_⟩) hHeld ?_ ?_
      rotate_left
      · rintro w' ⟨s0,s1,s2⟩
        go_simp
        with_reducible rfl
      rotate_left
      · simp only [Act.put,List.setIfInBounds_toArray,List.set_cons_zero,List.set_cons_succ,i64_w,i32_w]
        rfl
      refine take_ (i:=4) (N:=some 24) (v:=?_) (a':=?_) #[true,true,true,true,true,false,false,false] rfl rfl (by kernel_rfl) (fun _ _ _ h=>h) (Or.inl ⟨by rfl,?_⟩) hHeld ?_ ?_
      rotate_left
      · rintro w' ⟨s0,s1,s2⟩
        go_simp
        with_reducible rfl
      rotate_left
      · simp only [Act.put,List.setIfInBounds_toArray,List.set_cons_zero,List.set_cons_succ,i64_w,i32_w]
        rfl
      refine one_ (i:=5) (N:=some 25) #[true,true,true,true,true,true,false,false] rfl rfl (by kernel_rfl) (by decide) (fun K hK=>?_)
      refine goes_ Tryd.func39 (by kernel_rfl) rfl #[.slice A5 e.f1.length c5,.string ⟨#[44,32]⟩] (by rfl) rfl rfl (by (try simp only [List.map_toArray,List.map_cons,List.map_nil]);first|done|rfl) ?_
      have hb2:Below w.heap.size w wa:=HBi.out.trans ((HE9.out.trans (hHeld.2.2.mono HE9.out.size)).mono HBi.out.size)
      refine (strings_Join.calls A5 c5 e.f1 _ _ wa (Kd.C_below HG1.out.1 hb2) HG1.out.2 HJN.out).mono ?_
      clear hb2
      rintro e_ wb ⟨rfl,hb⟩
      refine ⟨_,rfl,?_⟩
      obtain ⟨t0,t1,t2⟩:=hHeld
      have hHeld:wb.cell? ⟨gb,0,none⟩=some (.string e.f0)∧wb.cell? ⟨gb,1,none⟩=some (.slice A5 e.f1.length c5)∧Below w9.heap.size w9 wb:=⟨(hb.cell (World.block_lt_of_cell? wa _ t0)).trans t0,(hb.cell (World.block_lt_of_cell? wa _ t1)).trans t1,t2.trans (hb.mono t2.size)⟩
      refine hK.out _ _ hHeld (fun hHeld=>?_)
      clear hK K hb t0 t1 t2
      refine norm_ (a':=?_) ?_ ?_
      rotate_left
      · show Act.put _ (some 25) _=_
        simp only [Act.put,List.setIfInBounds_toArray,List.set_cons_zero,List.set_cons_succ,i64_w,i32_w]
        rfl
      refine one_ (i:=6) (N:=some 26) #[true,true,true,true,true,true,true,false] rfl rfl (by kernel_rfl) (by decide) (fun K hK=>?_)
      refine Kd.R_lit_step Kd.string (w0:=wb) wb.heap.size 9 (by rfl) (N:=26) rfl (xs:=[(lit [101,110,117,109,32]),e.f0,(lit [32,123,32]),(strOf (joinF e.f1 (lit [44,32]))),(lit [32,125])]) (inner:=[.string (lit [101,110,117,109,32]),.string e.f0,.string (lit [32,123,32]),.string (strOf (joinF e.f1 (lit [44,32]))),.string (lit [32,125])]) (ok:=fun _=>True) (okp:=fun _=>True) ?hrD ?hpD (fun _ hk=>hk) trivial (Below.refl _ _) (Nat.le_refl _) (by simp) ?_
      case hrD=>first|(go_simp;done)|(go_simp;rfl)
      case hpD=>exact Reps.one (show Kd.M Kd.string _ _ _ ((lit [101,110,117,109,32])) [.string ((lit [101,110,117,109,32]))] from rfl) (Reps.one (show Kd.M Kd.string _ _ _ (e.f0) [.string (e.f0)] from rfl) (Reps.one (show Kd.M Kd.string _ _ _ ((lit [32,123,32])) [.string ((lit [32,123,32]))] from rfl) (Reps.one (show Kd.M Kd.string _ _ _ ((strOf (joinF e.f1 (lit [44,32])))) [.string ((strOf (joinF e.f1 (lit [44,32]))))] from rfl) (Reps.one (show Kd.M Kd.string _ _ _ ((lit [32,125])) [.string ((lit [32,125]))] from rfl) (Reps.none _ _)))))
      intro vrow wc hrow hb hg_ hnew_
      clear hg_ hnew_
      obtain ⟨Ao,co,rfl⟩:=Kd.R_slice hrow
      have hro:=(Kd.R_reads' hrow).2
      obtain ⟨t0,t1,t2⟩:=hHeld
      have hHeld:wc.cell? ⟨gb,0,none⟩=some (.string e.f0)∧wc.cell? ⟨gb,1,none⟩=some (.slice A5 e.f1.length c5)∧Below w9.heap.size w9 wc:=⟨(hb.cell (World.block_lt_of_cell? wb _ t0)).trans t0,(hb.cell (World.block_lt_of_cell? wb _ t1)).trans t1,t2.trans (hb.mono t2.size)⟩
      refine hK.out _ _ hHeld (fun hHeld=>?_)
      clear hK K hb t0 t1 t2
      clear hrow
      refine norm_ (a':=?_) ?_ ?_
      rotate_left
      · show Act.put _ (some 26) _=_
        simp only [Act.put,List.setIfInBounds_toArray,List.set_cons_zero,List.set_cons_succ,i64_w,i32_w]
        rfl
      have e4:Below wr.heap.size wr wc:=HE9.out.trans (hHeld.2.2.mono HE9.out.size)
      refine last_ (i:=7) (N:=some 27) #[true,true,true,true,true,true,true,true] rfl rfl (by kernel_rfl) (by decide) (fun K hK=>?_)
      refine goes_ Tryd.func38 (by kernel_rfl) rfl #[.pointer (some ⟨b,0,none⟩),.slice Ao 5 co] (by rfl) rfl rfl (by (try simp only [List.map_toArray,List.map_cons,List.map_nil]);first|done|rfl) ?_
      refine (line_pr w.heap.size b (enumsB (ens.take i)) 0 Ao co [(lit [101,110,117,109,32]),e.f0,(lit [32,123,32]),(strOf (joinF e.f1 (lit [44,32]))),(lit [32,125])] wc (HPi.out.kept e4) hro.2 hro.1 (by decide) (by decide) (by simp) HLN.out (Nat.le_trans HBi.out.size e4.size)).mono ?_
      rintro e_ wd ⟨rfl,hP',hb',hs'⟩
      have HPn:Aside0 (IsPr w.heap.size b (Lib.byteCells ((enumsB (ens.take i))++lineB 0 [(lit [101,110,117,109,32]),e.f0,(lit [32,123,32]),(strOf (joinF e.f1 (lit [44,32]))),(lit [32,125])])) 0 wd):=⟨.inr hP'⟩
      have HBn:=Aside0.mk (HBi.out.trans ((e4.mono HBi.out.size).trans hb'))
      have HSn:=Aside0.mk (HSi.out.trans ((Beside.of e4).trans hs'))
      clear hP' hb' hs' e4 hro hHeld
      refine ⟨_,rfl,?_⟩
      refine hK.out _ _ ?_
      refine done_ (by kernel_rfl) ?_
      clear hK K
      go_wp2
      go_roundg k1
      case measure=>omega
      case rel=>exact ⟨i+1,congrArg (Value.int IntKind.i64) HWI.out,⟨by have:=HIq.out;omega,by omega⟩,⟨by rw [HNX.out];exact HPn.out⟩,HBn,HSn⟩
    · have cA:decide ((i:Int) < (ens.length:Int))=false:=decide_eq_false (by omega)
      have cB:decide (i < ens.length)=false:=decide_eq_false (by omega)
      have cC:(i < ens.length)=False:=eq_false (by omega)
      rw [List.take_of_length_le (by omega)] at HPi
      have BP:=(HSi.out gA _ _ _ HNE.out (by decide) BKP.out)
      have p0:wr.cell? ⟨gA,0,none⟩=some (.slice A0 ens.length c0):=by rw [Lib.cell_of_heap BP];rfl
      have p1:wr.cell? ⟨gA,1,none⟩=some (.slice A1 vs.length c1):=by rw [Lib.cell_of_heap BP];rfl
      have p2:wr.cell? ⟨gA,2,none⟩=some (.slice A2 (convPs ps).length c2):=by rw [Lib.cell_of_heap BP];rfl
      have p3:wr.cell? ⟨gA,3,none⟩=some (.slice A3 (convSs m).length c3):=by rw [Lib.cell_of_heap BP];rfl
      clear BP
      have HP1:=HPi
      have HB1:=HBi
      have HS1:=HSi
      clear HPi HBi HSi cA cB cC
      go_wp2
      clear p0 p1 p2 p3
      go_loopg [32] (vs.length+1) (fun kq v32 w'=>∃ i:Nat,v32=.int .i64 (i:Int)∧Aside0 (i+kq=vs.length+1∧i≤vs.length)∧Aside0 (IsPr w.heap.size b (Lib.byteCells (enumsB ens++varsB (vs.take i))) 0 w')∧Aside0 (Below w.heap.size w w')∧Aside0 (Beside b w2 w'))
      case atStart=>exact ⟨0,rfl,⟨by omega,by omega⟩,⟨by rw [List.take_zero,varsB,List.append_nil];exact HP1.out⟩,HB1,HS1⟩
      case round=>
        clear HP1 HB1 HS1
        obtain ⟨i,rfl,HIq,HPi,HBi,HSi⟩:=hrel
        by_cases hi:i < vs.length
        · have cc:decide ((i:Int) < (vs.length:Int))=true:=decide_eq_true (by omega)
          cases gk with
          | zero=>exact absurd HIq.out (by omega)
          | succ k1=>
          obtain ⟨ad,rfl,x0,x1,x2⟩:=at_T80 HC1.out (i:Int) (by omega) (by omega)
          have hm:vs[i] ∈ vs:=List.getElem_mem hi
          rw [rd_vs hi] at x0 x1 x2
          obtain ⟨hnx,hle⟩:=take_app varsB varsB_app vs i hi
          have hje:=HI.out _ hm
          generalize hse:vs[i]=v at x0 x1 x2 hnx hle hje hm
          clear hse hm
          simp only [Int.toNat_natCast] at x0 x1 x2
          replace x0:=(HBi.out.cell (World.block_lt_of_cell? w _ x0)).trans x0
          replace x1:=(HBi.out.cell (World.block_lt_of_cell? w _ x1)).trans x1
          replace x2:=(HBi.out.cell (World.block_lt_of_cell? w _ x2)).trans x2
          have p0:(0≤(i:Int))=True:=eq_true (by omega)
          have q0:((i:Int) < (vs.length:Int))=True:=eq_true (by omega)
          rw [varsB,varsB,List.append_nil] at hnx
          have hln:(enumsB ens++varsB (vs.take i)).length+(varB v).length≤140737488355328:=by have h1:=HLEN.out;rw [hnx] at hle;simp only [List.length_append] at hle h1 ⊢;omega
          have HNX:=Aside0.mk hnx
          have HWI:Aside0 (wrap64 ((i:Int)+1)=((i+1:Nat):Int)):=⟨by rw [wrap64_small (by omega) (by have:=HV.out;omega)];rfl⟩
          have hrs:=itoaB_size hje
          have his:=itoa_some v.f2 hje
          clear hnx hle hje
          unfold varB at hln HNX
          by_cases hL:0 < v.f2
          · rw [manyT,if_pos hL] at hln HNX
            generalize itoaB v.f2=r at hln HNX hrs his
            have HLN:=Aside0.mk hln
            have HIS:=Aside0.mk his
            have cL:decide (0 < v.f2)=true:=decide_eq_true hL
            have k1_:(9223372036854775807 < 1+r.size)=False:=eq_false (by omega)
            have k2_:(9223372036854775807 < 1+r.size+1)=False:=eq_false (by omega)
            clear hln his hL hrs
            go_wp2_with (first|((with_reducible refine gate_dst (N:=7) rfl ?_);refine box_event ?hgV (N:=7) ?hdV (cs:=#[.string (⟨#[]⟩:ByteArray),.string (⟨#[]⟩:ByteArray),.int .i64 0]) (t:=80) ?hrV ?_;(case hdV=>rfl);(case hgV=>rfl);(case hrV=>first|(go_simp;done)|(go_simp;rfl));intro gb hg w8 hbox hb;have BKV:=Aside0.mk hbox;have GWV:=Aside0.mk hg;have HBV:=Aside0.mk hb;clear hb hbox hg;have zV0:w8.cell? ⟨gb,0,none⟩=some (.string (⟨#[]⟩:ByteArray)):=(blk_cell BKV.out 0).trans rfl;have yV0:=blk_frozen BKV.out 0;have zV1:w8.cell? ⟨gb,1,none⟩=some (.string (⟨#[]⟩:ByteArray)):=(blk_cell BKV.out 1).trans rfl;have yV1:=blk_frozen BKV.out 1;have zV2:w8.cell? ⟨gb,2,none⟩=some (.int .i64 0):=(blk_cell BKV.out 2).trans rfl;have yV2:=blk_frozen BKV.out 2))
            have hge:wr.heap.size≤gb:=Nat.le_of_eq GWV.out.symm
            have BK9:=blk_set (blk_set (blk_set BKV.out 0 (.string v.f0)) 1 (.string v.f1)) 2 (.int .i64 v.f2)
            have e9:Below wr.heap.size wr (((w8.setCell ⟨gb,0,none⟩ (.string v.f0)).setCell ⟨gb,1,none⟩ (.string v.f1)).setCell ⟨gb,2,none⟩ (.int .i64 v.f2)):=((HBV.out.setCell (p:=⟨gb,0,none⟩) hge _).setCell (p:=⟨gb,1,none⟩) hge _).setCell (p:=⟨gb,2,none⟩) hge _
            clear zV0 zV1 zV2 yV0 yV1 yV2 BKV HBV GWV x0 x1 x2
            generalize (((w8.setCell ⟨gb,0,none⟩ (.string v.f0)).setCell ⟨gb,1,none⟩ (.string v.f1)).setCell ⟨gb,2,none⟩ (.int .i64 v.f2))=w9 at BK9 e9 ⊢
            refine (strconv_Itoa_31.calls v.f2 r w9 (hT.later (HBi.out.trans (e9.mono HBi.out.size))) HIS.out).mono ?_
            rintro e_ wb ⟨rfl,hb⟩
            have e9:=e9.trans (hb.mono e9.size)
            have BK9:=blk_below BK9 hb
            have z0:wb.cell? ⟨gb,0,none⟩=some (.string v.f0):=(blk_cell BK9 0).trans rfl
            have z1:wb.cell? ⟨gb,1,none⟩=some (.string v.f1):=(blk_cell BK9 1).trans rfl
            have HE9:=Aside0.mk e9
            clear e9 BK9 hb
            go_wp2_with (first|((with_reducible refine gate_dst (N:=50) rfl ?_);(try (refine gate_guard (by rfl) ?_;dsimp only));refine Kd.R_lit Kd.string (w0:=_) _ 9 ?hg_ (N:=50) ?hd_ (xs:=[(lit [118,97,114,32]),v.f0,(lit [58,32]),v.f1,((lit [91]++r)++lit [93]),(lit [59])]) (inner:=[.string (lit [118,97,114,32]),.string v.f0,.string (lit [58,32]),.string v.f1,.string ((lit [91]++r)++lit [93]),.string (lit [59])]) (ok:=fun _=>True) (okp:=fun _=>True) ?hr_ ?hp_ (fun _ hk=>hk) trivial (Below.refl _ _) (Nat.le_refl _) (by simp) ?_;(case hd_=>rfl);(case hg_=>rfl);(case hr_=>first|(go_simp;done)|(go_simp;rfl));(case hp_=>exact Reps.one (show Kd.M Kd.string _ _ _ ((lit [118,97,114,32])) [.string ((lit [118,97,114,32]))] from rfl) (Reps.one (show Kd.M Kd.string _ _ _ (v.f0) [.string (v.f0)] from rfl) (Reps.one (show Kd.M Kd.string _ _ _ ((lit [58,32])) [.string ((lit [58,32]))] from rfl) (Reps.one (show Kd.M Kd.string _ _ _ (v.f1) [.string (v.f1)] from rfl) (Reps.one (show Kd.M Kd.string _ _ _ (((lit [91]++r)++lit [93])) [.string (((lit [91]++r)++lit [93]))] from rfl) (Reps.one (show Kd.M Kd.string _ _ _ ((lit [59])) [.string ((lit [59]))] from rfl) (Reps.none _ _)))))));intro vrow wc hrow hb hg_ hnew_;have HL:=Aside0.mk hb;clear hg_ hnew_ hb;obtain ⟨Ao,co,rfl⟩:=Kd.R_slice hrow;have hro:=(Kd.R_reads' hrow).2;have HR:=Aside0.mk hro;clear hro hrow))
            have e4:=HE9.out.trans (HL.out.mono HE9.out.size)
            clear HE9 HL z0 z1
            refine (line_pr w.heap.size b (enumsB ens++varsB (vs.take i)) 0 Ao co [(lit [118,97,114,32]),v.f0,(lit [58,32]),v.f1,((lit [91]++r)++lit [93]),(lit [59])] wc (HPi.out.kept e4) HR.out.2 HR.out.1 (by decide) (by decide) (by simp) HLN.out (Nat.le_trans HBi.out.size e4.size)).mono ?_
            rintro e_ wd ⟨rfl,hP',hb',hs'⟩
            have HPn:Aside0 (IsPr w.heap.size b (Lib.byteCells ((enumsB ens++varsB (vs.take i))++lineB 0 [(lit [118,97,114,32]),v.f0,(lit [58,32]),v.f1,((lit [91]++r)++lit [93]),(lit [59])])) 0 wd):=⟨.inr hP'⟩
            have HBn:=Aside0.mk (HBi.out.trans ((e4.mono HBi.out.size).trans hb'))
            have HSn:=Aside0.mk (HSi.out.trans ((Beside.of e4).trans hs'))
            clear hP' hb' hs' e4 HR
            go_wp2
            go_roundg k1
            case measure=>omega
            case rel=>exact ⟨i+1,congrArg (Value.int IntKind.i64) HWI.out,⟨by have:=HIq.out;omega,by omega⟩,⟨by rw [HNX.out];simpa only [List.append_assoc] using HPn.out⟩,HBn,HSn⟩
          · rw [manyT,if_neg hL] at hln HNX
            have HLN:=Aside0.mk hln
            have cL:decide (0 < v.f2)=false:=decide_eq_false hL
            clear hln his hL hrs
            go_wp2_with (first|((with_reducible refine gate_dst (N:=7) rfl ?_);refine box_event ?hgV (N:=7) ?hdV (cs:=#[.string (⟨#[]⟩:ByteArray),.string (⟨#[]⟩:ByteArray),.int .i64 0]) (t:=80) ?hrV ?_;(case hdV=>rfl);(case hgV=>rfl);(case hrV=>first|(go_simp;done)|(go_simp;rfl));intro gb hg w8 hbox hb;have BKV:=Aside0.mk hbox;have GWV:=Aside0.mk hg;have HBV:=Aside0.mk hb;clear hb hbox hg;have zV0:w8.cell? ⟨gb,0,none⟩=some (.string (⟨#[]⟩:ByteArray)):=(blk_cell BKV.out 0).trans rfl;have yV0:=blk_frozen BKV.out 0;have zV1:w8.cell? ⟨gb,1,none⟩=some (.string (⟨#[]⟩:ByteArray)):=(blk_cell BKV.out 1).trans rfl;have yV1:=blk_frozen BKV.out 1;have zV2:w8.cell? ⟨gb,2,none⟩=some (.int .i64 0):=(blk_cell BKV.out 2).trans rfl;have yV2:=blk_frozen BKV.out 2)|((with_reducible refine gate_dst (N:=50) rfl ?_);(try (refine gate_guard (by rfl) ?_;dsimp only));refine Kd.R_lit Kd.string (w0:=_) _ 9 ?hg_ (N:=50) ?hd_ (xs:=[(lit [118,97,114,32]),v.f0,(lit [58,32]),v.f1,(lit []),(lit [59])]) (inner:=[.string (lit [118,97,114,32]),.string v.f0,.string (lit [58,32]),.string v.f1,.string (lit []),.string (lit [59])]) (ok:=fun _=>True) (okp:=fun _=>True) ?hr_ ?hp_ (fun _ hk=>hk) trivial (Below.refl _ _) (Nat.le_refl _) (by simp) ?_;(case hd_=>rfl);(case hg_=>rfl);(case hr_=>first|(go_simp;done)|(go_simp;rfl));(case hp_=>exact Reps.one (show Kd.M Kd.string _ _ _ ((lit [118,97,114,32])) [.string ((lit [118,97,114,32]))] from rfl) (Reps.one (show Kd.M Kd.string _ _ _ (v.f0) [.string (v.f0)] from rfl) (Reps.one (show Kd.M Kd.string _ _ _ ((lit [58,32])) [.string ((lit [58,32]))] from rfl) (Reps.one (show Kd.M Kd.string _ _ _ (v.f1) [.string (v.f1)] from rfl) (Reps.one (show Kd.M Kd.string _ _ _ ((lit [])) [.string ((lit []))] from rfl) (Reps.one (show Kd.M Kd.string _ _ _ ((lit [59])) [.string ((lit [59]))] from rfl) (Reps.none _ _)))))));intro vrow wc hrow hb hg_ hnew_;have HL:=Aside0.mk hb;clear hg_ hnew_ hb;obtain ⟨Ao,co,rfl⟩:=Kd.R_slice hrow;have hro:=(Kd.R_reads' hrow).2;have HR:=Aside0.mk hro;clear hro hrow))
            have hge:wr.heap.size≤gb:=Nat.le_of_eq GWV.out.symm
            have e9:Below wr.heap.size wr (((w8.setCell ⟨gb,0,none⟩ (.string v.f0)).setCell ⟨gb,1,none⟩ (.string v.f1)).setCell ⟨gb,2,none⟩ (.int .i64 v.f2)):=((HBV.out.setCell (p:=⟨gb,0,none⟩) hge _).setCell (p:=⟨gb,1,none⟩) hge _).setCell (p:=⟨gb,2,none⟩) hge _
            have e4:=e9.trans (HL.out.mono e9.size)
            clear zV0 zV1 zV2 yV0 yV1 yV2 BKV HBV GWV x0 x1 x2 e9 HL
            refine (line_pr w.heap.size b (enumsB ens++varsB (vs.take i)) 0 Ao co [(lit [118,97,114,32]),v.f0,(lit [58,32]),v.f1,(lit []),(lit [59])] wc (HPi.out.kept e4) HR.out.2 HR.out.1 (by decide) (by decide) (by simp) HLN.out (Nat.le_trans HBi.out.size e4.size)).mono ?_
            rintro e_ wd ⟨rfl,hP',hb',hs'⟩
            have HPn:Aside0 (IsPr w.heap.size b (Lib.byteCells ((enumsB ens++varsB (vs.take i))++lineB 0 [(lit [118,97,114,32]),v.f0,(lit [58,32]),v.f1,(lit []),(lit [59])])) 0 wd):=⟨.inr hP'⟩
            have HBn:=Aside0.mk (HBi.out.trans ((e4.mono HBi.out.size).trans hb'))
            have HSn:=Aside0.mk (HSi.out.trans ((Beside.of e4).trans hs'))
            clear hP' hb' hs' e4 HR
            go_wp2
            go_roundg k1
            case measure=>omega
            case rel=>exact ⟨i+1,congrArg (Value.int IntKind.i64) HWI.out,⟨by have:=HIq.out;omega,by omega⟩,⟨by rw [HNX.out];simpa only [List.append_assoc] using HPn.out⟩,HBn,HSn⟩
        · have cA:decide ((i:Int) < (vs.length:Int))=false:=decide_eq_false (by omega)
          have cB:decide (i < vs.length)=false:=decide_eq_false (by omega)
          have cC:(i < vs.length)=False:=eq_false (by omega)
          rw [List.take_of_length_le (by omega)] at HPi
          have BP:=(HSi.out gA _ _ _ HNE.out (by decide) BKP.out)
          have p0:wr.cell? ⟨gA,0,none⟩=some (.slice A0 ens.length c0):=by rw [Lib.cell_of_heap BP];rfl
          have p1:wr.cell? ⟨gA,1,none⟩=some (.slice A1 vs.length c1):=by rw [Lib.cell_of_heap BP];rfl
          have p2:wr.cell? ⟨gA,2,none⟩=some (.slice A2 (convPs ps).length c2):=by rw [Lib.cell_of_heap BP];rfl
          have p3:wr.cell? ⟨gA,3,none⟩=some (.slice A3 (convSs m).length c3):=by rw [Lib.cell_of_heap BP];rfl
          clear BP
          have HP1:=HPi
          have HB1:=HBi
          have HS1:=HSi
          clear HPi HBi HSi cA cB cC
          go_wp2
          clear p0 p1 p2 p3
          go_loopg [56] (ps.length+1) (fun kq v56 w'=>∃ i:Nat,v56=.int .i64 (i:Int)∧Aside0 (i+kq=ps.length+1∧i≤ps.length)∧Aside0 (IsPr w.heap.size b (Lib.byteCells (enumsB ens++varsB vs++procsB (ps.take i))) 0 w')∧Aside0 (Below w.heap.size w w')∧Aside0 (Beside b w2 w'))
          case atStart=>exact ⟨0,rfl,⟨by omega,by omega⟩,⟨by rw [List.take_zero,procsB,List.append_nil];exact HP1.out⟩,HB1,HS1⟩
          case round=>
            clear HP1 HB1 HS1
            obtain ⟨i,rfl,HIq,HPi,HBi,HSi⟩:=hrel
            by_cases hi:i < ps.length
            · have cc:decide ((i:Int) < ((convPs ps).length:Int))=true:=decide_eq_true (by rw [convPs_len];omega)
              cases gk with
              | zero=>exact absurd HIq.out (by omega)
              | succ k1=>
              obtain ⟨ad,A5,c5,rfl,x0,x1,l1,g1⟩:=at_T66 HC2.out.1 (i:Int) (by omega) (by rw [convPs_len];omega)
              have hm:ps[i] ∈ ps:=List.getElem_mem hi
              rw [rd_ps hi] at x0 x1 l1 g1
              obtain ⟨hnx,hle⟩:=take_app procsB procsB_app ps i hi
              have hje:=HBd.out _ hm
              generalize hse:ps[i]=x at x0 x1 l1 g1 hnx hle hje hm
              clear hse hm
              simp only [Int.toNat_natCast,convP] at x0 x1 l1 g1
              replace x0:=(HBi.out.cell (World.block_lt_of_cell? w _ x0)).trans x0
              replace x1:=(HBi.out.cell (World.block_lt_of_cell? w _ x1)).trans x1
              have p0:(0≤(i:Int))=True:=eq_true (by omega)
              have q0:((i:Int) < ((convPs ps).length:Int))=True:=eq_true (by rw [convPs_len];omega)
              rw [procsB,procsB,List.append_nil] at hnx
              have hln:(enumsB ens++varsB vs++procsB (ps.take i)).length+(procB x).length≤140737488355328:=by have h1:=HLEN.out;rw [hnx] at hle;simp only [List.length_append] at hle h1 ⊢;omega
              unfold procB at hln hnx
              have HLN:=Aside0.mk hln
              have HNX:=Aside0.mk hnx
              have HG1:=Aside0.mk (And.intro g1 l1)
              have HJE:=Aside0.mk hje
              have HWI:Aside0 (wrap64 ((i:Int)+1)=((i+1:Nat):Int)):=⟨by rw [wrap64_small (by omega) (by have:=HPs.out;omega)];rfl⟩
              clear hnx hle hje hln l1 g1
              go_wp2_with (first|((with_reducible refine gate_dst (N:=10) rfl ?_);refine box_event ?hgX (N:=10) ?hdX (cs:=#[.string (⟨#[]⟩:ByteArray),.slice none 0 0]) (t:=66) ?hrX ?_;(case hdX=>rfl);(case hgX=>rfl);(case hrX=>first|(go_simp;done)|(go_simp;rfl));intro gb hg w8 hbox hb;have BKX:=Aside0.mk hbox;have GWX:=Aside0.mk hg;have HBX:=Aside0.mk hb;clear hb hbox hg;have zX0:w8.cell? ⟨gb,0,none⟩=some (.string (⟨#[]⟩:ByteArray)):=(blk_cell BKX.out 0).trans rfl;have yX0:=blk_frozen BKX.out 0;have zX1:w8.cell? ⟨gb,1,none⟩=some (.slice none 0 0):=(blk_cell BKX.out 1).trans rfl;have yX1:=blk_frozen BKX.out 1)|((with_reducible refine gate_dst (N:=63) rfl ?_);(try (refine gate_guard (by rfl) ?_;dsimp only));refine Kd.R_lit Kd.string (w0:=_) _ 9 ?hg_ (N:=63) ?hd_ (xs:=[(lit [112,114,111,99,32]),x.f0,(lit [32,123])]) (inner:=[.string (lit [112,114,111,99,32]),.string x.f0,.string (lit [32,123])]) (ok:=fun _=>True) (okp:=fun _=>True) ?hr_ ?hp_ (fun _ hk=>hk) trivial (Below.refl _ _) (Nat.le_refl _) (by simp) ?_;(case hd_=>rfl);(case hg_=>rfl);(case hr_=>first|(go_simp;done)|(go_simp;rfl));(case hp_=>exact Reps.one (show Kd.M Kd.string _ _ _ ((lit [112,114,111,99,32])) [.string ((lit [112,114,111,99,32]))] from rfl) (Reps.one (show Kd.M Kd.string _ _ _ (x.f0) [.string (x.f0)] from rfl) (Reps.one (show Kd.M Kd.string _ _ _ ((lit [32,123])) [.string ((lit [32,123]))] from rfl) (Reps.none _ _))));intro vrow wc hrow hb hg_ hnew_;have HL:=Aside0.mk hb;clear hg_ hnew_ hb;obtain ⟨Ao,co,rfl⟩:=Kd.R_slice hrow;have hro:=(Kd.R_reads' hrow).2;have HR:=Aside0.mk hro;clear hro hrow))
              have hge:wr.heap.size≤gb:=Nat.le_of_eq GWX.out.symm
              have BK9:=blk_set (blk_set BKX.out 0 (.string x.f0)) 1 (.slice A5 (convSs x.f1).length c5)
              have e9:Below wr.heap.size wr ((w8.setCell ⟨gb,0,none⟩ (.string x.f0)).setCell ⟨gb,1,none⟩ (.slice A5 (convSs x.f1).length c5)):=(HBX.out.setCell (p:=⟨gb,0,none⟩) hge _).setCell (p:=⟨gb,1,none⟩) hge _
              have e4:=e9.trans (HL.out.mono e9.size)
              have BK9:=Aside0.mk (blk_below BK9 HL.out)
              have hgb:gb≠b:=fun e=>by have:=HPi.out.lt;have:=GWX.out;omega
              clear zX0 zX1 yX0 yX1 BKX HBX GWX x0 x1 e9 HL hge
              have BQ:=Aside0.mk (fun (w':World) (h:Beside b wc w')=>h gb _ _ _ hgb (by decide) BK9.out)
              have HWC:=Aside0.mk (Below.refl wc.heap.size wc)
              refine (line_pr w.heap.size b (enumsB ens++varsB vs++procsB (ps.take i)) 0 Ao co [(lit [112,114,111,99,32]),x.f0,(lit [32,123])] wc (HPi.out.kept e4) HR.out.2 HR.out.1 (by decide) (by decide) (by simp) (by have h1:=HLN.out;simp only [List.length_append,Int.zero_add] at h1 ⊢;omega) (Nat.le_trans HBi.out.size e4.size)).mono ?_
              rintro e_ wd ⟨rfl,hP',hb',hs'⟩
              have HPA:Aside0 (IsPr w.heap.size b (Lib.byteCells ((enumsB ens++varsB vs++procsB (ps.take i))++lineB 0 [(lit [112,114,111,99,32]),x.f0,(lit [32,123])])) 0 wd):=⟨.inr hP'⟩
              have HBA:=Aside0.mk (HBi.out.trans ((e4.mono HBi.out.size).trans hb'))
              have HSA:=Aside0.mk (HSi.out.trans ((Beside.of e4).trans hs'))
              have hsx:=trivial
              have HWD:=hs'
              clear hP' hb' hs' e4 HR HPi HBi HSi
              have BQ2:=Aside0.mk (BQ.out wd HWD)
              clear BQ HWC hsx HWD BK9 hgb
              have z1:wd.cell? ⟨gb,1,none⟩=some (.slice A5 (convSs x.f1).length c5):=(blk_cell BQ2.out 1).trans rfl
              clear BQ2
              go_wp2_with fail
              clear z1
              refine (block_pr x.f1 (fun s _=>stmt_pr s) b ((enumsB ens++varsB vs++procsB (ps.take i))++lineB 0 [lit [112,114,111,99,32],x.f0,lit [32,123]]) 0 A5 c5 w wd HPA.out HBA.out hT HG1.out.1 HG1.out.2 HJE.out.1 (by decide) (by have:=HJE.out.2;omega) (by have h1:=HLN.out;simp only [List.length_append,Int.zero_add] at h1 ⊢;omega)).mono ?_
              rintro e_ we ⟨rfl,hP',hb',hs'⟩
              have HPB:Aside0 (IsPr w.heap.size b (Lib.byteCells (((enumsB ens++varsB vs++procsB (ps.take i))++lineB 0 [lit [112,114,111,99,32],x.f0,lit [32,123]])++stmtsB x.f1 1)) 0 we):=⟨hP'⟩
              have HBB:=Aside0.mk (HBA.out.trans hb')
              have HSB:=Aside0.mk (HSA.out.trans hs')
              clear hP' hb' hs' HPA HBA HSA
              go_wp2_with (first|((with_reducible refine gate_dst (N:=70) rfl ?_);(try (refine gate_guard (by rfl) ?_;dsimp only));refine Kd.R_lit Kd.string (w0:=_) _ 9 ?hg_ (N:=70) ?hd_ (xs:=[(lit [125])]) (inner:=[.string (lit [125])]) (ok:=fun _=>True) (okp:=fun _=>True) ?hr_ ?hp_ (fun _ hk=>hk) trivial (Below.refl _ _) (Nat.le_refl _) (by simp) ?_;(case hd_=>rfl);(case hg_=>rfl);(case hr_=>first|(go_simp;done)|(go_simp;rfl));(case hp_=>exact Reps.one (show Kd.M Kd.string _ _ _ ((lit [125])) [.string ((lit [125]))] from rfl) (Reps.none _ _));intro vrow wc hrow hb hg_ hnew_;have HL:=Aside0.mk hb;clear hg_ hnew_ hb;obtain ⟨Ao,co,rfl⟩:=Kd.R_slice hrow;have hro:=(Kd.R_reads' hrow).2;have HR:=Aside0.mk hro;clear hro hrow))
              have e4:=HL.out
              clear HL
              refine (line_pr w.heap.size b (((enumsB ens++varsB vs++procsB (ps.take i))++lineB 0 [lit [112,114,111,99,32],x.f0,lit [32,123]])++stmtsB x.f1 1) 0 Ao co [(lit [125])] wc (HPB.out.kept e4) HR.out.2 HR.out.1 (by decide) (by decide) (by simp) (by have h1:=HLN.out;simp only [List.length_append,Int.zero_add] at h1 ⊢;omega) (Nat.le_trans HBB.out.size e4.size)).mono ?_
              rintro e_ wf ⟨rfl,hP',hb',hs'⟩
              have HPC:Aside0 (IsPr w.heap.size b (Lib.byteCells ((((enumsB ens++varsB vs++procsB (ps.take i))++lineB 0 [lit [112,114,111,99,32],x.f0,lit [32,123]])++stmtsB x.f1 1)++lineB 0 [(lit [125])])) 0 wf):=⟨.inr hP'⟩
              have HBC:=Aside0.mk (HBB.out.trans ((e4.mono HBB.out.size).trans hb'))
              have HSC:=Aside0.mk (HSB.out.trans ((Beside.of e4).trans hs'))
              have hsx:=(Beside.of e4).trans hs'
              clear hP' hb' hs' e4 HR HPB HBB HSB
              clear hsx
              go_wp2
              go_roundg k1
              case measure=>omega
              case rel=>exact ⟨i+1,congrArg (Value.int IntKind.i64) HWI.out,⟨by have:=HIq.out;omega,by omega⟩,⟨by rw [HNX.out];simpa only [List.append_assoc] using HPC.out⟩,HBC,HSC⟩
            · have cA:decide ((i:Int) < ((convPs ps).length:Int))=false:=decide_eq_false (by rw [convPs_len];omega)
              have cB:decide (i < (convPs ps).length)=false:=decide_eq_false (by rw [convPs_len];omega)
              have cC:(i < (convPs ps).length)=False:=eq_false (by rw [convPs_len];omega)
              rw [List.take_of_length_le (by omega)] at HPi
              have HP1:=HPi
              have HB1:=HBi
              have HS1:=HSi
              clear HPi HBi HSi
              go_wp2_with (first|((with_reducible refine gate_dst (N:=74) rfl ?_);(try (refine gate_guard (by rfl) ?_;dsimp only));refine Kd.R_lit Kd.string (w0:=_) _ 9 ?hg_ (N:=74) ?hd_ (xs:=[(lit [109,97,105,110,32,123])]) (inner:=[.string (lit [109,97,105,110,32,123])]) (ok:=fun _=>True) (okp:=fun _=>True) ?hr_ ?hp_ (fun _ hk=>hk) trivial (Below.refl _ _) (Nat.le_refl _) (by simp) ?_;(case hd_=>rfl);(case hg_=>rfl);(case hr_=>first|(go_simp;done)|(go_simp;rfl));(case hp_=>exact Reps.one (show Kd.M Kd.string _ _ _ ((lit [109,97,105,110,32,123])) [.string ((lit [109,97,105,110,32,123]))] from rfl) (Reps.none _ _));intro vrow wc hrow hb hg_ hnew_;have HL:=Aside0.mk hb;clear hg_ hnew_ hb;obtain ⟨Ao,co,rfl⟩:=Kd.R_slice hrow;have hro:=(Kd.R_reads' hrow).2;have HR:=Aside0.mk hro;clear hro hrow))
              have e4:=HL.out
              clear HL
              refine (line_pr w.heap.size b (enumsB ens++varsB vs++procsB ps) 0 Ao co [(lit [109,97,105,110,32,123])] wc (HP1.out.kept e4) HR.out.2 HR.out.1 (by decide) (by decide) (by simp) (by have h1:=HLEN.out;simp only [List.length_append,Int.zero_add] at h1 ⊢;omega) (Nat.le_trans HB1.out.size e4.size)).mono ?_
              rintro e_ wd ⟨rfl,hP',hb',hs'⟩
              have HPA:Aside0 (IsPr w.heap.size b (Lib.byteCells ((enumsB ens++varsB vs++procsB ps)++lineB 0 [(lit [109,97,105,110,32,123])])) 0 wd):=⟨.inr hP'⟩
              have HBA:=Aside0.mk (HB1.out.trans ((e4.mono HB1.out.size).trans hb'))
              have HSA:=Aside0.mk (HS1.out.trans ((Beside.of e4).trans hs'))
              have hsx:=(Beside.of e4).trans hs'
              clear hP' hb' hs' e4 HR HP1 HB1 HS1
              have BP:=(HSA.out gA _ _ _ HNE.out (by decide) BKP.out)
              have p3:wd.cell? ⟨gA,3,none⟩=some (.slice A3 (convSs m).length c3):=by rw [Lib.cell_of_heap BP];rfl
              clear BP hsx
              go_wp2_with fail
              clear p3
              refine (block_pr m (fun s _=>stmt_pr s) b ((enumsB ens++varsB vs++procsB ps)++lineB 0 [lit [109,97,105,110,32,123]]) 0 A3 c3 w wd HPA.out HBA.out hT HC3.out.1 HC3.out.2 HM.out.1 (by decide) (by have:=HM.out.2;omega) (by have h1:=HLEN.out;simp only [List.length_append,Int.zero_add] at h1 ⊢;omega)).mono ?_
              rintro e_ we ⟨rfl,hP',hb',hs'⟩
              have HPB:Aside0 (IsPr w.heap.size b (Lib.byteCells (((enumsB ens++varsB vs++procsB ps)++lineB 0 [lit [109,97,105,110,32,123]])++stmtsB m 1)) 0 we):=⟨hP'⟩
              have HBB:=Aside0.mk (HBA.out.trans hb')
              have HSB:=Aside0.mk (HSA.out.trans hs')
              clear hP' hb' hs' HPA HBA HSA
              go_wp2_with (first|((with_reducible refine gate_dst (N:=81) rfl ?_);(try (refine gate_guard (by rfl) ?_;dsimp only));refine Kd.R_lit Kd.string (w0:=_) _ 9 ?hg_ (N:=81) ?hd_ (xs:=[(lit [125])]) (inner:=[.string (lit [125])]) (ok:=fun _=>True) (okp:=fun _=>True) ?hr_ ?hp_ (fun _ hk=>hk) trivial (Below.refl _ _) (Nat.le_refl _) (by simp) ?_;(case hd_=>rfl);(case hg_=>rfl);(case hr_=>first|(go_simp;done)|(go_simp;rfl));(case hp_=>exact Reps.one (show Kd.M Kd.string _ _ _ ((lit [125])) [.string ((lit [125]))] from rfl) (Reps.none _ _));intro vrow wc hrow hb hg_ hnew_;have HL:=Aside0.mk hb;clear hg_ hnew_ hb;obtain ⟨Ao,co,rfl⟩:=Kd.R_slice hrow;have hro:=(Kd.R_reads' hrow).2;have HR:=Aside0.mk hro;clear hro hrow))
              have e4:=HL.out
              clear HL
              refine (line_pr w.heap.size b (((enumsB ens++varsB vs++procsB ps)++lineB 0 [lit [109,97,105,110,32,123]])++stmtsB m 1) 0 Ao co [(lit [125])] wc (HPB.out.kept e4) HR.out.2 HR.out.1 (by decide) (by decide) (by simp) (by have h1:=HLEN.out;simp only [List.length_append,Int.zero_add] at h1 ⊢;omega) (Nat.le_trans HBB.out.size e4.size)).mono ?_
              rintro e_ wf ⟨rfl,hP',hb',hs'⟩
              have HPC:Aside0 (IsPr w.heap.size b (Lib.byteCells ((((enumsB ens++varsB vs++procsB ps)++lineB 0 [lit [109,97,105,110,32,123]])++stmtsB m 1)++lineB 0 [(lit [125])])) 0 wf):=⟨.inr hP'⟩
              have HBC:=Aside0.mk (HBB.out.trans ((e4.mono HBB.out.size).trans hb'))
              have HSC:=Aside0.mk (HSB.out.trans ((Beside.of e4).trans hs'))
              have hsx:=(Beside.of e4).trans hs'
              clear hP' hb' hs' e4 HR HPB HBB HSB
              clear hsx
              go_wp2_with fail
              refine (string_pr w.heap.size b _ 0 wf HPC.out (by intro h;have h2:=congrArg List.length h;simp only [lineB,List.length_append,List.length_cons,List.length_nil] at h2;omega)).mono ?_
              rintro e_ wg ⟨rfl,hb'⟩
              have HBD:=HBC.out.trans hb'
              go_wp2
              go_ret
              refine ⟨?_,HBD⟩
              rw [printB_eq]
              simp only [List.append_assoc]
              rfl
end Go.Proofs.YtnnbbeloifhofaaDoor.P
end
section
namespace Go.Proofs.YtnnbbeloifhofaaDoor.P
open Go Go.RowKit Go.Proofs
open Go.Proofs.YtnnbbeloifhofaaDoorW.PrintWords Go.Proofs.YtnnbbeloifhofaaDoorW.PrintLast Go.Proofs.YtnnbbeloifhofaaDoorW.PrintMore
set_option linter.unusedVariables false
mutual
def backE:TE→RE
  | ⟨a,b,n,l,t⟩=>⟨a,b,n,backEs l,t⟩
def backEs:List TE→List RE
  | []=>[]
  | x :: xs=>backE x :: backEs xs
end
mutual
def backS:TS→RS
  | ⟨a,b,e,l,m,t⟩=>⟨a,b,backEs e,backSs l,backSs m,t⟩
def backSs:List TS→List RS
  | []=>[]
  | x :: xs=>backS x :: backSs xs
end
def backP (x:TP):RP:=⟨x.f0,backSs x.f1⟩
def backPs (l:List TP):List RP:=l.map backP
mutual
theorem conv_backE : ∀ x:TE,convE (backE x)=x
  | ⟨a,b,n,l,t⟩=>by rw [backE,convE,conv_backEs l]
theorem conv_backEs : ∀ l:List TE,convEs (backEs l)=l
  | []=>rfl
  | x :: xs=>by rw [backEs,convEs,conv_backE x,conv_backEs xs]
end
mutual
theorem conv_backS : ∀ x:TS,convS (backS x)=x
  | ⟨a,b,e,l,m,t⟩=>by rw [backS,convS,conv_backEs e,conv_backSs l,conv_backSs m]
theorem conv_backSs : ∀ l:List TS,convSs (backSs l)=l
  | []=>rfl
  | x :: xs=>by rw [backSs,convSs,conv_backS x,conv_backSs xs]
end
theorem conv_backPs (l:List TP):convPs (backPs l)=l:=by
  induction l with
  | nil=>rfl
  | cons x xs ih=>
    show convP (backP x) :: convPs (backPs xs)=_
    rw [ih,convP,backP,conv_backSs]
def okIB (n:Int):Bool:=decide (-9223372036854775808≤n) && decide (n≤9223372036854775807)
theorem okIB_iff (n:Int):okIB n=true↔okI n:=by unfold okIB okI;simp
mutual
def okEB:RE→Bool
  | ⟨_,_,n,l,_⟩=>okIB n && okEsB l
def okEsB:List RE→Bool
  | []=>true
  | x :: xs=>okEB x && okEsB xs
end
mutual
def okSB:RS→Bool
  | ⟨_,_,e,a,m,_⟩=>okEsB e && okSsB a && okSsB m
def okSsB:List RS→Bool
  | []=>true
  | x :: xs=>okSB x && okSsB xs
end
mutual
theorem okEB_iff : ∀ x:RE,okEB x=true↔okE x
  | ⟨_,_,n,l,_⟩=>by rw [okEB,okE,Bool.and_eq_true,okIB_iff,okEsB_iff l]
theorem okEsB_iff : ∀ l:List RE,okEsB l=true↔okEs l
  | []=>by rw [okEsB,okEs];simp
  | x :: xs=>by rw [okEsB,okEs,Bool.and_eq_true,okEB_iff x,okEsB_iff xs]
end
mutual
theorem okSB_iff : ∀ x:RS,okSB x=true↔okS x
  | ⟨_,_,e,a,m,_⟩=>by rw [okSB,okS,Bool.and_eq_true,Bool.and_eq_true,okEsB_iff e,okSsB_iff a,okSsB_iff m,and_assoc]
theorem okSsB_iff : ∀ l:List RS,okSsB l=true↔okSs l
  | []=>by rw [okSsB,okSs];simp
  | x :: xs=>by rw [okSsB,okSs,Bool.and_eq_true,okSB_iff x,okSsB_iff xs]
end
def printOkB (ens:List ES) (vs:List VS) (ps:List RP) (m:List RS):Bool:=
  decide (ens.length≤1099511627776) && decide (vs.length≤1099511627776) && decide (ps.length≤1099511627776) && ens.all (fun e=>decide (e.f1.length≤140737488355328)) && vs.all (fun v=>okIB v.f2) &&
  ps.all (fun x=>okSsB x.f1 && decide (1+bulkSs x.f1≤1099511627770)) && okSsB m && decide (1+bulkSs m≤1099511627770) && decide ((printB ens vs ps m).length≤140737488355328)
theorem printOkB_iff (ens:List ES) (vs:List VS) (ps:List RP) (m:List RS):printOkB ens vs ps m=true↔PrintOk ens vs ps m:=by
  unfold printOkB
  simp only [Bool.and_eq_true,decide_eq_true_eq,List.all_eq_true,okIB_iff,okSsB_iff]
  constructor
  · rintro ⟨⟨⟨⟨⟨⟨⟨⟨h1,h2⟩,h3⟩,h4⟩,h5⟩,h6⟩,h7⟩,h8⟩,h9⟩
    exact ⟨h1,h2,h3,h4,h5,h6,h7,h8,h9⟩
  · rintro ⟨h1,h2,h3,h4,h5,h6,h7,h8,h9⟩
    exact ⟨⟨⟨⟨⟨⟨⟨⟨h1,h2⟩,h3⟩,h4⟩,h5⟩,h6⟩,h7⟩,h8⟩,h9⟩
def tree_Print.f (l0_0:List ES) (l0_1:List VS) (l0_2:List TP) (l0_3:List TS):Option ByteArray:=
  if printOkB l0_0 l0_1 (backPs l0_2) (backSs l0_3)=true then some (strOf (printB l0_0 l0_1 (backPs l0_2) (backSs l0_3))) else none
theorem tree_Print.calls (A0_0:Option Addr) (c0_0:Nat) (l0_0:List ES) (A0_1:Option Addr) (c0_1:Nat) (l0_1:List VS) (A0_2:Option Addr) (c0_2:Nat) (l0_2:List TP) (A0_3:Option Addr) (c0_3:Nat) (l0_3:List TS) (r:ByteArray) (w:World) (hT:TabT w)
    (hr0_0:Kd.C k79 w A0_0 l0_0.length l0_0) (hc0_0:l0_0.length≤c0_0) (hr0_1:Kd.C k80 w A0_1 l0_1.length l0_1) (hc0_1:l0_1.length≤c0_1) (hr0_2:Kd.C k66 w A0_2 l0_2.length l0_2) (hc0_2:l0_2.length≤c0_2) (hr0_3:Kd.C k76 w A0_3 l0_3.length l0_3) (hc0_3:l0_3.length≤c0_3)
    (h:tree_Print.f l0_0 l0_1 l0_2 l0_3=.some r) :
    Calls Tryd.prog 22 #[.agg #[.slice A0_0 l0_0.length c0_0,.slice A0_1 l0_1.length c0_1,.slice A0_2 l0_2.length c0_2,.slice A0_3 l0_3.length c0_3]] w fun e w'=>e=.returned (.string r)∧Below w.heap.size w w':=by
  unfold tree_Print.f at h
  split at h
  · rename_i hok
    rw [printOkB_iff] at hok
    obtain rfl:=Option.some.inj h
    have:=print_pr l0_0 l0_1 (backPs l0_2) (backSs l0_3) A0_0 A0_1 A0_2 A0_3 c0_0 c0_1 c0_2 c0_3 w hT hr0_0 hr0_1 (by rw [conv_backPs];exact hr0_2) (by rw [conv_backPs];exact hc0_2) (by rw [conv_backSs];exact hr0_3) (by rw [conv_backSs];exact hc0_3) hok
    rw [conv_backPs,conv_backSs] at this
    exact this
  · cases h
end Go.Proofs.YtnnbbeloifhofaaDoor.P
end
section
namespace Go.Proofs.YtnnbbeloifhofaaDoor.P
open Go Go.RowKit Go.Proofs
open Go.Proofs.YtnnbbeloifhofaaDoorW.PrintWords Go.Proofs.YtnnbbeloifhofaaDoorW.PrintLast Go.Proofs.YtnnbbeloifhofaaDoorW.PrintMore
set_option linter.unusedVariables false
abbrev REn:=S72
abbrev RV:=S56
def bulkN (l:List ByteArray):Nat:=(l.map fun x=>x.size+1).sum
def bulkEn (x:REn):Nat:=x.f0.size+bulkN x.f1+1
def bulkV (x:RV):Nat:=x.f0.size+x.f1.size+1
def bulkPr (x:RP):Nat:=x.f0.size+bulkSs x.f1+1
def bulkP (e:List REn) (v:List RV) (p:List RP) (m:List RS):Nat:=(e.map bulkEn).sum+(v.map bulkV).sum+(p.map bulkPr).sum+bulkSs m
theorem mem_sum {α:Type} (f:α→Nat) {l:List α} {x:α} (h:x ∈ l):f x≤(l.map f).sum:=by
  induction l with
  | nil=>cases h
  | cons y ys ih=>
    rw [List.map_cons,List.sum_cons]
    rcases List.mem_cons.1 h with e|h
    · subst e;omega
    · have:=ih h;omega
theorem len_sum {α:Type} (f:α→Nat) (h : ∀ x,1≤f x) (l:List α):l.length≤(l.map f).sum:=by
  induction l with
  | nil=>exact Nat.zero_le _
  | cons y ys ih=>rw [List.map_cons,List.sum_cons,List.length_cons];have:=h y;omega
theorem len_bulkN (l:List ByteArray):l.length≤bulkN l:=len_sum _ (fun x=>by omega) l
def convEn (x:REn):ES:=⟨x.f0,x.f1⟩
def convV (x:RV):VS:=⟨x.f0,x.f1,x.f2⟩
def okP (v:List RV) (p:List RP) (m:List RS):Prop:=(∀ x ∈ v,okI x.f2)∧(∀ x ∈ p,okSs x.f1)∧okSs m
end Go.Proofs.YtnnbbeloifhofaaDoor.P
end
section
namespace Go.Proofs.YtnnbbeloifhofaaDoor.P
open Go Go.RowKit Go.Proofs
open Go.Proofs.YtnnbbeloifhofaaDoorW.PrintWords
open Go.Proofs.YtnnbbeloifhofaaDoor.Rows (uptoBulk uptoBulkAll)
set_option linter.unusedVariables false
section
variable {H:Type} {enc:TypeId × Value→H} {w:World} {base:Nat} {spare:Nat→Bool} {held:Bool}
theorem rd_int {t:TypeId} {k:IntKind} {fuel:Nat} {cs:List Value} {r:DataW H × List MemPlace} (ht:Tryd.prog.underlying t=some (.int k)) (h:DataW.trod enc Tryd.prog w base spare held fuel t cs=some r) :
    ∃ x:Int,cs=[.int k x]∧r.1=.lit (.int k x)∧(Lit.int k x).wf=true:=by
  obtain ⟨x,hc,hr,hw⟩:=DataW.trod_int ht h
  exact ⟨x,hc,by rw [hr],hw⟩
theorem rd_str {t:TypeId} {fuel:Nat} {cs:List Value} {r:DataW H × List MemPlace} (ht:Tryd.prog.underlying t=some .string) (h:DataW.trod enc Tryd.prog w base spare held fuel t cs=some r) :
    ∃ x:ByteArray,cs=[.string x]∧r.1=.lit (.string x.data.toList):=by
  obtain ⟨x,hc,hr,hw⟩:=DataW.trod_string ht h
  exact ⟨x,hc,by rw [hr]⟩
theorem rd_row {α:Type} {d:Kd α} {t e:TypeId} {R:α→DataW H→Prop} {fuel:Nat} {cs:List Value} {r:DataW H × List MemPlace} (ht:Tryd.prog.underlying t=some (.slice e)) (hc:Tryd.prog.cellsOf e=d.sz)
    (hel : ∀ n,n < fuel→∀ (cs:List Value) (r:DataW H × List MemPlace),DataW.trod enc Tryd.prog w base spare held n e cs=some r→∃ x,d.K w x cs∧R x r.1)
    (h:DataW.trod enc Tryd.prog w base spare held fuel t cs=some r) :
    ∃ (xs:List α) (A:Option Addr) (c:Nat),cs=[.slice A xs.length c]∧xs.length≤c∧d.C w A xs.length xs∧
      ((r.1=.nil∧xs=[])∨∃ ys zs,r.1=.slice ys zs∧ys.length=xs.length∧∀ (i:Nat) x y,xs[i]?=some x→ys[i]?=some y→R x y):=by
  rcases DataW.trod_slice ht h with ⟨rfl,rfl⟩ | ⟨a,len,cap,elems,rest,n,rfl,rfl,rfl,hb,hl,hm,hlen,hel2,hsp,hns⟩
  · exact ⟨[],none,0,rfl,Nat.le_refl _,Kd.C_nil _ _,.inl ⟨rfl,rfl⟩⟩
  · have hx : ∀ i,i < len→∃ x cs' q,w.cells? base (a.add (i * Tryd.prog.cellsOf e)) (Tryd.prog.cellsOf e)=some cs'∧d.K w x cs'∧elems[i]?=some q∧R x q.1:=fun i h=>by
      have h1:=hel2 i h
      rw [List.getElem?_eq_getElem (by omega)] at h1
      obtain ⟨cs',hcs,htr⟩:=Option.bind_eq_some_iff.1 h1
      obtain ⟨x,hK,hR⟩:=hel n (by omega) cs' _ htr
      exact ⟨x,cs',_,hcs,hK,List.getElem?_eq_getElem (by omega),hR⟩
    obtain ⟨xs,hlx,hxs⟩ : ∃ xs:List α,xs.length=len∧∀ i x,xs[i]?=some x→∃ cs' q,w.cells? base (a.add (i * Tryd.prog.cellsOf e)) (Tryd.prog.cellsOf e)=some cs'∧d.K w x cs'∧elems[i]?=some q∧R x q.1:=by
      clear hel2 h hm hl hlen hsp hns
      induction len with
      | zero=>exact ⟨[],rfl,fun i x h=>by simp at h⟩
      | succ k ih=>
        obtain ⟨xs,h1,h2⟩:=ih (fun i h=>hx i (by omega))
        obtain ⟨x,hxk⟩:=hx k (by omega)
        refine ⟨xs++[x],by simp [h1],fun i y hy=>?_⟩
        rcases Nat.lt_or_ge i k with hlt|hge
        · rw [List.getElem?_append_left (by omega)] at hy;exact h2 i y hy
        · rw [List.getElem?_append_right (by omega)] at hy
          have:i - xs.length=0:=by
            rcases Nat.eq_zero_or_pos (i - xs.length) with h|h
            · exact h
            · rw [List.getElem?_eq_none (by simp;omega)] at hy;cases hy
          obtain rfl:i=k:=by omega
          rw [this] at hy
          simp at hy
          subst hy
          exact hxk
    refine ⟨xs,some a,cap,by rw [hlx],by omega,?_,.inr ⟨_,_,rfl,by simp [hlx,hlen],?_⟩⟩
    · refine ⟨rfl,by unfold maxLen at hm;omega,fun _=>⟨a,rfl,fun j p hj=>?_⟩⟩
      obtain ⟨cs',_,hcs,hK,_⟩:=hxs j p hj
      obtain ⟨_,hl2,hcell⟩:=World.cells?_some hcs
      refine ⟨cs',by rw [hl2,hc],hK,fun i u hu=>?_⟩
      have hlt:i < Tryd.prog.cellsOf e:=by rw [← hl2];exact (List.getElem?_eq_some_iff.mp hu).1
      have:=hcell i hlt
      rw [Go.Deep.add_add a,hc] at this
      rw [this];exact hu
    · intro i x y hx hy
      obtain ⟨_,q,_,_,hq,hR⟩:=hxs i x hx
      rw [List.getElem?_map,hq] at hy
      obtain rfl:=Option.some.inj hy
      exact hR
theorem sum_bulk {α:Type} {f:α→Nat} {Q:α→Prop} : ∀ {xs:List α} {ys:List (DataW H)},ys.length=xs.length→(∀ (i:Nat) x y,xs[i]?=some x→ys[i]?=some y→f x≤uptoBulk y∧Q x)→(xs.map f).sum≤uptoBulkAll ys∧∀ x ∈ xs,Q x
  | [],ys,_,_=>⟨Nat.zero_le _,fun x h=>by cases h⟩
  | x :: xs,[],h,_=>by simp at h
  | x :: xs,y :: ys,h,hR=>by
    have h0:=hR 0 x y rfl rfl
    obtain ⟨h1,h2⟩:=sum_bulk (f:=f) (Q:=Q) (xs:=xs) (ys:=ys) (by simpa using h) (fun i a b ha hb=>hR (i+1) a b ha hb)
    refine ⟨?_,fun z hz=>?_⟩
    · rw [List.map_cons,List.sum_cons]
      show _≤uptoBulk y+uptoBulkAll ys
      omega
    · rcases List.mem_cons.1 hz with e|hz
      · exact e ▸ h0.2
      · exact h2 z hz
theorem rd_rowB {α:Type} {d:Kd α} {t e:TypeId} {f:α→Nat} {Q:α→Prop} {fuel:Nat} {cs:List Value} {r:DataW H × List MemPlace} (ht:Tryd.prog.underlying t=some (.slice e)) (hc:Tryd.prog.cellsOf e=d.sz)
    (hel : ∀ n,n < fuel→∀ (cs:List Value) (r:DataW H × List MemPlace),DataW.trod enc Tryd.prog w base spare held n e cs=some r→∃ x,d.K w x cs∧f x≤uptoBulk r.1∧Q x)
    (h:DataW.trod enc Tryd.prog w base spare held fuel t cs=some r) :
    ∃ (xs:List α) (A:Option Addr) (c:Nat),cs=[.slice A xs.length c]∧xs.length≤c∧d.C w A xs.length xs∧(xs.map f).sum+1≤uptoBulk r.1∧∀ x ∈ xs,Q x:=by
  obtain ⟨xs,A,c,h1,h2,h3,h4⟩:=rd_row (R:=fun x y=>f x≤uptoBulk y∧Q x) ht hc hel h
  refine ⟨xs,A,c,h1,h2,h3,?_⟩
  rcases h4 with ⟨e1,rfl⟩ | ⟨ys,zs,e1,hl,hR⟩
  · rw [e1];exact ⟨Nat.le_refl _,fun x h=>by cases h⟩
  · obtain ⟨h5,h6⟩:=sum_bulk hl hR
    rw [e1]
    refine ⟨?_,h6⟩
    show _≤uptoBulkAll ys+uptoBulkAll zs+1
    omega
theorem bulkEs_sum (l:List RE):bulkEs l=(l.map bulkE).sum:=by
  induction l with
  | nil=>rfl
  | cons x xs ih=>rw [bulkEs,List.map_cons,List.sum_cons,ih]
theorem bulkSs_sum (l:List RS):bulkSs l=(l.map bulkS).sum:=by
  induction l with
  | nil=>rfl
  | cons x xs ih=>rw [bulkSs,List.map_cons,List.sum_cons,ih]
theorem okEs_all {l:List RE} (h : ∀ x ∈ l,okE x):okEs l:=by
  induction l with
  | nil=>trivial
  | cons x xs ih=>exact ⟨h x (List.mem_cons_self ..),ih (fun y hy=>h y (List.mem_cons_of_mem _ hy))⟩
theorem okSs_all {l:List RS} (h : ∀ x ∈ l,okS x):okSs l:=by
  induction l with
  | nil=>trivial
  | cons x xs ih=>exact ⟨h x (List.mem_cons_self ..),ih (fun y hy=>h y (List.mem_cons_of_mem _ hy))⟩
theorem okI_wf {x:Int} (h:(Lit.int .i64 x).wf=true):okI x:=by
  have h2:IntKind.i64.min≤x∧x≤9223372036854775807:=by simpa [Lit.wf] using h
  rw [show IntKind.i64.min = -9223372036854775808 by decide +kernel] at h2
  exact h2
theorem str_bulk (x:ByteArray):uptoBulk (.lit (.string x.data.toList):DataW H)=x.size+1:=by
  show x.data.toList.length+1=_
  rw [Array.length_toList];rfl
theorem cRE:Tryd.prog.cellsOf 24=5:=by kernel_rfl
theorem cRS:Tryd.prog.cellsOf 29=6:=by kernel_rfl
theorem cREn:Tryd.prog.cellsOf 72=2:=by kernel_rfl
theorem cRV:Tryd.prog.cellsOf 56=3:=by kernel_rfl
theorem cRP:Tryd.prog.cellsOf 69=2:=by kernel_rfl
theorem cRG:Tryd.prog.cellsOf 43=4:=by kernel_rfl
theorem cI:Tryd.prog.cellsOf 3=1:=by kernel_rfl
theorem cS:Tryd.prog.cellsOf 9=1:=by kernel_rfl
theorem cLE:Tryd.prog.cellsOf 22=1:=by kernel_rfl
theorem cLS:Tryd.prog.cellsOf 27=1:=by kernel_rfl
theorem cLT:Tryd.prog.cellsOf 70=1:=by kernel_rfl
theorem cLEn:Tryd.prog.cellsOf 39=1:=by kernel_rfl
theorem cLV:Tryd.prog.cellsOf 40=1:=by kernel_rfl
theorem cLP:Tryd.prog.cellsOf 41=1:=by kernel_rfl
set_option maxRecDepth 100000 in
theorem readE : ∀ (fuel:Nat) (cs:List Value) (r:DataW H × List MemPlace),DataW.trod enc Tryd.prog w base spare held fuel 24 cs=some r→
    ∃ x:RE,(∃ A c,cs=[.string x.f0,.string x.f1,.int .i64 x.f2,.slice A x.f3.length c,.int .i64 x.f4]∧x.f3.length≤c∧Kd.C k24 w A x.f3.length x.f3)∧bulkE x≤uptoBulk r.1∧okE x:=by
  intro fuel
  induction fuel using Nat.strongRecOn with
  | _ fuel ih=>
  intro cs r h
  obtain ⟨xs,n,rfl,rfl,hl,hx,hf⟩:=DataW.trod_struct Tryd.underlying24 h
  rw [cRE] at hl
  match cs,hl with
  | [c0,c1,c2,c3,c4],_=>
    match xs,hx with
    | [y0,y1,y2,y3,y4],_=>
      have h0:DataW.trod enc Tryd.prog w base spare held n 9 [c0]=some y0:=by
        have h:DataW.trod enc Tryd.prog w base spare held n 9 (List.take (Tryd.prog.cellsOf 9) (List.drop 0 [c0,c1,c2,c3,c4]))=some y0:=hf 0 _ rfl
        rw [cS] at h;exact h
      have h1:DataW.trod enc Tryd.prog w base spare held n 9 [c1]=some y1:=by
        have h:DataW.trod enc Tryd.prog w base spare held n 9 (List.take (Tryd.prog.cellsOf 9) (List.drop 1 [c0,c1,c2,c3,c4]))=some y1:=hf 1 _ rfl
        rw [cS] at h;exact h
      have h2:DataW.trod enc Tryd.prog w base spare held n 3 [c2]=some y2:=by
        have h:DataW.trod enc Tryd.prog w base spare held n 3 (List.take (Tryd.prog.cellsOf 3) (List.drop 2 [c0,c1,c2,c3,c4]))=some y2:=hf 2 _ rfl
        rw [cI] at h;exact h
      have h3:DataW.trod enc Tryd.prog w base spare held n 22 [c3]=some y3:=by
        have h:DataW.trod enc Tryd.prog w base spare held n 22 (List.take (Tryd.prog.cellsOf 22) (List.drop 3 [c0,c1,c2,c3,c4]))=some y3:=hf 3 _ rfl
        rw [cLE] at h;exact h
      have h4:DataW.trod enc Tryd.prog w base spare held n 3 [c4]=some y4:=by
        have h:DataW.trod enc Tryd.prog w base spare held n 3 (List.take (Tryd.prog.cellsOf 3) (List.drop 4 [c0,c1,c2,c3,c4]))=some y4:=hf 4 _ rfl
        rw [cI] at h;exact h
      obtain ⟨x0,e0,d0⟩:=rd_str Tryd.underlying9 h0
      obtain ⟨x1,e1,d1⟩:=rd_str Tryd.underlying9 h1
      obtain ⟨x2,e2,d2,w2⟩:=rd_int Tryd.underlying3 h2
      obtain ⟨x3,A3,k3,e3,l3,g3,b3,o3⟩:=rd_rowB (d:=k24) (f:=bulkE) (Q:=okE) Tryd.underlying22 (by rw [cRE];rfl) (fun m hm cs r hr=>by
        obtain ⟨x,⟨A,c,rfl,hl,hC⟩,hb,ho⟩:=ih m (by omega) cs r hr
        exact ⟨x,k24_mk w x hl hC,hb,ho⟩) h3
      obtain ⟨x4,e4,d4,w4⟩:=rd_int Tryd.underlying3 h4
      simp only [List.cons.injEq,and_true] at e0 e1 e2 e3 e4
      subst e0 e1 e2 e3 e4
      refine ⟨⟨x0,x1,x2,x3,x4⟩,⟨A3,k3,rfl,l3,g3⟩,?_,⟨okI_wf w2,okEs_all o3⟩⟩
      rw [bulkE,bulkEs_sum]
      show _≤(uptoBulk y0.1+(uptoBulk y1.1+(uptoBulk y2.1+(uptoBulk y3.1+(uptoBulk y4.1+0)))))+1
      rw [d0,d1,str_bulk,str_bulk]
      omega
theorem readEs (fuel:Nat) (cs:List Value) (r:DataW H × List MemPlace) (h:DataW.trod enc Tryd.prog w base spare held fuel 22 cs=some r) :
    ∃ (l:List RE) (A:Option Addr) (c:Nat),cs=[.slice A l.length c]∧l.length≤c∧Kd.C k24 w A l.length l∧bulkEs l+1≤uptoBulk r.1∧okEs l:=by
  obtain ⟨x3,A3,k3,e3,l3,g3,b3,o3⟩:=rd_rowB (d:=k24) (f:=bulkE) (Q:=okE) Tryd.underlying22 (by rw [cRE];rfl) (fun m hm cs r hr=>by
    obtain ⟨x,⟨A,c,rfl,hl,hC⟩,hb,ho⟩:=readE m cs r hr
    exact ⟨x,k24_mk w x hl hC,hb,ho⟩) h
  exact ⟨x3,A3,k3,e3,l3,g3,by rw [bulkEs_sum];exact b3,okEs_all o3⟩
set_option maxRecDepth 100000 in
theorem readS : ∀ (fuel:Nat) (cs:List Value) (r:DataW H × List MemPlace),DataW.trod enc Tryd.prog w base spare held fuel 29 cs=some r→
    ∃ x:RS,Kd.K k29 w x cs∧bulkS x≤uptoBulk r.1∧okS x:=by
  intro fuel
  induction fuel using Nat.strongRecOn with
  | _ fuel ih=>
  intro cs r h
  obtain ⟨xs,n,rfl,rfl,hl,hx,hf⟩:=DataW.trod_struct Tryd.underlying29 h
  rw [cRS] at hl
  match cs,hl with
  | [c0,c1,c2,c3,c4,c5],_=>
    match xs,hx with
    | [y0,y1,y2,y3,y4,y5],_=>
      have h0:DataW.trod enc Tryd.prog w base spare held n 9 [c0]=some y0:=by
        have h:DataW.trod enc Tryd.prog w base spare held n 9 (List.take (Tryd.prog.cellsOf 9) (List.drop 0 [c0,c1,c2,c3,c4,c5]))=some y0:=hf 0 _ rfl
        rw [cS] at h;exact h
      have h1:DataW.trod enc Tryd.prog w base spare held n 9 [c1]=some y1:=by
        have h:DataW.trod enc Tryd.prog w base spare held n 9 (List.take (Tryd.prog.cellsOf 9) (List.drop 1 [c0,c1,c2,c3,c4,c5]))=some y1:=hf 1 _ rfl
        rw [cS] at h;exact h
      have h2:DataW.trod enc Tryd.prog w base spare held n 22 [c2]=some y2:=by
        have h:DataW.trod enc Tryd.prog w base spare held n 22 (List.take (Tryd.prog.cellsOf 22) (List.drop 2 [c0,c1,c2,c3,c4,c5]))=some y2:=hf 2 _ rfl
        rw [cLE] at h;exact h
      have h3:DataW.trod enc Tryd.prog w base spare held n 27 [c3]=some y3:=by
        have h:DataW.trod enc Tryd.prog w base spare held n 27 (List.take (Tryd.prog.cellsOf 27) (List.drop 3 [c0,c1,c2,c3,c4,c5]))=some y3:=hf 3 _ rfl
        rw [cLS] at h;exact h
      have h4:DataW.trod enc Tryd.prog w base spare held n 27 [c4]=some y4:=by
        have h:DataW.trod enc Tryd.prog w base spare held n 27 (List.take (Tryd.prog.cellsOf 27) (List.drop 4 [c0,c1,c2,c3,c4,c5]))=some y4:=hf 4 _ rfl
        rw [cLS] at h;exact h
      have h5:DataW.trod enc Tryd.prog w base spare held n 3 [c5]=some y5:=by
        have h:DataW.trod enc Tryd.prog w base spare held n 3 (List.take (Tryd.prog.cellsOf 3) (List.drop 5 [c0,c1,c2,c3,c4,c5]))=some y5:=hf 5 _ rfl
        rw [cI] at h;exact h
      obtain ⟨x0,e0,d0⟩:=rd_str Tryd.underlying9 h0
      obtain ⟨x1,e1,d1⟩:=rd_str Tryd.underlying9 h1
      obtain ⟨x2,A2,k2,e2,l2,g2,b2,o2⟩:=readEs n _ _ h2
      obtain ⟨x3,A3,k3,e3,l3,g3,b3,o3⟩:=rd_rowB (d:=k29) (f:=bulkS) (Q:=okS) Tryd.underlying27 (by rw [cRS];rfl) (fun m hm cs r hr=>ih m (by omega) cs r hr) h3
      obtain ⟨x4,A4,k4,e4,l4,g4,b4,o4⟩:=rd_rowB (d:=k29) (f:=bulkS) (Q:=okS) Tryd.underlying27 (by rw [cRS];rfl) (fun m hm cs r hr=>ih m (by omega) cs r hr) h4
      obtain ⟨x5,e5,d5,w5⟩:=rd_int Tryd.underlying3 h5
      simp only [List.cons.injEq,and_true] at e0 e1 e2 e3 e4 e5
      subst e0 e1 e2 e3 e4 e5
      refine ⟨⟨x0,x1,x2,x3,x4,x5⟩,k29_mk w ⟨x0,x1,x2,x3,x4,x5⟩ l2 g2 l3 g3 l4 g4,?_,⟨o2,okSs_all o3,okSs_all o4⟩⟩
      rw [bulkS,bulkSs_sum,bulkSs_sum]
      show _≤(uptoBulk y0.1+(uptoBulk y1.1+(uptoBulk y2.1+(uptoBulk y3.1+(uptoBulk y4.1+(uptoBulk y5.1+0))))))+1
      rw [d0,d1,str_bulk,str_bulk]
      omega
theorem readSs (fuel:Nat) (cs:List Value) (r:DataW H × List MemPlace) (h:DataW.trod enc Tryd.prog w base spare held fuel 27 cs=some r) :
    ∃ (l:List RS) (A:Option Addr) (c:Nat),cs=[.slice A l.length c]∧l.length≤c∧Kd.C k29 w A l.length l∧bulkSs l+1≤uptoBulk r.1∧okSs l:=by
  obtain ⟨x3,A3,k3,e3,l3,g3,b3,o3⟩:=rd_rowB (d:=k29) (f:=bulkS) (Q:=okS) Tryd.underlying27 (by rw [cRS];rfl) (fun m hm cs r hr=>readS m cs r hr) h
  exact ⟨x3,A3,k3,e3,l3,g3,by rw [bulkSs_sum];exact b3,okSs_all o3⟩
theorem readStrs (fuel:Nat) (cs:List Value) (r:DataW H × List MemPlace) (h:DataW.trod enc Tryd.prog w base spare held fuel 70 cs=some r) :
    ∃ (l:List ByteArray) (A:Option Addr) (c:Nat),cs=[.slice A l.length c]∧l.length≤c∧Kd.C Kd.string w A l.length l∧bulkN l+1≤uptoBulk r.1:=by
  obtain ⟨x3,A3,k3,e3,l3,g3,b3,o3⟩:=rd_rowB (d:=Kd.string) (f:=fun x:ByteArray=>x.size+1) (Q:=fun _=>True) Tryd.underlying70 (by rw [cS];rfl) (fun m hm cs r hr=>by
    obtain ⟨x,rfl,hd⟩:=rd_str Tryd.underlying9 hr
    exact ⟨x,rfl,by rw [hd,str_bulk];exact Nat.le_refl _,trivial⟩) h
  exact ⟨x3,A3,k3,e3,l3,g3,b3⟩
set_option maxRecDepth 100000 in
theorem readEn (fuel:Nat) (cs:List Value) (r:DataW H × List MemPlace) (h:DataW.trod enc Tryd.prog w base spare held fuel 72 cs=some r) :
    ∃ x:REn,Kd.K k72 w x cs∧bulkEn x≤uptoBulk r.1:=by
  obtain ⟨xs,n,rfl,rfl,hl,hx,hf⟩:=DataW.trod_struct Tryd.underlying72 h
  rw [cREn] at hl
  match cs,hl with
  | [c0,c1],_=>
    match xs,hx with
    | [y0,y1],_=>
      have h0:DataW.trod enc Tryd.prog w base spare held n 9 [c0]=some y0:=by
        have h:DataW.trod enc Tryd.prog w base spare held n 9 (List.take (Tryd.prog.cellsOf 9) (List.drop 0 [c0,c1]))=some y0:=hf 0 _ rfl
        rw [cS] at h;exact h
      have h1:DataW.trod enc Tryd.prog w base spare held n 70 [c1]=some y1:=by
        have h:DataW.trod enc Tryd.prog w base spare held n 70 (List.take (Tryd.prog.cellsOf 70) (List.drop 1 [c0,c1]))=some y1:=hf 1 _ rfl
        rw [cLT] at h;exact h
      obtain ⟨x0,e0,d0⟩:=rd_str Tryd.underlying9 h0
      obtain ⟨x1,A1,k1,e1,l1,g1,b1⟩:=readStrs n _ _ h1
      simp only [List.cons.injEq,and_true] at e0 e1
      subst e0 e1
      refine ⟨⟨x0,x1⟩,k72_mk w ⟨x0,x1⟩ l1 g1,?_⟩
      show x0.size+bulkN x1+1≤(uptoBulk y0.1+(uptoBulk y1.1+0))+1
      rw [d0,str_bulk]
      omega
set_option maxRecDepth 100000 in
theorem readV (fuel:Nat) (cs:List Value) (r:DataW H × List MemPlace) (h:DataW.trod enc Tryd.prog w base spare held fuel 56 cs=some r) :
    ∃ x:RV,Kd.K k56 w x cs∧bulkV x≤uptoBulk r.1∧okI x.f2:=by
  obtain ⟨xs,n,rfl,rfl,hl,hx,hf⟩:=DataW.trod_struct Tryd.underlying56 h
  rw [cRV] at hl
  match cs,hl with
  | [c0,c1,c2],_=>
    match xs,hx with
    | [y0,y1,y2],_=>
      have h0:DataW.trod enc Tryd.prog w base spare held n 9 [c0]=some y0:=by
        have h:DataW.trod enc Tryd.prog w base spare held n 9 (List.take (Tryd.prog.cellsOf 9) (List.drop 0 [c0,c1,c2]))=some y0:=hf 0 _ rfl
        rw [cS] at h;exact h
      have h1:DataW.trod enc Tryd.prog w base spare held n 9 [c1]=some y1:=by
        have h:DataW.trod enc Tryd.prog w base spare held n 9 (List.take (Tryd.prog.cellsOf 9) (List.drop 1 [c0,c1,c2]))=some y1:=hf 1 _ rfl
        rw [cS] at h;exact h
      have h2:DataW.trod enc Tryd.prog w base spare held n 3 [c2]=some y2:=by
        have h:DataW.trod enc Tryd.prog w base spare held n 3 (List.take (Tryd.prog.cellsOf 3) (List.drop 2 [c0,c1,c2]))=some y2:=hf 2 _ rfl
        rw [cI] at h;exact h
      obtain ⟨x0,e0,d0⟩:=rd_str Tryd.underlying9 h0
      obtain ⟨x1,e1,d1⟩:=rd_str Tryd.underlying9 h1
      obtain ⟨x2,e2,d2,w2⟩:=rd_int Tryd.underlying3 h2
      simp only [List.cons.injEq,and_true] at e0 e1 e2
      subst e0 e1 e2
      refine ⟨⟨x0,x1,x2⟩,k56_mk w ⟨x0,x1,x2⟩,?_,okI_wf w2⟩
      show x0.size+x1.size+1≤(uptoBulk y0.1+(uptoBulk y1.1+(uptoBulk y2.1+0)))+1
      rw [d0,d1,str_bulk,str_bulk]
      omega
set_option maxRecDepth 100000 in
theorem readPr (fuel:Nat) (cs:List Value) (r:DataW H × List MemPlace) (h:DataW.trod enc Tryd.prog w base spare held fuel 69 cs=some r) :
    ∃ x:RP,Kd.K k69 w x cs∧bulkPr x≤uptoBulk r.1∧okSs x.f1:=by
  obtain ⟨xs,n,rfl,rfl,hl,hx,hf⟩:=DataW.trod_struct Tryd.underlying69 h
  rw [cRP] at hl
  match cs,hl with
  | [c0,c1],_=>
    match xs,hx with
    | [y0,y1],_=>
      have h0:DataW.trod enc Tryd.prog w base spare held n 9 [c0]=some y0:=by
        have h:DataW.trod enc Tryd.prog w base spare held n 9 (List.take (Tryd.prog.cellsOf 9) (List.drop 0 [c0,c1]))=some y0:=hf 0 _ rfl
        rw [cS] at h;exact h
      have h1:DataW.trod enc Tryd.prog w base spare held n 27 [c1]=some y1:=by
        have h:DataW.trod enc Tryd.prog w base spare held n 27 (List.take (Tryd.prog.cellsOf 27) (List.drop 1 [c0,c1]))=some y1:=hf 1 _ rfl
        rw [cLS] at h;exact h
      obtain ⟨x0,e0,d0⟩:=rd_str Tryd.underlying9 h0
      obtain ⟨x1,A1,k1,e1,l1,g1,b1,o1⟩:=readSs n _ _ h1
      simp only [List.cons.injEq,and_true] at e0 e1
      subst e0 e1
      refine ⟨⟨x0,x1⟩,k69_mk w ⟨x0,x1⟩ l1 g1,?_,o1⟩
      show x0.size+bulkSs x1+1≤(uptoBulk y0.1+(uptoBulk y1.1+0))+1
      rw [d0,str_bulk]
      omega
set_option maxRecDepth 100000 in
theorem readProg (fuel:Nat) (cs:List Value) (r:DataW H × List MemPlace) (h:DataW.trod enc Tryd.prog w base spare held fuel 43 cs=some r) :
    ∃ (e:List REn) (v:List RV) (p:List RP) (m:List RS) (A0 A1 A2 A3:Option Addr) (c0 c1 c2 c3:Nat),cs=[.slice A0 e.length c0,.slice A1 v.length c1,.slice A2 p.length c2,.slice A3 m.length c3]∧
      Kd.C k72 w A0 e.length e∧e.length≤c0∧Kd.C k56 w A1 v.length v∧v.length≤c1∧Kd.C k69 w A2 p.length p∧p.length≤c2∧Kd.C k29 w A3 m.length m∧m.length≤c3∧
      bulkP e v p m≤uptoBulk r.1∧okP v p m:=by
  obtain ⟨xs,n,rfl,rfl,hl,hx,hf⟩:=DataW.trod_struct Tryd.underlying43 h
  rw [cRG] at hl
  match cs,hl with
  | [c0,c1,c2,c3],_=>
    match xs,hx with
    | [y0,y1,y2,y3],_=>
      have h0:DataW.trod enc Tryd.prog w base spare held n 39 [c0]=some y0:=by
        have h:DataW.trod enc Tryd.prog w base spare held n 39 (List.take (Tryd.prog.cellsOf 39) (List.drop 0 [c0,c1,c2,c3]))=some y0:=hf 0 _ rfl
        rw [cLEn] at h;exact h
      have h1:DataW.trod enc Tryd.prog w base spare held n 40 [c1]=some y1:=by
        have h:DataW.trod enc Tryd.prog w base spare held n 40 (List.take (Tryd.prog.cellsOf 40) (List.drop 1 [c0,c1,c2,c3]))=some y1:=hf 1 _ rfl
        rw [cLV] at h;exact h
      have h2:DataW.trod enc Tryd.prog w base spare held n 41 [c2]=some y2:=by
        have h:DataW.trod enc Tryd.prog w base spare held n 41 (List.take (Tryd.prog.cellsOf 41) (List.drop 2 [c0,c1,c2,c3]))=some y2:=hf 2 _ rfl
        rw [cLP] at h;exact h
      have h3:DataW.trod enc Tryd.prog w base spare held n 27 [c3]=some y3:=by
        have h:DataW.trod enc Tryd.prog w base spare held n 27 (List.take (Tryd.prog.cellsOf 27) (List.drop 3 [c0,c1,c2,c3]))=some y3:=hf 3 _ rfl
        rw [cLS] at h;exact h
      obtain ⟨x0,A0,k0,e0,l0,g0,b0,_⟩:=rd_rowB (d:=k72) (f:=bulkEn) (Q:=fun _=>True) Tryd.underlying39 (by rw [cREn];rfl) (fun m hm cs r hr=>by
        obtain ⟨x,hK,hb⟩:=readEn m cs r hr
        exact ⟨x,hK,hb,trivial⟩) h0
      obtain ⟨x1,A1,k1,e1,l1,g1,b1,o1⟩:=rd_rowB (d:=k56) (f:=bulkV) (Q:=fun x=>okI x.f2) Tryd.underlying40 (by rw [cRV];rfl) (fun m hm cs r hr=>readV m cs r hr) h1
      obtain ⟨x2,A2,k2,e2,l2,g2,b2,o2⟩:=rd_rowB (d:=k69) (f:=bulkPr) (Q:=fun x=>okSs x.f1) Tryd.underlying41 (by rw [cRP];rfl) (fun m hm cs r hr=>readPr m cs r hr) h2
      obtain ⟨x3,A3,k3,e3,l3,g3,b3,o3⟩:=readSs n _ _ h3
      simp only [List.cons.injEq,and_true] at e0 e1 e2 e3
      subst e0 e1 e2 e3
      refine ⟨x0,x1,x2,x3,A0,A1,A2,A3,k0,k1,k2,k3,rfl,g0,l0,g1,l1,g2,l2,g3,l3,?_,⟨o1,o2,o3⟩⟩
      unfold bulkP
      show _≤(uptoBulk y0.1+(uptoBulk y1.1+(uptoBulk y2.1+(uptoBulk y3.1+0))))+1
      omega
end
end Go.Proofs.YtnnbbeloifhofaaDoor.P
end
section
namespace Go.Proofs.YtnnbbeloifhofaaDoor.P
open Go.RowKit Go.Proofs.YtnnbbeloifhofaaDoorW.PrintWords Go.Proofs.YtnnbbeloifhofaaDoorW.PrintLast Go.Proofs.YtnnbbeloifhofaaDoorW.PrintMore
attribute [local go_sem] max2_int min2_int max_two min_two max_three min_three max_four min_four
set_option linter.unusedVariables false
set_option linter.unusedSimpArgs false
mutual
def helmsmanlaw12_Prog.l0:Nat→List (S72)→Int→Int→List (S72)→List (S56)→List (S69)→List (S29)→List (S79)→List (S76)→Option ((List (S79)) × (List (S80)) × (List (S66)) × (List (S76)))
 | 0,_,_,_,_,_,_,_,_,_=>none
 | k+1,x15,x16,x17,x205000,x205001,x205002,x205003,x210000,x210003=>if x17 < x16 then (if 0≤x17 then (if x17 < (x15.length:Int) then (if x210000.length < 3518437208883 then (helmsmanlaw12_Prog.l0 k x15 x16 (wrap64 (x17+1)) x205000 x205001 x205002 x205003 (x210000++[(⟨(rd_T72 x15 x17).f0,(rd_T72 x15 x17).f1⟩:S79)]) x210003) else (none)) else (none)) else (none)) else (helmsmanlaw12_Prog.l1 k x205001 (x205001.length:Int) 0 x205000 x205001 x205002 x205003 x210000 ([]:List (S80)) x210003)
def helmsmanlaw12_Prog.l1:Nat→List (S56)→Int→Int→List (S72)→List (S56)→List (S69)→List (S29)→List (S79)→List (S80)→List (S76)→Option ((List (S79)) × (List (S80)) × (List (S66)) × (List (S76)))
 | 0,_,_,_,_,_,_,_,_,_,_=>none
 | k+1,x33,x34,x35,x205000,x205001,x205002,x205003,x210000,x210001,x210003=>if x35 < x34 then (if 0≤x35 then (if x35 < (x33.length:Int) then (if x210001.length < 3518437208883 then (helmsmanlaw12_Prog.l1 k x33 x34 (wrap64 (x35+1)) x205000 x205001 x205002 x205003 x210000 (x210001++[(⟨(rd_T56 x33 x35).f0,(rd_T56 x33 x35).f1,(rd_T56 x33 x35).f2⟩:S80)]) x210003) else (none)) else (none)) else (none)) else (helmsmanlaw12_Prog.l2 k x205002 (x205002.length:Int) 0 x210000 x210001 ([]:List (S66)) x210003)
def helmsmanlaw12_Prog.l2:Nat→List (S69)→Int→Int→List (S79)→List (S80)→List (S66)→List (S76)→Option ((List (S79)) × (List (S80)) × (List (S66)) × (List (S76)))
 | 0,_,_,_,_,_,_,_=>none
 | k+1,x47,x48,x49,x210000,x210001,x210002,x210003=>if x49 < x48 then (if 0≤x49 then (if x49 < (x47.length:Int) then ((helmsmanlaw12_Stmts.f k ((rd_T69 x47 x49).f1)).bind fun t222=>(if x210002.length < 3518437208883 then (helmsmanlaw12_Prog.l2 k x47 x48 (wrap64 (x49+1)) x210000 x210001 (x210002++[(⟨(rd_T69 x47 x49).f0,t222⟩:S66)]) x210003) else (none))) else (none)) else (none)) else (some (x210000,x210001,x210002,x210003))
end
def helmsmanlaw12_Prog.f (k:Nat) (l0_0:List (S72)) (l0_1:List (S56)) (l0_2:List (S69)) (l0_3:List (S29)):Option ((List (S79)) × (List (S80)) × (List (S66)) × (List (S76))):=(helmsmanlaw12_Stmts.f k l0_3).bind fun t206=>(helmsmanlaw12_Prog.l0 k l0_0 (l0_0.length:Int) 0 l0_0 l0_1 l0_2 l0_3 ([]:List (S79)) t206)
def helmsmanlaw12_Prog.T15:Bool × List (List Nat × List Nat):=(true,[([],[]),([0],[0]),([],[]),([2],[2]),([],[]),([4],[4]),([5],[5]),([3,6],[3,6]),([7],[7]),([1,8,6],[1,8]),([0,1,2,3,4,5,6,7,8,9],[]),([10,9,9,0,1,2,3,4,5,6,7,8,9],[9,10])])
def helmsmanlaw12_Prog.B15:List Nat:=[0,1,0,4,0,16,48,124,252,511,1023,2047]
theorem helmsmanlaw12_Prog.tab15:rtab .any (opsOf Tryd.f17 15)=helmsmanlaw12_Prog.T15:=by kernel_rfl
theorem helmsmanlaw12_Prog.bits15:waitsOk helmsmanlaw12_Prog.T15.2 helmsmanlaw12_Prog.B15=true:=by kernel_rfl
set_option maxHeartbeats 8000000 in
set_option maxRecDepth 100000 in
theorem helmsmanlaw12_Prog.calls (k:Nat) (P0_0_:Nat→Prop) (A0_0:Option Addr) (c0_0:Nat) (l0_0:List (S72)) (A0_1:Option Addr) (c0_1:Nat) (l0_1:List (S56)) (A0_2:Option Addr) (c0_2:Nat) (l0_2:List (S69)) (A0_3:Option Addr) (c0_3:Nat) (l0_3:List (S29)) (r1:List (S79)) (r2:List (S80)) (r3:List (S66)) (r4:List (S76)) (w:World) (hs0_0:Kd.V k72 72 w w.heap.size (fun k_=>P0_0_ k_) (.slice A0_0 l0_0.length c0_0) l0_0) (hr0_1:Kd.C k56 w A0_1 l0_1.length l0_1) (hc0_1:l0_1.length≤c0_1) (hr0_2:Kd.C k69 w A0_2 l0_2.length l0_2) (hc0_2:l0_2.length≤c0_2) (hr0_3:Kd.C k29 w A0_3 l0_3.length l0_3) (hc0_3:l0_3.length≤c0_3) (h:helmsmanlaw12_Prog.f k l0_0 l0_1 l0_2 l0_3=some (r1,r2,r3,r4)) :
  Calls Tryd.prog 17 #[.agg #[.slice A0_0 l0_0.length c0_0,.slice A0_1 l0_1.length c0_1,.slice A0_2 l0_2.length c0_2,.slice A0_3 l0_3.length c0_3]] w fun e w'=>∃ v0_ v1_ v2_ v3_:Value,e=.returned (.agg #[v0_,v1_,v2_,v3_])∧Kd.N k79 79 w' w.heap.size (fun k_=>(P0_0_ k_∨w.heap.size≤k_)∧some k_≠(v1_:Value).ownBlock∧some k_≠(v2_:Value).ownBlock∧some k_≠(v3_:Value).ownBlock) v0_ r1∧Kd.R k80 80 w' w.heap.size (fun k_=>(w.heap.size≤k_)) v1_ r2∧Kd.N k66 66 w' w.heap.size (fun k_=>(P0_0_ k_∨w.heap.size≤k_)∧some k_≠(v0_:Value).ownBlock∧some k_≠(v1_:Value).ownBlock∧some k_≠(v3_:Value).ownBlock) v2_ r3∧Kd.N k76 76 w' w.heap.size (fun k_=>(P0_0_ k_∨w.heap.size≤k_)∧some k_≠(v0_:Value).ownBlock∧some k_≠(v1_:Value).ownBlock∧some k_≠(v2_:Value).ownBlock) v3_ r4∧Below w.heap.size w w':=by
 have hu43:=Tryd.underlying43
 have hu50:=Tryd.underlying50
 have hu72:=Tryd.underlying72
 have hu79:=Tryd.underlying79
 have hu56:=Tryd.underlying56
 have hu69:=Tryd.underlying69
 have hu66:=Tryd.underlying66
 have HO0_0:=Aside0.mk (show Kd.V k72 72 w w.heap.size (fun k_=>(P0_0_ k_∨w.heap.size≤k_)) (.slice A0_0 l0_0.length c0_0) l0_0 from Kd.V_mono hs0_0 (fun k_ hk=>.inl hk))
 have HR0_1:=Aside0.mk hr0_1
 have HC0_1:=Aside0.mk hc0_1
 clear hr0_1 hc0_1
 have HR0_2:=Aside0.mk hr0_2
 have HC0_2:=Aside0.mk hc0_2
 clear hr0_2 hc0_2
 have HR0_3:=Aside0.mk hr0_3
 have HC0_3:=Aside0.mk hc0_3
 clear hr0_3 hc0_3
 have HB:=Aside0.mk (Below.refl w.heap.size w)
 have H:((helmsmanlaw12_Stmts.f k l0_3).bind fun t206=>(helmsmanlaw12_Prog.l0 k l0_0 (l0_0.length:Int) 0 l0_0 l0_1 l0_2 l0_3 ([]:List (S79)) t206))=some (r1,r2,r3,r4):=h
 clear h
 replace H:=Option.bind_eq_some_iff.mp H
 obtain ⟨t206,A20,H⟩:=H
 replace H:(helmsmanlaw12_Prog.l0 k l0_0 (l0_0.length:Int) 0 l0_0 l0_1 l0_2 l0_3 ([]:List (S79)) t206)=some (r1,r2,r3,r4):=H
 have A2:=Aside0.mk A20
 clear A20
 have H':=Aside0.mk H
 clear H
 go_enter Tryd.func17,Tryd.ntmps17
 go_wp2_with (first|((with_reducible refine gate_dst (N:=1) rfl ?_);refine box_event ?hg (N:=1) ?hd (cs:=#[.slice A0_0 l0_0.length c0_0,.slice A0_1 l0_1.length c0_1,.slice A0_2 l0_2.length c0_2,.slice A0_3 l0_3.length c0_3]) (t:=43) ?hr ?_;(case hd=>rfl);(case hg=>rfl);(case hr=>first|(go_simp;done)|(go_simp;rfl));intro gb204 hg w3 hbox hb;have n0_:=Aside0.mk (Kd.V_below (Kd.V_elderB (by (with_reducible repeat (first|apply Kd.V_alloc|apply Kd.V_drewN|apply Kd.V_drew));exact HO0_0.out) gb204 (Nat.le_of_eq hg.symm)) hb);have n1_:=Aside0.mk (below_step (bl_ HB.out) hb);have n2_:=Aside0.mk (hbox);have n3_:=Aside0.mk ((gs_ hg (bl_ HB.out):w.heap.size≤gb204));have n4_:=Aside0.mk ((gs_ hg (bl_ HB.out):w.heap.size≤gb204));clear HO0_0;clear HB;have HO0_0:=n0_;have HB:=n1_;have BK204:=n2_;have GW204:=n3_;have GE204:=n4_;clear n0_ n1_ n2_ n3_ n4_;clear hb hbox hg)|((with_reducible refine gate_dst (N:=2) rfl ?_);refine box_event ?hg (N:=2) ?hd (cs:=#[.slice none 0 0,.slice none 0 0,.slice none 0 0,.slice none 0 0]) (t:=50) ?hr ?_;(case hd=>rfl);(case hg=>rfl);(case hr=>first|(go_simp;done)|(go_simp;rfl));intro gb205 hg w4 hbox hb;have n0_:=Aside0.mk (Kd.V_below (Kd.V_elderB (by (with_reducible repeat (first|apply Kd.V_alloc|apply Kd.V_drewN|apply Kd.V_drew));exact HO0_0.out) gb205 (Nat.le_of_eq hg.symm)) hb);have n1_:=Aside0.mk (bb_ BK204.out hb);have n2_:=Aside0.mk (below_step (bl_ HB.out) hb);have n3_:=Aside0.mk (hbox);have n4_:=Aside0.mk ((gs_ hg (bl_ HB.out):w.heap.size≤gb205));have n5_:=Aside0.mk ((gs_ hg (bl_ HB.out):w.heap.size≤gb205));have n6_:=Aside0.mk ((nl_ hg BK204.out:gb204≠gb205));have n7_:=Aside0.mk ((nr_ hg BK204.out:gb205≠gb204));clear HO0_0;clear BK204;clear HB;have HO0_0:=n0_;have BK204:=n1_;have HB:=n2_;have BK205:=n3_;have GW205:=n4_;have GE205:=n5_;have NB204_205:=n6_;have NB205_204:=n7_;clear n0_ n1_ n2_ n3_ n4_ n5_ n6_ n7_;clear hb hbox hg;have hnb5:=NB204_205.out;have hnc5:=NB205_204.out;have hcz6_0:w4.cell? ⟨gb204,0,none⟩=some (.slice A0_0 l0_0.length c0_0):=zc_ BK204.out 0;have hcz6_1:w4.cell? ⟨gb204,1,none⟩=some (.slice A0_1 l0_1.length c0_1):=zc_ BK204.out 1;have hcz6_2:w4.cell? ⟨gb204,2,none⟩=some (.slice A0_2 l0_2.length c0_2):=zc_ BK204.out 2;have hcz6_3:w4.cell? ⟨gb204,3,none⟩=some (.slice A0_3 l0_3.length c0_3):=zc_ BK204.out 3;have hfz6_0:=blk_frozen BK204.out 0;have hfz6_1:=blk_frozen BK204.out 1;have hfz6_2:=blk_frozen BK204.out 2;have hfz6_3:=blk_frozen BK204.out 3)|((with_reducible refine gate_callee (f:=24) rfl ?_);refine goesL_ (some 12) rfl rfl Tryd.func24 (by kernel_rfl) rfl #[.slice A0_3 l0_3.length c0_3] rfl ar_ ?_;(with_reducible refine (helmsmanlaw12_Stmts.calls k _ _ l0_3 t206 _ ?side1 ?side2 A2.out).mono ?_);(case side1=>exact kc_ HR0_3.out HB.out);(case side2=>exact HC0_3.out);rintro e w7 ⟨v207,rfl,ho0,hb⟩;refine ⟨_,rfl,?_⟩;have n0_:=Aside0.mk (Kd.V_elder' (by (with_reducible repeat (first|apply Kd.V_alloc|apply Kd.V_drewN|apply Kd.V_drew));exact HO0_0.out) (by first|exact Kd.N_base ho0|exact Kd.N_base (Kd.R_N ho0)|exact Kd.N_base (Kd.R_N (Kd.R_bound ho0))) hb);have n1_:=Aside0.mk (Kd.N_lower (Kd.N_mono (ok':=fun k_=>(P0_0_ k_∨w.heap.size≤k_)∧k_≠gb204∧k_≠gb205) (Kd.R_N (Kd.R_bound ho0)) (fun k_ hk_=>⟨(.inr (Nat.le_trans (below_size (bl_ HB.out)) hk_.2.1)),(Kd.freshB (g:=gb204) (o:=.cells #[.slice A0_0 l0_0.length c0_0,.slice A0_1 l0_1.length c0_1,.slice A0_2 l0_2.length c0_2,.slice A0_3 l0_3.length c0_3] 43 (0,0)) (kb_ BK204.out) k_ hk_.2.1),(Kd.freshB (g:=gb205) (o:=.cells #[.slice none 0 0,.slice none 0 0,.slice none 0 0,.slice none 0 0] 50 (0,0)) (kb_ BK205.out) k_ hk_.2.1)⟩)) (below_size (bl_ HB.out)));have n2_:=Aside0.mk (bb_ BK204.out hb);have n3_:=Aside0.mk (bb_ BK205.out hb);have n4_:=Aside0.mk (below_step (bl_ HB.out) hb);clear HO0_0;clear BK204;clear BK205;clear HB;have HO0_0:=n0_;have HO208:=n1_;have BK204:=n2_;have BK205:=n3_;have HB:=n4_;clear n0_ n1_ n2_ n3_ n4_;(try clear hb);(try clear hb2);(try clear hk);(try clear hi);(try clear ho0);obtain ⟨Ao8,co8,eo8⟩:=Kd.N_slice HO208.out;subst eo8)|((with_reducible refine gate_dst (N:=3) rfl ?_);refine box_event ?hg (N:=3) ?hd (cs:=#[.slice none 0 0,.slice none 0 0,.slice none 0 0,.slice none 0 0]) (t:=50) ?hr ?_;(case hd=>rfl);(case hg=>rfl);(case hr=>first|(go_simp;done)|(go_simp;rfl));intro gb209 hg w9 hbox hb;have n0_:=Aside0.mk (Kd.V_below (Kd.V_elderB (by (with_reducible repeat (first|apply Kd.V_alloc|apply Kd.V_drewN|apply Kd.V_drew));exact HO0_0.out) gb209 (Nat.le_of_eq hg.symm)) hb);have n1_:=Aside0.mk (Kd.N_below (Kd.N_elderB (by (with_reducible repeat (first|apply Kd.N_alloc|apply Kd.N_drewN|apply Kd.N_drew));exact HO208.out) gb209 (Nat.le_of_eq hg.symm)) hb);have n2_:=Aside0.mk (bb_ BK204.out hb);have n3_:=Aside0.mk (bb_ BK205.out hb);have n4_:=Aside0.mk (below_step (bl_ HB.out) hb);have n5_:=Aside0.mk (hbox);have n6_:=Aside0.mk ((gs_ hg (bl_ HB.out):w.heap.size≤gb209));have n7_:=Aside0.mk ((gs_ hg (bl_ HB.out):w.heap.size≤gb209));have n8_:=Aside0.mk ((nl_ hg BK204.out:gb204≠gb209));have n9_:=Aside0.mk ((nr_ hg BK204.out:gb209≠gb204));have n10_:=Aside0.mk ((nl_ hg BK205.out:gb205≠gb209));have n11_:=Aside0.mk ((nr_ hg BK205.out:gb209≠gb205));clear HO0_0;clear HO208;clear BK204;clear BK205;clear HB;have HO0_0:=n0_;have HO208:=n1_;have BK204:=n2_;have BK205:=n3_;have HB:=n4_;have BK209:=n5_;have GW209:=n6_;have GE209:=n7_;have NB204_209:=n8_;have NB209_204:=n9_;have NB205_209:=n10_;have NB209_205:=n11_;clear n0_ n1_ n2_ n3_ n4_ n5_ n6_ n7_ n8_ n9_ n10_ n11_;clear hb hbox hg;have hnb10:=NB209_204.out;have hnc10:=NB204_209.out;have hnb11:=NB209_205.out;have hnc11:=NB205_209.out;have hcz12_0:w9.cell? ⟨gb209,0,none⟩=some (.slice none 0 0):=zc_ BK209.out 0;have hcz12_1:w9.cell? ⟨gb209,1,none⟩=some (.slice none 0 0):=zc_ BK209.out 1;have hcz12_2:w9.cell? ⟨gb209,2,none⟩=some (.slice none 0 0):=zc_ BK209.out 2;have hcz12_3:w9.cell? ⟨gb209,3,none⟩=some (.slice none 0 0):=zc_ BK209.out 3;have hfz12_0:=blk_frozen BK209.out 0;have hfz12_1:=blk_frozen BK209.out 1;have hfz12_2:=blk_frozen BK209.out 2;have hfz12_3:=blk_frozen BK209.out 3;have hcz13_0:w9.cell? ⟨gb204,0,none⟩=some (.slice A0_0 l0_0.length c0_0):=zc_ BK204.out 0;have hcz13_1:w9.cell? ⟨gb204,1,none⟩=some (.slice A0_1 l0_1.length c0_1):=zc_ BK204.out 1;have hcz13_2:w9.cell? ⟨gb204,2,none⟩=some (.slice A0_2 l0_2.length c0_2):=zc_ BK204.out 2;have hcz13_3:w9.cell? ⟨gb204,3,none⟩=some (.slice A0_3 l0_3.length c0_3):=zc_ BK204.out 3;have hfz13_0:=blk_frozen BK204.out 0;have hfz13_1:=blk_frozen BK204.out 1;have hfz13_2:=blk_frozen BK204.out 2;have hfz13_3:=blk_frozen BK204.out 3))
 (try simp only [Act.put,List.setIfInBounds_toArray,List.set_cons_succ,List.set_cons_zero])
 go_loopg [17] k (fun kq v17 w'=>∃ (x17_1:Int) (x210000_1:List (S79)) (u210000:Value),v17=.int .i64 x17_1∧Aside0 (helmsmanlaw12_Prog.l0 kq l0_0 (l0_0.length:Int) x17_1 l0_0 l0_1 l0_2 l0_3 x210000_1 t206=some (r1,r2,r3,r4))∧Aside0 (kq≤k)∧Aside0 (Kd.V k72 72 w' w.heap.size (fun k_=>(P0_0_ k_∨w.heap.size≤k_)∧some k_≠(u210000:Value).ownBlock∧some k_≠((.slice Ao8 t206.length co8):Value).ownBlock∧k_≠gb204∧k_≠gb205∧k_≠gb209) (.slice A0_0 l0_0.length c0_0) l0_0)∧Aside0 (Kd.V k72 72 w' w.heap.size (fun k_=>(P0_0_ k_∨w.heap.size≤k_)∧some k_≠(u210000:Value).ownBlock∧some k_≠((.slice Ao8 t206.length co8):Value).ownBlock∧k_≠gb204∧k_≠gb205∧k_≠gb209) (.slice A0_0 l0_0.length c0_0) l0_0)∧Aside0 (Kd.N k79 79 w' w.heap.size (fun k_=>(P0_0_ k_∨w.heap.size≤k_)∧some k_≠((.slice Ao8 t206.length co8):Value).ownBlock∧k_≠gb204∧k_≠gb205∧k_≠gb209) u210000 x210000_1)∧Aside0 (Kd.N k76 76 w' w.heap.size (fun k_=>(P0_0_ k_∨w.heap.size≤k_)∧some k_≠(u210000:Value).ownBlock∧k_≠gb204∧k_≠gb205∧k_≠gb209) (.slice Ao8 t206.length co8) t206)∧Aside0 (w'.heap[gb204]?=some (.cells #[(.slice A0_0 l0_0.length c0_0),(.slice A0_1 l0_1.length c0_1),(.slice A0_2 l0_2.length c0_2),(.slice A0_3 l0_3.length c0_3)] 43 (0,0)))∧Aside0 (w'.heap[gb205]?=some (.cells #[(.slice none 0 0),(.slice none 0 0),(.slice none 0 0),(.slice none 0 0)] 50 (0,0)))∧Aside0 (w'.heap[gb209]?=some (.cells #[u210000,(.slice none 0 0),(.slice none 0 0),(.slice Ao8 t206.length co8)] 50 (0,0)))∧Aside0 (Below w.heap.size w w'))
 case atStart=>exact ⟨(0),(([]:List (S79))),(.slice none 0 0),rf_,H',⟨Nat.le_refl _⟩,⟨by (with_reducible repeat (first|apply Kd.V_alloc|apply Kd.V_drewN|apply Kd.V_drew));exact Kd.V_mono (Kd.V_far (p:=⟨gb209,3,none⟩) (Kd.V_far (p:=⟨gb209,2,none⟩) (Kd.V_far (p:=⟨gb209,1,none⟩) (Kd.V_far (p:=⟨gb209,0,none⟩) (Kd.V_mono HO0_0.out (fun k_ hk=>(⟨hk,hk.2⟩:_∧k_≠gb209))) (fun _ hk=>hk.2) (.slice none 0 0)) (fun _ hk=>hk.2) (.slice none 0 0)) (fun _ hk=>hk.2) (.slice none 0 0)) (fun _ hk=>hk.2) (.slice Ao8 t206.length co8)) (fun _ hk=>⟨hk.1.1.1.1.1,⟨(by simp [Value.ownBlock]),⟨hk.1.1.2,⟨hk.1.1.1.1.2,⟨hk.1.1.1.2,hk.1.2⟩⟩⟩⟩⟩)⟩,⟨by (with_reducible repeat (first|apply Kd.V_alloc|apply Kd.V_drewN|apply Kd.V_drew));exact Kd.V_mono (Kd.V_far (p:=⟨gb209,3,none⟩) (Kd.V_far (p:=⟨gb209,2,none⟩) (Kd.V_far (p:=⟨gb209,1,none⟩) (Kd.V_far (p:=⟨gb209,0,none⟩) (Kd.V_mono HO0_0.out (fun k_ hk=>(⟨hk,hk.2⟩:_∧k_≠gb209))) (fun _ hk=>hk.2) (.slice none 0 0)) (fun _ hk=>hk.2) (.slice none 0 0)) (fun _ hk=>hk.2) (.slice none 0 0)) (fun _ hk=>hk.2) (.slice Ao8 t206.length co8)) (fun _ hk=>⟨hk.1.1.1.1.1,⟨(by simp [Value.ownBlock]),⟨hk.1.1.2,⟨hk.1.1.1.1.2,⟨hk.1.1.1.2,hk.1.2⟩⟩⟩⟩⟩)⟩,⟨by first|exact Kd.S_nil _ _ _ _ _|exact Kd.N_nil _ _ _ _ _|exact Kd.V_nil _ _ _ _ _|exact Kd.Q_nil _ _ _ _ _|exact Kd.R_nil _ _ _ _ _⟩,⟨by (with_reducible repeat (first|apply Kd.N_alloc|apply Kd.N_drewN|apply Kd.N_drew));exact Kd.N_mono (Kd.N_far (p:=⟨gb209,3,none⟩) (Kd.N_far (p:=⟨gb209,2,none⟩) (Kd.N_far (p:=⟨gb209,1,none⟩) (Kd.N_far (p:=⟨gb209,0,none⟩) (Kd.N_mono HO208.out (fun k_ hk=>(⟨hk,hk.2⟩:_∧k_≠gb209))) (fun _ hk=>hk.2) (.slice none 0 0)) (fun _ hk=>hk.2) (.slice none 0 0)) (fun _ hk=>hk.2) (.slice none 0 0)) (fun _ hk=>hk.2) (.slice Ao8 t206.length co8)) (fun _ hk=>⟨hk.1.1.1,⟨(by simp [Value.ownBlock]),⟨hk.1.1.2.1,⟨hk.1.1.2.2,hk.1.2⟩⟩⟩⟩)⟩,⟨kbc_ BK204.out⟩,⟨kbc_ BK205.out⟩,⟨kbc_ BK209.out⟩,⟨bl_ HB.out⟩⟩
 case round=>
  clear H'
  (try clear c1);(try clear c2);(try clear p2);(try clear c5);(try clear c10);(try clear c11);(try clear hcz12_0);(try clear hcz12_1);(try clear hcz12_2);(try clear hcz12_3);(try clear hcz13_0);(try clear hcz13_1);(try clear hcz13_2);(try clear hcz13_3);(try clear hcz6_0);(try clear hcz6_1);(try clear hcz6_2);(try clear hcz6_3);(try clear hfz12_0);(try clear hfz12_1);(try clear hfz12_2);(try clear hfz12_3);(try clear hfz13_0);(try clear hfz13_1);(try clear hfz13_2);(try clear hfz13_3);(try clear hfz6_0);(try clear hfz6_1);(try clear hfz6_2);(try clear hfz6_3)
  obtain ⟨x17_1,x210000_1,u210000,rfl,HA,HK1,HO_15,HO_205000,HO_210000,HO_210003,BK204,BK205,BK209,HB⟩:=hrel
  cases gk with
  | zero=>exact absurd HA.out (by simp [helmsmanlaw12_Prog.l0])
  | succ k1=>
   have H:=HA.out
   clear HA
   simp only [helmsmanlaw12_Prog.l0] at H
   by_cases c14:x17_1 < (l0_0.length:Int)
   ·rw [if_pos c14] at H
    have c14b0:decide (x17_1 < (l0_0.length:Int))=true:=decide_eq_true c14
    clear c14
    by_cases c15:0≤x17_1
    ·rw [if_pos c15] at H
     have c15b0:decide (0≤x17_1)=true:=decide_eq_true c15
     clear c15
     by_cases c16:x17_1 < (l0_0.length:Int)
     ·rw [if_pos c16] at H
      have c16b0:decide (x17_1 < (l0_0.length:Int))=true:=decide_eq_true c16
      clear c16
      by_cases c17:x210000_1.length < 3518437208883
      ·rw [if_pos c17] at H
       have LMc17:=Aside0.mk c17
       clear c17
       obtain ⟨y212,hy212⟩ : ∃ y_:List (S79),y_=(x210000_1++[(⟨(rd_T72 l0_0 x17_1).f0,(rd_T72 l0_0 x17_1).f1⟩:S79)]):=⟨_,rfl⟩
       replace H:(helmsmanlaw12_Prog.l0 k1 l0_0 (l0_0.length:Int) (wrap64 (x17_1+1)) l0_0 l0_1 l0_2 l0_3 y212 t206)=some (r1,r2,r3,r4):=by first|(rw [hy212];with_reducible exact H)|(have H2_:=(Option.bind_some _ _).symm.trans H;rw [hy212];with_reducible exact H2_)|(have H2_:=(Option.bind_some _ _).symm.trans H;with_reducible exact H2_)|with_reducible exact H|(rw [hy212];exact H)|exact H
       have Ny212:=Aside0.mk hy212
       clear hy212
       have H':=Aside0.mk H
       clear H
       have p210:0≤(x17_1:Int):=of_decide_eq_true as_
       have q210:x17_1 < (l0_0.length:Int):=of_decide_eq_true as_
       obtain ⟨ad210,A210_1,c210_1,e210,hx210_0,hx210_1,hl210_1,hi210_1⟩:=at_T72 (Kd.V_reads' HO_15.out).2.2 x17_1 p210 q210
       cases e210
       obtain ⟨ce210,hce210,hMe210,hcc210⟩:=Kd.V_get HO_15.out z72 x17_1 p210 (by first|exact q210|exact of_decide_eq_true as_|(have e_:=(Kd.V_reads' HO_15.out).1;omega))
       obtain ⟨ua210_1,uc210_1,rfl,ul210_1,ge210_1⟩:=k72_openF hMe210
       have hv210_1:=hcc210 1 _ rfl
       rw [add_field _ _ 1 (by omega)] at hv210_1
       replace hv210_1:=Option.some.inj (hv210_1.symm.trans hx210_1)
       injection hv210_1 with hva_ hvn_ hvc_
       rw [hva_] at ge210_1
       rw [hvc_] at ul210_1
       have HL210_1:=Aside0.mk (show Kd.V Kd.string 9 _ w.heap.size _ _ ((rd_T72 l0_0 x17_1).f1) from Kd.V_mk ul210_1 ge210_1)
       clear hva_ hvn_ hvc_ ge210_1 ul210_1
       clear hcc210 hce210
       have HR210_1:=Aside0.mk hi210_1
       have HC210_1:=Aside0.mk hl210_1
       clear hi210_1 hl210_1
       replace p210:=eq_true p210
       replace q210:=eq_true q210
       go_wp2_with (first|((with_reducible refine gate_dst (N:=5) rfl ?_);refine box_event ?hg (N:=5) ?hd (cs:=#[.string (⟨#[]⟩:ByteArray),.slice none 0 0]) (t:=72) ?hr ?_;(case hd=>rfl);(case hg=>rfl);(case hr=>first|(go_simp;done)|(go_simp;rfl));intro gb211 hg w18 hbox hb;have n0_:=Aside0.mk (Kd.V_below (Kd.V_elderB (by (with_reducible repeat (first|apply Kd.V_alloc|apply Kd.V_drewN|apply Kd.V_drew));exact HO_15.out) gb211 (Nat.le_of_eq hg.symm)) hb);have n1_:=Aside0.mk (Kd.V_below (Kd.V_elderB (by (with_reducible repeat (first|apply Kd.V_alloc|apply Kd.V_drewN|apply Kd.V_drew));exact HO_205000.out) gb211 (Nat.le_of_eq hg.symm)) hb);have n2_:=Aside0.mk (Kd.N_below (Kd.N_elderB (by (with_reducible repeat (first|apply Kd.N_alloc|apply Kd.N_drewN|apply Kd.N_drew));exact HO_210000.out) gb211 (Nat.le_of_eq hg.symm)) hb);have n3_:=Aside0.mk (Kd.N_below (Kd.N_elderB (by (with_reducible repeat (first|apply Kd.N_alloc|apply Kd.N_drewN|apply Kd.N_drew));exact HO_210003.out) gb211 (Nat.le_of_eq hg.symm)) hb);have n4_:=Aside0.mk (Kd.V_below (Kd.V_elderB (by (with_reducible repeat (first|apply Kd.V_alloc|apply Kd.V_drewN|apply Kd.V_drew));exact HL210_1.out) gb211 (Nat.le_of_eq hg.symm)) hb);have n5_:=Aside0.mk (bb_ BK204.out hb);have n6_:=Aside0.mk (bb_ BK205.out hb);have n7_:=Aside0.mk (bb_ BK209.out hb);have n8_:=Aside0.mk (Kd.C_below (by repeat (first|(with_reducible exact HR210_1.out)|(with_reducible refine Kd.C_alloc ?_ _)|(with_reducible refine Kd.C_drewN ?_ _)|(with_reducible refine Kd.C_drew ?_)|exact HR210_1.out)) hb);have n9_:=Aside0.mk (below_step (bl_ HB.out) hb);have n10_:=Aside0.mk (hbox);have n11_:=Aside0.mk ((gs_ hg (bl_ HB.out):w.heap.size≤gb211));have n12_:=Aside0.mk ((gs_ hg (bl_ HB.out):w.heap.size≤gb211));have n13_:=Aside0.mk ((nl_ hg BK204.out:gb204≠gb211));have n14_:=Aside0.mk ((nr_ hg BK204.out:gb211≠gb204));have n15_:=Aside0.mk ((nl_ hg BK205.out:gb205≠gb211));have n16_:=Aside0.mk ((nr_ hg BK205.out:gb211≠gb205));have n17_:=Aside0.mk ((nl_ hg BK209.out:gb209≠gb211));have n18_:=Aside0.mk ((nr_ hg BK209.out:gb211≠gb209));clear HO_15;clear HO_205000;clear HO_210000;clear HO_210003;clear HL210_1;clear BK204;clear BK205;clear BK209;clear HR210_1;clear HB;have HO_15:=n0_;have HO_205000:=n1_;have HO_210000:=n2_;have HO_210003:=n3_;have HL210_1:=n4_;have BK204:=n5_;have BK205:=n6_;have BK209:=n7_;have HR210_1:=n8_;have HB:=n9_;have BK211:=n10_;have GW211:=n11_;have GE211:=n12_;have NB204_211:=n13_;have NB211_204:=n14_;have NB205_211:=n15_;have NB211_205:=n16_;have NB209_211:=n17_;have NB211_209:=n18_;clear n0_ n1_ n2_ n3_ n4_ n5_ n6_ n7_ n8_ n9_ n10_ n11_ n12_ n13_ n14_ n15_ n16_ n17_ n18_;clear hb hbox hg;have hnb19:=NB211_204.out;have hnc19:=NB204_211.out;have hnb20:=NB211_205.out;have hnc20:=NB205_211.out;have hnb21:=NB211_209.out;have hnc21:=NB209_211.out;have hcz22_0:w18.cell? ⟨gb211,0,none⟩=some (.string (⟨#[]⟩:ByteArray)):=zc_ BK211.out 0;have hcz22_1:w18.cell? ⟨gb211,1,none⟩=some (.slice none 0 0):=zc_ BK211.out 1;have hfz22_0:=blk_frozen BK211.out 0;have hfz22_1:=blk_frozen BK211.out 1)|((with_reducible refine gate_store (t:=72) (p:=5) rfl ?_);refine store_event (t:=72) (p:=5) (v:=?vo_w23) (w1:=((w18.setCell ⟨gb211,0,none⟩ (.string ((rd_T72 l0_0 x17_1).f0))).setCell ⟨gb211,1,none⟩ (.slice A210_1 ((rd_T72 l0_0 x17_1).f1).length c210_1))) ?hg ?ho ?hn ?hr ?_;(case ho=>rfl);(case hg=>rfl);(case hn=>rfl);(case hr=>first|(go_simp;done)|(go_simp;rfl));intro w23 hw;have n0_:Aside0 (Kd.V k72 72 w23 w.heap.size (fun k_=>(P0_0_ k_∨w.heap.size≤k_)∧some k_≠(u210000:Value).ownBlock∧some k_≠(.slice Ao8 t206.length co8:Value).ownBlock∧k_≠gb204∧k_≠gb205∧k_≠gb209∧k_≠gb211) (.slice (some ad210) l0_0.length c0_0) l0_0):=⟨(by rw [hw];exact (by (with_reducible repeat (first|apply Kd.V_alloc|apply Kd.V_drewN|apply Kd.V_drew));exact Kd.V_mono (Kd.V_far (p:=⟨gb211,1,none⟩) (Kd.V_far (p:=⟨gb211,0,none⟩) (Kd.V_mono HO_15.out (fun k_ hk=>(⟨hk,hk.2⟩:_∧k_≠gb211))) (fun _ hk=>hk.2) (.string ((rd_T72 l0_0 x17_1).f0))) (fun _ hk=>hk.2) (.slice A210_1 ((rd_T72 l0_0 x17_1).f1).length c210_1)) (fun _ hk=>⟨hk.1.1.1,⟨hk.1.1.2.1,⟨hk.1.1.2.2.1,⟨hk.1.1.2.2.2.1,⟨hk.1.1.2.2.2.2.1,⟨hk.1.1.2.2.2.2.2,hk.1.2⟩⟩⟩⟩⟩⟩)))⟩;have n1_:Aside0 (Kd.V k72 72 w23 w.heap.size (fun k_=>(P0_0_ k_∨w.heap.size≤k_)∧some k_≠(u210000:Value).ownBlock∧some k_≠(.slice Ao8 t206.length co8:Value).ownBlock∧k_≠gb204∧k_≠gb205∧k_≠gb209∧k_≠gb211) (.slice (some ad210) l0_0.length c0_0) l0_0):=⟨(by rw [hw];exact (by (with_reducible repeat (first|apply Kd.V_alloc|apply Kd.V_drewN|apply Kd.V_drew));exact Kd.V_mono (Kd.V_far (p:=⟨gb211,1,none⟩) (Kd.V_far (p:=⟨gb211,0,none⟩) (Kd.V_mono HO_205000.out (fun k_ hk=>(⟨hk,hk.2⟩:_∧k_≠gb211))) (fun _ hk=>hk.2) (.string ((rd_T72 l0_0 x17_1).f0))) (fun _ hk=>hk.2) (.slice A210_1 ((rd_T72 l0_0 x17_1).f1).length c210_1)) (fun _ hk=>⟨hk.1.1.1,⟨hk.1.1.2.1,⟨hk.1.1.2.2.1,⟨hk.1.1.2.2.2.1,⟨hk.1.1.2.2.2.2.1,⟨hk.1.1.2.2.2.2.2,hk.1.2⟩⟩⟩⟩⟩⟩)))⟩;have n2_:Aside0 (Kd.N k79 79 w23 w.heap.size (fun k_=>(P0_0_ k_∨w.heap.size≤k_)∧some k_≠(.slice Ao8 t206.length co8:Value).ownBlock∧k_≠gb204∧k_≠gb205∧k_≠gb209∧k_≠gb211) u210000 x210000_1):=⟨(by rw [hw];exact (by (with_reducible repeat (first|apply Kd.N_alloc|apply Kd.N_drewN|apply Kd.N_drew));exact Kd.N_mono (Kd.N_far (p:=⟨gb211,1,none⟩) (Kd.N_far (p:=⟨gb211,0,none⟩) (Kd.N_mono HO_210000.out (fun k_ hk=>(⟨hk,hk.2⟩:_∧k_≠gb211))) (fun _ hk=>hk.2) (.string ((rd_T72 l0_0 x17_1).f0))) (fun _ hk=>hk.2) (.slice A210_1 ((rd_T72 l0_0 x17_1).f1).length c210_1)) (fun _ hk=>⟨hk.1.1.1,⟨hk.1.1.2.1,⟨hk.1.1.2.2.1,⟨hk.1.1.2.2.2.1,⟨hk.1.1.2.2.2.2,hk.1.2⟩⟩⟩⟩⟩)))⟩;have n3_:Aside0 (Kd.N k76 76 w23 w.heap.size (fun k_=>(P0_0_ k_∨w.heap.size≤k_)∧some k_≠(u210000:Value).ownBlock∧k_≠gb204∧k_≠gb205∧k_≠gb209∧k_≠gb211) (.slice Ao8 t206.length co8) t206):=⟨(by rw [hw];exact (by (with_reducible repeat (first|apply Kd.N_alloc|apply Kd.N_drewN|apply Kd.N_drew));exact Kd.N_mono (Kd.N_far (p:=⟨gb211,1,none⟩) (Kd.N_far (p:=⟨gb211,0,none⟩) (Kd.N_mono HO_210003.out (fun k_ hk=>(⟨hk,hk.2⟩:_∧k_≠gb211))) (fun _ hk=>hk.2) (.string ((rd_T72 l0_0 x17_1).f0))) (fun _ hk=>hk.2) (.slice A210_1 ((rd_T72 l0_0 x17_1).f1).length c210_1)) (fun _ hk=>⟨hk.1.1.1,⟨hk.1.1.2.1,⟨hk.1.1.2.2.1,⟨hk.1.1.2.2.2.1,⟨hk.1.1.2.2.2.2,hk.1.2⟩⟩⟩⟩⟩)))⟩;have n4_:Aside0 (Kd.V Kd.string 9 w23 w.heap.size (fun k_=>(P0_0_ k_∨w.heap.size≤k_)∧some k_≠(u210000:Value).ownBlock∧some k_≠(.slice Ao8 t206.length co8:Value).ownBlock∧k_≠gb204∧k_≠gb205∧k_≠gb209∧k_≠gb211) (.slice A210_1 ((rd_T72 l0_0 x17_1).f1).length c210_1) ((rd_T72 l0_0 x17_1).f1)):=⟨(by rw [hw];exact (by (with_reducible repeat (first|apply Kd.V_alloc|apply Kd.V_drewN|apply Kd.V_drew));exact Kd.V_mono (Kd.V_far (p:=⟨gb211,1,none⟩) (Kd.V_far (p:=⟨gb211,0,none⟩) (Kd.V_mono HL210_1.out (fun k_ hk=>(⟨hk,hk.2⟩:_∧k_≠gb211))) (fun _ hk=>hk.2) (.string ((rd_T72 l0_0 x17_1).f0))) (fun _ hk=>hk.2) (.slice A210_1 ((rd_T72 l0_0 x17_1).f1).length c210_1)) (fun _ hk=>⟨hk.1.1.1,⟨hk.1.1.2.1,⟨hk.1.1.2.2.1,⟨hk.1.1.2.2.2.1,⟨hk.1.1.2.2.2.2.1,⟨hk.1.1.2.2.2.2.2,hk.1.2⟩⟩⟩⟩⟩⟩)))⟩;have n5_:Aside0 (w23.heap[gb204]?=some (.cells #[.slice (some ad210) l0_0.length c0_0,.slice A0_1 l0_1.length c0_1,.slice A0_2 l0_2.length c0_2,.slice A0_3 l0_3.length c0_3] 43 (0,0))):=⟨(by rw [hw];exact (kbc_ BK204.out))⟩;have n6_:Aside0 (w23.heap[gb205]?=some (.cells #[.slice none 0 0,.slice none 0 0,.slice none 0 0,.slice none 0 0] 50 (0,0))):=⟨(by rw [hw];exact (kbc_ BK205.out))⟩;have n7_:Aside0 (w23.heap[gb209]?=some (.cells #[u210000,.slice none 0 0,.slice none 0 0,.slice Ao8 t206.length co8] 50 (0,0))):=⟨(by rw [hw];exact (kbc_ BK209.out))⟩;have n8_:Aside0 (w23.heap[gb211]?=some (.cells #[.string ((rd_T72 l0_0 x17_1).f0),.slice A210_1 ((rd_T72 l0_0 x17_1).f1).length c210_1] 72 (0,0))):=⟨(by rw [hw];exact (kbc_ BK211.out))⟩;have n9_:Aside0 (Below w.heap.size w w23):=⟨(by rw [hw];exact (bl_ HB.out))⟩;clear hw;clear HO_15;clear HO_205000;clear HO_210000;clear HO_210003;clear HL210_1;clear BK204;clear BK205;clear BK209;clear BK211;clear HB;have HO_15:=n0_;have HO_205000:=n1_;have HO_210000:=n2_;have HO_210003:=n3_;have HL210_1:=n4_;have BK204:=n5_;have BK205:=n6_;have BK209:=n7_;have BK211:=n8_;have HB:=n9_;clear n0_ n1_ n2_ n3_ n4_ n5_ n6_ n7_ n8_ n9_;have hnb24:=NB209_204.out;have hnc24:=NB204_209.out;have hnb25:=NB209_205.out;have hnc25:=NB205_209.out;have hcz26_0:w23.cell? ⟨gb209,0,none⟩=some (u210000):=zc_ BK209.out 0;have hcz26_1:w23.cell? ⟨gb209,1,none⟩=some (.slice none 0 0):=zc_ BK209.out 1;have hcz26_2:w23.cell? ⟨gb209,2,none⟩=some (.slice none 0 0):=zc_ BK209.out 2;have hcz26_3:w23.cell? ⟨gb209,3,none⟩=some (.slice Ao8 t206.length co8):=zc_ BK209.out 3;have hfz26_0:=blk_frozen BK209.out 0;have hfz26_1:=blk_frozen BK209.out 1;have hfz26_2:=blk_frozen BK209.out 2;have hfz26_3:=blk_frozen BK209.out 3;have hcz27_0:w23.cell? ⟨gb211,0,none⟩=some (.string ((rd_T72 l0_0 x17_1).f0)):=zc_ BK211.out 0;have hcz27_1:w23.cell? ⟨gb211,1,none⟩=some (.slice A210_1 ((rd_T72 l0_0 x17_1).f1).length c210_1):=zc_ BK211.out 1;have hfz27_0:=blk_frozen BK211.out 0;have hfz27_1:=blk_frozen BK211.out 1)|((with_reducible refine gate_builtin (b:=.append) (xs:=#[.tmp 22,.tmp 28]) rfl ?_);at_builtin;refine Kd.N_append k79 (w0:=w) w.heap.size rfl (.tmp 22) (.tmp 28) 45 79 (.agg #[(.string ⟨#[]⟩),(.slice none 0 0)]) 40 rfl Tryd.underlying45 info79 rfl (by decide) (by omega) u210000 x210000_1 (⟨(rd_T72 l0_0 x17_1).f0,(rd_T72 l0_0 x17_1).f1⟩:S79) [.string ((rd_T72 l0_0 x17_1).f0),.slice A210_1 ((rd_T72 l0_0 x17_1).f1).length c210_1] (fun k_=>(P0_0_ k_∨w.heap.size≤k_)∧some k_≠(.slice Ao8 t206.length co8:Value).ownBlock∧k_≠gb204∧k_≠gb205∧k_≠gb209∧k_≠gb211) (fun k_=>((fun k_=>(P0_0_ k_∨w.heap.size≤k_)∧some k_≠(.slice Ao8 t206.length co8:Value).ownBlock∧k_≠gb204∧k_≠gb205∧k_≠gb209∧k_≠gb211)) k_∧some k_≠(u210000:Value).ownBlock) rfl rfl ?aP (fun _ hk=>hk) ?aF ?aO ?aB ?aS ?aL ?_;(case aP=>exact (k79_mkF _ _ (⟨(rd_T72 l0_0 x17_1).f0,(rd_T72 l0_0 x17_1).f1⟩:S79) (Kd.V_reads' (Kd.V_mono (ok':=(fun k_=>((fun k_=>(P0_0_ k_∨w.heap.size≤k_)∧some k_≠(.slice Ao8 t206.length co8:Value).ownBlock∧k_≠gb204∧k_≠gb205∧k_≠gb209∧k_≠gb211)) k_∧some k_≠(u210000:Value).ownBlock)) (HL210_1.out) (fun k_ hk=>⟨⟨hk.1,⟨hk.2.2.1,⟨hk.2.2.2.1,⟨hk.2.2.2.2.1,⟨hk.2.2.2.2.2.1,hk.2.2.2.2.2.2⟩⟩⟩⟩⟩,hk.2.1⟩))).2.1 (Kd.V_F (Kd.V_mono (ok':=(fun k_=>((fun k_=>(P0_0_ k_∨w.heap.size≤k_)∧some k_≠(.slice Ao8 t206.length co8:Value).ownBlock∧k_≠gb204∧k_≠gb205∧k_≠gb209∧k_≠gb211)) k_∧some k_≠(u210000:Value).ownBlock)) (HL210_1.out) (fun k_ hk=>⟨⟨hk.1,⟨hk.2.2.1,⟨hk.2.2.2.1,⟨hk.2.2.2.2.1,⟨hk.2.2.2.2.2.1,hk.2.2.2.2.2.2⟩⟩⟩⟩⟩,hk.2.1⟩)))));(case aB=>exact (bl_ HB.out));(case aF=>exact (fun k_ hk=>⟨(.inr (Nat.le_trans (below_size (bl_ HB.out)) hk)),Kd.fresh' (Kd.N_lt (by (with_reducible repeat (first|apply Kd.N_alloc|apply Kd.N_drewN|apply Kd.N_drew));exact HO_210003.out)) k_ hk,Kd.freshB (g:=gb204) (o:=.cells #[.slice (some ad210) l0_0.length c0_0,.slice A0_1 l0_1.length c0_1,.slice A0_2 l0_2.length c0_2,.slice A0_3 l0_3.length c0_3] 43 (0,0)) (kb_ BK204.out) k_ hk,Kd.freshB (g:=gb205) (o:=.cells #[.slice none 0 0,.slice none 0 0,.slice none 0 0,.slice none 0 0] 50 (0,0)) (kb_ BK205.out) k_ hk,Kd.freshB (g:=gb209) (o:=.cells #[u210000,.slice none 0 0,.slice none 0 0,.slice Ao8 t206.length co8] 50 (0,0)) (kb_ BK209.out) k_ hk,Kd.freshB (g:=gb211) (o:=.cells #[.string ((rd_T72 l0_0 x17_1).f0),.slice A210_1 ((rd_T72 l0_0 x17_1).f1).length c210_1] 72 (0,0)) (kb_ BK211.out) k_ hk⟩));(case aO=>exact (by (with_reducible repeat (first|apply Kd.N_alloc|apply Kd.N_drewN|apply Kd.N_drew));exact HO_210000.out));(case aS=>exact (below_size (bl_ HB.out)));(case aL=>have:=LMc17.out;omega);intro v213 w28 ho hb hg hat;rw [← Ny212.out] at ho;have n0_:=Aside0.mk (Kd.V_afterv (ok:=(fun k_=>(P0_0_ k_∨w.heap.size≤k_)∧some k_≠(.slice Ao8 t206.length co8:Value).ownBlock∧k_≠gb204∧k_≠gb205∧k_≠gb209∧k_≠gb211)) (by (with_reducible repeat (first|apply Kd.V_alloc|apply Kd.V_drewN|apply Kd.V_drew));exact Kd.V_mono HO_15.out (fun _ hk=>⟨⟨hk.1,⟨hk.2.2.1,⟨hk.2.2.2.1,⟨hk.2.2.2.2.1,⟨hk.2.2.2.2.2.1,hk.2.2.2.2.2.2⟩⟩⟩⟩⟩,hk.2.1⟩)) hg hat);have n1_:=Aside0.mk (Kd.V_afterv (ok:=(fun k_=>(P0_0_ k_∨w.heap.size≤k_)∧some k_≠(.slice Ao8 t206.length co8:Value).ownBlock∧k_≠gb204∧k_≠gb205∧k_≠gb209∧k_≠gb211)) (by (with_reducible repeat (first|apply Kd.V_alloc|apply Kd.V_drewN|apply Kd.V_drew));exact Kd.V_mono HO_205000.out (fun _ hk=>⟨⟨hk.1,⟨hk.2.2.1,⟨hk.2.2.2.1,⟨hk.2.2.2.2.1,⟨hk.2.2.2.2.2.1,hk.2.2.2.2.2.2⟩⟩⟩⟩⟩,hk.2.1⟩)) hg hat);have n2_:=Aside0.mk (Kd.N_afterv (ok:=(fun k_=>(P0_0_ k_∨w.heap.size≤k_)∧k_≠gb204∧k_≠gb205∧k_≠gb209∧k_≠gb211)) (by (with_reducible repeat (first|apply Kd.N_alloc|apply Kd.N_drewN|apply Kd.N_drew));exact Kd.N_mono HO_210003.out (fun _ hk=>⟨⟨hk.1,⟨hk.2.2.1,⟨hk.2.2.2.1,⟨hk.2.2.2.2.1,hk.2.2.2.2.2⟩⟩⟩⟩,hk.2.1⟩)) hg hat);have n3_:=Aside0.mk (bg_ BK204.out hg (Kd.N_ne HO_210000.out BK204.out (by decide)));have n4_:=Aside0.mk (bg_ BK205.out hg (Kd.N_ne HO_210000.out BK205.out (by decide)));have n5_:=Aside0.mk (bg_ BK209.out hg (Kd.N_ne HO_210000.out BK209.out (by decide)));have n6_:=Aside0.mk (Kd.V_afterv (ok:=(fun k_=>(P0_0_ k_∨w.heap.size≤k_)∧some k_≠(.slice Ao8 t206.length co8:Value).ownBlock∧k_≠gb204∧k_≠gb205∧k_≠gb209∧k_≠gb211)) (by (with_reducible repeat (first|apply Kd.V_alloc|apply Kd.V_drewN|apply Kd.V_drew));exact Kd.V_mono HL210_1.out (fun _ hk=>⟨⟨hk.1,⟨hk.2.2.1,⟨hk.2.2.2.1,⟨hk.2.2.2.2.1,⟨hk.2.2.2.2.2.1,hk.2.2.2.2.2.2⟩⟩⟩⟩⟩,hk.2.1⟩)) hg hat);have n7_:=Aside0.mk (bg_ BK211.out hg (Kd.N_ne HO_210000.out BK211.out (by decide)));have n8_:=Aside0.mk (hb);have n9_:=Aside0.mk (ho);clear HO_15;clear HO_205000;clear HO_210003;clear BK204;clear BK205;clear BK209;clear HL210_1;clear BK211;clear HB;clear HO_210000;have HO_15:=n0_;have HO_205000:=n1_;have HO_210003:=n2_;have BK204:=n3_;have BK205:=n4_;have BK209:=n5_;have HL210_1:=n6_;have BK211:=n7_;have HB:=n8_;have HO214:=n9_;clear n0_ n1_ n2_ n3_ n4_ n5_ n6_ n7_ n8_ n9_;clear ho hb hg hat;obtain ⟨Ao29,co29,eo29⟩:=Kd.N_slice HO214.out;subst eo29;have hcz30_0:w28.cell? ⟨gb209,0,none⟩=some (u210000):=zc_ BK209.out 0;have hcz30_1:w28.cell? ⟨gb209,1,none⟩=some (.slice none 0 0):=zc_ BK209.out 1;have hcz30_2:w28.cell? ⟨gb209,2,none⟩=some (.slice none 0 0):=zc_ BK209.out 2;have hcz30_3:w28.cell? ⟨gb209,3,none⟩=some (.slice Ao8 t206.length co8):=zc_ BK209.out 3;have hfz30_0:=blk_frozen BK209.out 0;have hfz30_1:=blk_frozen BK209.out 1;have hfz30_2:=blk_frozen BK209.out 2;have hfz30_3:=blk_frozen BK209.out 3))
       go_roundg k1
       case measure=>have:=HK1.out;omega
       case rel=>exact ⟨(wrap64 (x17_1+1)),(y212),(.slice Ao29 y212.length co29),rf_,H',⟨by have:=HK1.out;omega⟩,⟨by (with_reducible repeat (first|apply Kd.V_alloc|apply Kd.V_drewN|apply Kd.V_drew));exact Kd.V_mono (Kd.V_far (p:=⟨gb209,0,none⟩) (Kd.V_mono HO_15.out (fun k_ hk=>(⟨hk,hk.1.2.2.2.2.1⟩:_∧k_≠gb209))) (fun _ hk=>hk.2) (.slice Ao29 y212.length co29)) (fun _ hk=>⟨hk.1.1.1,⟨hk.1.2,⟨hk.1.1.2.1,⟨hk.1.1.2.2.1,⟨hk.1.1.2.2.2.1,hk.1.1.2.2.2.2.1⟩⟩⟩⟩⟩)⟩,⟨by (with_reducible repeat (first|apply Kd.V_alloc|apply Kd.V_drewN|apply Kd.V_drew));exact Kd.V_mono (Kd.V_far (p:=⟨gb209,0,none⟩) (Kd.V_mono HO_205000.out (fun k_ hk=>(⟨hk,hk.1.2.2.2.2.1⟩:_∧k_≠gb209))) (fun _ hk=>hk.2) (.slice Ao29 y212.length co29)) (fun _ hk=>⟨hk.1.1.1,⟨hk.1.2,⟨hk.1.1.2.1,⟨hk.1.1.2.2.1,⟨hk.1.1.2.2.2.1,hk.1.1.2.2.2.2.1⟩⟩⟩⟩⟩)⟩,⟨by (with_reducible repeat (first|apply Kd.N_alloc|apply Kd.N_drewN|apply Kd.N_drew));exact Kd.N_mono (Kd.N_far (p:=⟨gb209,0,none⟩) (Kd.N_mono HO214.out (fun k_ hk=>(⟨hk,hk.2.2.2.2.1⟩:_∧k_≠gb209))) (fun _ hk=>hk.2) (.slice Ao29 y212.length co29)) (fun _ hk=>⟨hk.1.1,⟨hk.1.2.1,⟨hk.1.2.2.1,⟨hk.1.2.2.2.1,hk.1.2.2.2.2.1⟩⟩⟩⟩)⟩,⟨by (with_reducible repeat (first|apply Kd.N_alloc|apply Kd.N_drewN|apply Kd.N_drew));exact Kd.N_mono (Kd.N_far (p:=⟨gb209,0,none⟩) (Kd.N_mono HO_210003.out (fun k_ hk=>(⟨hk,hk.1.2.2.2.1⟩:_∧k_≠gb209))) (fun _ hk=>hk.2) (.slice Ao29 y212.length co29)) (fun _ hk=>⟨hk.1.1.1,⟨hk.1.2,⟨hk.1.1.2.1,⟨hk.1.1.2.2.1,hk.1.1.2.2.2.1⟩⟩⟩⟩)⟩,⟨kbc_ BK204.out⟩,⟨kbc_ BK205.out⟩,⟨kbc_ BK209.out⟩,⟨bl_ HB.out⟩⟩
      ·rw [if_neg c17] at H
       exact absurd H (by simp)
     ·rw [if_neg c16] at H
      exact absurd H (by simp)
    ·rw [if_neg c15] at H
     exact absurd H (by simp)
   ·rw [if_neg c14] at H
    have c14b0:decide (x17_1 < (l0_0.length:Int))=false:=decide_eq_false c14
    clear c14
    have H':=Aside0.mk H
    clear H
    have hnb31:=NB204_205.out
    have hnc31:=NB205_204.out
    have hnb32:=NB204_209.out
    have hnc32:=NB209_204.out
    have hcz33_0:wr.cell? ⟨gb204,0,none⟩=some (.slice A0_0 l0_0.length c0_0):=zc_ BK204.out 0
    have hcz33_1:wr.cell? ⟨gb204,1,none⟩=some (.slice A0_1 l0_1.length c0_1):=zc_ BK204.out 1
    have hcz33_2:wr.cell? ⟨gb204,2,none⟩=some (.slice A0_2 l0_2.length c0_2):=zc_ BK204.out 2
    have hcz33_3:wr.cell? ⟨gb204,3,none⟩=some (.slice A0_3 l0_3.length c0_3):=zc_ BK204.out 3
    have hfz33_0:=blk_frozen BK204.out 0
    have hfz33_1:=blk_frozen BK204.out 1
    have hfz33_2:=blk_frozen BK204.out 2
    have hfz33_3:=blk_frozen BK204.out 3
    go_wp2
    (try simp only [Act.put,List.setIfInBounds_toArray,List.set_cons_succ,List.set_cons_zero])
    go_loopg [35] k1 (fun kq v35 w'=>∃ (x35_2:Int) (x210001_2:List (S80)) (u210001:Value),v35=.int .i64 x35_2∧Aside0 (helmsmanlaw12_Prog.l1 kq l0_1 (l0_1.length:Int) x35_2 l0_0 l0_1 l0_2 l0_3 x210000_1 x210001_2 t206=some (r1,r2,r3,r4))∧Aside0 (kq≤k1)∧Aside0 (Kd.V k72 72 w' w.heap.size (fun k_=>(P0_0_ k_∨w.heap.size≤k_)∧some k_≠(u210000:Value).ownBlock∧some k_≠(u210001:Value).ownBlock∧some k_≠((.slice Ao8 t206.length co8):Value).ownBlock∧k_≠gb204∧k_≠gb205∧k_≠gb209) (.slice A0_0 l0_0.length c0_0) l0_0)∧Aside0 (Kd.N k79 79 w' w.heap.size (fun k_=>(P0_0_ k_∨w.heap.size≤k_)∧some k_≠(u210001:Value).ownBlock∧some k_≠((.slice Ao8 t206.length co8):Value).ownBlock∧k_≠gb204∧k_≠gb205∧k_≠gb209) u210000 x210000_1)∧Aside0 (Kd.R k80 80 w' w.heap.size (fun k_=>(w.heap.size≤k_)) u210001 x210001_2)∧Aside0 (Kd.N k76 76 w' w.heap.size (fun k_=>(P0_0_ k_∨w.heap.size≤k_)∧some k_≠(u210000:Value).ownBlock∧some k_≠(u210001:Value).ownBlock∧k_≠gb204∧k_≠gb205∧k_≠gb209) (.slice Ao8 t206.length co8) t206)∧Aside0 (w'.heap[gb204]?=some (.cells #[(.slice A0_0 l0_0.length c0_0),(.slice A0_1 l0_1.length c0_1),(.slice A0_2 l0_2.length c0_2),(.slice A0_3 l0_3.length c0_3)] 43 (0,0)))∧Aside0 (w'.heap[gb205]?=some (.cells #[(.slice none 0 0),(.slice none 0 0),(.slice none 0 0),(.slice none 0 0)] 50 (0,0)))∧Aside0 (w'.heap[gb209]?=some (.cells #[u210000,u210001,(.slice none 0 0),(.slice Ao8 t206.length co8)] 50 (0,0)))∧Aside0 (Below w.heap.size w w'))
    case atStart=>exact ⟨(0),(([]:List (S80))),(.slice none 0 0),rf_,H',⟨Nat.le_refl _⟩,⟨by (with_reducible repeat (first|apply Kd.V_alloc|apply Kd.V_drewN|apply Kd.V_drew));exact Kd.V_mono HO_205000.out (fun _ hk=>⟨hk.1,⟨hk.2.1,⟨(by simp [Value.ownBlock]),⟨hk.2.2.1,⟨hk.2.2.2.1,⟨hk.2.2.2.2.1,hk.2.2.2.2.2⟩⟩⟩⟩⟩⟩)⟩,⟨by (with_reducible repeat (first|apply Kd.N_alloc|apply Kd.N_drewN|apply Kd.N_drew));exact Kd.N_mono HO_210000.out (fun _ hk=>⟨hk.1,⟨(by simp [Value.ownBlock]),⟨hk.2.1,⟨hk.2.2.1,⟨hk.2.2.2.1,hk.2.2.2.2⟩⟩⟩⟩⟩)⟩,⟨by first|exact Kd.R_nil _ _ _ _ _|exact Kd.N_nil _ _ _ _ _|exact Kd.V_nil _ _ _ _ _|exact Kd.Q_nil _ _ _ _ _|exact Kd.S_nil _ _ _ _ _⟩,⟨by (with_reducible repeat (first|apply Kd.N_alloc|apply Kd.N_drewN|apply Kd.N_drew));exact Kd.N_mono HO_210003.out (fun _ hk=>⟨hk.1,⟨hk.2.1,⟨(by simp [Value.ownBlock]),⟨hk.2.2.1,⟨hk.2.2.2.1,hk.2.2.2.2⟩⟩⟩⟩⟩)⟩,⟨kb_ BK204.out⟩,⟨kb_ BK205.out⟩,⟨kb_ BK209.out⟩,⟨bl_ HB.out⟩⟩
    case round=>
     clear H'
     (try clear c1);(try clear c2);(try clear p2);(try clear q2);(try clear hx2);(try clear c3);(try clear c5);(try clear p6);(try clear c10);(try clear c11);(try clear c14);(try clear c14b0);(try clear c15);(try clear c15b0);(try clear c16);(try clear c16b0);(try clear c17);(try clear c19);(try clear c20);(try clear c21);(try clear p21);(try clear q21);(try clear hx21);(try clear c24);(try clear c25);(try clear c31);(try clear c32);(try clear hcz12_0);(try clear hcz12_1);(try clear hcz12_2);(try clear hcz12_3);(try clear hcz13_0);(try clear hcz13_1);(try clear hcz13_2);(try clear hcz13_3);(try clear hcz22_0);(try clear hcz22_1);(try clear hcz26_0);(try clear hcz26_1);(try clear hcz26_2);(try clear hcz26_3);(try clear hcz27_0);(try clear hcz27_1);(try clear hcz30_0);(try clear hcz30_1);(try clear hcz30_2);(try clear hcz30_3);(try clear hcz33_0);(try clear hcz33_1);(try clear hcz33_2);(try clear hcz33_3);(try clear hcz6_0);(try clear hcz6_1);(try clear hcz6_2);(try clear hcz6_3);(try clear hfz12_0);(try clear hfz12_1);(try clear hfz12_2);(try clear hfz12_3);(try clear hfz13_0);(try clear hfz13_1);(try clear hfz13_2);(try clear hfz13_3);(try clear hfz22_0);(try clear hfz22_1);(try clear hfz26_0);(try clear hfz26_1);(try clear hfz26_2);(try clear hfz26_3);(try clear hfz27_0);(try clear hfz27_1);(try clear hfz30_0);(try clear hfz30_1);(try clear hfz30_2);(try clear hfz30_3);(try clear hfz33_0);(try clear hfz33_1);(try clear hfz33_2);(try clear hfz33_3);(try clear hfz6_0);(try clear hfz6_1);(try clear hfz6_2);(try clear hfz6_3);(try clear hx210_0);(try clear hx210_1);(try clear p2);(try clear p210);(try clear q210)
     obtain ⟨x35_2,x210001_2,u210001,rfl,HA,HK2,HO_205000,HO_210000,HO_210001,HO_210003,BK204,BK205,BK209,HB⟩:=hrel
     cases gk with
     | zero=>exact absurd HA.out (by simp [helmsmanlaw12_Prog.l1])
     | succ k2=>
      have H:=HA.out
      clear HA
      simp only [helmsmanlaw12_Prog.l1] at H
      by_cases c34:x35_2 < (l0_1.length:Int)
      ·rw [if_pos c34] at H
       have c34b0:decide (x35_2 < (l0_1.length:Int))=true:=decide_eq_true c34
       clear c34
       by_cases c35:0≤x35_2
       ·rw [if_pos c35] at H
        have c35b0:decide (0≤x35_2)=true:=decide_eq_true c35
        clear c35
        by_cases c36:x35_2 < (l0_1.length:Int)
        ·rw [if_pos c36] at H
         have c36b0:decide (x35_2 < (l0_1.length:Int))=true:=decide_eq_true c36
         clear c36
         by_cases c37:x210001_2.length < 3518437208883
         ·rw [if_pos c37] at H
          have LMc37:=Aside0.mk c37
          clear c37
          obtain ⟨y217,hy217⟩ : ∃ y_:List (S80),y_=(x210001_2++[(⟨(rd_T56 l0_1 x35_2).f0,(rd_T56 l0_1 x35_2).f1,(rd_T56 l0_1 x35_2).f2⟩:S80)]):=⟨_,rfl⟩
          replace H:(helmsmanlaw12_Prog.l1 k2 l0_1 (l0_1.length:Int) (wrap64 (x35_2+1)) l0_0 l0_1 l0_2 l0_3 x210000_1 y217 t206)=some (r1,r2,r3,r4):=by first|(rw [hy217];with_reducible exact H)|(have H2_:=(Option.bind_some _ _).symm.trans H;rw [hy217];with_reducible exact H2_)|(have H2_:=(Option.bind_some _ _).symm.trans H;with_reducible exact H2_)|with_reducible exact H|(rw [hy217];exact H)|exact H
          have Ny217:=Aside0.mk hy217
          clear hy217
          have H':=Aside0.mk H
          clear H
          have p215:0≤(x35_2:Int):=of_decide_eq_true as_
          have q215:x35_2 < (l0_1.length:Int):=of_decide_eq_true as_
          obtain ⟨ad215,e215,hx215_0,hx215_1,hx215_2⟩:=at_T56 HR0_1.out x35_2 p215 q215
          cases e215
          replace hx215_0:=(cb_ HB.out hx215_0:_)
          replace hx215_1:=(cb_ HB.out hx215_1:_)
          replace hx215_2:=(cb_ HB.out hx215_2:_)
          replace p215:=eq_true p215
          replace q215:=eq_true q215
          go_wp2_with (first|((with_reducible refine gate_dst (N:=7) rfl ?_);refine box_event ?hg (N:=7) ?hd (cs:=#[.string (⟨#[]⟩:ByteArray),.string (⟨#[]⟩:ByteArray),.int .i64 0]) (t:=56) ?hr ?_;(case hd=>rfl);(case hg=>rfl);(case hr=>first|(go_simp;done)|(go_simp;rfl));intro gb216 hg w38 hbox hb;have n0_:=Aside0.mk (Kd.V_below (Kd.V_elderB (by (with_reducible repeat (first|apply Kd.V_alloc|apply Kd.V_drewN|apply Kd.V_drew));exact HO_205000.out) gb216 (Nat.le_of_eq hg.symm)) hb);have n1_:=Aside0.mk (Kd.N_below (Kd.N_elderB (by (with_reducible repeat (first|apply Kd.N_alloc|apply Kd.N_drewN|apply Kd.N_drew));exact HO_210000.out) gb216 (Nat.le_of_eq hg.symm)) hb);have n2_:=Aside0.mk (Kd.R_below (by (with_reducible repeat (first|apply Kd.R_alloc|apply Kd.R_drewN|apply Kd.R_drew));exact HO_210001.out) hb);have n3_:=Aside0.mk (Kd.N_below (Kd.N_elderB (by (with_reducible repeat (first|apply Kd.N_alloc|apply Kd.N_drewN|apply Kd.N_drew));exact HO_210003.out) gb216 (Nat.le_of_eq hg.symm)) hb);have n4_:=Aside0.mk (bb_ BK204.out hb);have n5_:=Aside0.mk (bb_ BK205.out hb);have n6_:=Aside0.mk (bb_ BK209.out hb);have n7_:=Aside0.mk (below_step (bl_ HB.out) hb);have n8_:=Aside0.mk (hbox);have n9_:=Aside0.mk ((gs_ hg (bl_ HB.out):w.heap.size≤gb216));have n10_:=Aside0.mk ((gs_ hg (bl_ HB.out):w.heap.size≤gb216));have n11_:=Aside0.mk ((nl_ hg BK204.out:gb204≠gb216));have n12_:=Aside0.mk ((nr_ hg BK204.out:gb216≠gb204));have n13_:=Aside0.mk ((nl_ hg BK205.out:gb205≠gb216));have n14_:=Aside0.mk ((nr_ hg BK205.out:gb216≠gb205));have n15_:=Aside0.mk ((nl_ hg BK209.out:gb209≠gb216));have n16_:=Aside0.mk ((nr_ hg BK209.out:gb216≠gb209));clear HO_205000;clear HO_210000;clear HO_210001;clear HO_210003;clear BK204;clear BK205;clear BK209;clear HB;have HO_205000:=n0_;have HO_210000:=n1_;have HO_210001:=n2_;have HO_210003:=n3_;have BK204:=n4_;have BK205:=n5_;have BK209:=n6_;have HB:=n7_;have BK216:=n8_;have GW216:=n9_;have GE216:=n10_;have NB204_216:=n11_;have NB216_204:=n12_;have NB205_216:=n13_;have NB216_205:=n14_;have NB209_216:=n15_;have NB216_209:=n16_;clear n0_ n1_ n2_ n3_ n4_ n5_ n6_ n7_ n8_ n9_ n10_ n11_ n12_ n13_ n14_ n15_ n16_;clear hb hbox hg;have hnb39:=NB216_204.out;have hnc39:=NB204_216.out;have hnb40:=NB216_205.out;have hnc40:=NB205_216.out;have hnb41:=NB216_209.out;have hnc41:=NB209_216.out;have hcz42_0:w38.cell? ⟨gb216,0,none⟩=some (.string (⟨#[]⟩:ByteArray)):=zc_ BK216.out 0;have hcz42_1:w38.cell? ⟨gb216,1,none⟩=some (.string (⟨#[]⟩:ByteArray)):=zc_ BK216.out 1;have hcz42_2:w38.cell? ⟨gb216,2,none⟩=some (.int .i64 0):=zc_ BK216.out 2;have hfz42_0:=blk_frozen BK216.out 0;have hfz42_1:=blk_frozen BK216.out 1;have hfz42_2:=blk_frozen BK216.out 2;have hnb43:=NB209_204.out;have hnc43:=NB204_209.out;have hnb44:=NB209_205.out;have hnc44:=NB205_209.out;have hcz45_0:w38.cell? ⟨gb209,0,none⟩=some (u210000):=zc_ BK209.out 0;have hcz45_1:w38.cell? ⟨gb209,1,none⟩=some (u210001):=zc_ BK209.out 1;have hcz45_2:w38.cell? ⟨gb209,2,none⟩=some (.slice none 0 0):=zc_ BK209.out 2;have hcz45_3:w38.cell? ⟨gb209,3,none⟩=some (.slice Ao8 t206.length co8):=zc_ BK209.out 3;have hfz45_0:=blk_frozen BK209.out 0;have hfz45_1:=blk_frozen BK209.out 1;have hfz45_2:=blk_frozen BK209.out 2;have hfz45_3:=blk_frozen BK209.out 3)|((with_reducible refine gate_builtin (b:=.append) (xs:=#[.tmp 40,.tmp 42]) rfl ?_);at_builtin;refine Kd.R_append k80 (w0:=w) w.heap.size rfl (.tmp 40) (.tmp 42) 46 80 (.agg #[(.string ⟨#[]⟩),(.string ⟨#[]⟩),(.int .i64 0)]) 40 rfl Tryd.underlying46 info80 rfl (by decide) (by omega) u210001 x210001_2 (⟨(rd_T56 l0_1 x35_2).f0,(rd_T56 l0_1 x35_2).f1,(rd_T56 l0_1 x35_2).f2⟩:S80) [.string ((rd_T56 l0_1 x35_2).f0),.string ((rd_T56 l0_1 x35_2).f1),.int .i64 ((rd_T56 l0_1 x35_2).f2)] (fun k_=>(w.heap.size≤k_)) (fun _=>False) rfl (by first|(go_simp;done)|(go_simp;rfl)) ?aP (fun _ hk=>hk.elim) ?aF ?aO ?aB ?aS ?aL ?_;(case aP=>exact k80_mkM _ _ _ (⟨(rd_T56 l0_1 x35_2).f0,(rd_T56 l0_1 x35_2).f1,(rd_T56 l0_1 x35_2).f2⟩:S80));(case aB=>exact (bl_ HB.out));(case aF=>exact (fun k_ hk=>(Nat.le_trans (below_size (bl_ HB.out)) hk)));(case aO=>exact (by (with_reducible repeat (first|apply Kd.R_alloc|apply Kd.R_drewN|apply Kd.R_drew));exact Kd.R_mono (Kd.R_far (p:=⟨gb216,2,none⟩) (Kd.R_far (p:=⟨gb216,1,none⟩) (Kd.R_far (p:=⟨gb216,0,none⟩) (Kd.R_types HO_210001.out BK216.out (by decide)) (fun _ hk=>hk.2) (.string ((rd_T56 l0_1 x35_2).f0))) (fun _ hk=>hk.2) (.string ((rd_T56 l0_1 x35_2).f1))) (fun _ hk=>hk.2) (.int .i64 ((rd_T56 l0_1 x35_2).f2))) (fun _ hk=>hk.1)));(case aS=>exact (below_size (bl_ HB.out)));(case aL=>have:=LMc37.out;omega);intro v218 w46 ho hb hg hat;rw [← Ny217.out] at ho;have n0_:=Aside0.mk (Kd.V_afterv (ok:=(fun k_=>(P0_0_ k_∨w.heap.size≤k_)∧some k_≠(u210000:Value).ownBlock∧some k_≠(.slice Ao8 t206.length co8:Value).ownBlock∧k_≠gb204∧k_≠gb205∧k_≠gb209∧k_≠gb216)) (by (with_reducible repeat (first|apply Kd.V_alloc|apply Kd.V_drewN|apply Kd.V_drew));exact Kd.V_mono (Kd.V_far (p:=⟨gb216,2,none⟩) (Kd.V_far (p:=⟨gb216,1,none⟩) (Kd.V_far (p:=⟨gb216,0,none⟩) (Kd.V_mono HO_205000.out (fun k_ hk=>(⟨hk,hk.2⟩:_∧k_≠gb216))) (fun _ hk=>hk.2) (.string ((rd_T56 l0_1 x35_2).f0))) (fun _ hk=>hk.2) (.string ((rd_T56 l0_1 x35_2).f1))) (fun _ hk=>hk.2) (.int .i64 ((rd_T56 l0_1 x35_2).f2))) (fun _ hk=>⟨⟨hk.1.1.1,⟨hk.1.1.2.1,⟨hk.1.1.2.2.2.1,⟨hk.1.1.2.2.2.2.1,⟨hk.1.1.2.2.2.2.2.1,⟨hk.1.1.2.2.2.2.2.2,hk.1.2⟩⟩⟩⟩⟩⟩,hk.1.1.2.2.1⟩)) hg hat);have n1_:=Aside0.mk (Kd.N_afterv (ok:=(fun k_=>(P0_0_ k_∨w.heap.size≤k_)∧some k_≠(.slice Ao8 t206.length co8:Value).ownBlock∧k_≠gb204∧k_≠gb205∧k_≠gb209∧k_≠gb216)) (by (with_reducible repeat (first|apply Kd.N_alloc|apply Kd.N_drewN|apply Kd.N_drew));exact Kd.N_mono (Kd.N_far (p:=⟨gb216,2,none⟩) (Kd.N_far (p:=⟨gb216,1,none⟩) (Kd.N_far (p:=⟨gb216,0,none⟩) (Kd.N_mono HO_210000.out (fun k_ hk=>(⟨hk,hk.2⟩:_∧k_≠gb216))) (fun _ hk=>hk.2) (.string ((rd_T56 l0_1 x35_2).f0))) (fun _ hk=>hk.2) (.string ((rd_T56 l0_1 x35_2).f1))) (fun _ hk=>hk.2) (.int .i64 ((rd_T56 l0_1 x35_2).f2))) (fun _ hk=>⟨⟨hk.1.1.1,⟨hk.1.1.2.2.1,⟨hk.1.1.2.2.2.1,⟨hk.1.1.2.2.2.2.1,⟨hk.1.1.2.2.2.2.2,hk.1.2⟩⟩⟩⟩⟩,hk.1.1.2.1⟩)) hg hat);have n2_:=Aside0.mk (Kd.N_afterv (ok:=(fun k_=>(P0_0_ k_∨w.heap.size≤k_)∧some k_≠(u210000:Value).ownBlock∧k_≠gb204∧k_≠gb205∧k_≠gb209∧k_≠gb216)) (by (with_reducible repeat (first|apply Kd.N_alloc|apply Kd.N_drewN|apply Kd.N_drew));exact Kd.N_mono (Kd.N_far (p:=⟨gb216,2,none⟩) (Kd.N_far (p:=⟨gb216,1,none⟩) (Kd.N_far (p:=⟨gb216,0,none⟩) (Kd.N_mono HO_210003.out (fun k_ hk=>(⟨hk,hk.2⟩:_∧k_≠gb216))) (fun _ hk=>hk.2) (.string ((rd_T56 l0_1 x35_2).f0))) (fun _ hk=>hk.2) (.string ((rd_T56 l0_1 x35_2).f1))) (fun _ hk=>hk.2) (.int .i64 ((rd_T56 l0_1 x35_2).f2))) (fun _ hk=>⟨⟨hk.1.1.1,⟨hk.1.1.2.1,⟨hk.1.1.2.2.2.1,⟨hk.1.1.2.2.2.2.1,⟨hk.1.1.2.2.2.2.2,hk.1.2⟩⟩⟩⟩⟩,hk.1.1.2.2.1⟩)) hg hat);have n3_:=Aside0.mk (blk_grown (g:=gb204) (o:=.cells #[.slice A0_0 l0_0.length c0_0,.slice (some ad215) l0_1.length c0_1,.slice A0_2 l0_2.length c0_2,.slice A0_3 l0_3.length c0_3] 43 (0,0)) (kbc_ BK204.out) hg (Kd.R_ne HO_210001.out BK204.out (by decide)));have n4_:=Aside0.mk (blk_grown (g:=gb205) (o:=.cells #[.slice none 0 0,.slice none 0 0,.slice none 0 0,.slice none 0 0] 50 (0,0)) (kbc_ BK205.out) hg (Kd.R_ne HO_210001.out BK205.out (by decide)));have n5_:=Aside0.mk (blk_grown (g:=gb209) (o:=.cells #[u210000,u210001,.slice none 0 0,.slice Ao8 t206.length co8] 50 (0,0)) (kbc_ BK209.out) hg (Kd.R_ne HO_210001.out BK209.out (by decide)));have n6_:=Aside0.mk (blk_grown (g:=gb216) (o:=.cells #[.string ((rd_T56 l0_1 x35_2).f0),.string ((rd_T56 l0_1 x35_2).f1),.int .i64 ((rd_T56 l0_1 x35_2).f2)] 56 (0,0)) (kbc_ BK216.out) hg (Kd.R_ne HO_210001.out BK216.out (by decide)));have n7_:=Aside0.mk (hb);have n8_:=Aside0.mk (ho);clear HO_205000;clear HO_210000;clear HO_210003;clear BK204;clear BK205;clear BK209;clear BK216;clear HB;clear HO_210001;have HO_205000:=n0_;have HO_210000:=n1_;have HO_210003:=n2_;have BK204:=n3_;have BK205:=n4_;have BK209:=n5_;have BK216:=n6_;have HB:=n7_;have HO219:=n8_;clear n0_ n1_ n2_ n3_ n4_ n5_ n6_ n7_ n8_;clear ho hb hg hat;obtain ⟨Ao47,co47,eo47⟩:=Kd.R_slice HO219.out;subst eo47;have hcz48_0:w46.cell? ⟨gb209,0,none⟩=some (u210000):=zc_ BK209.out 0;have hcz48_1:w46.cell? ⟨gb209,1,none⟩=some (u210001):=zc_ BK209.out 1;have hcz48_2:w46.cell? ⟨gb209,2,none⟩=some (.slice none 0 0):=zc_ BK209.out 2;have hcz48_3:w46.cell? ⟨gb209,3,none⟩=some (.slice Ao8 t206.length co8):=zc_ BK209.out 3;have hfz48_0:=blk_frozen BK209.out 0;have hfz48_1:=blk_frozen BK209.out 1;have hfz48_2:=blk_frozen BK209.out 2;have hfz48_3:=blk_frozen BK209.out 3))
          go_roundg k2
          case measure=>have:=HK1.out;have:=HK2.out;omega
          case rel=>exact ⟨(wrap64 (x35_2+1)),(y217),(.slice Ao47 y217.length co47),rf_,H',⟨by have:=HK1.out;have:=HK2.out;omega⟩,⟨by (with_reducible repeat (first|apply Kd.V_alloc|apply Kd.V_drewN|apply Kd.V_drew));exact Kd.V_mono (Kd.V_far (p:=⟨gb209,1,none⟩) (Kd.V_mono HO_205000.out (fun k_ hk=>(⟨hk,hk.1.2.2.2.2.2.1⟩:_∧k_≠gb209))) (fun _ hk=>hk.2) (.slice Ao47 y217.length co47)) (fun _ hk=>⟨hk.1.1.1,⟨hk.1.1.2.1,⟨hk.1.2,⟨hk.1.1.2.2.1,⟨hk.1.1.2.2.2.1,⟨hk.1.1.2.2.2.2.1,hk.1.1.2.2.2.2.2.1⟩⟩⟩⟩⟩⟩)⟩,⟨by (with_reducible repeat (first|apply Kd.N_alloc|apply Kd.N_drewN|apply Kd.N_drew));exact Kd.N_mono (Kd.N_far (p:=⟨gb209,1,none⟩) (Kd.N_mono HO_210000.out (fun k_ hk=>(⟨hk,hk.1.2.2.2.2.1⟩:_∧k_≠gb209))) (fun _ hk=>hk.2) (.slice Ao47 y217.length co47)) (fun _ hk=>⟨hk.1.1.1,⟨hk.1.2,⟨hk.1.1.2.1,⟨hk.1.1.2.2.1,⟨hk.1.1.2.2.2.1,hk.1.1.2.2.2.2.1⟩⟩⟩⟩⟩)⟩,⟨by (with_reducible repeat (first|apply Kd.R_alloc|apply Kd.R_drewN|apply Kd.R_drew));exact Kd.R_mono (Kd.R_far (p:=⟨gb209,1,none⟩) (Kd.R_types HO219.out BK209.out (by decide)) (fun _ hk=>hk.2) (.slice Ao47 y217.length co47)) (fun _ hk=>hk.1)⟩,⟨by (with_reducible repeat (first|apply Kd.N_alloc|apply Kd.N_drewN|apply Kd.N_drew));exact Kd.N_mono (Kd.N_far (p:=⟨gb209,1,none⟩) (Kd.N_mono HO_210003.out (fun k_ hk=>(⟨hk,hk.1.2.2.2.2.1⟩:_∧k_≠gb209))) (fun _ hk=>hk.2) (.slice Ao47 y217.length co47)) (fun _ hk=>⟨hk.1.1.1,⟨hk.1.1.2.1,⟨hk.1.2,⟨hk.1.1.2.2.1,⟨hk.1.1.2.2.2.1,hk.1.1.2.2.2.2.1⟩⟩⟩⟩⟩)⟩,⟨kbc_ BK204.out⟩,⟨kbc_ BK205.out⟩,⟨kbc_ BK209.out⟩,⟨bl_ HB.out⟩⟩
         ·rw [if_neg c37] at H
          exact absurd H (by simp)
        ·rw [if_neg c36] at H
         exact absurd H (by simp)
       ·rw [if_neg c35] at H
        exact absurd H (by simp)
      ·rw [if_neg c34] at H
       have c34b0:decide (x35_2 < (l0_1.length:Int))=false:=decide_eq_false c34
       clear c34
       have H':=Aside0.mk H
       clear H
       have hnb49:=NB204_205.out
       have hnc49:=NB205_204.out
       have hnb50:=NB204_209.out
       have hnc50:=NB209_204.out
       have hcz51_0:wr.cell? ⟨gb204,0,none⟩=some (.slice A0_0 l0_0.length c0_0):=zc_ BK204.out 0
       have hcz51_1:wr.cell? ⟨gb204,1,none⟩=some (.slice A0_1 l0_1.length c0_1):=zc_ BK204.out 1
       have hcz51_2:wr.cell? ⟨gb204,2,none⟩=some (.slice A0_2 l0_2.length c0_2):=zc_ BK204.out 2
       have hcz51_3:wr.cell? ⟨gb204,3,none⟩=some (.slice A0_3 l0_3.length c0_3):=zc_ BK204.out 3
       have hfz51_0:=blk_frozen BK204.out 0
       have hfz51_1:=blk_frozen BK204.out 1
       have hfz51_2:=blk_frozen BK204.out 2
       have hfz51_3:=blk_frozen BK204.out 3
       go_wp2
       (try simp only [Act.put,List.setIfInBounds_toArray,List.set_cons_succ,List.set_cons_zero])
       go_loopg [49] k2 (fun kq v49 w'=>∃ (x49_3:Int) (x210002_3:List (S66)) (u210002:Value),v49=.int .i64 x49_3∧Aside0 (helmsmanlaw12_Prog.l2 kq l0_2 (l0_2.length:Int) x49_3 x210000_1 x210001_2 x210002_3 t206=some (r1,r2,r3,r4))∧Aside0 (kq≤k2)∧Aside0 (Kd.V k72 72 w' w.heap.size (fun k_=>(P0_0_ k_∨w.heap.size≤k_)∧some k_≠(u210000:Value).ownBlock∧some k_≠(u210001:Value).ownBlock∧some k_≠(u210002:Value).ownBlock∧some k_≠((.slice Ao8 t206.length co8):Value).ownBlock∧k_≠gb204∧k_≠gb205∧k_≠gb209) (.slice A0_0 l0_0.length c0_0) l0_0)∧Aside0 (Kd.N k79 79 w' w.heap.size (fun k_=>(P0_0_ k_∨w.heap.size≤k_)∧some k_≠(u210001:Value).ownBlock∧some k_≠(u210002:Value).ownBlock∧some k_≠((.slice Ao8 t206.length co8):Value).ownBlock∧k_≠gb204∧k_≠gb205∧k_≠gb209) u210000 x210000_1)∧Aside0 (Kd.R k80 80 w' w.heap.size (fun k_=>(w.heap.size≤k_)) u210001 x210001_2)∧Aside0 (Kd.N k66 66 w' w.heap.size (fun k_=>(P0_0_ k_∨w.heap.size≤k_)∧some k_≠(u210000:Value).ownBlock∧some k_≠(u210001:Value).ownBlock∧some k_≠((.slice Ao8 t206.length co8):Value).ownBlock∧k_≠gb204∧k_≠gb205∧k_≠gb209) u210002 x210002_3)∧Aside0 (Kd.N k76 76 w' w.heap.size (fun k_=>(P0_0_ k_∨w.heap.size≤k_)∧some k_≠(u210000:Value).ownBlock∧some k_≠(u210001:Value).ownBlock∧some k_≠(u210002:Value).ownBlock∧k_≠gb204∧k_≠gb205∧k_≠gb209) (.slice Ao8 t206.length co8) t206)∧Aside0 (w'.heap[gb204]?=some (.cells #[(.slice A0_0 l0_0.length c0_0),(.slice A0_1 l0_1.length c0_1),(.slice A0_2 l0_2.length c0_2),(.slice A0_3 l0_3.length c0_3)] 43 (0,0)))∧Aside0 (w'.heap[gb205]?=some (.cells #[(.slice none 0 0),(.slice none 0 0),(.slice none 0 0),(.slice none 0 0)] 50 (0,0)))∧Aside0 (w'.heap[gb209]?=some (.cells #[u210000,u210001,u210002,(.slice Ao8 t206.length co8)] 50 (0,0)))∧Aside0 (Below w.heap.size w w'))
       case atStart=>exact ⟨(0),(([]:List (S66))),(.slice none 0 0),rf_,H',⟨Nat.le_refl _⟩,⟨by (with_reducible repeat (first|apply Kd.V_alloc|apply Kd.V_drewN|apply Kd.V_drew));exact Kd.V_mono HO_205000.out (fun _ hk=>⟨hk.1,⟨hk.2.1,⟨hk.2.2.1,⟨(by simp [Value.ownBlock]),⟨hk.2.2.2.1,⟨hk.2.2.2.2.1,⟨hk.2.2.2.2.2.1,hk.2.2.2.2.2.2⟩⟩⟩⟩⟩⟩⟩)⟩,⟨by (with_reducible repeat (first|apply Kd.N_alloc|apply Kd.N_drewN|apply Kd.N_drew));exact Kd.N_mono HO_210000.out (fun _ hk=>⟨hk.1,⟨hk.2.1,⟨(by simp [Value.ownBlock]),⟨hk.2.2.1,⟨hk.2.2.2.1,⟨hk.2.2.2.2.1,hk.2.2.2.2.2⟩⟩⟩⟩⟩⟩)⟩,⟨by (with_reducible repeat (first|apply Kd.R_alloc|apply Kd.R_drewN|apply Kd.R_drew));exact HO_210001.out⟩,⟨by first|exact Kd.R_nil _ _ _ _ _|exact Kd.N_nil _ _ _ _ _|exact Kd.V_nil _ _ _ _ _|exact Kd.Q_nil _ _ _ _ _|exact Kd.S_nil _ _ _ _ _⟩,⟨by (with_reducible repeat (first|apply Kd.N_alloc|apply Kd.N_drewN|apply Kd.N_drew));exact Kd.N_mono HO_210003.out (fun _ hk=>⟨hk.1,⟨hk.2.1,⟨hk.2.2.1,⟨(by simp [Value.ownBlock]),⟨hk.2.2.2.1,⟨hk.2.2.2.2.1,hk.2.2.2.2.2⟩⟩⟩⟩⟩⟩)⟩,⟨kb_ BK204.out⟩,⟨kb_ BK205.out⟩,⟨kb_ BK209.out⟩,⟨bl_ HB.out⟩⟩
       case round=>
        clear H'
        (try clear c1);(try clear c2);(try clear p2);(try clear q2);(try clear hx2);(try clear c3);(try clear c4);(try clear c5);(try clear p6);(try clear c10);(try clear c11);(try clear c14);(try clear c14b0);(try clear c15);(try clear c15b0);(try clear c16);(try clear c16b0);(try clear c17);(try clear c19);(try clear c20);(try clear c21);(try clear p21);(try clear q21);(try clear hx21);(try clear c24);(try clear c25);(try clear c31);(try clear c32);(try clear c34);(try clear c34b0);(try clear c35);(try clear c35b0);(try clear c36);(try clear c36b0);(try clear c37);(try clear c39);(try clear c40);(try clear c41);(try clear c43);(try clear c44);(try clear c49);(try clear c50);(try clear hcz12_0);(try clear hcz12_1);(try clear hcz12_2);(try clear hcz12_3);(try clear hcz13_0);(try clear hcz13_1);(try clear hcz13_2);(try clear hcz13_3);(try clear hcz22_0);(try clear hcz22_1);(try clear hcz26_0);(try clear hcz26_1);(try clear hcz26_2);(try clear hcz26_3);(try clear hcz27_0);(try clear hcz27_1);(try clear hcz30_0);(try clear hcz30_1);(try clear hcz30_2);(try clear hcz30_3);(try clear hcz33_0);(try clear hcz33_1);(try clear hcz33_2);(try clear hcz33_3);(try clear hcz42_0);(try clear hcz42_1);(try clear hcz42_2);(try clear hcz45_0);(try clear hcz45_1);(try clear hcz45_2);(try clear hcz45_3);(try clear hcz48_0);(try clear hcz48_1);(try clear hcz48_2);(try clear hcz48_3);(try clear hcz51_0);(try clear hcz51_1);(try clear hcz51_2);(try clear hcz51_3);(try clear hcz6_0);(try clear hcz6_1);(try clear hcz6_2);(try clear hcz6_3);(try clear hfz12_0);(try clear hfz12_1);(try clear hfz12_2);(try clear hfz12_3);(try clear hfz13_0);(try clear hfz13_1);(try clear hfz13_2);(try clear hfz13_3);(try clear hfz22_0);(try clear hfz22_1);(try clear hfz26_0);(try clear hfz26_1);(try clear hfz26_2);(try clear hfz26_3);(try clear hfz27_0);(try clear hfz27_1);(try clear hfz30_0);(try clear hfz30_1);(try clear hfz30_2);(try clear hfz30_3);(try clear hfz33_0);(try clear hfz33_1);(try clear hfz33_2);(try clear hfz33_3);(try clear hfz42_0);(try clear hfz42_1);(try clear hfz42_2);(try clear hfz45_0);(try clear hfz45_1);(try clear hfz45_2);(try clear hfz45_3);(try clear hfz48_0);(try clear hfz48_1);(try clear hfz48_2);(try clear hfz48_3);(try clear hfz51_0);(try clear hfz51_1);(try clear hfz51_2);(try clear hfz51_3);(try clear hfz6_0);(try clear hfz6_1);(try clear hfz6_2);(try clear hfz6_3);(try clear hx210_0);(try clear hx210_1);(try clear hx215_0);(try clear hx215_1);(try clear hx215_2);(try clear p2);(try clear p21);(try clear p210);(try clear p215);(try clear p6);(try clear q2);(try clear q21);(try clear q210);(try clear q215)
        obtain ⟨x49_3,x210002_3,u210002,rfl,HA,HK3,HO_205000,HO_210000,HO_210001,HO_210002,HO_210003,BK204,BK205,BK209,HB⟩:=hrel
        cases gk with
        | zero=>exact absurd HA.out (by simp [helmsmanlaw12_Prog.l2])
        | succ k3=>
         have H:=HA.out
         clear HA
         simp only [helmsmanlaw12_Prog.l2] at H
         by_cases c52:x49_3 < (l0_2.length:Int)
         ·rw [if_pos c52] at H
          have c52b0:decide (x49_3 < (l0_2.length:Int))=true:=decide_eq_true c52
          clear c52
          by_cases c53:0≤x49_3
          ·rw [if_pos c53] at H
           have c53b0:decide (0≤x49_3)=true:=decide_eq_true c53
           clear c53
           by_cases c54:x49_3 < (l0_2.length:Int)
           ·rw [if_pos c54] at H
            have c54b0:decide (x49_3 < (l0_2.length:Int))=true:=decide_eq_true c54
            clear c54
            replace H:=Option.bind_eq_some_iff.mp H
            obtain ⟨t222,A550,H⟩:=H
            replace H:(if x210002_3.length < 3518437208883 then (helmsmanlaw12_Prog.l2 k3 l0_2 (l0_2.length:Int) (wrap64 (x49_3+1)) x210000_1 x210001_2 (x210002_3++[(⟨(rd_T69 l0_2 x49_3).f0,t222⟩:S66)]) t206) else (none))=some (r1,r2,r3,r4):=H
            have A55:=Aside0.mk A550
            clear A550
            by_cases c56:x210002_3.length < 3518437208883
            ·rw [if_pos c56] at H
             have LMc56:=Aside0.mk c56
             clear c56
             obtain ⟨y225,hy225⟩ : ∃ y_:List (S66),y_=(x210002_3++[(⟨(rd_T69 l0_2 x49_3).f0,t222⟩:S66)]):=⟨_,rfl⟩
             replace H:(helmsmanlaw12_Prog.l2 k3 l0_2 (l0_2.length:Int) (wrap64 (x49_3+1)) x210000_1 x210001_2 y225 t206)=some (r1,r2,r3,r4):=by first|(rw [hy225];with_reducible exact H)|(have H2_:=(Option.bind_some _ _).symm.trans H;rw [hy225];with_reducible exact H2_)|(have H2_:=(Option.bind_some _ _).symm.trans H;with_reducible exact H2_)|with_reducible exact H|(rw [hy225];exact H)|exact H
             have Ny225:=Aside0.mk hy225
             clear hy225
             have H':=Aside0.mk H
             clear H
             have p220:0≤(x49_3:Int):=of_decide_eq_true as_
             have q220:x49_3 < (l0_2.length:Int):=of_decide_eq_true as_
             obtain ⟨ad220,A220_1,c220_1,e220,hx220_0,hx220_1,hl220_1,hi220_1⟩:=at_T69 HR0_2.out x49_3 p220 q220
             cases e220
             replace hx220_0:=(cb_ HB.out hx220_0:_)
             replace hx220_1:=(cb_ HB.out hx220_1:_)
             have HR220_1:=Aside0.mk hi220_1
             have HC220_1:=Aside0.mk hl220_1
             clear hi220_1 hl220_1
             replace p220:=eq_true p220
             replace q220:=eq_true q220
             try go_wp2_with (first|((with_reducible refine gate_dst (N:=9) rfl ?_);refine box_event ?hg (N:=9) ?hd (cs:=#[.string (⟨#[]⟩:ByteArray),.slice none 0 0]) (t:=69) ?hr ?_;(case hd=>rfl);(case hg=>rfl);(case hr=>first|(go_simp;done)|(go_simp;rfl));intro gb221 hg w57 hbox hb;have n0_:=Aside0.mk (Kd.V_below (Kd.V_elderB (by (with_reducible repeat (first|apply Kd.V_alloc|apply Kd.V_drewN|apply Kd.V_drew));exact HO_205000.out) gb221 (Nat.le_of_eq hg.symm)) hb);have n1_:=Aside0.mk (Kd.N_below (Kd.N_elderB (by (with_reducible repeat (first|apply Kd.N_alloc|apply Kd.N_drewN|apply Kd.N_drew));exact HO_210000.out) gb221 (Nat.le_of_eq hg.symm)) hb);have n2_:=Aside0.mk (Kd.R_below (by (with_reducible repeat (first|apply Kd.R_alloc|apply Kd.R_drewN|apply Kd.R_drew));exact HO_210001.out) hb);have n3_:=Aside0.mk (Kd.N_below (Kd.N_elderB (by (with_reducible repeat (first|apply Kd.N_alloc|apply Kd.N_drewN|apply Kd.N_drew));exact HO_210002.out) gb221 (Nat.le_of_eq hg.symm)) hb);have n4_:=Aside0.mk (Kd.N_below (Kd.N_elderB (by (with_reducible repeat (first|apply Kd.N_alloc|apply Kd.N_drewN|apply Kd.N_drew));exact HO_210003.out) gb221 (Nat.le_of_eq hg.symm)) hb);have n5_:=Aside0.mk (bb_ BK204.out hb);have n6_:=Aside0.mk (bb_ BK205.out hb);have n7_:=Aside0.mk (bb_ BK209.out hb);have n8_:=Aside0.mk (below_step (bl_ HB.out) hb);have n9_:=Aside0.mk (hbox);have n10_:=Aside0.mk ((gs_ hg (bl_ HB.out):w.heap.size≤gb221));have n11_:=Aside0.mk ((gs_ hg (bl_ HB.out):w.heap.size≤gb221));have n12_:=Aside0.mk ((nl_ hg BK204.out:gb204≠gb221));have n13_:=Aside0.mk ((nr_ hg BK204.out:gb221≠gb204));have n14_:=Aside0.mk ((nl_ hg BK205.out:gb205≠gb221));have n15_:=Aside0.mk ((nr_ hg BK205.out:gb221≠gb205));have n16_:=Aside0.mk ((nl_ hg BK209.out:gb209≠gb221));have n17_:=Aside0.mk ((nr_ hg BK209.out:gb221≠gb209));clear HO_205000;clear HO_210000;clear HO_210001;clear HO_210002;clear HO_210003;clear BK204;clear BK205;clear BK209;clear HB;have HO_205000:=n0_;have HO_210000:=n1_;have HO_210001:=n2_;have HO_210002:=n3_;have HO_210003:=n4_;have BK204:=n5_;have BK205:=n6_;have BK209:=n7_;have HB:=n8_;have BK221:=n9_;have GW221:=n10_;have GE221:=n11_;have NB204_221:=n12_;have NB221_204:=n13_;have NB205_221:=n14_;have NB221_205:=n15_;have NB209_221:=n16_;have NB221_209:=n17_;clear n0_ n1_ n2_ n3_ n4_ n5_ n6_ n7_ n8_ n9_ n10_ n11_ n12_ n13_ n14_ n15_ n16_ n17_;clear hb hbox hg;have hnb58:=NB221_204.out;have hnc58:=NB204_221.out;have hnb59:=NB221_205.out;have hnc59:=NB205_221.out;have hnb60:=NB221_209.out;have hnc60:=NB209_221.out;have hcz61_0:w57.cell? ⟨gb221,0,none⟩=some (.string (⟨#[]⟩:ByteArray)):=zc_ BK221.out 0;have hcz61_1:w57.cell? ⟨gb221,1,none⟩=some (.slice none 0 0):=zc_ BK221.out 1;have hfz61_0:=blk_frozen BK221.out 0;have hfz61_1:=blk_frozen BK221.out 1))
             have n0_:Aside0 (Kd.V k72 72 ((w57.setCell ⟨gb221,0,none⟩ (.string ((rd_T69 l0_2 x49_3).f0))).setCell ⟨gb221,1,none⟩ (.slice A220_1 ((rd_T69 l0_2 x49_3).f1).length c220_1)) w.heap.size (fun k_=>(P0_0_ k_∨w.heap.size≤k_)∧some k_≠(u210000:Value).ownBlock∧some k_≠(u210001:Value).ownBlock∧some k_≠(u210002:Value).ownBlock∧some k_≠(.slice Ao8 t206.length co8:Value).ownBlock∧k_≠gb204∧k_≠gb205∧k_≠gb209∧k_≠gb221) (.slice A0_0 l0_0.length c0_0) l0_0):=⟨by (with_reducible repeat (first|apply Kd.V_alloc|apply Kd.V_drewN|apply Kd.V_drew));exact Kd.V_mono (Kd.V_far (p:=⟨gb221,1,none⟩) (Kd.V_far (p:=⟨gb221,0,none⟩) (Kd.V_mono HO_205000.out (fun k_ hk=>(⟨hk,hk.2⟩:_∧k_≠gb221))) (fun _ hk=>hk.2) (.string ((rd_T69 l0_2 x49_3).f0))) (fun _ hk=>hk.2) (.slice A220_1 ((rd_T69 l0_2 x49_3).f1).length c220_1)) (fun _ hk=>⟨hk.1.1.1,⟨hk.1.1.2.1,⟨hk.1.1.2.2.1,⟨hk.1.1.2.2.2.1,⟨hk.1.1.2.2.2.2.1,⟨hk.1.1.2.2.2.2.2.1,⟨hk.1.1.2.2.2.2.2.2.1,⟨hk.1.1.2.2.2.2.2.2.2,hk.1.2⟩⟩⟩⟩⟩⟩⟩⟩)⟩
             have n1_:Aside0 (Kd.N k79 79 ((w57.setCell ⟨gb221,0,none⟩ (.string ((rd_T69 l0_2 x49_3).f0))).setCell ⟨gb221,1,none⟩ (.slice A220_1 ((rd_T69 l0_2 x49_3).f1).length c220_1)) w.heap.size (fun k_=>(P0_0_ k_∨w.heap.size≤k_)∧some k_≠(u210001:Value).ownBlock∧some k_≠(u210002:Value).ownBlock∧some k_≠(.slice Ao8 t206.length co8:Value).ownBlock∧k_≠gb204∧k_≠gb205∧k_≠gb209∧k_≠gb221) u210000 x210000_1):=⟨by (with_reducible repeat (first|apply Kd.N_alloc|apply Kd.N_drewN|apply Kd.N_drew));exact Kd.N_mono (Kd.N_far (p:=⟨gb221,1,none⟩) (Kd.N_far (p:=⟨gb221,0,none⟩) (Kd.N_mono HO_210000.out (fun k_ hk=>(⟨hk,hk.2⟩:_∧k_≠gb221))) (fun _ hk=>hk.2) (.string ((rd_T69 l0_2 x49_3).f0))) (fun _ hk=>hk.2) (.slice A220_1 ((rd_T69 l0_2 x49_3).f1).length c220_1)) (fun _ hk=>⟨hk.1.1.1,⟨hk.1.1.2.1,⟨hk.1.1.2.2.1,⟨hk.1.1.2.2.2.1,⟨hk.1.1.2.2.2.2.1,⟨hk.1.1.2.2.2.2.2.1,⟨hk.1.1.2.2.2.2.2.2,hk.1.2⟩⟩⟩⟩⟩⟩⟩)⟩
             have n2_:Aside0 (Kd.R k80 80 ((w57.setCell ⟨gb221,0,none⟩ (.string ((rd_T69 l0_2 x49_3).f0))).setCell ⟨gb221,1,none⟩ (.slice A220_1 ((rd_T69 l0_2 x49_3).f1).length c220_1)) w.heap.size (fun k_=>(w.heap.size≤k_)) u210001 x210001_2):=⟨by (with_reducible repeat (first|apply Kd.R_alloc|apply Kd.R_drewN|apply Kd.R_drew));exact Kd.R_mono (Kd.R_far (p:=⟨gb221,1,none⟩) (Kd.R_far (p:=⟨gb221,0,none⟩) (Kd.R_types HO_210001.out BK221.out (by decide)) (fun _ hk=>hk.2) (.string ((rd_T69 l0_2 x49_3).f0))) (fun _ hk=>hk.2) (.slice A220_1 ((rd_T69 l0_2 x49_3).f1).length c220_1)) (fun _ hk=>hk.1)⟩
             have n3_:Aside0 (Kd.N k66 66 ((w57.setCell ⟨gb221,0,none⟩ (.string ((rd_T69 l0_2 x49_3).f0))).setCell ⟨gb221,1,none⟩ (.slice A220_1 ((rd_T69 l0_2 x49_3).f1).length c220_1)) w.heap.size (fun k_=>(P0_0_ k_∨w.heap.size≤k_)∧some k_≠(u210000:Value).ownBlock∧some k_≠(u210001:Value).ownBlock∧some k_≠(.slice Ao8 t206.length co8:Value).ownBlock∧k_≠gb204∧k_≠gb205∧k_≠gb209∧k_≠gb221) u210002 x210002_3):=⟨by (with_reducible repeat (first|apply Kd.N_alloc|apply Kd.N_drewN|apply Kd.N_drew));exact Kd.N_mono (Kd.N_far (p:=⟨gb221,1,none⟩) (Kd.N_far (p:=⟨gb221,0,none⟩) (Kd.N_mono HO_210002.out (fun k_ hk=>(⟨hk,hk.2⟩:_∧k_≠gb221))) (fun _ hk=>hk.2) (.string ((rd_T69 l0_2 x49_3).f0))) (fun _ hk=>hk.2) (.slice A220_1 ((rd_T69 l0_2 x49_3).f1).length c220_1)) (fun _ hk=>⟨hk.1.1.1,⟨hk.1.1.2.1,⟨hk.1.1.2.2.1,⟨hk.1.1.2.2.2.1,⟨hk.1.1.2.2.2.2.1,⟨hk.1.1.2.2.2.2.2.1,⟨hk.1.1.2.2.2.2.2.2,hk.1.2⟩⟩⟩⟩⟩⟩⟩)⟩
             have n4_:Aside0 (Kd.N k76 76 ((w57.setCell ⟨gb221,0,none⟩ (.string ((rd_T69 l0_2 x49_3).f0))).setCell ⟨gb221,1,none⟩ (.slice A220_1 ((rd_T69 l0_2 x49_3).f1).length c220_1)) w.heap.size (fun k_=>(P0_0_ k_∨w.heap.size≤k_)∧some k_≠(u210000:Value).ownBlock∧some k_≠(u210001:Value).ownBlock∧some k_≠(u210002:Value).ownBlock∧k_≠gb204∧k_≠gb205∧k_≠gb209∧k_≠gb221) (.slice Ao8 t206.length co8) t206):=⟨by (with_reducible repeat (first|apply Kd.N_alloc|apply Kd.N_drewN|apply Kd.N_drew));exact Kd.N_mono (Kd.N_far (p:=⟨gb221,1,none⟩) (Kd.N_far (p:=⟨gb221,0,none⟩) (Kd.N_mono HO_210003.out (fun k_ hk=>(⟨hk,hk.2⟩:_∧k_≠gb221))) (fun _ hk=>hk.2) (.string ((rd_T69 l0_2 x49_3).f0))) (fun _ hk=>hk.2) (.slice A220_1 ((rd_T69 l0_2 x49_3).f1).length c220_1)) (fun _ hk=>⟨hk.1.1.1,⟨hk.1.1.2.1,⟨hk.1.1.2.2.1,⟨hk.1.1.2.2.2.1,⟨hk.1.1.2.2.2.2.1,⟨hk.1.1.2.2.2.2.2.1,⟨hk.1.1.2.2.2.2.2.2,hk.1.2⟩⟩⟩⟩⟩⟩⟩)⟩
             have n5_:Aside0 (((w57.setCell ⟨gb221,0,none⟩ (.string ((rd_T69 l0_2 x49_3).f0))).setCell ⟨gb221,1,none⟩ (.slice A220_1 ((rd_T69 l0_2 x49_3).f1).length c220_1)).heap[gb204]?=some (.cells #[.slice A0_0 l0_0.length c0_0,.slice A0_1 l0_1.length c0_1,.slice (some ad220) l0_2.length c0_2,.slice A0_3 l0_3.length c0_3] 43 (0,0))):=⟨kbc_ BK204.out⟩
             have n6_:Aside0 (((w57.setCell ⟨gb221,0,none⟩ (.string ((rd_T69 l0_2 x49_3).f0))).setCell ⟨gb221,1,none⟩ (.slice A220_1 ((rd_T69 l0_2 x49_3).f1).length c220_1)).heap[gb205]?=some (.cells #[.slice none 0 0,.slice none 0 0,.slice none 0 0,.slice none 0 0] 50 (0,0))):=⟨kbc_ BK205.out⟩
             have n7_:Aside0 (((w57.setCell ⟨gb221,0,none⟩ (.string ((rd_T69 l0_2 x49_3).f0))).setCell ⟨gb221,1,none⟩ (.slice A220_1 ((rd_T69 l0_2 x49_3).f1).length c220_1)).heap[gb209]?=some (.cells #[u210000,u210001,u210002,.slice Ao8 t206.length co8] 50 (0,0))):=⟨kbc_ BK209.out⟩
             have n8_:Aside0 (((w57.setCell ⟨gb221,0,none⟩ (.string ((rd_T69 l0_2 x49_3).f0))).setCell ⟨gb221,1,none⟩ (.slice A220_1 ((rd_T69 l0_2 x49_3).f1).length c220_1)).heap[gb221]?=some (.cells #[.string ((rd_T69 l0_2 x49_3).f0),.slice A220_1 ((rd_T69 l0_2 x49_3).f1).length c220_1] 69 (0,0))):=⟨kbc_ BK221.out⟩
             have n9_:Aside0 (Below w.heap.size w ((w57.setCell ⟨gb221,0,none⟩ (.string ((rd_T69 l0_2 x49_3).f0))).setCell ⟨gb221,1,none⟩ (.slice A220_1 ((rd_T69 l0_2 x49_3).f1).length c220_1))):=⟨bl_ HB.out⟩
             (try clear HO_205000)
             (try clear HO_210000)
             (try clear HO_210001)
             (try clear HO_210002)
             (try clear HO_210003)
             (try clear BK204)
             (try clear BK205)
             (try clear BK209)
             (try clear BK221)
             (try clear HB)
             generalize ((w57.setCell ⟨gb221,0,none⟩ (.string ((rd_T69 l0_2 x49_3).f0))).setCell ⟨gb221,1,none⟩ (.slice A220_1 ((rd_T69 l0_2 x49_3).f1).length c220_1))=w62 at n0_ n1_ n2_ n3_ n4_ n5_ n6_ n7_ n8_ n9_ ⊢
             have HO_205000:=n0_
             have HO_210000:=n1_
             have HO_210001:=n2_
             have HO_210002:=n3_
             have HO_210003:=n4_
             have BK204:=n5_
             have BK205:=n6_
             have BK209:=n7_
             have BK221:=n8_
             have HB:=n9_
             clear n0_ n1_ n2_ n3_ n4_ n5_ n6_ n7_ n8_ n9_
             have n0_:=Aside0.mk (Kd.V_drew HO_205000.out)
             have n1_:=Aside0.mk (Kd.N_drew HO_210000.out)
             have n2_:=Aside0.mk (Kd.R_drew HO_210001.out)
             have n3_:=Aside0.mk (Kd.N_drew HO_210002.out)
             have n4_:=Aside0.mk (Kd.N_drew HO_210003.out)
             have n5_:=Aside0.mk (blk_drew BK204.out)
             have n6_:=Aside0.mk (blk_drew BK205.out)
             have n7_:=Aside0.mk (blk_drew BK209.out)
             have n8_:=Aside0.mk (blk_drew BK221.out)
             have n9_:=Aside0.mk (below_drew1 HB.out)
             clear HO_205000
             clear HO_210000
             clear HO_210001
             clear HO_210002
             clear HO_210003
             clear BK204
             clear BK205
             clear BK209
             clear BK221
             clear HB
             have HO_205000:=n0_
             have HO_210000:=n1_
             have HO_210001:=n2_
             have HO_210002:=n3_
             have HO_210003:=n4_
             have BK204:=n5_
             have BK205:=n6_
             have BK209:=n7_
             have BK221:=n8_
             have HB:=n9_
             clear n0_ n1_ n2_ n3_ n4_ n5_ n6_ n7_ n8_ n9_
             refine start_ (n:=12) (S:=fun w'=>w'.cell? ⟨gb209,0,none⟩=some (u210000)∧w'.cell? ⟨gb209,1,none⟩=some (u210001)∧w'.cell? ⟨gb209,2,none⟩=some (u210002)∧w'.cell? ⟨gb209,3,none⟩=some (.slice Ao8 t206.length co8)∧w'.cell? ⟨gb221,0,none⟩=some (.string ((rd_T69 l0_2 x49_3).f0))∧w'.cell? ⟨gb221,1,none⟩=some (.slice A220_1 ((rd_T69 l0_2 x49_3).f1).length c220_1)) (ds:=[11]) (flg 12 0) (by kernel_rfl) rfl (by kernel_rfl) ⟨zc_ BK209.out 0,zc_ BK209.out 1,zc_ BK209.out 2,zc_ BK209.out 3,zc_ BK221.out 0,zc_ BK221.out 1⟩ (fun hHeld=>?_);refine with_tabW helmsmanlaw12_Prog.tab15 helmsmanlaw12_Prog.bits15 (fun HT_ HW_=>?_)
             generalize w62.drew=w63 at HO_205000 HO_210000 HO_210001 HO_210002 HO_210003 BK204 BK205 BK209 BK221 HB hHeld ⊢
             refine pur_ 0 53 (flg 12 1) rfl rfl (any_of HT_.out (by kernel_rfl)) (fun _ _ _ h=>h) ?_
             refine pur_ 2 55 (flg 12 5) rfl rfl (any_of HT_.out (by kernel_rfl)) (fun _ _ _ h=>h) ?_
             refine pur_ 4 57 (flg 12 21) rfl rfl (any_of HT_.out (by kernel_rfl)) (fun _ _ _ h=>h) ?_
             refine tak_ 1 54 (flg 12 23) rfl rfl (take_ofW HT_.out HW_.out (by kernel_rfl)) (fun _ _ _ h=>h) hHeld ?_
             refine tak_ 3 56 (flg 12 31) rfl rfl (take_ofW HT_.out HW_.out (by kernel_rfl)) (fun _ _ _ h=>h) hHeld ?_
             refine tak_ 5 58 (flg 12 63) rfl rfl (take_ofW HT_.out HW_.out (by kernel_rfl)) (fun _ _ _ h=>h) hHeld ?_
             refine one_ (i:=6) (N:=some 59) (flg 12 127) rfl rfl (one_of HT_.out (by kernel_rfl)) (by decide) (fun K hK=>?_)
             refine goes_ Tryd.func24 (by kernel_rfl) rfl #[.slice A220_1 ((rd_T69 l0_2 x49_3).f1).length c220_1] (by rfl) rfl rfl ar_ ?_
             with_reducible refine (helmsmanlaw12_Stmts.calls k3 _ _ ((rd_T69 l0_2 x49_3).f1) t222 _ ?side1 ?side2 A55.out).mono ?_
             (case side1=>exact kc_ HR220_1.out HB.out)
             (case side2=>exact HC220_1.out)
             rintro e w64 ⟨v223,rfl,ho0,hb⟩
             refine ⟨_,rfl,?_⟩
             have n0_:=Aside0.mk (Kd.V_elder' (by (with_reducible repeat (first|apply Kd.V_alloc|apply Kd.V_drewN|apply Kd.V_drew));exact HO_205000.out) (by first|exact Kd.N_base ho0|exact Kd.N_base (Kd.R_N ho0)|exact Kd.N_base (Kd.R_N (Kd.R_bound ho0))) hb)
             have n1_:=Aside0.mk (Kd.N_elder' (by (with_reducible repeat (first|apply Kd.N_alloc|apply Kd.N_drewN|apply Kd.N_drew));exact HO_210000.out) (by first|exact Kd.N_base ho0|exact Kd.N_base (Kd.R_N ho0)|exact Kd.N_base (Kd.R_N (Kd.R_bound ho0))) hb)
             have n2_:=Aside0.mk (Kd.R_below (by (with_reducible repeat (first|apply Kd.R_alloc|apply Kd.R_drewN|apply Kd.R_drew));exact HO_210001.out) hb)
             have n3_:=Aside0.mk (Kd.N_elder' (by (with_reducible repeat (first|apply Kd.N_alloc|apply Kd.N_drewN|apply Kd.N_drew));exact HO_210002.out) (by first|exact Kd.N_base ho0|exact Kd.N_base (Kd.R_N ho0)|exact Kd.N_base (Kd.R_N (Kd.R_bound ho0))) hb)
             have n4_:=Aside0.mk (Kd.N_elder' (by (with_reducible repeat (first|apply Kd.N_alloc|apply Kd.N_drewN|apply Kd.N_drew));exact HO_210003.out) (by first|exact Kd.N_base ho0|exact Kd.N_base (Kd.R_N ho0)|exact Kd.N_base (Kd.R_N (Kd.R_bound ho0))) hb)
             have n5_:=Aside0.mk (Kd.N_lower (Kd.N_mono (ok':=fun k_=>(P0_0_ k_∨w.heap.size≤k_)∧some k_≠(u210000:Value).ownBlock∧some k_≠(u210001:Value).ownBlock∧some k_≠(u210002:Value).ownBlock∧some k_≠(.slice Ao8 t206.length co8:Value).ownBlock∧k_≠gb204∧k_≠gb205∧k_≠gb209∧k_≠gb221) (Kd.R_N (Kd.R_bound ho0)) (fun k_ hk_=>⟨(.inr (Nat.le_trans (below_size (bl_ HB.out)) hk_.2.1)),(Kd.fresh' (Kd.N_lt (by (with_reducible repeat (first|apply Kd.N_alloc|apply Kd.N_drewN|apply Kd.N_drew));exact HO_210000.out)) k_ hk_.2.1),(Kd.fresh' (Kd.R_lt (by (with_reducible repeat (first|apply Kd.R_alloc|apply Kd.R_drewN|apply Kd.R_drew));exact HO_210001.out)) k_ hk_.2.1),(Kd.fresh' (Kd.N_lt (by (with_reducible repeat (first|apply Kd.N_alloc|apply Kd.N_drewN|apply Kd.N_drew));exact HO_210002.out)) k_ hk_.2.1),(Kd.fresh' (Kd.N_lt (by (with_reducible repeat (first|apply Kd.N_alloc|apply Kd.N_drewN|apply Kd.N_drew));exact HO_210003.out)) k_ hk_.2.1),(Kd.freshB (g:=gb204) (o:=.cells #[.slice A0_0 l0_0.length c0_0,.slice A0_1 l0_1.length c0_1,.slice (some ad220) l0_2.length c0_2,.slice A0_3 l0_3.length c0_3] 43 (0,0)) (kb_ BK204.out) k_ hk_.2.1),(Kd.freshB (g:=gb205) (o:=.cells #[.slice none 0 0,.slice none 0 0,.slice none 0 0,.slice none 0 0] 50 (0,0)) (kb_ BK205.out) k_ hk_.2.1),(Kd.freshB (g:=gb209) (o:=.cells #[u210000,u210001,u210002,.slice Ao8 t206.length co8] 50 (0,0)) (kb_ BK209.out) k_ hk_.2.1),(Kd.freshB (g:=gb221) (o:=.cells #[.string ((rd_T69 l0_2 x49_3).f0),.slice A220_1 ((rd_T69 l0_2 x49_3).f1).length c220_1] 69 (0,0)) (kb_ BK221.out) k_ hk_.2.1)⟩)) (below_size (bl_ HB.out)))
             have n6_:=Aside0.mk (bb_ BK204.out hb)
             have n7_:=Aside0.mk (bb_ BK205.out hb)
             have n8_:=Aside0.mk (bb_ BK209.out hb)
             have n9_:=Aside0.mk (bb_ BK221.out hb)
             have n10_:=Aside0.mk (below_step (bl_ HB.out) hb)
             clear HO_205000
             clear HO_210000
             clear HO_210001
             clear HO_210002
             clear HO_210003
             clear BK204
             clear BK205
             clear BK209
             clear BK221
             clear HB
             have HO_205000:=n0_
             have HO_210000:=n1_
             have HO_210001:=n2_
             have HO_210002:=n3_
             have HO_210003:=n4_
             have HO224:=n5_
             have BK204:=n6_
             have BK205:=n7_
             have BK209:=n8_
             have BK221:=n9_
             have HB:=n10_
             clear n0_ n1_ n2_ n3_ n4_ n5_ n6_ n7_ n8_ n9_ n10_
             (try clear hb)
             (try clear hb2)
             (try clear hk)
             (try clear hi)
             (try clear ho0)
             obtain ⟨Ao65,co65,eo65⟩:=Kd.N_slice HO224.out
             (first|subst eo65|(injection eo65 with f1_ f2_ f3_;have f4_:=f1_.symm;have f5_:=f3_.symm;clear f1_ f2_ f3_;subst f4_;subst f5_))
             refine hK.out _ _ ⟨zc_ BK209.out 0,zc_ BK209.out 1,zc_ BK209.out 2,zc_ BK209.out 3,zc_ BK221.out 0,zc_ BK221.out 1⟩ (fun hHeld=>?_)
             clear hK K
             refine norm_ (a':=?_) ?_ ?_
             rotate_left
             ·show Act.put _ (some 59) _=_
              simp only [Act.put,List.setIfInBounds_toArray,List.set_cons_zero,List.set_cons_succ,i64_w,i32_w]
              rfl
             refine pur_ 7 60 (flg 12 255) rfl rfl (any_of HT_.out (by kernel_rfl)) (fun _ _ _ h=>h) ?_
             refine one_ (i:=8) (N:=some 61) (flg 12 511) rfl rfl (one_of HT_.out (by kernel_rfl)) (by decide) (fun K hK=>?_)
             refine value_ (w1:=?_) (v:=?_) (by rfl) rfl ?_ ?_
             rotate_left 2
             ·go_simp
              constructor
              ·rfl
              ·rfl
             refine hK.out _ _ ⟨(blk_cell (blk_alloc BK209.out _) 0).trans rfl,(blk_cell (blk_alloc BK209.out _) 1).trans rfl,(blk_cell (blk_alloc BK209.out _) 2).trans rfl,(blk_cell (blk_alloc BK209.out _) 3).trans rfl,(blk_cell (blk_alloc BK221.out _) 0).trans rfl,(blk_cell (blk_alloc BK221.out _) 1).trans rfl⟩ (fun hHeld=>?_)
             clear hK K
             refine norm_ (a':=?_) ?_ ?_
             rotate_left
             ·show Act.put _ (some 61) _=_
              simp only [Act.put,List.setIfInBounds_toArray,List.set_cons_zero,List.set_cons_succ,i64_w,i32_w]
              rfl
             refine one_ (i:=9) (N:=some 62) (flg 12 1023) rfl rfl (one_of HT_.out (by kernel_rfl)) (by decide) (fun K hK=>?_)
             refine Kd.N_append_step k66 (w0:=w) w.heap.size (by rfl) (.tmp 54) (.tmp 61) 47 66 (.agg #[(.string ⟨#[]⟩),(.slice none 0 0)]) 40 rfl Tryd.underlying47 info66 rfl (by decide) (by omega) u210002 x210002_3 (⟨(rd_T69 l0_2 x49_3).f0,t222⟩:S66) [.string ((rd_T69 l0_2 x49_3).f0),.slice Ao65 t222.length co65] (fun k_=>(P0_0_ k_∨w.heap.size≤k_)∧some k_≠(u210000:Value).ownBlock∧some k_≠(u210001:Value).ownBlock∧some k_≠(.slice Ao8 t206.length co8:Value).ownBlock∧k_≠gb204∧k_≠gb205∧k_≠gb209∧k_≠gb221) (fun k_=>((fun k_=>(P0_0_ k_∨w.heap.size≤k_)∧some k_≠(u210000:Value).ownBlock∧some k_≠(u210001:Value).ownBlock∧some k_≠(.slice Ao8 t206.length co8:Value).ownBlock∧k_≠gb204∧k_≠gb205∧k_≠gb209∧k_≠gb221)) k_∧some k_≠(u210002:Value).ownBlock) rfl rfl ?aP (fun _ hk=>hk) ?aF ?aO ?aB ?aS ?aL ?_
             (case aP=>exact (k66_mkF _ _ (⟨(rd_T69 l0_2 x49_3).f0,t222⟩:S66) (Kd.N_reads' (Kd.N_mono (ok':=(fun k_=>((fun k_=>(P0_0_ k_∨w.heap.size≤k_)∧some k_≠(u210000:Value).ownBlock∧some k_≠(u210001:Value).ownBlock∧some k_≠(.slice Ao8 t206.length co8:Value).ownBlock∧k_≠gb204∧k_≠gb205∧k_≠gb209∧k_≠gb221)) k_∧some k_≠(u210002:Value).ownBlock)) (HO224.out) (fun k_ hk=>⟨⟨hk.1,⟨hk.2.1,⟨hk.2.2.1,⟨hk.2.2.2.2.1,⟨hk.2.2.2.2.2.1,⟨hk.2.2.2.2.2.2.1,⟨hk.2.2.2.2.2.2.2.1,hk.2.2.2.2.2.2.2.2⟩⟩⟩⟩⟩⟩⟩,hk.2.2.2.1⟩))).2.1 (Kd.N_F (Kd.N_mono (ok':=(fun k_=>((fun k_=>(P0_0_ k_∨w.heap.size≤k_)∧some k_≠(u210000:Value).ownBlock∧some k_≠(u210001:Value).ownBlock∧some k_≠(.slice Ao8 t206.length co8:Value).ownBlock∧k_≠gb204∧k_≠gb205∧k_≠gb209∧k_≠gb221)) k_∧some k_≠(u210002:Value).ownBlock)) (HO224.out) (fun k_ hk=>⟨⟨hk.1,⟨hk.2.1,⟨hk.2.2.1,⟨hk.2.2.2.2.1,⟨hk.2.2.2.2.2.1,⟨hk.2.2.2.2.2.2.1,⟨hk.2.2.2.2.2.2.2.1,hk.2.2.2.2.2.2.2.2⟩⟩⟩⟩⟩⟩⟩,hk.2.2.2.1⟩)))))
             (case aB=>exact (bl_ HB.out))
             (case aF=>exact (fun k_ hk=>⟨(.inr (Nat.le_trans (below_size (bl_ HB.out)) hk)),Kd.fresh' (Kd.N_lt (by (with_reducible repeat (first|apply Kd.N_alloc|apply Kd.N_drewN|apply Kd.N_drew));exact HO_210000.out)) k_ hk,Kd.fresh' (Kd.R_lt (by (with_reducible repeat (first|apply Kd.R_alloc|apply Kd.R_drewN|apply Kd.R_drew));exact HO_210001.out)) k_ hk,Kd.fresh' (Kd.N_lt (by (with_reducible repeat (first|apply Kd.N_alloc|apply Kd.N_drewN|apply Kd.N_drew));exact HO_210003.out)) k_ hk,Kd.freshB (g:=gb204) (o:=.cells #[.slice A0_0 l0_0.length c0_0,.slice A0_1 l0_1.length c0_1,.slice (some ad220) l0_2.length c0_2,.slice A0_3 l0_3.length c0_3] 43 (0,0)) (kb_ BK204.out) k_ hk,Kd.freshB (g:=gb205) (o:=.cells #[.slice none 0 0,.slice none 0 0,.slice none 0 0,.slice none 0 0] 50 (0,0)) (kb_ BK205.out) k_ hk,Kd.freshB (g:=gb209) (o:=.cells #[u210000,u210001,u210002,.slice Ao8 t206.length co8] 50 (0,0)) (kb_ BK209.out) k_ hk,Kd.freshB (g:=gb221) (o:=.cells #[.string ((rd_T69 l0_2 x49_3).f0),.slice A220_1 ((rd_T69 l0_2 x49_3).f1).length c220_1] 69 (0,0)) (kb_ BK221.out) k_ hk⟩))
             (case aO=>exact (by (with_reducible repeat (first|apply Kd.N_alloc|apply Kd.N_drewN|apply Kd.N_drew));exact Kd.N_mono HO_210002.out (fun _ hk=>⟨hk.1.1,⟨hk.1.2.1,⟨hk.1.2.2.1,⟨hk.1.2.2.2.1,⟨hk.1.2.2.2.2.1,⟨hk.1.2.2.2.2.2.1,⟨hk.1.2.2.2.2.2.2.1,hk.1.2.2.2.2.2.2.2⟩⟩⟩⟩⟩⟩⟩)))
             (case aS=>exact (below_size (bl_ HB.out)))
             (case aL=>have:=LMc56.out;omega)
             intro v226 w66 ho hb hg hat
             rw [← Ny225.out] at ho
             have n0_:=Aside0.mk (Kd.V_afterv (ok:=(fun k_=>(P0_0_ k_∨w.heap.size≤k_)∧some k_≠(u210000:Value).ownBlock∧some k_≠(u210001:Value).ownBlock∧some k_≠(.slice Ao8 t206.length co8:Value).ownBlock∧some k_≠(.slice Ao65 t222.length co65:Value).ownBlock∧k_≠gb204∧k_≠gb205∧k_≠gb209∧k_≠gb221)) (by (with_reducible repeat (first|apply Kd.V_alloc|apply Kd.V_drewN|apply Kd.V_drew));exact Kd.V_mono HO_205000.out (fun _ hk=>⟨⟨hk.1.1,⟨hk.1.2.1,⟨hk.1.2.2.1,⟨hk.1.2.2.2.2.1,⟨hk.2,⟨hk.1.2.2.2.2.2.1,⟨hk.1.2.2.2.2.2.2.1,⟨hk.1.2.2.2.2.2.2.2.1,hk.1.2.2.2.2.2.2.2.2⟩⟩⟩⟩⟩⟩⟩⟩,hk.1.2.2.2.1⟩)) hg hat)
             have n1_:=Aside0.mk (Kd.N_afterv (ok:=(fun k_=>(P0_0_ k_∨w.heap.size≤k_)∧some k_≠(u210001:Value).ownBlock∧some k_≠(.slice Ao8 t206.length co8:Value).ownBlock∧some k_≠(.slice Ao65 t222.length co65:Value).ownBlock∧k_≠gb204∧k_≠gb205∧k_≠gb209∧k_≠gb221)) (by (with_reducible repeat (first|apply Kd.N_alloc|apply Kd.N_drewN|apply Kd.N_drew));exact Kd.N_mono HO_210000.out (fun _ hk=>⟨⟨hk.1.1,⟨hk.1.2.1,⟨hk.1.2.2.2.1,⟨hk.2,⟨hk.1.2.2.2.2.1,⟨hk.1.2.2.2.2.2.1,⟨hk.1.2.2.2.2.2.2.1,hk.1.2.2.2.2.2.2.2⟩⟩⟩⟩⟩⟩⟩,hk.1.2.2.1⟩)) hg hat)
             have n2_:=Aside0.mk (Kd.R_over' (by (with_reducible repeat (first|apply Kd.R_alloc|apply Kd.R_drewN|apply Kd.R_drew));exact HO_210001.out) (Kd.N_typed (by (with_reducible repeat (first|apply Kd.N_alloc|apply Kd.N_drewN|apply Kd.N_drew));exact HO_210002.out)) (by decide) hg)
             have n3_:=Aside0.mk (Kd.N_afterv (ok:=(fun k_=>(P0_0_ k_∨w.heap.size≤k_)∧some k_≠(u210000:Value).ownBlock∧some k_≠(u210001:Value).ownBlock∧some k_≠(.slice Ao65 t222.length co65:Value).ownBlock∧k_≠gb204∧k_≠gb205∧k_≠gb209∧k_≠gb221)) (by (with_reducible repeat (first|apply Kd.N_alloc|apply Kd.N_drewN|apply Kd.N_drew));exact Kd.N_mono HO_210003.out (fun _ hk=>⟨⟨hk.1.1,⟨hk.1.2.1,⟨hk.1.2.2.1,⟨hk.2,⟨hk.1.2.2.2.2.1,⟨hk.1.2.2.2.2.2.1,⟨hk.1.2.2.2.2.2.2.1,hk.1.2.2.2.2.2.2.2⟩⟩⟩⟩⟩⟩⟩,hk.1.2.2.2.1⟩)) hg hat)
             have n4_:=Aside0.mk (bg_ BK204.out hg (Kd.N_ne HO_210002.out BK204.out (by decide)))
             have n5_:=Aside0.mk (bg_ BK205.out hg (Kd.N_ne HO_210002.out BK205.out (by decide)))
             have n6_:=Aside0.mk (bg_ BK209.out hg (Kd.N_ne HO_210002.out BK209.out (by decide)))
             have n7_:=Aside0.mk (bg_ BK221.out hg (Kd.N_ne HO_210002.out BK221.out (by decide)))
             have n8_:=Aside0.mk (hb)
             have n9_:=Aside0.mk (ho)
             clear HO_205000
             clear HO_210000
             clear HO_210001
             clear HO_210003
             clear BK204
             clear BK205
             clear BK209
             clear BK221
             clear HB
             clear HO_210002
             clear HO224
             have HO_205000:=n0_
             have HO_210000:=n1_
             have HO_210001:=n2_
             have HO_210003:=n3_
             have BK204:=n4_
             have BK205:=n5_
             have BK209:=n6_
             have BK221:=n7_
             have HB:=n8_
             have HO227:=n9_
             clear n0_ n1_ n2_ n3_ n4_ n5_ n6_ n7_ n8_ n9_
             clear ho hb hg hat
             obtain ⟨Ao67,co67,eo67⟩:=Kd.N_slice HO227.out
             (first|subst eo67|(injection eo67 with f1_ f2_ f3_;have f4_:=f1_.symm;have f5_:=f3_.symm;clear f1_ f2_ f3_;subst f4_;subst f5_))
             refine hK.out _ _ ⟨zc_ BK209.out 0,zc_ BK209.out 1,zc_ BK209.out 2,zc_ BK209.out 3,zc_ BK221.out 0,zc_ BK221.out 1⟩ (fun hHeld=>?_)
             clear hK K
             refine norm_ (a':=?_) ?_ ?_
             rotate_left
             ·show Act.put _ (some 62) _=_
              simp only [Act.put,List.setIfInBounds_toArray,List.set_cons_zero,List.set_cons_succ,i64_w,i32_w]
              rfl
             refine pur_ 10 63 (flg 12 2047) rfl rfl (any_of HT_.out (by kernel_rfl)) (fun _ _ _ h=>h) ?_
             refine last_ (i:=11) (N:=none) (flg 12 4095) rfl rfl (one_of HT_.out (by kernel_rfl)) (by decide) (fun K hK=>?_)
             have hs68:w66.cell? ⟨gb209,2,none⟩=some (u210002):=zc_ BK209.out 2
             have hfs68:=blk_frozen BK209.out 2
             have hns68_0:=NB204_209.out
             have hns68_1:=NB205_209.out
             have hns68_3:=NB221_209.out
             have hms68_0:=NB209_204.out
             have hms68_1:=NB209_205.out
             have hms68_3:=NB209_221.out
             refine skip_ (w1:=?_) (by rfl) rfl ?_ ?_
             rotate_left
             ·go_simp
              rfl
             refine hK.out _ _ ?_
             clear hK K
             refine done_ (done_of HT_.out (by kernel_rfl)) ?_
             try go_wp2
             go_roundg k3
             case measure=>have:=HK1.out;have:=HK2.out;have:=HK3.out;omega
             case rel=>exact ⟨(wrap64 (x49_3+1)),(y225),(.slice Ao67 y225.length co67),rf_,H',⟨by have:=HK1.out;have:=HK2.out;have:=HK3.out;omega⟩,⟨by (with_reducible repeat (first|apply Kd.V_alloc|apply Kd.V_drewN|apply Kd.V_drew));exact Kd.V_mono (Kd.V_far (p:=⟨gb209,2,none⟩) (Kd.V_mono HO_205000.out (fun k_ hk=>(⟨hk,hk.1.2.2.2.2.2.2.2.1⟩:_∧k_≠gb209))) (fun _ hk=>hk.2) (.slice Ao67 y225.length co67)) (fun _ hk=>⟨hk.1.1.1,⟨hk.1.1.2.1,⟨hk.1.1.2.2.1,⟨hk.1.2,⟨hk.1.1.2.2.2.1,⟨hk.1.1.2.2.2.2.2.1,⟨hk.1.1.2.2.2.2.2.2.1,hk.1.1.2.2.2.2.2.2.2.1⟩⟩⟩⟩⟩⟩⟩)⟩,⟨by (with_reducible repeat (first|apply Kd.N_alloc|apply Kd.N_drewN|apply Kd.N_drew));exact Kd.N_mono (Kd.N_far (p:=⟨gb209,2,none⟩) (Kd.N_mono HO_210000.out (fun k_ hk=>(⟨hk,hk.1.2.2.2.2.2.2.1⟩:_∧k_≠gb209))) (fun _ hk=>hk.2) (.slice Ao67 y225.length co67)) (fun _ hk=>⟨hk.1.1.1,⟨hk.1.1.2.1,⟨hk.1.2,⟨hk.1.1.2.2.1,⟨hk.1.1.2.2.2.2.1,⟨hk.1.1.2.2.2.2.2.1,hk.1.1.2.2.2.2.2.2.1⟩⟩⟩⟩⟩⟩)⟩,⟨by (with_reducible repeat (first|apply Kd.R_alloc|apply Kd.R_drewN|apply Kd.R_drew));exact Kd.R_mono (Kd.R_far (p:=⟨gb209,2,none⟩) (Kd.R_types HO_210001.out BK209.out (by decide)) (fun _ hk=>hk.2) (.slice Ao67 y225.length co67)) (fun _ hk=>hk.1)⟩,⟨by (with_reducible repeat (first|apply Kd.N_alloc|apply Kd.N_drewN|apply Kd.N_drew));exact Kd.N_mono (Kd.N_far (p:=⟨gb209,2,none⟩) (Kd.N_mono HO227.out (fun k_ hk=>(⟨hk,hk.2.2.2.2.2.2.1⟩:_∧k_≠gb209))) (fun _ hk=>hk.2) (.slice Ao67 y225.length co67)) (fun _ hk=>⟨hk.1.1,⟨hk.1.2.1,⟨hk.1.2.2.1,⟨hk.1.2.2.2.1,⟨hk.1.2.2.2.2.1,⟨hk.1.2.2.2.2.2.1,hk.1.2.2.2.2.2.2.1⟩⟩⟩⟩⟩⟩)⟩,⟨by (with_reducible repeat (first|apply Kd.N_alloc|apply Kd.N_drewN|apply Kd.N_drew));exact Kd.N_mono (Kd.N_far (p:=⟨gb209,2,none⟩) (Kd.N_mono HO_210003.out (fun k_ hk=>(⟨hk,hk.1.2.2.2.2.2.2.1⟩:_∧k_≠gb209))) (fun _ hk=>hk.2) (.slice Ao67 y225.length co67)) (fun _ hk=>⟨hk.1.1.1,⟨hk.1.1.2.1,⟨hk.1.1.2.2.1,⟨hk.1.2,⟨hk.1.1.2.2.2.2.1,⟨hk.1.1.2.2.2.2.2.1,hk.1.1.2.2.2.2.2.2.1⟩⟩⟩⟩⟩⟩)⟩,⟨kbc_ BK204.out⟩,⟨kbc_ BK205.out⟩,⟨kbc_ BK209.out⟩,⟨bl_ HB.out⟩⟩
            ·rw [if_neg c56] at H
             exact absurd H (by simp)
           ·rw [if_neg c54] at H
            exact absurd H (by simp)
          ·rw [if_neg c53] at H
           exact absurd H (by simp)
         ·rw [if_neg c52] at H
          have c52b0:decide (x49_3 < (l0_2.length:Int))=false:=decide_eq_false c52
          clear c52
          simp only [Option.some.injEq,Prod.mk.injEq] at H
          obtain ⟨rfl,rfl,rfl,rfl⟩:=H
          have hnb69:=NB209_204.out
          have hnc69:=NB204_209.out
          have hnb70:=NB209_205.out
          have hnc70:=NB205_209.out
          have hcz71_0:wr.cell? ⟨gb209,0,none⟩=some (u210000):=zc_ BK209.out 0
          have hcz71_1:wr.cell? ⟨gb209,1,none⟩=some (u210001):=zc_ BK209.out 1
          have hcz71_2:wr.cell? ⟨gb209,2,none⟩=some (u210002):=zc_ BK209.out 2
          have hcz71_3:wr.cell? ⟨gb209,3,none⟩=some (.slice Ao8 t206.length co8):=zc_ BK209.out 3
          have hfz71_0:=blk_frozen BK209.out 0
          have hfz71_1:=blk_frozen BK209.out 1
          have hfz71_2:=blk_frozen BK209.out 2
          have hfz71_3:=blk_frozen BK209.out 3
          obtain ⟨Ao72,co72,eo72⟩:=Kd.N_slice HO_210000.out
          subst eo72
          have hnb73:=NB205_204.out
          have hnc73:=NB204_205.out
          have hcz74_0:wr.cell? ⟨gb205,0,none⟩=some (.slice none 0 0):=zc_ BK205.out 0
          have hcz74_1:wr.cell? ⟨gb205,1,none⟩=some (.slice none 0 0):=zc_ BK205.out 1
          have hcz74_2:wr.cell? ⟨gb205,2,none⟩=some (.slice none 0 0):=zc_ BK205.out 2
          have hcz74_3:wr.cell? ⟨gb205,3,none⟩=some (.slice none 0 0):=zc_ BK205.out 3
          have hfz74_0:=blk_frozen BK205.out 0
          have hfz74_1:=blk_frozen BK205.out 1
          have hfz74_2:=blk_frozen BK205.out 2
          have hfz74_3:=blk_frozen BK205.out 3
          obtain ⟨Ao75,co75,eo75⟩:=Kd.R_slice HO_210001.out
          subst eo75
          obtain ⟨Ao76,co76,eo76⟩:=Kd.N_slice HO_210002.out
          subst eo76
          go_wp2
          refine bodyPost_ret (results_cell_row rfl _ _ gb205 50 #[.slice Ao72 x210000_1.length co72,.slice Ao75 x210001_2.length co75,.slice Ao76 x210002_3.length co76,.slice Ao8 t206.length co8] (0,0) _ rfl (kbc_ BK205.out) Tryd.underlying50 rfl (by kernel_rfl)) rfl ?_
          exact ⟨_,_,_,_,rt_,by (with_reducible repeat (first|apply Kd.N_alloc|apply Kd.N_drewN|apply Kd.N_drew));exact Kd.N_mono (Kd.N_far (p:=⟨gb205,3,none⟩) (Kd.N_far (p:=⟨gb205,2,none⟩) (Kd.N_far (p:=⟨gb205,1,none⟩) (Kd.N_far (p:=⟨gb205,0,none⟩) (Kd.N_mono HO_210000.out (fun k_ hk=>(⟨hk,hk.2.2.2.2.2.1⟩:_∧k_≠gb205))) (fun _ hk=>hk.2) (.slice Ao72 x210000_1.length co72)) (fun _ hk=>hk.2) (.slice Ao75 x210001_2.length co75)) (fun _ hk=>hk.2) (.slice Ao76 x210002_3.length co76)) (fun _ hk=>hk.2) (.slice Ao8 t206.length co8)) (fun _ hk=>⟨hk.1.1,⟨hk.1.2.1,⟨hk.1.2.2.1,hk.1.2.2.2.1⟩⟩⟩),by (with_reducible repeat (first|apply Kd.R_alloc|apply Kd.R_drewN|apply Kd.R_drew));exact Kd.R_mono (Kd.R_far (p:=⟨gb205,3,none⟩) (Kd.R_far (p:=⟨gb205,2,none⟩) (Kd.R_far (p:=⟨gb205,1,none⟩) (Kd.R_far (p:=⟨gb205,0,none⟩) (Kd.R_types HO_210001.out BK205.out (by decide)) (fun _ hk=>hk.2) (.slice Ao72 x210000_1.length co72)) (fun _ hk=>hk.2) (.slice Ao75 x210001_2.length co75)) (fun _ hk=>hk.2) (.slice Ao76 x210002_3.length co76)) (fun _ hk=>hk.2) (.slice Ao8 t206.length co8)) (fun _ hk=>hk.1),by (with_reducible repeat (first|apply Kd.N_alloc|apply Kd.N_drewN|apply Kd.N_drew));exact Kd.N_mono (Kd.N_far (p:=⟨gb205,3,none⟩) (Kd.N_far (p:=⟨gb205,2,none⟩) (Kd.N_far (p:=⟨gb205,1,none⟩) (Kd.N_far (p:=⟨gb205,0,none⟩) (Kd.N_mono HO_210002.out (fun k_ hk=>(⟨hk,hk.2.2.2.2.2.1⟩:_∧k_≠gb205))) (fun _ hk=>hk.2) (.slice Ao72 x210000_1.length co72)) (fun _ hk=>hk.2) (.slice Ao75 x210001_2.length co75)) (fun _ hk=>hk.2) (.slice Ao76 x210002_3.length co76)) (fun _ hk=>hk.2) (.slice Ao8 t206.length co8)) (fun _ hk=>⟨hk.1.1,⟨hk.1.2.1,⟨hk.1.2.2.1,hk.1.2.2.2.1⟩⟩⟩),by (with_reducible repeat (first|apply Kd.N_alloc|apply Kd.N_drewN|apply Kd.N_drew));exact Kd.N_mono (Kd.N_far (p:=⟨gb205,3,none⟩) (Kd.N_far (p:=⟨gb205,2,none⟩) (Kd.N_far (p:=⟨gb205,1,none⟩) (Kd.N_far (p:=⟨gb205,0,none⟩) (Kd.N_mono HO_210003.out (fun k_ hk=>(⟨hk,hk.2.2.2.2.2.1⟩:_∧k_≠gb205))) (fun _ hk=>hk.2) (.slice Ao72 x210000_1.length co72)) (fun _ hk=>hk.2) (.slice Ao75 x210001_2.length co75)) (fun _ hk=>hk.2) (.slice Ao76 x210002_3.length co76)) (fun _ hk=>hk.2) (.slice Ao8 t206.length co8)) (fun _ hk=>⟨hk.1.1,⟨hk.1.2.1,⟨hk.1.2.2.1,hk.1.2.2.2.1⟩⟩⟩),bl_ HB.out⟩
end Go.Proofs.YtnnbbeloifhofaaDoor.P
end
