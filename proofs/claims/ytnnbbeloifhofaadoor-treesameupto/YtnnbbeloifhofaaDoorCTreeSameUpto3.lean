/- Texts of this claim, joined. -/
import Derived.Test.YtnnbbeloifhofaaDoorCTreeSameUpto2
import Derived.Test.YtnnbbeloifhofaaDoorCTreeSameUpto0
import Derived.RegionTactic
import Derived.BigRegion
import Derived.Test.YtnnbbeloifhofaaDoorRows
import Derived.Deep.Slices
import Derived.DataReads
import Derived.ChangeArms
section
namespace Go.Proofs.YtnnbbeloifhofaaDoor.P
open Go Go.RowKit Go.Proofs
open Go.Proofs.YtnnbbeloifhofaaDoorW.PrintWords Go.Proofs.YtnnbbeloifhofaaDoorW.PrintLast Go.Proofs.YtnnbbeloifhofaaDoorW.PrintMore
set_option linter.unusedVariables false
set_option linter.unusedSimpArgs false
set_option maxHeartbeats 2000000 in
set_option maxRecDepth 100000 in
theorem stmt_set (s:RS) (c1:s.f0.toList=oSet):StmtOk s:=by
  intro b t d A2 A3 A4 c2 c3 c4 w0 w hP hB hT g2 l2 g3 l3 g4 l4 ho hd0 hd hlen
  rw [okS_eq] at ho
  rw [bulkS_eq] at hd
  rw [stmtB_eq] at hlen ⊢
  unfold stmtF at hlen ⊢
  rw [if_pos c1] at hlen ⊢
  obtain ⟨k,hp⟩:=part_k s.f2 0 ho.1 (by omega)
  obtain ⟨k',hp'⟩:=part_k s.f2 1 ho.1 (by omega)
  have c1b:=opIs c1
  clear c1
  have G2:=Aside0.mk g2
  have L2:=Aside0.mk l2
  have HB0:=Aside0.mk hB
  have HLEN:=Aside0.mk hlen
  have HD:=Aside0.mk hd
  have HPP:=Aside0.mk hp
  have HQQ:=Aside0.mk hp'
  have HP:=Aside0.mk hP
  clear g2 l2 g3 l3 g4 l4 hB hlen hd hp hp' hP
  go_enter Tryd.func61,Tryd.ntmps61
  go_wp2_with (first|((with_reducible refine gate_dst (N:=3) rfl ?_);refine box_event ?hg (N:=3) ?hd (cs:=#[.string s.f0,.string s.f1,.slice A2 (convEs s.f2).length c2,.slice A3 (convSs s.f3).length c3,.slice A4 (convSs s.f4).length c4,.int .i64 s.f5]) (t:=76) ?hr ?_;(case hd=>rfl);(case hg=>rfl);(case hr=>first|(go_simp;done)|(go_simp;rfl));intro gb hg w1 hbox hb;have BK:=Aside0.mk hbox;have GW:=Aside0.mk hg;have HB1:=Aside0.mk hb;clear hb hbox hg;have z0:w1.cell? ⟨gb,0,none⟩=some (.string s.f0):=(blk_cell BK.out 0).trans rfl;have z1:w1.cell? ⟨gb,1,none⟩=some (.string s.f1):=(blk_cell BK.out 1).trans rfl;have z2:w1.cell? ⟨gb,2,none⟩=some (.slice A2 (convEs s.f2).length c2):=(blk_cell BK.out 2).trans rfl;have z3:w1.cell? ⟨gb,3,none⟩=some (.slice A3 (convSs s.f3).length c3):=(blk_cell BK.out 3).trans rfl;have z4:w1.cell? ⟨gb,4,none⟩=some (.slice A4 (convSs s.f4).length c4):=(blk_cell BK.out 4).trans rfl))
  have hHeld0:w1.drew.cell? ⟨gb,0,none⟩=some (.string s.f0)∧w1.drew.cell? ⟨gb,1,none⟩=some (.string s.f1)∧w1.drew.cell? ⟨gb,2,none⟩=some (.slice A2 (convEs s.f2).length c2)∧Below w1.heap.size w1 w1.drew:=⟨z0,z1,z2,Below.drew (Below.refl _ w1)⟩
  refine start_ (n:=8) (ds:=[7]) (S:=fun w'=>w'.cell? ⟨gb,0,none⟩=some (.string s.f0)∧w'.cell? ⟨gb,1,none⟩=some (.string s.f1)∧w'.cell? ⟨gb,2,none⟩=some (.slice A2 (convEs s.f2).length c2)∧Below w1.heap.size w1 w') #[false,false,false,false,false,false,false,false] (by kernel_rfl) rfl rfl hHeld0 (fun hHeld=>?_)
  generalize w1.drew=w2 at hHeld ⊢
  refine pure_ (i:=0) (N:=some 13) (v:=?_) (a':=?_) #[true,false,false,false,false,false,false,false] rfl rfl (by kernel_rfl) (fun _ _ _ h=>h) (Or.inl ⟨by rfl,?_⟩) ?_ ?_
  rotate_left
  · intro w'
    go_simp
    with_reducible rfl
  rotate_left
  · simp only [Act.put,List.setIfInBounds_toArray,List.set_cons_zero,List.set_cons_succ,i64_w,i32_w]
    rfl
  refine pure_ (i:=1) (N:=some 14) (v:=?_) (a':=?_) #[true,true,false,false,false,false,false,false] rfl rfl (by kernel_rfl) (fun _ _ _ h=>h) (Or.inl ⟨by rfl,?_⟩) ?_ ?_
  rotate_left
  · intro w'
    go_simp
    with_reducible rfl
  rotate_left
  · simp only [Act.put,List.setIfInBounds_toArray,List.set_cons_zero,List.set_cons_succ,i64_w,i32_w]
    rfl
  refine pure_ (i:=3) (N:=some 16) (v:=?_) (a':=?_) #[true,true,false,true,false,false,false,false] rfl rfl (by kernel_rfl) (fun _ _ _ h=>h) (Or.inl ⟨by rfl,?_⟩) ?_ ?_
  rotate_left
  · intro w'
    go_simp
    with_reducible rfl
  rotate_left
  · simp only [Act.put,List.setIfInBounds_toArray,List.set_cons_zero,List.set_cons_succ,i64_w,i32_w]
    rfl
  refine take_ (i:=2) (N:=some 15) (v:=?_) (a':=?_) #[true,true,true,true,false,false,false,false] rfl rfl (by kernel_rfl) (fun _ _ _ h=>h) (Or.inl ⟨by rfl,?_⟩) hHeld ?_ ?_
  rotate_left
  · rintro w' ⟨s0,s1,s2,s3⟩
    go_simp
    with_reducible rfl
  rotate_left
  · simp only [Act.put,List.setIfInBounds_toArray,List.set_cons_zero,List.set_cons_succ,i64_w,i32_w]
    rfl
  refine take_ (i:=4) (N:=some 17) (v:=?_) (a':=?_) #[true,true,true,true,true,false,false,false] rfl rfl (by kernel_rfl) (fun _ _ _ h=>h) (Or.inl ⟨by rfl,?_⟩) hHeld ?_ ?_
  rotate_left
  · rintro w' ⟨s0,s1,s2,s3⟩
    go_simp
    with_reducible rfl
  rotate_left
  · simp only [Act.put,List.setIfInBounds_toArray,List.set_cons_zero,List.set_cons_succ,i64_w,i32_w]
    rfl
  refine one_ (i:=5) (N:=some 18) #[true,true,true,true,true,true,false,false] rfl rfl (by kernel_rfl) (by decide) (fun K hK=>?_)
  refine goes_ Tryd.func32 (by kernel_rfl) rfl #[.slice A2 (convEs s.f2).length c2,.int .i64 0] (by rfl) rfl rfl (by (try simp only [List.map_toArray,List.map_cons,List.map_nil]);first|done|rfl) ?_
  have hb2:Below w0.heap.size w0 w2:=HB0.out.trans ((HB1.out.trans (hHeld.2.2.2.mono HB1.out.size)).mono HB0.out.size)
  refine (tree_part.calls k A2 c2 (convEs s.f2) 0 _ w2 (hT.later hb2) (Kd.C_below G2.out hb2) L2.out HPP.out).mono ?_
  clear hb2
  rintro e w3 ⟨rfl,hb⟩
  refine ⟨_,rfl,?_⟩
  obtain ⟨t0,t1,t2,t3⟩:=hHeld
  have hHeld:w3.cell? ⟨gb,0,none⟩=some (.string s.f0)∧w3.cell? ⟨gb,1,none⟩=some (.string s.f1)∧w3.cell? ⟨gb,2,none⟩=some (.slice A2 (convEs s.f2).length c2)∧Below w1.heap.size w1 w3:=⟨(hb.cell (World.block_lt_of_cell? w2 _ t0)).trans t0,(hb.cell (World.block_lt_of_cell? w2 _ t1)).trans t1,(hb.cell (World.block_lt_of_cell? w2 _ t2)).trans t2,t3.trans (hb.mono t3.size)⟩
  refine hK.out _ _ hHeld (fun hHeld=>?_)
  clear hK K t0 t1 t2 t3 hb
  refine norm_ (a':=?_) ?_ ?_
  rotate_left
  · show Act.put _ (some 18) _=_
    simp only [Act.put,List.setIfInBounds_toArray,List.set_cons_zero,List.set_cons_succ,i64_w,i32_w]
    rfl
  refine one_ (i:=6) (N:=some 19) #[true,true,true,true,true,true,true,false] rfl rfl (by kernel_rfl) (by decide) (fun K hK=>?_)
  refine Kd.R_lit_step Kd.string (w0:=w3) w3.heap.size 9 (by rfl) (N:=19) rfl (xs:=[s.f1,(lit [32,61,32]),(nth (textEs s.f2) 0),(lit [59])]) (inner:=[.string s.f1,.string (lit [32,61,32]),.string (nth (textEs s.f2) 0),.string (lit [59])]) (ok:=fun _=>True) (okp:=fun _=>True) ?hr ?hp (fun _ hk=>hk) trivial (Below.refl _ _) (Nat.le_refl _) (by simp) ?_
  case hr=>first|(go_simp;done)|(go_simp;rfl)
  case hp=>exact Reps.one (show Kd.M Kd.string _ _ _ (s.f1) [.string (s.f1)] from rfl) (Reps.one (show Kd.M Kd.string _ _ _ ((lit [32,61,32])) [.string ((lit [32,61,32]))] from rfl) (Reps.one (show Kd.M Kd.string _ _ _ ((nth (textEs s.f2) 0)) [.string ((nth (textEs s.f2) 0))] from rfl) (Reps.one (show Kd.M Kd.string _ _ _ ((lit [59])) [.string ((lit [59]))] from rfl) (Reps.none _ _))))
  intro vrow w4 hrow hb hg_ hnew_
  clear hg_ hnew_
  obtain ⟨Ao,co,rfl⟩:=Kd.R_slice hrow
  have hro:=(Kd.R_reads' hrow).2
  obtain ⟨t0,t1,t2,t3⟩:=hHeld
  have hHeld:w4.cell? ⟨gb,0,none⟩=some (.string s.f0)∧w4.cell? ⟨gb,1,none⟩=some (.string s.f1)∧w4.cell? ⟨gb,2,none⟩=some (.slice A2 (convEs s.f2).length c2)∧Below w1.heap.size w1 w4:=⟨(hb.cell (World.block_lt_of_cell? w3 _ t0)).trans t0,(hb.cell (World.block_lt_of_cell? w3 _ t1)).trans t1,(hb.cell (World.block_lt_of_cell? w3 _ t2)).trans t2,t3.trans (hb.mono t3.size)⟩
  refine hK.out _ _ hHeld (fun hHeld=>?_)
  clear hK K t0 t1 t2 t3 hb hrow
  refine norm_ (a':=?_) ?_ ?_
  rotate_left
  · show Act.put _ (some 19) _=_
    simp only [Act.put,List.setIfInBounds_toArray,List.set_cons_zero,List.set_cons_succ,i64_w,i32_w]
    rfl
  have e4:Below w.heap.size w w4:=HB1.out.trans (hHeld.2.2.2.mono HB1.out.size)
  refine last_ (i:=7) (N:=some 20) #[true,true,true,true,true,true,true,true] rfl rfl (by kernel_rfl) (by decide) (fun K hK=>?_)
  refine goes_ Tryd.func38 (by kernel_rfl) rfl #[.pointer (some ⟨b,0,none⟩),.slice Ao 4 co] (by rfl) rfl rfl (by (try simp only [List.map_toArray,List.map_cons,List.map_nil]);first|done|rfl) ?_
  refine (line_pr w0.heap.size b t d Ao co [s.f1,(lit [32,61,32]),(nth (textEs s.f2) 0),(lit [59])] w4 (HP.out.kept e4) hro.2 hro.1 hd0 (by have:=HD.out;omega) (by simp) HLEN.out (Nat.le_trans HB0.out.size e4.size)).mono ?_
  rintro e w5 ⟨rfl,hP5,hb,hs5⟩
  refine ⟨_,rfl,?_⟩
  refine hK.out _ _ ?_
  refine done_ (by kernel_rfl) ?_
  try go_wp2
  go_end0
  exact ⟨rfl,.inr hP5,(e4.mono HB0.out.size).trans hb,(Beside.of e4).trans hs5⟩
end Go.Proofs.YtnnbbeloifhofaaDoor.P
end
section
namespace Go.Proofs.YtnnbbeloifhofaaDoor.P
open Go Go.RowKit Go.Proofs
open Go.Proofs.YtnnbbeloifhofaaDoorW.PrintWords Go.Proofs.YtnnbbeloifhofaaDoorW.PrintLast Go.Proofs.YtnnbbeloifhofaaDoorW.PrintMore
set_option linter.unusedVariables false
set_option linter.unusedSimpArgs false
set_option maxHeartbeats 2000000 in
set_option maxRecDepth 100000 in
theorem stmt_put (s:RS) (n0 : ¬ s.f0.toList=oSet) (c1:s.f0.toList=oPut):StmtOk s:=by
  intro b t d A2 A3 A4 c2 c3 c4 w0 w hP hB hT g2 l2 g3 l3 g4 l4 ho hd0 hd hlen
  rw [okS_eq] at ho
  rw [bulkS_eq] at hd
  rw [stmtB_eq] at hlen ⊢
  unfold stmtF at hlen ⊢
  rw [if_neg n0,if_pos c1] at hlen ⊢
  obtain ⟨k,hp⟩:=part_k s.f2 0 ho.1 (by omega)
  obtain ⟨k',hp'⟩:=part_k s.f2 1 ho.1 (by omega)
  have m0:=opNo n0
  clear n0
  have c1b:=opIs c1
  clear c1
  have G2:=Aside0.mk g2
  have L2:=Aside0.mk l2
  have HB0:=Aside0.mk hB
  have HLEN:=Aside0.mk hlen
  have HD:=Aside0.mk hd
  have HPP:=Aside0.mk hp
  have HQQ:=Aside0.mk hp'
  have HP:=Aside0.mk hP
  clear g2 l2 g3 l3 g4 l4 hB hlen hd hp hp' hP
  go_enter Tryd.func61,Tryd.ntmps61
  go_wp2_with (first|((with_reducible refine gate_dst (N:=3) rfl ?_);refine box_event ?hg (N:=3) ?hd (cs:=#[.string s.f0,.string s.f1,.slice A2 (convEs s.f2).length c2,.slice A3 (convSs s.f3).length c3,.slice A4 (convSs s.f4).length c4,.int .i64 s.f5]) (t:=76) ?hr ?_;(case hd=>rfl);(case hg=>rfl);(case hr=>first|(go_simp;done)|(go_simp;rfl));intro gb hg w1 hbox hb;have BK:=Aside0.mk hbox;have GW:=Aside0.mk hg;have HB1:=Aside0.mk hb;clear hb hbox hg;have z0:w1.cell? ⟨gb,0,none⟩=some (.string s.f0):=(blk_cell BK.out 0).trans rfl;have z1:w1.cell? ⟨gb,1,none⟩=some (.string s.f1):=(blk_cell BK.out 1).trans rfl;have z2:w1.cell? ⟨gb,2,none⟩=some (.slice A2 (convEs s.f2).length c2):=(blk_cell BK.out 2).trans rfl;have z3:w1.cell? ⟨gb,3,none⟩=some (.slice A3 (convSs s.f3).length c3):=(blk_cell BK.out 3).trans rfl;have z4:w1.cell? ⟨gb,4,none⟩=some (.slice A4 (convSs s.f4).length c4):=(blk_cell BK.out 4).trans rfl))
  have hHeld0:w1.drew.cell? ⟨gb,0,none⟩=some (.string s.f0)∧w1.drew.cell? ⟨gb,1,none⟩=some (.string s.f1)∧w1.drew.cell? ⟨gb,2,none⟩=some (.slice A2 (convEs s.f2).length c2)∧Below w1.heap.size w1 w1.drew:=⟨z0,z1,z2,Below.drew (Below.refl _ w1)⟩
  refine start_ (n:=11) (ds:=[10]) (S:=fun w'=>w'.cell? ⟨gb,0,none⟩=some (.string s.f0)∧w'.cell? ⟨gb,1,none⟩=some (.string s.f1)∧w'.cell? ⟨gb,2,none⟩=some (.slice A2 (convEs s.f2).length c2)∧Below w1.heap.size w1 w') #[false,false,false,false,false,false,false,false,false,false,false] (by kernel_rfl) rfl rfl hHeld0 (fun hHeld=>?_)
  generalize w1.drew=w2 at hHeld ⊢
  refine pure_ (i:=0) (N:=some 23) (v:=?_) (a':=?_) #[true,false,false,false,false,false,false,false,false,false,false] rfl rfl (by kernel_rfl) (fun _ _ _ h=>h) (Or.inl ⟨by rfl,?_⟩) ?_ ?_
  rotate_left
  · intro w'
    go_simp
    with_reducible rfl
  rotate_left
  · simp only [Act.put,List.setIfInBounds_toArray,List.set_cons_zero,List.set_cons_succ,i64_w,i32_w]
    rfl
  refine pure_ (i:=1) (N:=some 24) (v:=?_) (a':=?_) #[true,true,false,false,false,false,false,false,false,false,false] rfl rfl (by kernel_rfl) (fun _ _ _ h=>h) (Or.inl ⟨by rfl,?_⟩) ?_ ?_
  rotate_left
  · intro w'
    go_simp
    with_reducible rfl
  rotate_left
  · simp only [Act.put,List.setIfInBounds_toArray,List.set_cons_zero,List.set_cons_succ,i64_w,i32_w]
    rfl
  refine pure_ (i:=3) (N:=some 26) (v:=?_) (a':=?_) #[true,true,false,true,false,false,false,false,false,false,false] rfl rfl (by kernel_rfl) (fun _ _ _ h=>h) (Or.inl ⟨by rfl,?_⟩) ?_ ?_
  rotate_left
  · intro w'
    go_simp
    with_reducible rfl
  rotate_left
  · simp only [Act.put,List.setIfInBounds_toArray,List.set_cons_zero,List.set_cons_succ,i64_w,i32_w]
    rfl
  refine pure_ (i:=6) (N:=some 29) (v:=?_) (a':=?_) #[true,true,false,true,false,false,true,false,false,false,false] rfl rfl (by kernel_rfl) (fun _ _ _ h=>h) (Or.inl ⟨by rfl,?_⟩) ?_ ?_
  rotate_left
  · intro w'
    go_simp
    with_reducible rfl
  rotate_left
  · simp only [Act.put,List.setIfInBounds_toArray,List.set_cons_zero,List.set_cons_succ,i64_w,i32_w]
    rfl
  refine take_ (i:=2) (N:=some 25) (v:=?_) (a':=?_) #[true,true,true,true,false,false,true,false,false,false,false] rfl rfl (by kernel_rfl) (fun _ _ _ h=>h) (Or.inl ⟨by rfl,?_⟩) hHeld ?_ ?_
  rotate_left
  · rintro w' ⟨s0,s1,s2,s3⟩
    go_simp
    with_reducible rfl
  rotate_left
  · simp only [Act.put,List.setIfInBounds_toArray,List.set_cons_zero,List.set_cons_succ,i64_w,i32_w]
    rfl
  refine take_ (i:=4) (N:=some 27) (v:=?_) (a':=?_) #[true,true,true,true,true,false,true,false,false,false,false] rfl rfl (by kernel_rfl) (fun _ _ _ h=>h) (Or.inl ⟨by rfl,?_⟩) hHeld ?_ ?_
  rotate_left
  · rintro w' ⟨s0,s1,s2,s3⟩
    go_simp
    with_reducible rfl
  rotate_left
  · simp only [Act.put,List.setIfInBounds_toArray,List.set_cons_zero,List.set_cons_succ,i64_w,i32_w]
    rfl
  refine take_ (i:=7) (N:=some 30) (v:=?_) (a':=?_) #[true,true,true,true,true,false,true,true,false,false,false] rfl rfl (by kernel_rfl) (fun _ _ _ h=>h) (Or.inl ⟨by rfl,?_⟩) hHeld ?_ ?_
  rotate_left
  · rintro w' ⟨s0,s1,s2,s3⟩
    go_simp
    with_reducible rfl
  rotate_left
  · simp only [Act.put,List.setIfInBounds_toArray,List.set_cons_zero,List.set_cons_succ,i64_w,i32_w]
    rfl
  refine one_ (i:=5) (N:=some 28) #[true,true,true,true,true,true,true,true,false,false,false] rfl rfl (by kernel_rfl) (by decide) (fun K hK=>?_)
  refine goes_ Tryd.func32 (by kernel_rfl) rfl #[.slice A2 (convEs s.f2).length c2,.int .i64 0] (by rfl) rfl rfl (by (try simp only [List.map_toArray,List.map_cons,List.map_nil]);first|done|rfl) ?_
  have hb2:Below w0.heap.size w0 w2:=HB0.out.trans ((HB1.out.trans (hHeld.2.2.2.mono HB1.out.size)).mono HB0.out.size)
  refine (tree_part.calls k A2 c2 (convEs s.f2) 0 _ w2 (hT.later hb2) (Kd.C_below G2.out hb2) L2.out HPP.out).mono ?_
  clear hb2
  rintro e w3 ⟨rfl,hb⟩
  refine ⟨_,rfl,?_⟩
  obtain ⟨t0,t1,t2,t3⟩:=hHeld
  have hHeld:w3.cell? ⟨gb,0,none⟩=some (.string s.f0)∧w3.cell? ⟨gb,1,none⟩=some (.string s.f1)∧w3.cell? ⟨gb,2,none⟩=some (.slice A2 (convEs s.f2).length c2)∧Below w1.heap.size w1 w3:=⟨(hb.cell (World.block_lt_of_cell? w2 _ t0)).trans t0,(hb.cell (World.block_lt_of_cell? w2 _ t1)).trans t1,(hb.cell (World.block_lt_of_cell? w2 _ t2)).trans t2,t3.trans (hb.mono t3.size)⟩
  refine hK.out _ _ hHeld (fun hHeld=>?_)
  clear hK K t0 t1 t2 t3 hb
  refine norm_ (a':=?_) ?_ ?_
  rotate_left
  · show Act.put _ (some 28) _=_
    simp only [Act.put,List.setIfInBounds_toArray,List.set_cons_zero,List.set_cons_succ,i64_w,i32_w]
    rfl
  refine one_ (i:=8) (N:=some 31) #[true,true,true,true,true,true,true,true,true,false,false] rfl rfl (by kernel_rfl) (by decide) (fun K hK=>?_)
  refine goes_ Tryd.func32 (by kernel_rfl) rfl #[.slice A2 (convEs s.f2).length c2,.int .i64 1] (by rfl) rfl rfl (by (try simp only [List.map_toArray,List.map_cons,List.map_nil]);first|done|rfl) ?_
  have hb2:Below w0.heap.size w0 w3:=HB0.out.trans ((HB1.out.trans (hHeld.2.2.2.mono HB1.out.size)).mono HB0.out.size)
  refine (tree_part.calls k' A2 c2 (convEs s.f2) 1 _ w3 (hT.later hb2) (Kd.C_below G2.out hb2) L2.out HQQ.out).mono ?_
  clear hb2
  rintro e w4 ⟨rfl,hb⟩
  refine ⟨_,rfl,?_⟩
  obtain ⟨t0,t1,t2,t3⟩:=hHeld
  have hHeld:w4.cell? ⟨gb,0,none⟩=some (.string s.f0)∧w4.cell? ⟨gb,1,none⟩=some (.string s.f1)∧w4.cell? ⟨gb,2,none⟩=some (.slice A2 (convEs s.f2).length c2)∧Below w1.heap.size w1 w4:=⟨(hb.cell (World.block_lt_of_cell? w3 _ t0)).trans t0,(hb.cell (World.block_lt_of_cell? w3 _ t1)).trans t1,(hb.cell (World.block_lt_of_cell? w3 _ t2)).trans t2,t3.trans (hb.mono t3.size)⟩
  refine hK.out _ _ hHeld (fun hHeld=>?_)
  clear hK K t0 t1 t2 t3 hb
  refine norm_ (a':=?_) ?_ ?_
  rotate_left
  · show Act.put _ (some 31) _=_
    simp only [Act.put,List.setIfInBounds_toArray,List.set_cons_zero,List.set_cons_succ,i64_w,i32_w]
    rfl
  refine one_ (i:=9) (N:=some 32) #[true,true,true,true,true,true,true,true,true,true,false] rfl rfl (by kernel_rfl) (by decide) (fun K hK=>?_)
  refine Kd.R_lit_step Kd.string (w0:=w4) w4.heap.size 9 (by rfl) (N:=32) rfl (xs:=[s.f1,(lit [91]),(nth (textEs s.f2) 0),(lit [93,32,61,32]),(nth (textEs s.f2) 1),(lit [59])]) (inner:=[.string s.f1,.string (lit [91]),.string (nth (textEs s.f2) 0),.string (lit [93,32,61,32]),.string (nth (textEs s.f2) 1),.string (lit [59])]) (ok:=fun _=>True) (okp:=fun _=>True) ?hr ?hp (fun _ hk=>hk) trivial (Below.refl _ _) (Nat.le_refl _) (by simp) ?_
  case hr=>first|(go_simp;done)|(go_simp;rfl)
  case hp=>exact Reps.one (show Kd.M Kd.string _ _ _ (s.f1) [.string (s.f1)] from rfl) (Reps.one (show Kd.M Kd.string _ _ _ ((lit [91])) [.string ((lit [91]))] from rfl) (Reps.one (show Kd.M Kd.string _ _ _ ((nth (textEs s.f2) 0)) [.string ((nth (textEs s.f2) 0))] from rfl) (Reps.one (show Kd.M Kd.string _ _ _ ((lit [93,32,61,32])) [.string ((lit [93,32,61,32]))] from rfl) (Reps.one (show Kd.M Kd.string _ _ _ ((nth (textEs s.f2) 1)) [.string ((nth (textEs s.f2) 1))] from rfl) (Reps.one (show Kd.M Kd.string _ _ _ ((lit [59])) [.string ((lit [59]))] from rfl) (Reps.none _ _))))))
  intro vrow w5 hrow hb hg_ hnew_
  clear hg_ hnew_
  obtain ⟨Ao,co,rfl⟩:=Kd.R_slice hrow
  have hro:=(Kd.R_reads' hrow).2
  obtain ⟨t0,t1,t2,t3⟩:=hHeld
  have hHeld:w5.cell? ⟨gb,0,none⟩=some (.string s.f0)∧w5.cell? ⟨gb,1,none⟩=some (.string s.f1)∧w5.cell? ⟨gb,2,none⟩=some (.slice A2 (convEs s.f2).length c2)∧Below w1.heap.size w1 w5:=⟨(hb.cell (World.block_lt_of_cell? w4 _ t0)).trans t0,(hb.cell (World.block_lt_of_cell? w4 _ t1)).trans t1,(hb.cell (World.block_lt_of_cell? w4 _ t2)).trans t2,t3.trans (hb.mono t3.size)⟩
  refine hK.out _ _ hHeld (fun hHeld=>?_)
  clear hK K t0 t1 t2 t3 hb hrow
  refine norm_ (a':=?_) ?_ ?_
  rotate_left
  · show Act.put _ (some 32) _=_
    simp only [Act.put,List.setIfInBounds_toArray,List.set_cons_zero,List.set_cons_succ,i64_w,i32_w]
    rfl
  have e4:Below w.heap.size w w5:=HB1.out.trans (hHeld.2.2.2.mono HB1.out.size)
  refine last_ (i:=10) (N:=some 33) #[true,true,true,true,true,true,true,true,true,true,true] rfl rfl (by kernel_rfl) (by decide) (fun K hK=>?_)
  refine goes_ Tryd.func38 (by kernel_rfl) rfl #[.pointer (some ⟨b,0,none⟩),.slice Ao 6 co] (by rfl) rfl rfl (by (try simp only [List.map_toArray,List.map_cons,List.map_nil]);first|done|rfl) ?_
  refine (line_pr w0.heap.size b t d Ao co [s.f1,(lit [91]),(nth (textEs s.f2) 0),(lit [93,32,61,32]),(nth (textEs s.f2) 1),(lit [59])] w5 (HP.out.kept e4) hro.2 hro.1 hd0 (by have:=HD.out;omega) (by simp) HLEN.out (Nat.le_trans HB0.out.size e4.size)).mono ?_
  rintro e w6 ⟨rfl,hP5,hb,hs5⟩
  refine ⟨_,rfl,?_⟩
  refine hK.out _ _ ?_
  refine done_ (by kernel_rfl) ?_
  try go_wp2
  go_end0
  exact ⟨rfl,.inr hP5,(e4.mono HB0.out.size).trans hb,(Beside.of e4).trans hs5⟩
end Go.Proofs.YtnnbbeloifhofaaDoor.P
end
section
namespace Go.Proofs.YtnnbbeloifhofaaDoor.P
open Go Go.RowKit Go.Proofs
open Go.Proofs.YtnnbbeloifhofaaDoorW.PrintWords Go.Proofs.YtnnbbeloifhofaaDoorW.PrintLast Go.Proofs.YtnnbbeloifhofaaDoorW.PrintMore
set_option linter.unusedVariables false
set_option linter.unusedSimpArgs false
set_option maxHeartbeats 2000000 in
set_option maxRecDepth 100000 in
theorem stmt_input (s:RS) (n0 : ¬ s.f0.toList=oSet) (n1 : ¬ s.f0.toList=oPut) (c1:s.f0.toList=oInput) (ce : ¬ s.f2.length=0):StmtOk s:=by
  intro b t d A2 A3 A4 c2 c3 c4 w0 w hP hB hT g2 l2 g3 l3 g4 l4 ho hd0 hd hlen
  rw [okS_eq] at ho
  rw [bulkS_eq] at hd
  rw [stmtB_eq] at hlen ⊢
  unfold stmtF at hlen ⊢
  rw [if_neg n0,if_neg n1,if_pos c1,if_neg ce] at hlen ⊢
  obtain ⟨k,hp⟩:=part_k s.f2 0 ho.1 (by omega)
  obtain ⟨k',hp'⟩:=part_k s.f2 1 ho.1 (by omega)
  have m0:=opNo n0
  clear n0
  have m1:=opNo n1
  clear n1
  have c1b:=opIs c1
  have ceb:((s.f2.length:Int) == 0)=false:=by simp;intro e;exact ce (by simp [e])
  rw [← convEs_len] at ceb
  clear c1 ce
  have G2:=Aside0.mk g2
  have L2:=Aside0.mk l2
  have HB0:=Aside0.mk hB
  have HLEN:=Aside0.mk hlen
  have HD:=Aside0.mk hd
  have HPP:=Aside0.mk hp
  have HQQ:=Aside0.mk hp'
  have HP:=Aside0.mk hP
  clear g2 l2 g3 l3 g4 l4 hB hlen hd hp hp' hP
  go_enter Tryd.func61,Tryd.ntmps61
  go_wp2_with (first|((with_reducible refine gate_dst (N:=3) rfl ?_);refine box_event ?hg (N:=3) ?hd (cs:=#[.string s.f0,.string s.f1,.slice A2 (convEs s.f2).length c2,.slice A3 (convSs s.f3).length c3,.slice A4 (convSs s.f4).length c4,.int .i64 s.f5]) (t:=76) ?hr ?_;(case hd=>rfl);(case hg=>rfl);(case hr=>first|(go_simp;done)|(go_simp;rfl));intro gb hg w1 hbox hb;have BK:=Aside0.mk hbox;have GW:=Aside0.mk hg;have HB1:=Aside0.mk hb;clear hb hbox hg;have z0:w1.cell? ⟨gb,0,none⟩=some (.string s.f0):=(blk_cell BK.out 0).trans rfl;have z1:w1.cell? ⟨gb,1,none⟩=some (.string s.f1):=(blk_cell BK.out 1).trans rfl;have z2:w1.cell? ⟨gb,2,none⟩=some (.slice A2 (convEs s.f2).length c2):=(blk_cell BK.out 2).trans rfl;have z3:w1.cell? ⟨gb,3,none⟩=some (.slice A3 (convSs s.f3).length c3):=(blk_cell BK.out 3).trans rfl;have z4:w1.cell? ⟨gb,4,none⟩=some (.slice A4 (convSs s.f4).length c4):=(blk_cell BK.out 4).trans rfl))
  have hHeld0:w1.drew.cell? ⟨gb,0,none⟩=some (.string s.f0)∧w1.drew.cell? ⟨gb,1,none⟩=some (.string s.f1)∧w1.drew.cell? ⟨gb,2,none⟩=some (.slice A2 (convEs s.f2).length c2)∧Below w1.heap.size w1 w1.drew:=⟨z0,z1,z2,Below.drew (Below.refl _ w1)⟩
  refine start_ (n:=11) (ds:=[10]) (S:=fun w'=>w'.cell? ⟨gb,0,none⟩=some (.string s.f0)∧w'.cell? ⟨gb,1,none⟩=some (.string s.f1)∧w'.cell? ⟨gb,2,none⟩=some (.slice A2 (convEs s.f2).length c2)∧Below w1.heap.size w1 w') #[false,false,false,false,false,false,false,false,false,false,false] (by kernel_rfl) rfl rfl hHeld0 (fun hHeld=>?_)
  generalize w1.drew=w2 at hHeld ⊢
  refine pure_ (i:=0) (N:=some 45) (v:=?_) (a':=?_) #[true,false,false,false,false,false,false,false,false,false,false] rfl rfl (by kernel_rfl) (fun _ _ _ h=>h) (Or.inl ⟨by rfl,?_⟩) ?_ ?_
  rotate_left
  · intro w'
    go_simp
    with_reducible rfl
  rotate_left
  · simp only [Act.put,List.setIfInBounds_toArray,List.set_cons_zero,List.set_cons_succ,i64_w,i32_w]
    rfl
  refine pure_ (i:=1) (N:=some 46) (v:=?_) (a':=?_) #[true,true,false,false,false,false,false,false,false,false,false] rfl rfl (by kernel_rfl) (fun _ _ _ h=>h) (Or.inl ⟨by rfl,?_⟩) ?_ ?_
  rotate_left
  · intro w'
    go_simp
    with_reducible rfl
  rotate_left
  · simp only [Act.put,List.setIfInBounds_toArray,List.set_cons_zero,List.set_cons_succ,i64_w,i32_w]
    rfl
  refine pure_ (i:=3) (N:=some 48) (v:=?_) (a':=?_) #[true,true,false,true,false,false,false,false,false,false,false] rfl rfl (by kernel_rfl) (fun _ _ _ h=>h) (Or.inl ⟨by rfl,?_⟩) ?_ ?_
  rotate_left
  · intro w'
    go_simp
    with_reducible rfl
  rotate_left
  · simp only [Act.put,List.setIfInBounds_toArray,List.set_cons_zero,List.set_cons_succ,i64_w,i32_w]
    rfl
  refine pure_ (i:=6) (N:=some 51) (v:=?_) (a':=?_) #[true,true,false,true,false,false,true,false,false,false,false] rfl rfl (by kernel_rfl) (fun _ _ _ h=>h) (Or.inl ⟨by rfl,?_⟩) ?_ ?_
  rotate_left
  · intro w'
    go_simp
    with_reducible rfl
  rotate_left
  · simp only [Act.put,List.setIfInBounds_toArray,List.set_cons_zero,List.set_cons_succ,i64_w,i32_w]
    rfl
  refine take_ (i:=2) (N:=some 47) (v:=?_) (a':=?_) #[true,true,true,true,false,false,true,false,false,false,false] rfl rfl (by kernel_rfl) (fun _ _ _ h=>h) (Or.inl ⟨by rfl,?_⟩) hHeld ?_ ?_
  rotate_left
  · rintro w' ⟨s0,s1,s2,s3⟩
    go_simp
    with_reducible rfl
  rotate_left
  · simp only [Act.put,List.setIfInBounds_toArray,List.set_cons_zero,List.set_cons_succ,i64_w,i32_w]
    rfl
  refine take_ (i:=4) (N:=some 49) (v:=?_) (a':=?_) #[true,true,true,true,true,false,true,false,false,false,false] rfl rfl (by kernel_rfl) (fun _ _ _ h=>h) (Or.inl ⟨by rfl,?_⟩) hHeld ?_ ?_
  rotate_left
  · rintro w' ⟨s0,s1,s2,s3⟩
    go_simp
    with_reducible rfl
  rotate_left
  · simp only [Act.put,List.setIfInBounds_toArray,List.set_cons_zero,List.set_cons_succ,i64_w,i32_w]
    rfl
  refine take_ (i:=7) (N:=some 52) (v:=?_) (a':=?_) #[true,true,true,true,true,false,true,true,false,false,false] rfl rfl (by kernel_rfl) (fun _ _ _ h=>h) (Or.inl ⟨by rfl,?_⟩) hHeld ?_ ?_
  rotate_left
  · rintro w' ⟨s0,s1,s2,s3⟩
    go_simp
    with_reducible rfl
  rotate_left
  · simp only [Act.put,List.setIfInBounds_toArray,List.set_cons_zero,List.set_cons_succ,i64_w,i32_w]
    rfl
  refine one_ (i:=5) (N:=some 50) #[true,true,true,true,true,true,true,true,false,false,false] rfl rfl (by kernel_rfl) (by decide) (fun K hK=>?_)
  refine goes_ Tryd.func32 (by kernel_rfl) rfl #[.slice A2 (convEs s.f2).length c2,.int .i64 0] (by rfl) rfl rfl (by (try simp only [List.map_toArray,List.map_cons,List.map_nil]);first|done|rfl) ?_
  have hb2:Below w0.heap.size w0 w2:=HB0.out.trans ((HB1.out.trans (hHeld.2.2.2.mono HB1.out.size)).mono HB0.out.size)
  refine (tree_part.calls k A2 c2 (convEs s.f2) 0 _ w2 (hT.later hb2) (Kd.C_below G2.out hb2) L2.out HPP.out).mono ?_
  clear hb2
  rintro e w3 ⟨rfl,hb⟩
  refine ⟨_,rfl,?_⟩
  obtain ⟨t0,t1,t2,t3⟩:=hHeld
  have hHeld:w3.cell? ⟨gb,0,none⟩=some (.string s.f0)∧w3.cell? ⟨gb,1,none⟩=some (.string s.f1)∧w3.cell? ⟨gb,2,none⟩=some (.slice A2 (convEs s.f2).length c2)∧Below w1.heap.size w1 w3:=⟨(hb.cell (World.block_lt_of_cell? w2 _ t0)).trans t0,(hb.cell (World.block_lt_of_cell? w2 _ t1)).trans t1,(hb.cell (World.block_lt_of_cell? w2 _ t2)).trans t2,t3.trans (hb.mono t3.size)⟩
  refine hK.out _ _ hHeld (fun hHeld=>?_)
  clear hK K t0 t1 t2 t3 hb
  refine norm_ (a':=?_) ?_ ?_
  rotate_left
  · show Act.put _ (some 50) _=_
    simp only [Act.put,List.setIfInBounds_toArray,List.set_cons_zero,List.set_cons_succ,i64_w,i32_w]
    rfl
  refine one_ (i:=8) (N:=some 53) #[true,true,true,true,true,true,true,true,true,false,false] rfl rfl (by kernel_rfl) (by decide) (fun K hK=>?_)
  refine goes_ Tryd.func32 (by kernel_rfl) rfl #[.slice A2 (convEs s.f2).length c2,.int .i64 1] (by rfl) rfl rfl (by (try simp only [List.map_toArray,List.map_cons,List.map_nil]);first|done|rfl) ?_
  have hb2:Below w0.heap.size w0 w3:=HB0.out.trans ((HB1.out.trans (hHeld.2.2.2.mono HB1.out.size)).mono HB0.out.size)
  refine (tree_part.calls k' A2 c2 (convEs s.f2) 1 _ w3 (hT.later hb2) (Kd.C_below G2.out hb2) L2.out HQQ.out).mono ?_
  clear hb2
  rintro e w4 ⟨rfl,hb⟩
  refine ⟨_,rfl,?_⟩
  obtain ⟨t0,t1,t2,t3⟩:=hHeld
  have hHeld:w4.cell? ⟨gb,0,none⟩=some (.string s.f0)∧w4.cell? ⟨gb,1,none⟩=some (.string s.f1)∧w4.cell? ⟨gb,2,none⟩=some (.slice A2 (convEs s.f2).length c2)∧Below w1.heap.size w1 w4:=⟨(hb.cell (World.block_lt_of_cell? w3 _ t0)).trans t0,(hb.cell (World.block_lt_of_cell? w3 _ t1)).trans t1,(hb.cell (World.block_lt_of_cell? w3 _ t2)).trans t2,t3.trans (hb.mono t3.size)⟩
  refine hK.out _ _ hHeld (fun hHeld=>?_)
  clear hK K t0 t1 t2 t3 hb
  refine norm_ (a':=?_) ?_ ?_
  rotate_left
  · show Act.put _ (some 53) _=_
    simp only [Act.put,List.setIfInBounds_toArray,List.set_cons_zero,List.set_cons_succ,i64_w,i32_w]
    rfl
  refine one_ (i:=9) (N:=some 54) #[true,true,true,true,true,true,true,true,true,true,false] rfl rfl (by kernel_rfl) (by decide) (fun K hK=>?_)
  refine Kd.R_lit_step Kd.string (w0:=w4) w4.heap.size 9 (by rfl) (N:=54) rfl (xs:=[s.f1,(lit [32,61,32,105,110,112,117,116,40]),(nth (textEs s.f2) 0),(lit [44,32]),(nth (textEs s.f2) 1),(lit [41,59])]) (inner:=[.string s.f1,.string (lit [32,61,32,105,110,112,117,116,40]),.string (nth (textEs s.f2) 0),.string (lit [44,32]),.string (nth (textEs s.f2) 1),.string (lit [41,59])]) (ok:=fun _=>True) (okp:=fun _=>True) ?hr ?hp (fun _ hk=>hk) trivial (Below.refl _ _) (Nat.le_refl _) (by simp) ?_
  case hr=>first|(go_simp;done)|(go_simp;rfl)
  case hp=>exact Reps.one (show Kd.M Kd.string _ _ _ (s.f1) [.string (s.f1)] from rfl) (Reps.one (show Kd.M Kd.string _ _ _ ((lit [32,61,32,105,110,112,117,116,40])) [.string ((lit [32,61,32,105,110,112,117,116,40]))] from rfl) (Reps.one (show Kd.M Kd.string _ _ _ ((nth (textEs s.f2) 0)) [.string ((nth (textEs s.f2) 0))] from rfl) (Reps.one (show Kd.M Kd.string _ _ _ ((lit [44,32])) [.string ((lit [44,32]))] from rfl) (Reps.one (show Kd.M Kd.string _ _ _ ((nth (textEs s.f2) 1)) [.string ((nth (textEs s.f2) 1))] from rfl) (Reps.one (show Kd.M Kd.string _ _ _ ((lit [41,59])) [.string ((lit [41,59]))] from rfl) (Reps.none _ _))))))
  intro vrow w5 hrow hb hg_ hnew_
  clear hg_ hnew_
  obtain ⟨Ao,co,rfl⟩:=Kd.R_slice hrow
  have hro:=(Kd.R_reads' hrow).2
  obtain ⟨t0,t1,t2,t3⟩:=hHeld
  have hHeld:w5.cell? ⟨gb,0,none⟩=some (.string s.f0)∧w5.cell? ⟨gb,1,none⟩=some (.string s.f1)∧w5.cell? ⟨gb,2,none⟩=some (.slice A2 (convEs s.f2).length c2)∧Below w1.heap.size w1 w5:=⟨(hb.cell (World.block_lt_of_cell? w4 _ t0)).trans t0,(hb.cell (World.block_lt_of_cell? w4 _ t1)).trans t1,(hb.cell (World.block_lt_of_cell? w4 _ t2)).trans t2,t3.trans (hb.mono t3.size)⟩
  refine hK.out _ _ hHeld (fun hHeld=>?_)
  clear hK K t0 t1 t2 t3 hb hrow
  refine norm_ (a':=?_) ?_ ?_
  rotate_left
  · show Act.put _ (some 54) _=_
    simp only [Act.put,List.setIfInBounds_toArray,List.set_cons_zero,List.set_cons_succ,i64_w,i32_w]
    rfl
  have e4:Below w.heap.size w w5:=HB1.out.trans (hHeld.2.2.2.mono HB1.out.size)
  refine last_ (i:=10) (N:=some 55) #[true,true,true,true,true,true,true,true,true,true,true] rfl rfl (by kernel_rfl) (by decide) (fun K hK=>?_)
  refine goes_ Tryd.func38 (by kernel_rfl) rfl #[.pointer (some ⟨b,0,none⟩),.slice Ao 6 co] (by rfl) rfl rfl (by (try simp only [List.map_toArray,List.map_cons,List.map_nil]);first|done|rfl) ?_
  refine (line_pr w0.heap.size b t d Ao co [s.f1,(lit [32,61,32,105,110,112,117,116,40]),(nth (textEs s.f2) 0),(lit [44,32]),(nth (textEs s.f2) 1),(lit [41,59])] w5 (HP.out.kept e4) hro.2 hro.1 hd0 (by have:=HD.out;omega) (by simp) HLEN.out (Nat.le_trans HB0.out.size e4.size)).mono ?_
  rintro e w6 ⟨rfl,hP5,hb,hs5⟩
  refine ⟨_,rfl,?_⟩
  refine hK.out _ _ ?_
  refine done_ (by kernel_rfl) ?_
  try go_wp2
  go_end0
  exact ⟨rfl,.inr hP5,(e4.mono HB0.out.size).trans hb,(Beside.of e4).trans hs5⟩
end Go.Proofs.YtnnbbeloifhofaaDoor.P
end
section
namespace Go.Proofs.YtnnbbeloifhofaaDoor.P
open Go Go.RowKit Go.Proofs
open Go.Proofs.YtnnbbeloifhofaaDoorW.PrintWords Go.Proofs.YtnnbbeloifhofaaDoorW.PrintLast Go.Proofs.YtnnbbeloifhofaaDoorW.PrintMore
set_option linter.unusedVariables false
set_option linter.unusedSimpArgs false
set_option maxHeartbeats 2000000 in
set_option maxRecDepth 100000 in
theorem stmt_input0 (s:RS) (n0 : ¬ s.f0.toList=oSet) (n1 : ¬ s.f0.toList=oPut) (c1:s.f0.toList=oInput) (ce:s.f2.length=0):StmtOk s:=by
  intro b t d A2 A3 A4 c2 c3 c4 w0 w hP hB hT g2 l2 g3 l3 g4 l4 ho hd0 hd hlen
  rw [okS_eq] at ho
  rw [bulkS_eq] at hd
  rw [stmtB_eq] at hlen ⊢
  unfold stmtF at hlen ⊢
  rw [if_neg n0,if_neg n1,if_pos c1,if_pos ce] at hlen ⊢
  obtain ⟨k,hp⟩:=part_k s.f2 0 ho.1 (by omega)
  obtain ⟨k',hp'⟩:=part_k s.f2 1 ho.1 (by omega)
  have m0:=opNo n0
  clear n0
  have m1:=opNo n1
  clear n1
  have c1b:=opIs c1
  have ceb:(convEs s.f2).length=0:=by rw [convEs_len];exact ce
  clear c1 ce
  have G2:=Aside0.mk g2
  have L2:=Aside0.mk l2
  have HB0:=Aside0.mk hB
  have HLEN:=Aside0.mk hlen
  have HD:=Aside0.mk hd
  have HPP:=Aside0.mk hp
  have HQQ:=Aside0.mk hp'
  have HP:=Aside0.mk hP
  clear g2 l2 g3 l3 g4 l4 hB hlen hd hp hp' hP
  go_enter Tryd.func61,Tryd.ntmps61
  go_wp2_with (first|((with_reducible refine gate_dst (N:=3) rfl ?_);refine box_event ?hg (N:=3) ?hd (cs:=#[.string s.f0,.string s.f1,.slice A2 (convEs s.f2).length c2,.slice A3 (convSs s.f3).length c3,.slice A4 (convSs s.f4).length c4,.int .i64 s.f5]) (t:=76) ?hr ?_;(case hd=>rfl);(case hg=>rfl);(case hr=>first|(go_simp;done)|(go_simp;rfl));intro gb hg w1 hbox hb;have BK:=Aside0.mk hbox;have GW:=Aside0.mk hg;have HB1:=Aside0.mk hb;clear hb hbox hg;have z0:w1.cell? ⟨gb,0,none⟩=some (.string s.f0):=(blk_cell BK.out 0).trans rfl;have z1:w1.cell? ⟨gb,1,none⟩=some (.string s.f1):=(blk_cell BK.out 1).trans rfl;have z2:w1.cell? ⟨gb,2,none⟩=some (.slice A2 (convEs s.f2).length c2):=(blk_cell BK.out 2).trans rfl;have z3:w1.cell? ⟨gb,3,none⟩=some (.slice A3 (convSs s.f3).length c3):=(blk_cell BK.out 3).trans rfl;have z4:w1.cell? ⟨gb,4,none⟩=some (.slice A4 (convSs s.f4).length c4):=(blk_cell BK.out 4).trans rfl)|((with_reducible refine gate_dst (N:=43) rfl ?_);(try (refine gate_guard (by rfl) ?_;dsimp only));refine Kd.R_lit Kd.string (w0:=w1) w1.heap.size 9 ?hg (N:=43) ?hd (xs:=[s.f1,(lit [32,61,32,105,110,112,117,116,59])]) (inner:=[.string s.f1,.string (lit [32,61,32,105,110,112,117,116,59])]) (ok:=fun _=>True) (okp:=fun _=>True) ?hr ?hp (fun _ hk=>hk) trivial (Below.refl _ _) (Nat.le_refl _) (by simp) ?_;(case hd=>rfl);(case hg=>rfl);(case hr=>first|(go_simp;done)|(go_simp;rfl));(case hp=>exact Reps.one (show Kd.M Kd.string _ _ _ (s.f1) [.string (s.f1)] from rfl) (Reps.one (show Kd.M Kd.string _ _ _ ((lit [32,61,32,105,110,112,117,116,59])) [.string ((lit [32,61,32,105,110,112,117,116,59]))] from rfl) (Reps.none _ _)));intro vrow w2 hrow hb hg_ hnew_;have HB2:=Aside0.mk hb;clear hg_ hnew_ hb;obtain ⟨Ao,co,rfl⟩:=Kd.R_slice hrow;have hro:=(Kd.R_reads' hrow).2;have HRO:=Aside0.mk hro;clear hro hrow))
  have e4:Below w.heap.size w w2:=HB1.out.trans (HB2.out.mono HB1.out.size)
  refine (line_pr w0.heap.size b t d Ao co [s.f1,(lit [32,61,32,105,110,112,117,116,59])] w2 (HP.out.kept e4) HRO.out.2 HRO.out.1 hd0 (by have:=HD.out;omega) (by simp) HLEN.out (Nat.le_trans HB0.out.size e4.size)).mono ?_
  rintro e w5 ⟨rfl,hP5,hb,hs5⟩
  try go_wp2
  refine bodyPost_ret (results_none rfl _ _ _) rfl ?_
  exact ⟨rfl,.inr hP5,(e4.mono HB0.out.size).trans hb,(Beside.of e4).trans hs5⟩
end Go.Proofs.YtnnbbeloifhofaaDoor.P
end
section
namespace Go.Proofs.YtnnbbeloifhofaaDoor.P
open Go Go.RowKit Go.Proofs
open Go.Proofs.YtnnbbeloifhofaaDoorW.PrintWords Go.Proofs.YtnnbbeloifhofaaDoorW.PrintLast Go.Proofs.YtnnbbeloifhofaaDoorW.PrintMore
set_option linter.unusedVariables false
set_option linter.unusedSimpArgs false
set_option maxHeartbeats 2000000 in
set_option maxRecDepth 100000 in
theorem stmt_if0 (s:RS) (n0 : ¬ s.f0.toList=oSet) (n1 : ¬ s.f0.toList=oPut) (n2 : ¬ s.f0.toList=oInput) (c1:s.f0.toList=oIf) (ce:s.f4.length=0) (iha : ∀ y ∈ s.f3,StmtOk y) (ihb : ∀ y ∈ s.f4,StmtOk y):StmtOk s:=by
  intro b t d A2 A3 A4 c2 c3 c4 w0 w hP hB hT g2 l2 g3 l3 g4 l4 ho hd0 hd hlen
  rw [okS_eq] at ho
  rw [bulkS_eq] at hd
  rw [stmtB_eq] at hlen ⊢
  unfold stmtF at hlen ⊢
  rw [if_neg n0,if_neg n1,if_neg n2,if_pos (.inl c1),if_neg (fun h=>by have:=of_decide_eq_true h.2;omega)] at hlen ⊢
  obtain ⟨k,hp⟩:=part_k s.f2 0 ho.1 (by omega)
  obtain ⟨k',hp'⟩:=part_k s.f2 1 ho.1 (by omega)
  have m0:=opNo n0
  clear n0
  have m1:=opNo n1
  clear n1
  have m2:=opNo n2
  clear n2
  have c1b:=opIs c1
  have ceb:decide (0 < (convSs s.f4).length)=false:=decide_eq_false (by rw [convSs_len];omega)
  clear c1 ce
  have G3:=Aside0.mk g3
  have L3:=Aside0.mk l3
  have G4:=Aside0.mk g4
  have L4:=Aside0.mk l4
  have OK:=Aside0.mk ho
  have G2:=Aside0.mk g2
  have L2:=Aside0.mk l2
  have HB0:=Aside0.mk hB
  have HLEN:=Aside0.mk hlen
  have HD:=Aside0.mk hd
  have HPP:=Aside0.mk hp
  have HQQ:=Aside0.mk hp'
  have HP:=Aside0.mk hP
  clear ho g2 l2 g3 l3 g4 l4 hB hlen hd hp hp' hP
  go_enter Tryd.func61,Tryd.ntmps61
  go_wp2_with (first|((with_reducible refine gate_dst (N:=3) rfl ?_);refine box_event ?hg (N:=3) ?hd (cs:=#[.string s.f0,.string s.f1,.slice A2 (convEs s.f2).length c2,.slice A3 (convSs s.f3).length c3,.slice A4 (convSs s.f4).length c4,.int .i64 s.f5]) (t:=76) ?hr ?_;(case hd=>rfl);(case hg=>rfl);(case hr=>first|(go_simp;done)|(go_simp;rfl));intro gb hg w1 hbox hb;have BK:=Aside0.mk hbox;have GW:=Aside0.mk hg;have HB1:=Aside0.mk hb;clear hb hbox hg;have z0:w1.cell? ⟨gb,0,none⟩=some (.string s.f0):=(blk_cell BK.out 0).trans rfl;have z1:w1.cell? ⟨gb,1,none⟩=some (.string s.f1):=(blk_cell BK.out 1).trans rfl;have z2:w1.cell? ⟨gb,2,none⟩=some (.slice A2 (convEs s.f2).length c2):=(blk_cell BK.out 2).trans rfl;have z3:w1.cell? ⟨gb,3,none⟩=some (.slice A3 (convSs s.f3).length c3):=(blk_cell BK.out 3).trans rfl;have z4:w1.cell? ⟨gb,4,none⟩=some (.slice A4 (convSs s.f4).length c4):=(blk_cell BK.out 4).trans rfl))
  have hHeld0:w1.drew.cell? ⟨gb,0,none⟩=some (.string s.f0)∧w1.drew.cell? ⟨gb,1,none⟩=some (.string s.f1)∧w1.drew.cell? ⟨gb,2,none⟩=some (.slice A2 (convEs s.f2).length c2)∧Below w1.heap.size w1 w1.drew:=⟨z0,z1,z2,Below.drew (Below.refl _ w1)⟩
  refine start_ (n:=8) (ds:=[7]) (S:=fun w'=>w'.cell? ⟨gb,0,none⟩=some (.string s.f0)∧w'.cell? ⟨gb,1,none⟩=some (.string s.f1)∧w'.cell? ⟨gb,2,none⟩=some (.slice A2 (convEs s.f2).length c2)∧Below w1.heap.size w1 w') #[false,false,false,false,false,false,false,false] (by kernel_rfl) rfl rfl hHeld0 (fun hHeld=>?_)
  generalize w1.drew=w2 at hHeld ⊢
  refine pure_ (i:=0) (N:=some 59) (v:=?_) (a':=?_) #[true,false,false,false,false,false,false,false] rfl rfl (by kernel_rfl) (fun _ _ _ h=>h) (Or.inl ⟨by rfl,?_⟩) ?_ ?_
  rotate_left
  · intro w'
    go_simp
    with_reducible rfl
  rotate_left
  · simp only [Act.put,List.setIfInBounds_toArray,List.set_cons_zero,List.set_cons_succ,i64_w,i32_w]
    rfl
  refine pure_ (i:=1) (N:=some 60) (v:=?_) (a':=?_) #[true,true,false,false,false,false,false,false] rfl rfl (by kernel_rfl) (fun _ _ _ h=>h) (Or.inl ⟨by rfl,?_⟩) ?_ ?_
  rotate_left
  · intro w'
    go_simp
    with_reducible rfl
  rotate_left
  · simp only [Act.put,List.setIfInBounds_toArray,List.set_cons_zero,List.set_cons_succ,i64_w,i32_w]
    rfl
  refine pure_ (i:=3) (N:=some 62) (v:=?_) (a':=?_) #[true,true,false,true,false,false,false,false] rfl rfl (by kernel_rfl) (fun _ _ _ h=>h) (Or.inl ⟨by rfl,?_⟩) ?_ ?_
  rotate_left
  · intro w'
    go_simp
    with_reducible rfl
  rotate_left
  · simp only [Act.put,List.setIfInBounds_toArray,List.set_cons_zero,List.set_cons_succ,i64_w,i32_w]
    rfl
  refine take_ (i:=2) (N:=some 61) (v:=?_) (a':=?_) #[true,true,true,true,false,false,false,false] rfl rfl (by kernel_rfl) (fun _ _ _ h=>h) (Or.inl ⟨by rfl,?_⟩) hHeld ?_ ?_
  rotate_left
  · rintro w' ⟨s0,s1,s2,s3⟩
    go_simp
    with_reducible rfl
  rotate_left
  · simp only [Act.put,List.setIfInBounds_toArray,List.set_cons_zero,List.set_cons_succ,i64_w,i32_w]
    rfl
  refine take_ (i:=4) (N:=some 63) (v:=?_) (a':=?_) #[true,true,true,true,true,false,false,false] rfl rfl (by kernel_rfl) (fun _ _ _ h=>h) (Or.inl ⟨by rfl,?_⟩) hHeld ?_ ?_
  rotate_left
  · rintro w' ⟨s0,s1,s2,s3⟩
    go_simp
    with_reducible rfl
  rotate_left
  · simp only [Act.put,List.setIfInBounds_toArray,List.set_cons_zero,List.set_cons_succ,i64_w,i32_w]
    rfl
  refine one_ (i:=5) (N:=some 64) #[true,true,true,true,true,true,false,false] rfl rfl (by kernel_rfl) (by decide) (fun K hK=>?_)
  refine goes_ Tryd.func32 (by kernel_rfl) rfl #[.slice A2 (convEs s.f2).length c2,.int .i64 0] (by rfl) rfl rfl (by (try simp only [List.map_toArray,List.map_cons,List.map_nil]);first|done|rfl) ?_
  have hb2:Below w0.heap.size w0 w2:=HB0.out.trans ((HB1.out.trans (hHeld.2.2.2.mono HB1.out.size)).mono HB0.out.size)
  refine (tree_part.calls k A2 c2 (convEs s.f2) 0 _ w2 (hT.later hb2) (Kd.C_below G2.out hb2) L2.out HPP.out).mono ?_
  clear hb2
  rintro e w3 ⟨rfl,hb⟩
  refine ⟨_,rfl,?_⟩
  obtain ⟨t0,t1,t2,t3⟩:=hHeld
  have hHeld:w3.cell? ⟨gb,0,none⟩=some (.string s.f0)∧w3.cell? ⟨gb,1,none⟩=some (.string s.f1)∧w3.cell? ⟨gb,2,none⟩=some (.slice A2 (convEs s.f2).length c2)∧Below w1.heap.size w1 w3:=⟨(hb.cell (World.block_lt_of_cell? w2 _ t0)).trans t0,(hb.cell (World.block_lt_of_cell? w2 _ t1)).trans t1,(hb.cell (World.block_lt_of_cell? w2 _ t2)).trans t2,t3.trans (hb.mono t3.size)⟩
  refine hK.out _ _ hHeld (fun hHeld=>?_)
  clear hK K t0 t1 t2 t3 hb
  refine norm_ (a':=?_) ?_ ?_
  rotate_left
  · show Act.put _ (some 64) _=_
    simp only [Act.put,List.setIfInBounds_toArray,List.set_cons_zero,List.set_cons_succ,i64_w,i32_w]
    rfl
  refine one_ (i:=6) (N:=some 65) #[true,true,true,true,true,true,true,false] rfl rfl (by kernel_rfl) (by decide) (fun K hK=>?_)
  refine Kd.R_lit_step Kd.string (w0:=w3) w3.heap.size 9 (by rfl) (N:=65) rfl (xs:=[s.f0,(lit [32]),(nth (textEs s.f2) 0),(lit [32,123])]) (inner:=[.string s.f0,.string (lit [32]),.string (nth (textEs s.f2) 0),.string (lit [32,123])]) (ok:=fun _=>True) (okp:=fun _=>True) ?hr ?hp (fun _ hk=>hk) trivial (Below.refl _ _) (Nat.le_refl _) (by simp) ?_
  case hr=>first|(go_simp;done)|(go_simp;rfl)
  case hp=>exact Reps.one (show Kd.M Kd.string _ _ _ (s.f0) [.string (s.f0)] from rfl) (Reps.one (show Kd.M Kd.string _ _ _ ((lit [32])) [.string ((lit [32]))] from rfl) (Reps.one (show Kd.M Kd.string _ _ _ ((nth (textEs s.f2) 0)) [.string ((nth (textEs s.f2) 0))] from rfl) (Reps.one (show Kd.M Kd.string _ _ _ ((lit [32,123])) [.string ((lit [32,123]))] from rfl) (Reps.none _ _))))
  intro vrow w4 hrow hb hg_ hnew_
  clear hg_ hnew_
  obtain ⟨Ao,co,rfl⟩:=Kd.R_slice hrow
  have hro:=(Kd.R_reads' hrow).2
  obtain ⟨t0,t1,t2,t3⟩:=hHeld
  have hHeld:w4.cell? ⟨gb,0,none⟩=some (.string s.f0)∧w4.cell? ⟨gb,1,none⟩=some (.string s.f1)∧w4.cell? ⟨gb,2,none⟩=some (.slice A2 (convEs s.f2).length c2)∧Below w1.heap.size w1 w4:=⟨(hb.cell (World.block_lt_of_cell? w3 _ t0)).trans t0,(hb.cell (World.block_lt_of_cell? w3 _ t1)).trans t1,(hb.cell (World.block_lt_of_cell? w3 _ t2)).trans t2,t3.trans (hb.mono t3.size)⟩
  refine hK.out _ _ hHeld (fun hHeld=>?_)
  clear hK K t0 t1 t2 t3 hb hrow
  refine norm_ (a':=?_) ?_ ?_
  rotate_left
  · show Act.put _ (some 65) _=_
    simp only [Act.put,List.setIfInBounds_toArray,List.set_cons_zero,List.set_cons_succ,i64_w,i32_w]
    rfl
  have e4:Below w.heap.size w w4:=HB1.out.trans (hHeld.2.2.2.mono HB1.out.size)
  refine last_ (i:=7) (N:=some 66) #[true,true,true,true,true,true,true,true] rfl rfl (by kernel_rfl) (by decide) (fun K hK=>?_)
  refine goes_ Tryd.func38 (by kernel_rfl) rfl #[.pointer (some ⟨b,0,none⟩),.slice Ao 4 co] (by rfl) rfl rfl (by (try simp only [List.map_toArray,List.map_cons,List.map_nil]);first|done|rfl) ?_
  refine (line_pr w0.heap.size b t d Ao co [s.f0,(lit [32]),(nth (textEs s.f2) 0),(lit [32,123])] w4 (HP.out.kept e4) hro.2 hro.1 hd0 (by have:=HD.out;omega) (by simp) (by have:=HLEN.out;simp only [List.length_append] at this;omega) (Nat.le_trans HB0.out.size e4.size)).mono ?_
  rintro e w5 ⟨rfl,hP5,hb,hs5⟩
  refine ⟨_,rfl,?_⟩
  refine hK.out _ _ ?_
  refine done_ (by kernel_rfl) ?_
  have hgb:gb≠b:=fun e=>by have:=HP.out.lt;have:=GW.out;omega
  have BK5:=Aside0.mk ((Beside.trans (Beside.of (hHeld.2.2.2)) hs5) gb _ _ _ hgb (by decide) BK.out)
  have HB5:=Aside0.mk ((e4.mono HB0.out.size).trans hb)
  have HS5:=Aside0.mk ((Beside.of e4).trans hs5)
  have HP5:Aside0 (IsPr w0.heap.size b (Lib.byteCells (t++lineB d [s.f0,lit [32],nth (textEs s.f2) 0,lit [32,123]])) d w5):=⟨.inr hP5⟩
  clear hK hHeld z0 z1 z2 z3 z4 hb hs5 hro hP5 e4 BK
  have z0:w5.cell? ⟨gb,0,none⟩=some (.string s.f0):=by rw [Lib.cell_of_heap BK5.out];rfl
  have z1:w5.cell? ⟨gb,1,none⟩=some (.string s.f1):=by rw [Lib.cell_of_heap BK5.out];rfl
  have z2:w5.cell? ⟨gb,2,none⟩=some (.slice A2 (convEs s.f2).length c2):=by rw [Lib.cell_of_heap BK5.out];rfl
  have z3:w5.cell? ⟨gb,3,none⟩=some (.slice A3 (convSs s.f3).length c3):=by rw [Lib.cell_of_heap BK5.out];rfl
  have z4:w5.cell? ⟨gb,4,none⟩=some (.slice A4 (convSs s.f4).length c4):=by rw [Lib.cell_of_heap BK5.out];rfl
  go_wp2_with fail
  refine (block_pr s.f3 iha b (t++lineB d [s.f0,lit [32],nth (textEs s.f2) 0,lit [32,123]]) d A3 c3 w0 w5 HP5.out (HB0.out.trans HB5.out) hT G3.out L3.out OK.out.2.1 hd0 (by have:=HD.out;omega) (by have:=HLEN.out;simp only [List.length_append] at this ⊢;omega)).mono ?_
  rintro e w6 ⟨rfl,hP',hb',hs'⟩
  have HP6:=Aside0.mk hP'
  have HB6:=Aside0.mk (HB5.out.trans hb')
  have HS6:=Aside0.mk (HS5.out.trans hs')
  have BK6:=Aside0.mk (hs' gb _ _ _ hgb (by decide) BK5.out)
  clear hP' hb' hs' z0 z1 z2 z3 z4 BK5
  have z0:w6.cell? ⟨gb,0,none⟩=some (.string s.f0):=by rw [Lib.cell_of_heap BK6.out];rfl
  have z1:w6.cell? ⟨gb,1,none⟩=some (.string s.f1):=by rw [Lib.cell_of_heap BK6.out];rfl
  have z2:w6.cell? ⟨gb,2,none⟩=some (.slice A2 (convEs s.f2).length c2):=by rw [Lib.cell_of_heap BK6.out];rfl
  have z3:w6.cell? ⟨gb,3,none⟩=some (.slice A3 (convSs s.f3).length c3):=by rw [Lib.cell_of_heap BK6.out];rfl
  have z4:w6.cell? ⟨gb,4,none⟩=some (.slice A4 (convSs s.f4).length c4):=by rw [Lib.cell_of_heap BK6.out];rfl
  go_wp2_with (first|((with_reducible refine gate_dst (N:=88) rfl ?_);(try (refine gate_guard (by rfl) ?_;dsimp only));refine Kd.R_lit Kd.string (w0:=w6) w6.heap.size 9 ?hg11 (N:=88) ?hd11 (xs:=[(lit [125])]) (inner:=[.string (lit [125])]) (ok:=fun _=>True) (okp:=fun _=>True) ?hr11 ?hp11 (fun _ hk=>hk) trivial (Below.refl _ _) (Nat.le_refl _) (by simp) ?_;(case hd11=>rfl);(case hg11=>rfl);(case hr11=>first|(go_simp;done)|(go_simp;rfl));(case hp11=>exact Reps.one (show Kd.M Kd.string _ _ _ ((lit [125])) [.string ((lit [125]))] from rfl) (Reps.none _ _));intro vrow w10 hrow hb hg_ hnew_;have HL11:=Aside0.mk hb;clear hg_ hnew_ hb;obtain ⟨Ao11,co11,rfl⟩:=Kd.R_slice hrow;have hro:=(Kd.R_reads' hrow).2;have HR11:=Aside0.mk hro;clear hro hrow))
  refine (line_pr w0.heap.size b ((t++lineB d [s.f0,lit [32],nth (textEs s.f2) 0,lit [32,123]])++stmtsB s.f3 (d+1)) d Ao11 co11 [(lit [125])] w10 (HP6.out.kept HL11.out) HR11.out.2 HR11.out.1 hd0 (by have:=HD.out;omega) (by simp) (by have:=HLEN.out;simp only [List.length_append] at this ⊢;omega) (Nat.le_trans HB0.out.size (Nat.le_trans HB6.out.size HL11.out.size))).mono ?_
  rintro e w11 ⟨rfl,hP',hb',hs'⟩
  have HP11:Aside0 (IsPr w0.heap.size b _ d w11):=⟨.inr hP'⟩
  have HB11:=Aside0.mk ((HB6.out.trans (HL11.out.mono (Nat.le_trans HB0.out.size HB6.out.size))).trans hb')
  have HS11:=Aside0.mk ((HS6.out.trans (Beside.of HL11.out)).trans hs')
  have BK11:=Aside0.mk (((Beside.of HL11.out).trans hs') gb _ _ _ hgb (by decide) BK6.out)
  clear hP' hb' hs' z0 z1 z2 z3 z4 BK6 HL11 HR11
  have z0:w11.cell? ⟨gb,0,none⟩=some (.string s.f0):=by rw [Lib.cell_of_heap BK11.out];rfl
  have z1:w11.cell? ⟨gb,1,none⟩=some (.string s.f1):=by rw [Lib.cell_of_heap BK11.out];rfl
  have z2:w11.cell? ⟨gb,2,none⟩=some (.slice A2 (convEs s.f2).length c2):=by rw [Lib.cell_of_heap BK11.out];rfl
  have z3:w11.cell? ⟨gb,3,none⟩=some (.slice A3 (convSs s.f3).length c3):=by rw [Lib.cell_of_heap BK11.out];rfl
  have z4:w11.cell? ⟨gb,4,none⟩=some (.slice A4 (convSs s.f4).length c4):=by rw [Lib.cell_of_heap BK11.out];rfl
  try go_wp2
  go_end0
  refine ⟨rfl,?_,HB11.out,HS11.out⟩
  have h11:=HP11.out
  simp only [List.append_assoc,List.nil_append,List.append_nil] at h11 ⊢
  exact h11
end Go.Proofs.YtnnbbeloifhofaaDoor.P
end
section
namespace Go.Proofs.YtnnbbeloifhofaaDoor.P
open Go Go.RowKit Go.Proofs
open Go.Proofs.YtnnbbeloifhofaaDoorW.PrintWords Go.Proofs.YtnnbbeloifhofaaDoorW.PrintLast Go.Proofs.YtnnbbeloifhofaaDoorW.PrintMore
set_option linter.unusedVariables false
set_option linter.unusedSimpArgs false
set_option maxHeartbeats 2000000 in
set_option maxRecDepth 100000 in
theorem stmt_if1 (s:RS) (n0 : ¬ s.f0.toList=oSet) (n1 : ¬ s.f0.toList=oPut) (n2 : ¬ s.f0.toList=oInput) (c1:s.f0.toList=oIf) (ce:0 < s.f4.length) (iha : ∀ y ∈ s.f3,StmtOk y) (ihb : ∀ y ∈ s.f4,StmtOk y):StmtOk s:=by
  intro b t d A2 A3 A4 c2 c3 c4 w0 w hP hB hT g2 l2 g3 l3 g4 l4 ho hd0 hd hlen
  rw [okS_eq] at ho
  rw [bulkS_eq] at hd
  rw [stmtB_eq] at hlen ⊢
  unfold stmtF at hlen ⊢
  rw [if_neg n0,if_neg n1,if_neg n2,if_pos (.inl c1),if_pos ⟨c1,decide_eq_true ce⟩] at hlen ⊢
  obtain ⟨k,hp⟩:=part_k s.f2 0 ho.1 (by omega)
  obtain ⟨k',hp'⟩:=part_k s.f2 1 ho.1 (by omega)
  have m0:=opNo n0
  clear n0
  have m1:=opNo n1
  clear n1
  have m2:=opNo n2
  clear n2
  have c1b:=opIs c1
  have ceb:decide (0 < (convSs s.f4).length)=true:=decide_eq_true (by rw [convSs_len];omega)
  clear c1 ce
  have G3:=Aside0.mk g3
  have L3:=Aside0.mk l3
  have G4:=Aside0.mk g4
  have L4:=Aside0.mk l4
  have OK:=Aside0.mk ho
  have G2:=Aside0.mk g2
  have L2:=Aside0.mk l2
  have HB0:=Aside0.mk hB
  have HLEN:=Aside0.mk hlen
  have HD:=Aside0.mk hd
  have HPP:=Aside0.mk hp
  have HQQ:=Aside0.mk hp'
  have HP:=Aside0.mk hP
  clear ho g2 l2 g3 l3 g4 l4 hB hlen hd hp hp' hP
  go_enter Tryd.func61,Tryd.ntmps61
  go_wp2_with (first|((with_reducible refine gate_dst (N:=3) rfl ?_);refine box_event ?hg (N:=3) ?hd (cs:=#[.string s.f0,.string s.f1,.slice A2 (convEs s.f2).length c2,.slice A3 (convSs s.f3).length c3,.slice A4 (convSs s.f4).length c4,.int .i64 s.f5]) (t:=76) ?hr ?_;(case hd=>rfl);(case hg=>rfl);(case hr=>first|(go_simp;done)|(go_simp;rfl));intro gb hg w1 hbox hb;have BK:=Aside0.mk hbox;have GW:=Aside0.mk hg;have HB1:=Aside0.mk hb;clear hb hbox hg;have z0:w1.cell? ⟨gb,0,none⟩=some (.string s.f0):=(blk_cell BK.out 0).trans rfl;have z1:w1.cell? ⟨gb,1,none⟩=some (.string s.f1):=(blk_cell BK.out 1).trans rfl;have z2:w1.cell? ⟨gb,2,none⟩=some (.slice A2 (convEs s.f2).length c2):=(blk_cell BK.out 2).trans rfl;have z3:w1.cell? ⟨gb,3,none⟩=some (.slice A3 (convSs s.f3).length c3):=(blk_cell BK.out 3).trans rfl;have z4:w1.cell? ⟨gb,4,none⟩=some (.slice A4 (convSs s.f4).length c4):=(blk_cell BK.out 4).trans rfl))
  have hHeld0:w1.drew.cell? ⟨gb,0,none⟩=some (.string s.f0)∧w1.drew.cell? ⟨gb,1,none⟩=some (.string s.f1)∧w1.drew.cell? ⟨gb,2,none⟩=some (.slice A2 (convEs s.f2).length c2)∧Below w1.heap.size w1 w1.drew:=⟨z0,z1,z2,Below.drew (Below.refl _ w1)⟩
  refine start_ (n:=8) (ds:=[7]) (S:=fun w'=>w'.cell? ⟨gb,0,none⟩=some (.string s.f0)∧w'.cell? ⟨gb,1,none⟩=some (.string s.f1)∧w'.cell? ⟨gb,2,none⟩=some (.slice A2 (convEs s.f2).length c2)∧Below w1.heap.size w1 w') #[false,false,false,false,false,false,false,false] (by kernel_rfl) rfl rfl hHeld0 (fun hHeld=>?_)
  generalize w1.drew=w2 at hHeld ⊢
  refine pure_ (i:=0) (N:=some 59) (v:=?_) (a':=?_) #[true,false,false,false,false,false,false,false] rfl rfl (by kernel_rfl) (fun _ _ _ h=>h) (Or.inl ⟨by rfl,?_⟩) ?_ ?_
  rotate_left
  · intro w'
    go_simp
    with_reducible rfl
  rotate_left
  · simp only [Act.put,List.setIfInBounds_toArray,List.set_cons_zero,List.set_cons_succ,i64_w,i32_w]
    rfl
  refine pure_ (i:=1) (N:=some 60) (v:=?_) (a':=?_) #[true,true,false,false,false,false,false,false] rfl rfl (by kernel_rfl) (fun _ _ _ h=>h) (Or.inl ⟨by rfl,?_⟩) ?_ ?_
  rotate_left
  · intro w'
    go_simp
    with_reducible rfl
  rotate_left
  · simp only [Act.put,List.setIfInBounds_toArray,List.set_cons_zero,List.set_cons_succ,i64_w,i32_w]
    rfl
  refine pure_ (i:=3) (N:=some 62) (v:=?_) (a':=?_) #[true,true,false,true,false,false,false,false] rfl rfl (by kernel_rfl) (fun _ _ _ h=>h) (Or.inl ⟨by rfl,?_⟩) ?_ ?_
  rotate_left
  · intro w'
    go_simp
    with_reducible rfl
  rotate_left
  · simp only [Act.put,List.setIfInBounds_toArray,List.set_cons_zero,List.set_cons_succ,i64_w,i32_w]
    rfl
  refine take_ (i:=2) (N:=some 61) (v:=?_) (a':=?_) #[true,true,true,true,false,false,false,false] rfl rfl (by kernel_rfl) (fun _ _ _ h=>h) (Or.inl ⟨by rfl,?_⟩) hHeld ?_ ?_
  rotate_left
  · rintro w' ⟨s0,s1,s2,s3⟩
    go_simp
    with_reducible rfl
  rotate_left
  · simp only [Act.put,List.setIfInBounds_toArray,List.set_cons_zero,List.set_cons_succ,i64_w,i32_w]
    rfl
  refine take_ (i:=4) (N:=some 63) (v:=?_) (a':=?_) #[true,true,true,true,true,false,false,false] rfl rfl (by kernel_rfl) (fun _ _ _ h=>h) (Or.inl ⟨by rfl,?_⟩) hHeld ?_ ?_
  rotate_left
  · rintro w' ⟨s0,s1,s2,s3⟩
    go_simp
    with_reducible rfl
  rotate_left
  · simp only [Act.put,List.setIfInBounds_toArray,List.set_cons_zero,List.set_cons_succ,i64_w,i32_w]
    rfl
  refine one_ (i:=5) (N:=some 64) #[true,true,true,true,true,true,false,false] rfl rfl (by kernel_rfl) (by decide) (fun K hK=>?_)
  refine goes_ Tryd.func32 (by kernel_rfl) rfl #[.slice A2 (convEs s.f2).length c2,.int .i64 0] (by rfl) rfl rfl (by (try simp only [List.map_toArray,List.map_cons,List.map_nil]);first|done|rfl) ?_
  have hb2:Below w0.heap.size w0 w2:=HB0.out.trans ((HB1.out.trans (hHeld.2.2.2.mono HB1.out.size)).mono HB0.out.size)
  refine (tree_part.calls k A2 c2 (convEs s.f2) 0 _ w2 (hT.later hb2) (Kd.C_below G2.out hb2) L2.out HPP.out).mono ?_
  clear hb2
  rintro e w3 ⟨rfl,hb⟩
  refine ⟨_,rfl,?_⟩
  obtain ⟨t0,t1,t2,t3⟩:=hHeld
  have hHeld:w3.cell? ⟨gb,0,none⟩=some (.string s.f0)∧w3.cell? ⟨gb,1,none⟩=some (.string s.f1)∧w3.cell? ⟨gb,2,none⟩=some (.slice A2 (convEs s.f2).length c2)∧Below w1.heap.size w1 w3:=⟨(hb.cell (World.block_lt_of_cell? w2 _ t0)).trans t0,(hb.cell (World.block_lt_of_cell? w2 _ t1)).trans t1,(hb.cell (World.block_lt_of_cell? w2 _ t2)).trans t2,t3.trans (hb.mono t3.size)⟩
  refine hK.out _ _ hHeld (fun hHeld=>?_)
  clear hK K t0 t1 t2 t3 hb
  refine norm_ (a':=?_) ?_ ?_
  rotate_left
  · show Act.put _ (some 64) _=_
    simp only [Act.put,List.setIfInBounds_toArray,List.set_cons_zero,List.set_cons_succ,i64_w,i32_w]
    rfl
  refine one_ (i:=6) (N:=some 65) #[true,true,true,true,true,true,true,false] rfl rfl (by kernel_rfl) (by decide) (fun K hK=>?_)
  refine Kd.R_lit_step Kd.string (w0:=w3) w3.heap.size 9 (by rfl) (N:=65) rfl (xs:=[s.f0,(lit [32]),(nth (textEs s.f2) 0),(lit [32,123])]) (inner:=[.string s.f0,.string (lit [32]),.string (nth (textEs s.f2) 0),.string (lit [32,123])]) (ok:=fun _=>True) (okp:=fun _=>True) ?hr ?hp (fun _ hk=>hk) trivial (Below.refl _ _) (Nat.le_refl _) (by simp) ?_
  case hr=>first|(go_simp;done)|(go_simp;rfl)
  case hp=>exact Reps.one (show Kd.M Kd.string _ _ _ (s.f0) [.string (s.f0)] from rfl) (Reps.one (show Kd.M Kd.string _ _ _ ((lit [32])) [.string ((lit [32]))] from rfl) (Reps.one (show Kd.M Kd.string _ _ _ ((nth (textEs s.f2) 0)) [.string ((nth (textEs s.f2) 0))] from rfl) (Reps.one (show Kd.M Kd.string _ _ _ ((lit [32,123])) [.string ((lit [32,123]))] from rfl) (Reps.none _ _))))
  intro vrow w4 hrow hb hg_ hnew_
  clear hg_ hnew_
  obtain ⟨Ao,co,rfl⟩:=Kd.R_slice hrow
  have hro:=(Kd.R_reads' hrow).2
  obtain ⟨t0,t1,t2,t3⟩:=hHeld
  have hHeld:w4.cell? ⟨gb,0,none⟩=some (.string s.f0)∧w4.cell? ⟨gb,1,none⟩=some (.string s.f1)∧w4.cell? ⟨gb,2,none⟩=some (.slice A2 (convEs s.f2).length c2)∧Below w1.heap.size w1 w4:=⟨(hb.cell (World.block_lt_of_cell? w3 _ t0)).trans t0,(hb.cell (World.block_lt_of_cell? w3 _ t1)).trans t1,(hb.cell (World.block_lt_of_cell? w3 _ t2)).trans t2,t3.trans (hb.mono t3.size)⟩
  refine hK.out _ _ hHeld (fun hHeld=>?_)
  clear hK K t0 t1 t2 t3 hb hrow
  refine norm_ (a':=?_) ?_ ?_
  rotate_left
  · show Act.put _ (some 65) _=_
    simp only [Act.put,List.setIfInBounds_toArray,List.set_cons_zero,List.set_cons_succ,i64_w,i32_w]
    rfl
  have e4:Below w.heap.size w w4:=HB1.out.trans (hHeld.2.2.2.mono HB1.out.size)
  refine last_ (i:=7) (N:=some 66) #[true,true,true,true,true,true,true,true] rfl rfl (by kernel_rfl) (by decide) (fun K hK=>?_)
  refine goes_ Tryd.func38 (by kernel_rfl) rfl #[.pointer (some ⟨b,0,none⟩),.slice Ao 4 co] (by rfl) rfl rfl (by (try simp only [List.map_toArray,List.map_cons,List.map_nil]);first|done|rfl) ?_
  refine (line_pr w0.heap.size b t d Ao co [s.f0,(lit [32]),(nth (textEs s.f2) 0),(lit [32,123])] w4 (HP.out.kept e4) hro.2 hro.1 hd0 (by have:=HD.out;omega) (by simp) (by have:=HLEN.out;simp only [List.length_append] at this;omega) (Nat.le_trans HB0.out.size e4.size)).mono ?_
  rintro e w5 ⟨rfl,hP5,hb,hs5⟩
  refine ⟨_,rfl,?_⟩
  refine hK.out _ _ ?_
  refine done_ (by kernel_rfl) ?_
  have hgb:gb≠b:=fun e=>by have:=HP.out.lt;have:=GW.out;omega
  have BK5:=Aside0.mk ((Beside.trans (Beside.of (hHeld.2.2.2)) hs5) gb _ _ _ hgb (by decide) BK.out)
  have HB5:=Aside0.mk ((e4.mono HB0.out.size).trans hb)
  have HS5:=Aside0.mk ((Beside.of e4).trans hs5)
  have HP5:Aside0 (IsPr w0.heap.size b (Lib.byteCells (t++lineB d [s.f0,lit [32],nth (textEs s.f2) 0,lit [32,123]])) d w5):=⟨.inr hP5⟩
  clear hK hHeld z0 z1 z2 z3 z4 hb hs5 hro hP5 e4 BK
  have z0:w5.cell? ⟨gb,0,none⟩=some (.string s.f0):=by rw [Lib.cell_of_heap BK5.out];rfl
  have z1:w5.cell? ⟨gb,1,none⟩=some (.string s.f1):=by rw [Lib.cell_of_heap BK5.out];rfl
  have z2:w5.cell? ⟨gb,2,none⟩=some (.slice A2 (convEs s.f2).length c2):=by rw [Lib.cell_of_heap BK5.out];rfl
  have z3:w5.cell? ⟨gb,3,none⟩=some (.slice A3 (convSs s.f3).length c3):=by rw [Lib.cell_of_heap BK5.out];rfl
  have z4:w5.cell? ⟨gb,4,none⟩=some (.slice A4 (convSs s.f4).length c4):=by rw [Lib.cell_of_heap BK5.out];rfl
  go_wp2_with fail
  refine (block_pr s.f3 iha b (t++lineB d [s.f0,lit [32],nth (textEs s.f2) 0,lit [32,123]]) d A3 c3 w0 w5 HP5.out (HB0.out.trans HB5.out) hT G3.out L3.out OK.out.2.1 hd0 (by have:=HD.out;omega) (by have:=HLEN.out;simp only [List.length_append] at this ⊢;omega)).mono ?_
  rintro e w6 ⟨rfl,hP',hb',hs'⟩
  have HP6:=Aside0.mk hP'
  have HB6:=Aside0.mk (HB5.out.trans hb')
  have HS6:=Aside0.mk (HS5.out.trans hs')
  have BK6:=Aside0.mk (hs' gb _ _ _ hgb (by decide) BK5.out)
  clear hP' hb' hs' z0 z1 z2 z3 z4 BK5
  have z0:w6.cell? ⟨gb,0,none⟩=some (.string s.f0):=by rw [Lib.cell_of_heap BK6.out];rfl
  have z1:w6.cell? ⟨gb,1,none⟩=some (.string s.f1):=by rw [Lib.cell_of_heap BK6.out];rfl
  have z2:w6.cell? ⟨gb,2,none⟩=some (.slice A2 (convEs s.f2).length c2):=by rw [Lib.cell_of_heap BK6.out];rfl
  have z3:w6.cell? ⟨gb,3,none⟩=some (.slice A3 (convSs s.f3).length c3):=by rw [Lib.cell_of_heap BK6.out];rfl
  have z4:w6.cell? ⟨gb,4,none⟩=some (.slice A4 (convSs s.f4).length c4):=by rw [Lib.cell_of_heap BK6.out];rfl
  go_wp2_with (first|((with_reducible refine gate_dst (N:=81) rfl ?_);(try (refine gate_guard (by rfl) ?_;dsimp only));refine Kd.R_lit Kd.string (w0:=w6) w6.heap.size 9 ?hg8 (N:=81) ?hd8 (xs:=[(lit [125,32,101,108,115,101,32,123])]) (inner:=[.string (lit [125,32,101,108,115,101,32,123])]) (ok:=fun _=>True) (okp:=fun _=>True) ?hr8 ?hp8 (fun _ hk=>hk) trivial (Below.refl _ _) (Nat.le_refl _) (by simp) ?_;(case hd8=>rfl);(case hg8=>rfl);(case hr8=>first|(go_simp;done)|(go_simp;rfl));(case hp8=>exact Reps.one (show Kd.M Kd.string _ _ _ ((lit [125,32,101,108,115,101,32,123])) [.string ((lit [125,32,101,108,115,101,32,123]))] from rfl) (Reps.none _ _));intro vrow w7 hrow hb hg_ hnew_;have HL8:=Aside0.mk hb;clear hg_ hnew_ hb;obtain ⟨Ao8,co8,rfl⟩:=Kd.R_slice hrow;have hro:=(Kd.R_reads' hrow).2;have HR8:=Aside0.mk hro;clear hro hrow))
  refine (line_pr w0.heap.size b ((t++lineB d [s.f0,lit [32],nth (textEs s.f2) 0,lit [32,123]])++stmtsB s.f3 (d+1)) d Ao8 co8 [(lit [125,32,101,108,115,101,32,123])] w7 (HP6.out.kept HL8.out) HR8.out.2 HR8.out.1 hd0 (by have:=HD.out;omega) (by simp) (by have:=HLEN.out;simp only [List.length_append] at this ⊢;omega) (Nat.le_trans HB0.out.size (Nat.le_trans HB6.out.size HL8.out.size))).mono ?_
  rintro e w8 ⟨rfl,hP',hb',hs'⟩
  have HP8:Aside0 (IsPr w0.heap.size b _ d w8):=⟨.inr hP'⟩
  have HB8:=Aside0.mk ((HB6.out.trans (HL8.out.mono (Nat.le_trans HB0.out.size HB6.out.size))).trans hb')
  have HS8:=Aside0.mk ((HS6.out.trans (Beside.of HL8.out)).trans hs')
  have BK8:=Aside0.mk (((Beside.of HL8.out).trans hs') gb _ _ _ hgb (by decide) BK6.out)
  clear hP' hb' hs' z0 z1 z2 z3 z4 BK6 HL8 HR8
  have z0:w8.cell? ⟨gb,0,none⟩=some (.string s.f0):=by rw [Lib.cell_of_heap BK8.out];rfl
  have z1:w8.cell? ⟨gb,1,none⟩=some (.string s.f1):=by rw [Lib.cell_of_heap BK8.out];rfl
  have z2:w8.cell? ⟨gb,2,none⟩=some (.slice A2 (convEs s.f2).length c2):=by rw [Lib.cell_of_heap BK8.out];rfl
  have z3:w8.cell? ⟨gb,3,none⟩=some (.slice A3 (convSs s.f3).length c3):=by rw [Lib.cell_of_heap BK8.out];rfl
  have z4:w8.cell? ⟨gb,4,none⟩=some (.slice A4 (convSs s.f4).length c4):=by rw [Lib.cell_of_heap BK8.out];rfl
  go_wp2_with fail
  refine (block_pr s.f4 ihb b (((t++lineB d [s.f0,lit [32],nth (textEs s.f2) 0,lit [32,123]])++stmtsB s.f3 (d+1))++lineB d [lit [125,32,101,108,115,101,32,123]]) d A4 c4 w0 w8 HP8.out (HB0.out.trans HB8.out) hT G4.out L4.out OK.out.2.2 hd0 (by have:=HD.out;omega) (by have:=HLEN.out;simp only [List.length_append] at this ⊢;omega)).mono ?_
  rintro e w9 ⟨rfl,hP',hb',hs'⟩
  have HP9:=Aside0.mk hP'
  have HB9:=Aside0.mk (HB8.out.trans hb')
  have HS9:=Aside0.mk (HS8.out.trans hs')
  have BK9:=Aside0.mk (hs' gb _ _ _ hgb (by decide) BK8.out)
  clear hP' hb' hs' z0 z1 z2 z3 z4 BK8
  have z0:w9.cell? ⟨gb,0,none⟩=some (.string s.f0):=by rw [Lib.cell_of_heap BK9.out];rfl
  have z1:w9.cell? ⟨gb,1,none⟩=some (.string s.f1):=by rw [Lib.cell_of_heap BK9.out];rfl
  have z2:w9.cell? ⟨gb,2,none⟩=some (.slice A2 (convEs s.f2).length c2):=by rw [Lib.cell_of_heap BK9.out];rfl
  have z3:w9.cell? ⟨gb,3,none⟩=some (.slice A3 (convSs s.f3).length c3):=by rw [Lib.cell_of_heap BK9.out];rfl
  have z4:w9.cell? ⟨gb,4,none⟩=some (.slice A4 (convSs s.f4).length c4):=by rw [Lib.cell_of_heap BK9.out];rfl
  go_wp2_with (first|((with_reducible refine gate_dst (N:=88) rfl ?_);(try (refine gate_guard (by rfl) ?_;dsimp only));refine Kd.R_lit Kd.string (w0:=w9) w9.heap.size 9 ?hg11 (N:=88) ?hd11 (xs:=[(lit [125])]) (inner:=[.string (lit [125])]) (ok:=fun _=>True) (okp:=fun _=>True) ?hr11 ?hp11 (fun _ hk=>hk) trivial (Below.refl _ _) (Nat.le_refl _) (by simp) ?_;(case hd11=>rfl);(case hg11=>rfl);(case hr11=>first|(go_simp;done)|(go_simp;rfl));(case hp11=>exact Reps.one (show Kd.M Kd.string _ _ _ ((lit [125])) [.string ((lit [125]))] from rfl) (Reps.none _ _));intro vrow w10 hrow hb hg_ hnew_;have HL11:=Aside0.mk hb;clear hg_ hnew_ hb;obtain ⟨Ao11,co11,rfl⟩:=Kd.R_slice hrow;have hro:=(Kd.R_reads' hrow).2;have HR11:=Aside0.mk hro;clear hro hrow))
  refine (line_pr w0.heap.size b ((((t++lineB d [s.f0,lit [32],nth (textEs s.f2) 0,lit [32,123]])++stmtsB s.f3 (d+1))++lineB d [lit [125,32,101,108,115,101,32,123]])++stmtsB s.f4 (d+1)) d Ao11 co11 [(lit [125])] w10 (HP9.out.kept HL11.out) HR11.out.2 HR11.out.1 hd0 (by have:=HD.out;omega) (by simp) (by have:=HLEN.out;simp only [List.length_append] at this ⊢;omega) (Nat.le_trans HB0.out.size (Nat.le_trans HB9.out.size HL11.out.size))).mono ?_
  rintro e w11 ⟨rfl,hP',hb',hs'⟩
  have HP11:Aside0 (IsPr w0.heap.size b _ d w11):=⟨.inr hP'⟩
  have HB11:=Aside0.mk ((HB9.out.trans (HL11.out.mono (Nat.le_trans HB0.out.size HB9.out.size))).trans hb')
  have HS11:=Aside0.mk ((HS9.out.trans (Beside.of HL11.out)).trans hs')
  have BK11:=Aside0.mk (((Beside.of HL11.out).trans hs') gb _ _ _ hgb (by decide) BK9.out)
  clear hP' hb' hs' z0 z1 z2 z3 z4 BK9 HL11 HR11
  have z0:w11.cell? ⟨gb,0,none⟩=some (.string s.f0):=by rw [Lib.cell_of_heap BK11.out];rfl
  have z1:w11.cell? ⟨gb,1,none⟩=some (.string s.f1):=by rw [Lib.cell_of_heap BK11.out];rfl
  have z2:w11.cell? ⟨gb,2,none⟩=some (.slice A2 (convEs s.f2).length c2):=by rw [Lib.cell_of_heap BK11.out];rfl
  have z3:w11.cell? ⟨gb,3,none⟩=some (.slice A3 (convSs s.f3).length c3):=by rw [Lib.cell_of_heap BK11.out];rfl
  have z4:w11.cell? ⟨gb,4,none⟩=some (.slice A4 (convSs s.f4).length c4):=by rw [Lib.cell_of_heap BK11.out];rfl
  try go_wp2
  go_end0
  refine ⟨rfl,?_,HB11.out,HS11.out⟩
  have h11:=HP11.out
  simp only [List.append_assoc,List.nil_append,List.append_nil] at h11 ⊢
  exact h11
end Go.Proofs.YtnnbbeloifhofaaDoor.P
end
section
namespace Go.Proofs.YtnnbbeloifhofaaDoor.P
open Go Go.RowKit Go.Proofs
open Go.Proofs.YtnnbbeloifhofaaDoorW.PrintWords Go.Proofs.YtnnbbeloifhofaaDoorW.PrintLast Go.Proofs.YtnnbbeloifhofaaDoorW.PrintMore
set_option linter.unusedVariables false
set_option linter.unusedSimpArgs false
set_option maxHeartbeats 2000000 in
set_option maxRecDepth 100000 in
theorem stmt_while (s:RS) (n0 : ¬ s.f0.toList=oSet) (n1 : ¬ s.f0.toList=oPut) (n2 : ¬ s.f0.toList=oInput) (n3 : ¬ s.f0.toList=oIf) (c1:s.f0.toList=oWhile) (iha : ∀ y ∈ s.f3,StmtOk y) (ihb : ∀ y ∈ s.f4,StmtOk y):StmtOk s:=by
  intro b t d A2 A3 A4 c2 c3 c4 w0 w hP hB hT g2 l2 g3 l3 g4 l4 ho hd0 hd hlen
  rw [okS_eq] at ho
  rw [bulkS_eq] at hd
  rw [stmtB_eq] at hlen ⊢
  unfold stmtF at hlen ⊢
  rw [if_neg n0,if_neg n1,if_neg n2,if_pos (.inr c1),if_neg (fun h=>n3 h.1)] at hlen ⊢
  obtain ⟨k,hp⟩:=part_k s.f2 0 ho.1 (by omega)
  obtain ⟨k',hp'⟩:=part_k s.f2 1 ho.1 (by omega)
  have m0:=opNo n0
  clear n0
  have m1:=opNo n1
  clear n1
  have m2:=opNo n2
  clear n2
  have m3:=opNo n3
  clear n3
  have c1b:=opIs c1
  clear c1
  have G3:=Aside0.mk g3
  have L3:=Aside0.mk l3
  have G4:=Aside0.mk g4
  have L4:=Aside0.mk l4
  have OK:=Aside0.mk ho
  have G2:=Aside0.mk g2
  have L2:=Aside0.mk l2
  have HB0:=Aside0.mk hB
  have HLEN:=Aside0.mk hlen
  have HD:=Aside0.mk hd
  have HPP:=Aside0.mk hp
  have HQQ:=Aside0.mk hp'
  have HP:=Aside0.mk hP
  clear ho g2 l2 g3 l3 g4 l4 hB hlen hd hp hp' hP
  go_enter Tryd.func61,Tryd.ntmps61
  go_wp2_with (first|((with_reducible refine gate_dst (N:=3) rfl ?_);refine box_event ?hg (N:=3) ?hd (cs:=#[.string s.f0,.string s.f1,.slice A2 (convEs s.f2).length c2,.slice A3 (convSs s.f3).length c3,.slice A4 (convSs s.f4).length c4,.int .i64 s.f5]) (t:=76) ?hr ?_;(case hd=>rfl);(case hg=>rfl);(case hr=>first|(go_simp;done)|(go_simp;rfl));intro gb hg w1 hbox hb;have BK:=Aside0.mk hbox;have GW:=Aside0.mk hg;have HB1:=Aside0.mk hb;clear hb hbox hg;have z0:w1.cell? ⟨gb,0,none⟩=some (.string s.f0):=(blk_cell BK.out 0).trans rfl;have z1:w1.cell? ⟨gb,1,none⟩=some (.string s.f1):=(blk_cell BK.out 1).trans rfl;have z2:w1.cell? ⟨gb,2,none⟩=some (.slice A2 (convEs s.f2).length c2):=(blk_cell BK.out 2).trans rfl;have z3:w1.cell? ⟨gb,3,none⟩=some (.slice A3 (convSs s.f3).length c3):=(blk_cell BK.out 3).trans rfl;have z4:w1.cell? ⟨gb,4,none⟩=some (.slice A4 (convSs s.f4).length c4):=(blk_cell BK.out 4).trans rfl))
  have hHeld0:w1.drew.cell? ⟨gb,0,none⟩=some (.string s.f0)∧w1.drew.cell? ⟨gb,1,none⟩=some (.string s.f1)∧w1.drew.cell? ⟨gb,2,none⟩=some (.slice A2 (convEs s.f2).length c2)∧Below w1.heap.size w1 w1.drew:=⟨z0,z1,z2,Below.drew (Below.refl _ w1)⟩
  refine start_ (n:=8) (ds:=[7]) (S:=fun w'=>w'.cell? ⟨gb,0,none⟩=some (.string s.f0)∧w'.cell? ⟨gb,1,none⟩=some (.string s.f1)∧w'.cell? ⟨gb,2,none⟩=some (.slice A2 (convEs s.f2).length c2)∧Below w1.heap.size w1 w') #[false,false,false,false,false,false,false,false] (by kernel_rfl) rfl rfl hHeld0 (fun hHeld=>?_)
  generalize w1.drew=w2 at hHeld ⊢
  refine pure_ (i:=0) (N:=some 59) (v:=?_) (a':=?_) #[true,false,false,false,false,false,false,false] rfl rfl (by kernel_rfl) (fun _ _ _ h=>h) (Or.inl ⟨by rfl,?_⟩) ?_ ?_
  rotate_left
  · intro w'
    go_simp
    with_reducible rfl
  rotate_left
  · simp only [Act.put,List.setIfInBounds_toArray,List.set_cons_zero,List.set_cons_succ,i64_w,i32_w]
    rfl
  refine pure_ (i:=1) (N:=some 60) (v:=?_) (a':=?_) #[true,true,false,false,false,false,false,false] rfl rfl (by kernel_rfl) (fun _ _ _ h=>h) (Or.inl ⟨by rfl,?_⟩) ?_ ?_
  rotate_left
  · intro w'
    go_simp
    with_reducible rfl
  rotate_left
  · simp only [Act.put,List.setIfInBounds_toArray,List.set_cons_zero,List.set_cons_succ,i64_w,i32_w]
    rfl
  refine pure_ (i:=3) (N:=some 62) (v:=?_) (a':=?_) #[true,true,false,true,false,false,false,false] rfl rfl (by kernel_rfl) (fun _ _ _ h=>h) (Or.inl ⟨by rfl,?_⟩) ?_ ?_
  rotate_left
  · intro w'
    go_simp
    with_reducible rfl
  rotate_left
  · simp only [Act.put,List.setIfInBounds_toArray,List.set_cons_zero,List.set_cons_succ,i64_w,i32_w]
    rfl
  refine take_ (i:=2) (N:=some 61) (v:=?_) (a':=?_) #[true,true,true,true,false,false,false,false] rfl rfl (by kernel_rfl) (fun _ _ _ h=>h) (Or.inl ⟨by rfl,?_⟩) hHeld ?_ ?_
  rotate_left
  · rintro w' ⟨s0,s1,s2,s3⟩
    go_simp
    with_reducible rfl
  rotate_left
  · simp only [Act.put,List.setIfInBounds_toArray,List.set_cons_zero,List.set_cons_succ,i64_w,i32_w]
    rfl
  refine take_ (i:=4) (N:=some 63) (v:=?_) (a':=?_) #[true,true,true,true,true,false,false,false] rfl rfl (by kernel_rfl) (fun _ _ _ h=>h) (Or.inl ⟨by rfl,?_⟩) hHeld ?_ ?_
  rotate_left
  · rintro w' ⟨s0,s1,s2,s3⟩
    go_simp
    with_reducible rfl
  rotate_left
  · simp only [Act.put,List.setIfInBounds_toArray,List.set_cons_zero,List.set_cons_succ,i64_w,i32_w]
    rfl
  refine one_ (i:=5) (N:=some 64) #[true,true,true,true,true,true,false,false] rfl rfl (by kernel_rfl) (by decide) (fun K hK=>?_)
  refine goes_ Tryd.func32 (by kernel_rfl) rfl #[.slice A2 (convEs s.f2).length c2,.int .i64 0] (by rfl) rfl rfl (by (try simp only [List.map_toArray,List.map_cons,List.map_nil]);first|done|rfl) ?_
  have hb2:Below w0.heap.size w0 w2:=HB0.out.trans ((HB1.out.trans (hHeld.2.2.2.mono HB1.out.size)).mono HB0.out.size)
  refine (tree_part.calls k A2 c2 (convEs s.f2) 0 _ w2 (hT.later hb2) (Kd.C_below G2.out hb2) L2.out HPP.out).mono ?_
  clear hb2
  rintro e w3 ⟨rfl,hb⟩
  refine ⟨_,rfl,?_⟩
  obtain ⟨t0,t1,t2,t3⟩:=hHeld
  have hHeld:w3.cell? ⟨gb,0,none⟩=some (.string s.f0)∧w3.cell? ⟨gb,1,none⟩=some (.string s.f1)∧w3.cell? ⟨gb,2,none⟩=some (.slice A2 (convEs s.f2).length c2)∧Below w1.heap.size w1 w3:=⟨(hb.cell (World.block_lt_of_cell? w2 _ t0)).trans t0,(hb.cell (World.block_lt_of_cell? w2 _ t1)).trans t1,(hb.cell (World.block_lt_of_cell? w2 _ t2)).trans t2,t3.trans (hb.mono t3.size)⟩
  refine hK.out _ _ hHeld (fun hHeld=>?_)
  clear hK K t0 t1 t2 t3 hb
  refine norm_ (a':=?_) ?_ ?_
  rotate_left
  · show Act.put _ (some 64) _=_
    simp only [Act.put,List.setIfInBounds_toArray,List.set_cons_zero,List.set_cons_succ,i64_w,i32_w]
    rfl
  refine one_ (i:=6) (N:=some 65) #[true,true,true,true,true,true,true,false] rfl rfl (by kernel_rfl) (by decide) (fun K hK=>?_)
  refine Kd.R_lit_step Kd.string (w0:=w3) w3.heap.size 9 (by rfl) (N:=65) rfl (xs:=[s.f0,(lit [32]),(nth (textEs s.f2) 0),(lit [32,123])]) (inner:=[.string s.f0,.string (lit [32]),.string (nth (textEs s.f2) 0),.string (lit [32,123])]) (ok:=fun _=>True) (okp:=fun _=>True) ?hr ?hp (fun _ hk=>hk) trivial (Below.refl _ _) (Nat.le_refl _) (by simp) ?_
  case hr=>first|(go_simp;done)|(go_simp;rfl)
  case hp=>exact Reps.one (show Kd.M Kd.string _ _ _ (s.f0) [.string (s.f0)] from rfl) (Reps.one (show Kd.M Kd.string _ _ _ ((lit [32])) [.string ((lit [32]))] from rfl) (Reps.one (show Kd.M Kd.string _ _ _ ((nth (textEs s.f2) 0)) [.string ((nth (textEs s.f2) 0))] from rfl) (Reps.one (show Kd.M Kd.string _ _ _ ((lit [32,123])) [.string ((lit [32,123]))] from rfl) (Reps.none _ _))))
  intro vrow w4 hrow hb hg_ hnew_
  clear hg_ hnew_
  obtain ⟨Ao,co,rfl⟩:=Kd.R_slice hrow
  have hro:=(Kd.R_reads' hrow).2
  obtain ⟨t0,t1,t2,t3⟩:=hHeld
  have hHeld:w4.cell? ⟨gb,0,none⟩=some (.string s.f0)∧w4.cell? ⟨gb,1,none⟩=some (.string s.f1)∧w4.cell? ⟨gb,2,none⟩=some (.slice A2 (convEs s.f2).length c2)∧Below w1.heap.size w1 w4:=⟨(hb.cell (World.block_lt_of_cell? w3 _ t0)).trans t0,(hb.cell (World.block_lt_of_cell? w3 _ t1)).trans t1,(hb.cell (World.block_lt_of_cell? w3 _ t2)).trans t2,t3.trans (hb.mono t3.size)⟩
  refine hK.out _ _ hHeld (fun hHeld=>?_)
  clear hK K t0 t1 t2 t3 hb hrow
  refine norm_ (a':=?_) ?_ ?_
  rotate_left
  · show Act.put _ (some 65) _=_
    simp only [Act.put,List.setIfInBounds_toArray,List.set_cons_zero,List.set_cons_succ,i64_w,i32_w]
    rfl
  have e4:Below w.heap.size w w4:=HB1.out.trans (hHeld.2.2.2.mono HB1.out.size)
  refine last_ (i:=7) (N:=some 66) #[true,true,true,true,true,true,true,true] rfl rfl (by kernel_rfl) (by decide) (fun K hK=>?_)
  refine goes_ Tryd.func38 (by kernel_rfl) rfl #[.pointer (some ⟨b,0,none⟩),.slice Ao 4 co] (by rfl) rfl rfl (by (try simp only [List.map_toArray,List.map_cons,List.map_nil]);first|done|rfl) ?_
  refine (line_pr w0.heap.size b t d Ao co [s.f0,(lit [32]),(nth (textEs s.f2) 0),(lit [32,123])] w4 (HP.out.kept e4) hro.2 hro.1 hd0 (by have:=HD.out;omega) (by simp) (by have:=HLEN.out;simp only [List.length_append] at this;omega) (Nat.le_trans HB0.out.size e4.size)).mono ?_
  rintro e w5 ⟨rfl,hP5,hb,hs5⟩
  refine ⟨_,rfl,?_⟩
  refine hK.out _ _ ?_
  refine done_ (by kernel_rfl) ?_
  have hgb:gb≠b:=fun e=>by have:=HP.out.lt;have:=GW.out;omega
  have BK5:=Aside0.mk ((Beside.trans (Beside.of (hHeld.2.2.2)) hs5) gb _ _ _ hgb (by decide) BK.out)
  have HB5:=Aside0.mk ((e4.mono HB0.out.size).trans hb)
  have HS5:=Aside0.mk ((Beside.of e4).trans hs5)
  have HP5:Aside0 (IsPr w0.heap.size b (Lib.byteCells (t++lineB d [s.f0,lit [32],nth (textEs s.f2) 0,lit [32,123]])) d w5):=⟨.inr hP5⟩
  clear hK hHeld z0 z1 z2 z3 z4 hb hs5 hro hP5 e4 BK
  have z0:w5.cell? ⟨gb,0,none⟩=some (.string s.f0):=by rw [Lib.cell_of_heap BK5.out];rfl
  have z1:w5.cell? ⟨gb,1,none⟩=some (.string s.f1):=by rw [Lib.cell_of_heap BK5.out];rfl
  have z2:w5.cell? ⟨gb,2,none⟩=some (.slice A2 (convEs s.f2).length c2):=by rw [Lib.cell_of_heap BK5.out];rfl
  have z3:w5.cell? ⟨gb,3,none⟩=some (.slice A3 (convSs s.f3).length c3):=by rw [Lib.cell_of_heap BK5.out];rfl
  have z4:w5.cell? ⟨gb,4,none⟩=some (.slice A4 (convSs s.f4).length c4):=by rw [Lib.cell_of_heap BK5.out];rfl
  go_wp2_with fail
  refine (block_pr s.f3 iha b (t++lineB d [s.f0,lit [32],nth (textEs s.f2) 0,lit [32,123]]) d A3 c3 w0 w5 HP5.out (HB0.out.trans HB5.out) hT G3.out L3.out OK.out.2.1 hd0 (by have:=HD.out;omega) (by have:=HLEN.out;simp only [List.length_append] at this ⊢;omega)).mono ?_
  rintro e w6 ⟨rfl,hP',hb',hs'⟩
  have HP6:=Aside0.mk hP'
  have HB6:=Aside0.mk (HB5.out.trans hb')
  have HS6:=Aside0.mk (HS5.out.trans hs')
  have BK6:=Aside0.mk (hs' gb _ _ _ hgb (by decide) BK5.out)
  clear hP' hb' hs' z0 z1 z2 z3 z4 BK5
  have z0:w6.cell? ⟨gb,0,none⟩=some (.string s.f0):=by rw [Lib.cell_of_heap BK6.out];rfl
  have z1:w6.cell? ⟨gb,1,none⟩=some (.string s.f1):=by rw [Lib.cell_of_heap BK6.out];rfl
  have z2:w6.cell? ⟨gb,2,none⟩=some (.slice A2 (convEs s.f2).length c2):=by rw [Lib.cell_of_heap BK6.out];rfl
  have z3:w6.cell? ⟨gb,3,none⟩=some (.slice A3 (convSs s.f3).length c3):=by rw [Lib.cell_of_heap BK6.out];rfl
  have z4:w6.cell? ⟨gb,4,none⟩=some (.slice A4 (convSs s.f4).length c4):=by rw [Lib.cell_of_heap BK6.out];rfl
  go_wp2_with (first|((with_reducible refine gate_dst (N:=88) rfl ?_);(try (refine gate_guard (by rfl) ?_;dsimp only));refine Kd.R_lit Kd.string (w0:=w6) w6.heap.size 9 ?hg11 (N:=88) ?hd11 (xs:=[(lit [125])]) (inner:=[.string (lit [125])]) (ok:=fun _=>True) (okp:=fun _=>True) ?hr11 ?hp11 (fun _ hk=>hk) trivial (Below.refl _ _) (Nat.le_refl _) (by simp) ?_;(case hd11=>rfl);(case hg11=>rfl);(case hr11=>first|(go_simp;done)|(go_simp;rfl));(case hp11=>exact Reps.one (show Kd.M Kd.string _ _ _ ((lit [125])) [.string ((lit [125]))] from rfl) (Reps.none _ _));intro vrow w10 hrow hb hg_ hnew_;have HL11:=Aside0.mk hb;clear hg_ hnew_ hb;obtain ⟨Ao11,co11,rfl⟩:=Kd.R_slice hrow;have hro:=(Kd.R_reads' hrow).2;have HR11:=Aside0.mk hro;clear hro hrow))
  refine (line_pr w0.heap.size b ((t++lineB d [s.f0,lit [32],nth (textEs s.f2) 0,lit [32,123]])++stmtsB s.f3 (d+1)) d Ao11 co11 [(lit [125])] w10 (HP6.out.kept HL11.out) HR11.out.2 HR11.out.1 hd0 (by have:=HD.out;omega) (by simp) (by have:=HLEN.out;simp only [List.length_append] at this ⊢;omega) (Nat.le_trans HB0.out.size (Nat.le_trans HB6.out.size HL11.out.size))).mono ?_
  rintro e w11 ⟨rfl,hP',hb',hs'⟩
  have HP11:Aside0 (IsPr w0.heap.size b _ d w11):=⟨.inr hP'⟩
  have HB11:=Aside0.mk ((HB6.out.trans (HL11.out.mono (Nat.le_trans HB0.out.size HB6.out.size))).trans hb')
  have HS11:=Aside0.mk ((HS6.out.trans (Beside.of HL11.out)).trans hs')
  have BK11:=Aside0.mk (((Beside.of HL11.out).trans hs') gb _ _ _ hgb (by decide) BK6.out)
  clear hP' hb' hs' z0 z1 z2 z3 z4 BK6 HL11 HR11
  have z0:w11.cell? ⟨gb,0,none⟩=some (.string s.f0):=by rw [Lib.cell_of_heap BK11.out];rfl
  have z1:w11.cell? ⟨gb,1,none⟩=some (.string s.f1):=by rw [Lib.cell_of_heap BK11.out];rfl
  have z2:w11.cell? ⟨gb,2,none⟩=some (.slice A2 (convEs s.f2).length c2):=by rw [Lib.cell_of_heap BK11.out];rfl
  have z3:w11.cell? ⟨gb,3,none⟩=some (.slice A3 (convSs s.f3).length c3):=by rw [Lib.cell_of_heap BK11.out];rfl
  have z4:w11.cell? ⟨gb,4,none⟩=some (.slice A4 (convSs s.f4).length c4):=by rw [Lib.cell_of_heap BK11.out];rfl
  try go_wp2
  go_end0
  refine ⟨rfl,?_,HB11.out,HS11.out⟩
  have h11:=HP11.out
  simp only [List.append_assoc,List.nil_append,List.append_nil] at h11 ⊢
  exact h11
end Go.Proofs.YtnnbbeloifhofaaDoor.P
end
section
namespace Go.Proofs.YtnnbbeloifhofaaDoor.P
open Go Go.RowKit Go.Proofs
open Go.Proofs.YtnnbbeloifhofaaDoorW.PrintWords Go.Proofs.YtnnbbeloifhofaaDoorW.PrintLast Go.Proofs.YtnnbbeloifhofaaDoorW.PrintMore
set_option linter.unusedVariables false
set_option linter.unusedSimpArgs false
set_option maxHeartbeats 2000000 in
set_option maxRecDepth 100000 in
theorem stmt_assert (s:RS) (n0 : ¬ s.f0.toList=oSet) (n1 : ¬ s.f0.toList=oPut) (n2 : ¬ s.f0.toList=oInput) (n3 : ¬ s.f0.toList=oIf) (n4 : ¬ s.f0.toList=oWhile) (c1:s.f0.toList=oAssert):StmtOk s:=by
  intro b t d A2 A3 A4 c2 c3 c4 w0 w hP hB hT g2 l2 g3 l3 g4 l4 ho hd0 hd hlen
  rw [okS_eq] at ho
  rw [bulkS_eq] at hd
  rw [stmtB_eq] at hlen ⊢
  unfold stmtF at hlen ⊢
  rw [if_neg n0,if_neg n1,if_neg n2,if_neg (by simp only [n3,n4,or_false,not_false_iff]),if_pos (.inl c1)] at hlen ⊢
  obtain ⟨k,hp⟩:=part_k s.f2 0 ho.1 (by omega)
  obtain ⟨k',hp'⟩:=part_k s.f2 1 ho.1 (by omega)
  have m0:=opNo n0
  clear n0
  have m1:=opNo n1
  clear n1
  have m2:=opNo n2
  clear n2
  have m3:=opNo n3
  clear n3
  have m4:=opNo n4
  clear n4
  have c1b:=opIs c1
  clear c1
  have G2:=Aside0.mk g2
  have L2:=Aside0.mk l2
  have HB0:=Aside0.mk hB
  have HLEN:=Aside0.mk hlen
  have HD:=Aside0.mk hd
  have HPP:=Aside0.mk hp
  have HQQ:=Aside0.mk hp'
  have HP:=Aside0.mk hP
  clear g2 l2 g3 l3 g4 l4 hB hlen hd hp hp' hP
  go_enter Tryd.func61,Tryd.ntmps61
  go_wp2_with (first|((with_reducible refine gate_dst (N:=3) rfl ?_);refine box_event ?hg (N:=3) ?hd (cs:=#[.string s.f0,.string s.f1,.slice A2 (convEs s.f2).length c2,.slice A3 (convSs s.f3).length c3,.slice A4 (convSs s.f4).length c4,.int .i64 s.f5]) (t:=76) ?hr ?_;(case hd=>rfl);(case hg=>rfl);(case hr=>first|(go_simp;done)|(go_simp;rfl));intro gb hg w1 hbox hb;have BK:=Aside0.mk hbox;have GW:=Aside0.mk hg;have HB1:=Aside0.mk hb;clear hb hbox hg;have z0:w1.cell? ⟨gb,0,none⟩=some (.string s.f0):=(blk_cell BK.out 0).trans rfl;have z1:w1.cell? ⟨gb,1,none⟩=some (.string s.f1):=(blk_cell BK.out 1).trans rfl;have z2:w1.cell? ⟨gb,2,none⟩=some (.slice A2 (convEs s.f2).length c2):=(blk_cell BK.out 2).trans rfl;have z3:w1.cell? ⟨gb,3,none⟩=some (.slice A3 (convSs s.f3).length c3):=(blk_cell BK.out 3).trans rfl;have z4:w1.cell? ⟨gb,4,none⟩=some (.slice A4 (convSs s.f4).length c4):=(blk_cell BK.out 4).trans rfl))
  have hHeld0:w1.drew.cell? ⟨gb,0,none⟩=some (.string s.f0)∧w1.drew.cell? ⟨gb,1,none⟩=some (.string s.f1)∧w1.drew.cell? ⟨gb,2,none⟩=some (.slice A2 (convEs s.f2).length c2)∧Below w1.heap.size w1 w1.drew:=⟨z0,z1,z2,Below.drew (Below.refl _ w1)⟩
  refine start_ (n:=8) (ds:=[7]) (S:=fun w'=>w'.cell? ⟨gb,0,none⟩=some (.string s.f0)∧w'.cell? ⟨gb,1,none⟩=some (.string s.f1)∧w'.cell? ⟨gb,2,none⟩=some (.slice A2 (convEs s.f2).length c2)∧Below w1.heap.size w1 w') #[false,false,false,false,false,false,false,false] (by kernel_rfl) rfl rfl hHeld0 (fun hHeld=>?_)
  generalize w1.drew=w2 at hHeld ⊢
  refine pure_ (i:=0) (N:=some 93) (v:=?_) (a':=?_) #[true,false,false,false,false,false,false,false] rfl rfl (by kernel_rfl) (fun _ _ _ h=>h) (Or.inl ⟨by rfl,?_⟩) ?_ ?_
  rotate_left
  · intro w'
    go_simp
    with_reducible rfl
  rotate_left
  · simp only [Act.put,List.setIfInBounds_toArray,List.set_cons_zero,List.set_cons_succ,i64_w,i32_w]
    rfl
  refine pure_ (i:=1) (N:=some 94) (v:=?_) (a':=?_) #[true,true,false,false,false,false,false,false] rfl rfl (by kernel_rfl) (fun _ _ _ h=>h) (Or.inl ⟨by rfl,?_⟩) ?_ ?_
  rotate_left
  · intro w'
    go_simp
    with_reducible rfl
  rotate_left
  · simp only [Act.put,List.setIfInBounds_toArray,List.set_cons_zero,List.set_cons_succ,i64_w,i32_w]
    rfl
  refine pure_ (i:=3) (N:=some 96) (v:=?_) (a':=?_) #[true,true,false,true,false,false,false,false] rfl rfl (by kernel_rfl) (fun _ _ _ h=>h) (Or.inl ⟨by rfl,?_⟩) ?_ ?_
  rotate_left
  · intro w'
    go_simp
    with_reducible rfl
  rotate_left
  · simp only [Act.put,List.setIfInBounds_toArray,List.set_cons_zero,List.set_cons_succ,i64_w,i32_w]
    rfl
  refine take_ (i:=2) (N:=some 95) (v:=?_) (a':=?_) #[true,true,true,true,false,false,false,false] rfl rfl (by kernel_rfl) (fun _ _ _ h=>h) (Or.inl ⟨by rfl,?_⟩) hHeld ?_ ?_
  rotate_left
  · rintro w' ⟨s0,s1,s2,s3⟩
    go_simp
    with_reducible rfl
  rotate_left
  · simp only [Act.put,List.setIfInBounds_toArray,List.set_cons_zero,List.set_cons_succ,i64_w,i32_w]
    rfl
  refine take_ (i:=4) (N:=some 97) (v:=?_) (a':=?_) #[true,true,true,true,true,false,false,false] rfl rfl (by kernel_rfl) (fun _ _ _ h=>h) (Or.inl ⟨by rfl,?_⟩) hHeld ?_ ?_
  rotate_left
  · rintro w' ⟨s0,s1,s2,s3⟩
    go_simp
    with_reducible rfl
  rotate_left
  · simp only [Act.put,List.setIfInBounds_toArray,List.set_cons_zero,List.set_cons_succ,i64_w,i32_w]
    rfl
  refine one_ (i:=5) (N:=some 98) #[true,true,true,true,true,true,false,false] rfl rfl (by kernel_rfl) (by decide) (fun K hK=>?_)
  refine goes_ Tryd.func32 (by kernel_rfl) rfl #[.slice A2 (convEs s.f2).length c2,.int .i64 0] (by rfl) rfl rfl (by (try simp only [List.map_toArray,List.map_cons,List.map_nil]);first|done|rfl) ?_
  have hb2:Below w0.heap.size w0 w2:=HB0.out.trans ((HB1.out.trans (hHeld.2.2.2.mono HB1.out.size)).mono HB0.out.size)
  refine (tree_part.calls k A2 c2 (convEs s.f2) 0 _ w2 (hT.later hb2) (Kd.C_below G2.out hb2) L2.out HPP.out).mono ?_
  clear hb2
  rintro e w3 ⟨rfl,hb⟩
  refine ⟨_,rfl,?_⟩
  obtain ⟨t0,t1,t2,t3⟩:=hHeld
  have hHeld:w3.cell? ⟨gb,0,none⟩=some (.string s.f0)∧w3.cell? ⟨gb,1,none⟩=some (.string s.f1)∧w3.cell? ⟨gb,2,none⟩=some (.slice A2 (convEs s.f2).length c2)∧Below w1.heap.size w1 w3:=⟨(hb.cell (World.block_lt_of_cell? w2 _ t0)).trans t0,(hb.cell (World.block_lt_of_cell? w2 _ t1)).trans t1,(hb.cell (World.block_lt_of_cell? w2 _ t2)).trans t2,t3.trans (hb.mono t3.size)⟩
  refine hK.out _ _ hHeld (fun hHeld=>?_)
  clear hK K t0 t1 t2 t3 hb
  refine norm_ (a':=?_) ?_ ?_
  rotate_left
  · show Act.put _ (some 98) _=_
    simp only [Act.put,List.setIfInBounds_toArray,List.set_cons_zero,List.set_cons_succ,i64_w,i32_w]
    rfl
  refine one_ (i:=6) (N:=some 99) #[true,true,true,true,true,true,true,false] rfl rfl (by kernel_rfl) (by decide) (fun K hK=>?_)
  refine Kd.R_lit_step Kd.string (w0:=w3) w3.heap.size 9 (by rfl) (N:=99) rfl (xs:=[s.f0,(lit [32]),(nth (textEs s.f2) 0),(lit [59])]) (inner:=[.string s.f0,.string (lit [32]),.string (nth (textEs s.f2) 0),.string (lit [59])]) (ok:=fun _=>True) (okp:=fun _=>True) ?hr ?hp (fun _ hk=>hk) trivial (Below.refl _ _) (Nat.le_refl _) (by simp) ?_
  case hr=>first|(go_simp;done)|(go_simp;rfl)
  case hp=>exact Reps.one (show Kd.M Kd.string _ _ _ (s.f0) [.string (s.f0)] from rfl) (Reps.one (show Kd.M Kd.string _ _ _ ((lit [32])) [.string ((lit [32]))] from rfl) (Reps.one (show Kd.M Kd.string _ _ _ ((nth (textEs s.f2) 0)) [.string ((nth (textEs s.f2) 0))] from rfl) (Reps.one (show Kd.M Kd.string _ _ _ ((lit [59])) [.string ((lit [59]))] from rfl) (Reps.none _ _))))
  intro vrow w4 hrow hb hg_ hnew_
  clear hg_ hnew_
  obtain ⟨Ao,co,rfl⟩:=Kd.R_slice hrow
  have hro:=(Kd.R_reads' hrow).2
  obtain ⟨t0,t1,t2,t3⟩:=hHeld
  have hHeld:w4.cell? ⟨gb,0,none⟩=some (.string s.f0)∧w4.cell? ⟨gb,1,none⟩=some (.string s.f1)∧w4.cell? ⟨gb,2,none⟩=some (.slice A2 (convEs s.f2).length c2)∧Below w1.heap.size w1 w4:=⟨(hb.cell (World.block_lt_of_cell? w3 _ t0)).trans t0,(hb.cell (World.block_lt_of_cell? w3 _ t1)).trans t1,(hb.cell (World.block_lt_of_cell? w3 _ t2)).trans t2,t3.trans (hb.mono t3.size)⟩
  refine hK.out _ _ hHeld (fun hHeld=>?_)
  clear hK K t0 t1 t2 t3 hb hrow
  refine norm_ (a':=?_) ?_ ?_
  rotate_left
  · show Act.put _ (some 99) _=_
    simp only [Act.put,List.setIfInBounds_toArray,List.set_cons_zero,List.set_cons_succ,i64_w,i32_w]
    rfl
  have e4:Below w.heap.size w w4:=HB1.out.trans (hHeld.2.2.2.mono HB1.out.size)
  refine last_ (i:=7) (N:=some 100) #[true,true,true,true,true,true,true,true] rfl rfl (by kernel_rfl) (by decide) (fun K hK=>?_)
  refine goes_ Tryd.func38 (by kernel_rfl) rfl #[.pointer (some ⟨b,0,none⟩),.slice Ao 4 co] (by rfl) rfl rfl (by (try simp only [List.map_toArray,List.map_cons,List.map_nil]);first|done|rfl) ?_
  refine (line_pr w0.heap.size b t d Ao co [s.f0,(lit [32]),(nth (textEs s.f2) 0),(lit [59])] w4 (HP.out.kept e4) hro.2 hro.1 hd0 (by have:=HD.out;omega) (by simp) HLEN.out (Nat.le_trans HB0.out.size e4.size)).mono ?_
  rintro e w5 ⟨rfl,hP5,hb,hs5⟩
  refine ⟨_,rfl,?_⟩
  refine hK.out _ _ ?_
  refine done_ (by kernel_rfl) ?_
  try go_wp2
  go_end0
  exact ⟨rfl,.inr hP5,(e4.mono HB0.out.size).trans hb,(Beside.of e4).trans hs5⟩
end Go.Proofs.YtnnbbeloifhofaaDoor.P
end
section
namespace Go.Proofs.YtnnbbeloifhofaaDoor.P
open Go Go.RowKit Go.Proofs
open Go.Proofs.YtnnbbeloifhofaaDoorW.PrintWords Go.Proofs.YtnnbbeloifhofaaDoorW.PrintLast Go.Proofs.YtnnbbeloifhofaaDoorW.PrintMore
set_option linter.unusedVariables false
set_option linter.unusedSimpArgs false
set_option maxHeartbeats 2000000 in
set_option maxRecDepth 100000 in
theorem stmt_assume (s:RS) (n0 : ¬ s.f0.toList=oSet) (n1 : ¬ s.f0.toList=oPut) (n2 : ¬ s.f0.toList=oInput) (n3 : ¬ s.f0.toList=oIf) (n4 : ¬ s.f0.toList=oWhile) (n5 : ¬ s.f0.toList=oAssert) (c1:s.f0.toList=oAssume):StmtOk s:=by
  intro b t d A2 A3 A4 c2 c3 c4 w0 w hP hB hT g2 l2 g3 l3 g4 l4 ho hd0 hd hlen
  rw [okS_eq] at ho
  rw [bulkS_eq] at hd
  rw [stmtB_eq] at hlen ⊢
  unfold stmtF at hlen ⊢
  rw [if_neg n0,if_neg n1,if_neg n2,if_neg (by simp only [n3,n4,or_false,not_false_iff]),if_pos (.inr c1)] at hlen ⊢
  obtain ⟨k,hp⟩:=part_k s.f2 0 ho.1 (by omega)
  obtain ⟨k',hp'⟩:=part_k s.f2 1 ho.1 (by omega)
  have m0:=opNo n0
  clear n0
  have m1:=opNo n1
  clear n1
  have m2:=opNo n2
  clear n2
  have m3:=opNo n3
  clear n3
  have m4:=opNo n4
  clear n4
  have m5:=opNo n5
  clear n5
  have c1b:=opIs c1
  clear c1
  have G2:=Aside0.mk g2
  have L2:=Aside0.mk l2
  have HB0:=Aside0.mk hB
  have HLEN:=Aside0.mk hlen
  have HD:=Aside0.mk hd
  have HPP:=Aside0.mk hp
  have HQQ:=Aside0.mk hp'
  have HP:=Aside0.mk hP
  clear g2 l2 g3 l3 g4 l4 hB hlen hd hp hp' hP
  go_enter Tryd.func61,Tryd.ntmps61
  go_wp2_with (first|((with_reducible refine gate_dst (N:=3) rfl ?_);refine box_event ?hg (N:=3) ?hd (cs:=#[.string s.f0,.string s.f1,.slice A2 (convEs s.f2).length c2,.slice A3 (convSs s.f3).length c3,.slice A4 (convSs s.f4).length c4,.int .i64 s.f5]) (t:=76) ?hr ?_;(case hd=>rfl);(case hg=>rfl);(case hr=>first|(go_simp;done)|(go_simp;rfl));intro gb hg w1 hbox hb;have BK:=Aside0.mk hbox;have GW:=Aside0.mk hg;have HB1:=Aside0.mk hb;clear hb hbox hg;have z0:w1.cell? ⟨gb,0,none⟩=some (.string s.f0):=(blk_cell BK.out 0).trans rfl;have z1:w1.cell? ⟨gb,1,none⟩=some (.string s.f1):=(blk_cell BK.out 1).trans rfl;have z2:w1.cell? ⟨gb,2,none⟩=some (.slice A2 (convEs s.f2).length c2):=(blk_cell BK.out 2).trans rfl;have z3:w1.cell? ⟨gb,3,none⟩=some (.slice A3 (convSs s.f3).length c3):=(blk_cell BK.out 3).trans rfl;have z4:w1.cell? ⟨gb,4,none⟩=some (.slice A4 (convSs s.f4).length c4):=(blk_cell BK.out 4).trans rfl))
  have hHeld0:w1.drew.cell? ⟨gb,0,none⟩=some (.string s.f0)∧w1.drew.cell? ⟨gb,1,none⟩=some (.string s.f1)∧w1.drew.cell? ⟨gb,2,none⟩=some (.slice A2 (convEs s.f2).length c2)∧Below w1.heap.size w1 w1.drew:=⟨z0,z1,z2,Below.drew (Below.refl _ w1)⟩
  refine start_ (n:=8) (ds:=[7]) (S:=fun w'=>w'.cell? ⟨gb,0,none⟩=some (.string s.f0)∧w'.cell? ⟨gb,1,none⟩=some (.string s.f1)∧w'.cell? ⟨gb,2,none⟩=some (.slice A2 (convEs s.f2).length c2)∧Below w1.heap.size w1 w') #[false,false,false,false,false,false,false,false] (by kernel_rfl) rfl rfl hHeld0 (fun hHeld=>?_)
  generalize w1.drew=w2 at hHeld ⊢
  refine pure_ (i:=0) (N:=some 93) (v:=?_) (a':=?_) #[true,false,false,false,false,false,false,false] rfl rfl (by kernel_rfl) (fun _ _ _ h=>h) (Or.inl ⟨by rfl,?_⟩) ?_ ?_
  rotate_left
  · intro w'
    go_simp
    with_reducible rfl
  rotate_left
  · simp only [Act.put,List.setIfInBounds_toArray,List.set_cons_zero,List.set_cons_succ,i64_w,i32_w]
    rfl
  refine pure_ (i:=1) (N:=some 94) (v:=?_) (a':=?_) #[true,true,false,false,false,false,false,false] rfl rfl (by kernel_rfl) (fun _ _ _ h=>h) (Or.inl ⟨by rfl,?_⟩) ?_ ?_
  rotate_left
  · intro w'
    go_simp
    with_reducible rfl
  rotate_left
  · simp only [Act.put,List.setIfInBounds_toArray,List.set_cons_zero,List.set_cons_succ,i64_w,i32_w]
    rfl
  refine pure_ (i:=3) (N:=some 96) (v:=?_) (a':=?_) #[true,true,false,true,false,false,false,false] rfl rfl (by kernel_rfl) (fun _ _ _ h=>h) (Or.inl ⟨by rfl,?_⟩) ?_ ?_
  rotate_left
  · intro w'
    go_simp
    with_reducible rfl
  rotate_left
  · simp only [Act.put,List.setIfInBounds_toArray,List.set_cons_zero,List.set_cons_succ,i64_w,i32_w]
    rfl
  refine take_ (i:=2) (N:=some 95) (v:=?_) (a':=?_) #[true,true,true,true,false,false,false,false] rfl rfl (by kernel_rfl) (fun _ _ _ h=>h) (Or.inl ⟨by rfl,?_⟩) hHeld ?_ ?_
  rotate_left
  · rintro w' ⟨s0,s1,s2,s3⟩
    go_simp
    with_reducible rfl
  rotate_left
  · simp only [Act.put,List.setIfInBounds_toArray,List.set_cons_zero,List.set_cons_succ,i64_w,i32_w]
    rfl
  refine take_ (i:=4) (N:=some 97) (v:=?_) (a':=?_) #[true,true,true,true,true,false,false,false] rfl rfl (by kernel_rfl) (fun _ _ _ h=>h) (Or.inl ⟨by rfl,?_⟩) hHeld ?_ ?_
  rotate_left
  · rintro w' ⟨s0,s1,s2,s3⟩
    go_simp
    with_reducible rfl
  rotate_left
  · simp only [Act.put,List.setIfInBounds_toArray,List.set_cons_zero,List.set_cons_succ,i64_w,i32_w]
    rfl
  refine one_ (i:=5) (N:=some 98) #[true,true,true,true,true,true,false,false] rfl rfl (by kernel_rfl) (by decide) (fun K hK=>?_)
  refine goes_ Tryd.func32 (by kernel_rfl) rfl #[.slice A2 (convEs s.f2).length c2,.int .i64 0] (by rfl) rfl rfl (by (try simp only [List.map_toArray,List.map_cons,List.map_nil]);first|done|rfl) ?_
  have hb2:Below w0.heap.size w0 w2:=HB0.out.trans ((HB1.out.trans (hHeld.2.2.2.mono HB1.out.size)).mono HB0.out.size)
  refine (tree_part.calls k A2 c2 (convEs s.f2) 0 _ w2 (hT.later hb2) (Kd.C_below G2.out hb2) L2.out HPP.out).mono ?_
  clear hb2
  rintro e w3 ⟨rfl,hb⟩
  refine ⟨_,rfl,?_⟩
  obtain ⟨t0,t1,t2,t3⟩:=hHeld
  have hHeld:w3.cell? ⟨gb,0,none⟩=some (.string s.f0)∧w3.cell? ⟨gb,1,none⟩=some (.string s.f1)∧w3.cell? ⟨gb,2,none⟩=some (.slice A2 (convEs s.f2).length c2)∧Below w1.heap.size w1 w3:=⟨(hb.cell (World.block_lt_of_cell? w2 _ t0)).trans t0,(hb.cell (World.block_lt_of_cell? w2 _ t1)).trans t1,(hb.cell (World.block_lt_of_cell? w2 _ t2)).trans t2,t3.trans (hb.mono t3.size)⟩
  refine hK.out _ _ hHeld (fun hHeld=>?_)
  clear hK K t0 t1 t2 t3 hb
  refine norm_ (a':=?_) ?_ ?_
  rotate_left
  · show Act.put _ (some 98) _=_
    simp only [Act.put,List.setIfInBounds_toArray,List.set_cons_zero,List.set_cons_succ,i64_w,i32_w]
    rfl
  refine one_ (i:=6) (N:=some 99) #[true,true,true,true,true,true,true,false] rfl rfl (by kernel_rfl) (by decide) (fun K hK=>?_)
  refine Kd.R_lit_step Kd.string (w0:=w3) w3.heap.size 9 (by rfl) (N:=99) rfl (xs:=[s.f0,(lit [32]),(nth (textEs s.f2) 0),(lit [59])]) (inner:=[.string s.f0,.string (lit [32]),.string (nth (textEs s.f2) 0),.string (lit [59])]) (ok:=fun _=>True) (okp:=fun _=>True) ?hr ?hp (fun _ hk=>hk) trivial (Below.refl _ _) (Nat.le_refl _) (by simp) ?_
  case hr=>first|(go_simp;done)|(go_simp;rfl)
  case hp=>exact Reps.one (show Kd.M Kd.string _ _ _ (s.f0) [.string (s.f0)] from rfl) (Reps.one (show Kd.M Kd.string _ _ _ ((lit [32])) [.string ((lit [32]))] from rfl) (Reps.one (show Kd.M Kd.string _ _ _ ((nth (textEs s.f2) 0)) [.string ((nth (textEs s.f2) 0))] from rfl) (Reps.one (show Kd.M Kd.string _ _ _ ((lit [59])) [.string ((lit [59]))] from rfl) (Reps.none _ _))))
  intro vrow w4 hrow hb hg_ hnew_
  clear hg_ hnew_
  obtain ⟨Ao,co,rfl⟩:=Kd.R_slice hrow
  have hro:=(Kd.R_reads' hrow).2
  obtain ⟨t0,t1,t2,t3⟩:=hHeld
  have hHeld:w4.cell? ⟨gb,0,none⟩=some (.string s.f0)∧w4.cell? ⟨gb,1,none⟩=some (.string s.f1)∧w4.cell? ⟨gb,2,none⟩=some (.slice A2 (convEs s.f2).length c2)∧Below w1.heap.size w1 w4:=⟨(hb.cell (World.block_lt_of_cell? w3 _ t0)).trans t0,(hb.cell (World.block_lt_of_cell? w3 _ t1)).trans t1,(hb.cell (World.block_lt_of_cell? w3 _ t2)).trans t2,t3.trans (hb.mono t3.size)⟩
  refine hK.out _ _ hHeld (fun hHeld=>?_)
  clear hK K t0 t1 t2 t3 hb hrow
  refine norm_ (a':=?_) ?_ ?_
  rotate_left
  · show Act.put _ (some 99) _=_
    simp only [Act.put,List.setIfInBounds_toArray,List.set_cons_zero,List.set_cons_succ,i64_w,i32_w]
    rfl
  have e4:Below w.heap.size w w4:=HB1.out.trans (hHeld.2.2.2.mono HB1.out.size)
  refine last_ (i:=7) (N:=some 100) #[true,true,true,true,true,true,true,true] rfl rfl (by kernel_rfl) (by decide) (fun K hK=>?_)
  refine goes_ Tryd.func38 (by kernel_rfl) rfl #[.pointer (some ⟨b,0,none⟩),.slice Ao 4 co] (by rfl) rfl rfl (by (try simp only [List.map_toArray,List.map_cons,List.map_nil]);first|done|rfl) ?_
  refine (line_pr w0.heap.size b t d Ao co [s.f0,(lit [32]),(nth (textEs s.f2) 0),(lit [59])] w4 (HP.out.kept e4) hro.2 hro.1 hd0 (by have:=HD.out;omega) (by simp) HLEN.out (Nat.le_trans HB0.out.size e4.size)).mono ?_
  rintro e w5 ⟨rfl,hP5,hb,hs5⟩
  refine ⟨_,rfl,?_⟩
  refine hK.out _ _ ?_
  refine done_ (by kernel_rfl) ?_
  try go_wp2
  go_end0
  exact ⟨rfl,.inr hP5,(e4.mono HB0.out.size).trans hb,(Beside.of e4).trans hs5⟩
end Go.Proofs.YtnnbbeloifhofaaDoor.P
end
section
namespace Go.Proofs.YtnnbbeloifhofaaDoor.P
open Go Go.RowKit Go.Proofs
open Go.Proofs.YtnnbbeloifhofaaDoorW.PrintWords Go.Proofs.YtnnbbeloifhofaaDoorW.PrintLast Go.Proofs.YtnnbbeloifhofaaDoorW.PrintMore
set_option linter.unusedVariables false
set_option linter.unusedSimpArgs false
set_option maxHeartbeats 2000000 in
set_option maxRecDepth 100000 in
theorem stmt_call (s:RS) (n0 : ¬ s.f0.toList=oSet) (n1 : ¬ s.f0.toList=oPut) (n2 : ¬ s.f0.toList=oInput) (n3 : ¬ s.f0.toList=oIf) (n4 : ¬ s.f0.toList=oWhile) (n5 : ¬ s.f0.toList=oAssert) (n6 : ¬ s.f0.toList=oAssume) (c1:s.f0.toList=oCall):StmtOk s:=by
  intro b t d A2 A3 A4 c2 c3 c4 w0 w hP hB hT g2 l2 g3 l3 g4 l4 ho hd0 hd hlen
  rw [okS_eq] at ho
  rw [bulkS_eq] at hd
  rw [stmtB_eq] at hlen ⊢
  unfold stmtF at hlen ⊢
  rw [if_neg n0,if_neg n1,if_neg n2,if_neg (by simp only [n3,n4,or_false,not_false_iff]),if_neg (by simp only [n5,n6,or_false,not_false_iff]),if_pos c1] at hlen ⊢
  obtain ⟨k,hp⟩:=part_k s.f2 0 ho.1 (by omega)
  obtain ⟨k',hp'⟩:=part_k s.f2 1 ho.1 (by omega)
  have m0:=opNo n0
  clear n0
  have m1:=opNo n1
  clear n1
  have m2:=opNo n2
  clear n2
  have m3:=opNo n3
  clear n3
  have m4:=opNo n4
  clear n4
  have m5:=opNo n5
  clear n5
  have m6:=opNo n6
  clear n6
  have c1b:=opIs c1
  clear c1
  have G2:=Aside0.mk g2
  have L2:=Aside0.mk l2
  have HB0:=Aside0.mk hB
  have HLEN:=Aside0.mk hlen
  have HD:=Aside0.mk hd
  have HPP:=Aside0.mk hp
  have HQQ:=Aside0.mk hp'
  have HP:=Aside0.mk hP
  clear g2 l2 g3 l3 g4 l4 hB hlen hd hp hp' hP
  go_enter Tryd.func61,Tryd.ntmps61
  go_wp2_with (first|((with_reducible refine gate_dst (N:=3) rfl ?_);refine box_event ?hg (N:=3) ?hd (cs:=#[.string s.f0,.string s.f1,.slice A2 (convEs s.f2).length c2,.slice A3 (convSs s.f3).length c3,.slice A4 (convSs s.f4).length c4,.int .i64 s.f5]) (t:=76) ?hr ?_;(case hd=>rfl);(case hg=>rfl);(case hr=>first|(go_simp;done)|(go_simp;rfl));intro gb hg w1 hbox hb;have BK:=Aside0.mk hbox;have GW:=Aside0.mk hg;have HB1:=Aside0.mk hb;clear hb hbox hg;have z0:w1.cell? ⟨gb,0,none⟩=some (.string s.f0):=(blk_cell BK.out 0).trans rfl;have z1:w1.cell? ⟨gb,1,none⟩=some (.string s.f1):=(blk_cell BK.out 1).trans rfl;have z2:w1.cell? ⟨gb,2,none⟩=some (.slice A2 (convEs s.f2).length c2):=(blk_cell BK.out 2).trans rfl;have z3:w1.cell? ⟨gb,3,none⟩=some (.slice A3 (convSs s.f3).length c3):=(blk_cell BK.out 3).trans rfl;have z4:w1.cell? ⟨gb,4,none⟩=some (.slice A4 (convSs s.f4).length c4):=(blk_cell BK.out 4).trans rfl)|((with_reducible refine gate_dst (N:=106) rfl ?_);(try (refine gate_guard (by rfl) ?_;dsimp only));refine Kd.R_lit Kd.string (w0:=w1) w1.heap.size 9 ?hg (N:=106) ?hd (xs:=[(lit [99,97,108,108,32]),s.f1,(lit [59])]) (inner:=[.string (lit [99,97,108,108,32]),.string s.f1,.string (lit [59])]) (ok:=fun _=>True) (okp:=fun _=>True) ?hr ?hp (fun _ hk=>hk) trivial (Below.refl _ _) (Nat.le_refl _) (by simp) ?_;(case hd=>rfl);(case hg=>rfl);(case hr=>first|(go_simp;done)|(go_simp;rfl));(case hp=>exact Reps.one (show Kd.M Kd.string _ _ _ ((lit [99,97,108,108,32])) [.string ((lit [99,97,108,108,32]))] from rfl) (Reps.one (show Kd.M Kd.string _ _ _ (s.f1) [.string (s.f1)] from rfl) (Reps.one (show Kd.M Kd.string _ _ _ ((lit [59])) [.string ((lit [59]))] from rfl) (Reps.none _ _))));intro vrow w2 hrow hb hg_ hnew_;have HB2:=Aside0.mk hb;clear hg_ hnew_ hb;obtain ⟨Ao,co,rfl⟩:=Kd.R_slice hrow;have hro:=(Kd.R_reads' hrow).2;have HRO:=Aside0.mk hro;clear hro hrow))
  have e4:Below w.heap.size w w2:=HB1.out.trans (HB2.out.mono HB1.out.size)
  refine (line_pr w0.heap.size b t d Ao co [(lit [99,97,108,108,32]),s.f1,(lit [59])] w2 (HP.out.kept e4) HRO.out.2 HRO.out.1 hd0 (by have:=HD.out;omega) (by simp) HLEN.out (Nat.le_trans HB0.out.size e4.size)).mono ?_
  rintro e w5 ⟨rfl,hP5,hb,hs5⟩
  try go_wp2
  go_end0
  exact ⟨rfl,.inr hP5,(e4.mono HB0.out.size).trans hb,(Beside.of e4).trans hs5⟩
end Go.Proofs.YtnnbbeloifhofaaDoor.P
end
section
namespace Go.Proofs.YtnnbbeloifhofaaDoor.P
open Go Go.RowKit Go.Proofs
open Go.Proofs.YtnnbbeloifhofaaDoorW.PrintWords Go.Proofs.YtnnbbeloifhofaaDoorW.PrintLast Go.Proofs.YtnnbbeloifhofaaDoorW.PrintMore
set_option linter.unusedVariables false
set_option linter.unusedSimpArgs false
set_option maxHeartbeats 2000000 in
set_option maxRecDepth 100000 in
theorem stmt_else (s:RS) (n0 : ¬ s.f0.toList=oSet) (n1 : ¬ s.f0.toList=oPut) (n2 : ¬ s.f0.toList=oInput) (n3 : ¬ s.f0.toList=oIf) (n4 : ¬ s.f0.toList=oWhile) (n5 : ¬ s.f0.toList=oAssert) (n6 : ¬ s.f0.toList=oAssume) (n7 : ¬ s.f0.toList=oCall)  : StmtOk s:=by
  intro b t d A2 A3 A4 c2 c3 c4 w0 w hP hB hT g2 l2 g3 l3 g4 l4 ho hd0 hd hlen
  rw [okS_eq] at ho
  rw [bulkS_eq] at hd
  rw [stmtB_eq] at hlen ⊢
  unfold stmtF at hlen ⊢
  rw [if_neg n0,if_neg n1,if_neg n2,if_neg (by simp only [n3,n4,or_false,not_false_iff]),if_neg (by simp only [n5,n6,or_false,not_false_iff]),if_neg n7] at hlen ⊢
  obtain ⟨k,hp⟩:=part_k s.f2 0 ho.1 (by omega)
  obtain ⟨k',hp'⟩:=part_k s.f2 1 ho.1 (by omega)
  have m0:=opNo n0
  clear n0
  have m1:=opNo n1
  clear n1
  have m2:=opNo n2
  clear n2
  have m3:=opNo n3
  clear n3
  have m4:=opNo n4
  clear n4
  have m5:=opNo n5
  clear n5
  have m6:=opNo n6
  clear n6
  have m7:=opNo n7
  clear n7
  have G2:=Aside0.mk g2
  have L2:=Aside0.mk l2
  have HB0:=Aside0.mk hB
  have HLEN:=Aside0.mk hlen
  have HD:=Aside0.mk hd
  have HPP:=Aside0.mk hp
  have HQQ:=Aside0.mk hp'
  have HP:=Aside0.mk hP
  clear g2 l2 g3 l3 g4 l4 hB hlen hd hp hp' hP
  go_enter Tryd.func61,Tryd.ntmps61
  go_wp2_with (first|((with_reducible refine gate_dst (N:=3) rfl ?_);refine box_event ?hg (N:=3) ?hd (cs:=#[.string s.f0,.string s.f1,.slice A2 (convEs s.f2).length c2,.slice A3 (convSs s.f3).length c3,.slice A4 (convSs s.f4).length c4,.int .i64 s.f5]) (t:=76) ?hr ?_;(case hd=>rfl);(case hg=>rfl);(case hr=>first|(go_simp;done)|(go_simp;rfl));intro gb hg w1 hbox hb;have BK:=Aside0.mk hbox;have GW:=Aside0.mk hg;have HB1:=Aside0.mk hb;clear hb hbox hg;have z0:w1.cell? ⟨gb,0,none⟩=some (.string s.f0):=(blk_cell BK.out 0).trans rfl;have z1:w1.cell? ⟨gb,1,none⟩=some (.string s.f1):=(blk_cell BK.out 1).trans rfl;have z2:w1.cell? ⟨gb,2,none⟩=some (.slice A2 (convEs s.f2).length c2):=(blk_cell BK.out 2).trans rfl;have z3:w1.cell? ⟨gb,3,none⟩=some (.slice A3 (convSs s.f3).length c3):=(blk_cell BK.out 3).trans rfl;have z4:w1.cell? ⟨gb,4,none⟩=some (.slice A4 (convSs s.f4).length c4):=(blk_cell BK.out 4).trans rfl)|((with_reducible refine gate_dst (N:=9) rfl ?_);(try (refine gate_guard (by rfl) ?_;dsimp only));refine Kd.R_lit Kd.string (w0:=w1) w1.heap.size 9 ?hg (N:=9) ?hd (xs:=[s.f0,(lit [59])]) (inner:=[.string s.f0,.string (lit [59])]) (ok:=fun _=>True) (okp:=fun _=>True) ?hr ?hp (fun _ hk=>hk) trivial (Below.refl _ _) (Nat.le_refl _) (by simp) ?_;(case hd=>rfl);(case hg=>rfl);(case hr=>first|(go_simp;done)|(go_simp;rfl));(case hp=>exact Reps.one (show Kd.M Kd.string _ _ _ (s.f0) [.string (s.f0)] from rfl) (Reps.one (show Kd.M Kd.string _ _ _ ((lit [59])) [.string ((lit [59]))] from rfl) (Reps.none _ _)));intro vrow w2 hrow hb hg_ hnew_;have HB2:=Aside0.mk hb;clear hg_ hnew_ hb;obtain ⟨Ao,co,rfl⟩:=Kd.R_slice hrow;have hro:=(Kd.R_reads' hrow).2;have HRO:=Aside0.mk hro;clear hro hrow))
  have e4:Below w.heap.size w w2:=HB1.out.trans (HB2.out.mono HB1.out.size)
  refine (line_pr w0.heap.size b t d Ao co [s.f0,(lit [59])] w2 (HP.out.kept e4) HRO.out.2 HRO.out.1 hd0 (by have:=HD.out;omega) (by simp) HLEN.out (Nat.le_trans HB0.out.size e4.size)).mono ?_
  rintro e w5 ⟨rfl,hP5,hb,hs5⟩
  try go_wp2
  go_end0
  exact ⟨rfl,.inr hP5,(e4.mono HB0.out.size).trans hb,(Beside.of e4).trans hs5⟩
end Go.Proofs.YtnnbbeloifhofaaDoor.P
end
section
namespace Go.Proofs.YtnnbbeloifhofaaDoor.P
open Go Go.RowKit Go.Proofs
theorem stmt_pr : ∀ s:RS,StmtOk s:=RS.all fun s iha ihb=>by
  by_cases n0:s.f0.toList=oSet
  · exact stmt_set s n0
  by_cases n1:s.f0.toList=oPut
  · exact stmt_put s n0 n1
  by_cases n2:s.f0.toList=oInput
  · by_cases ce:s.f2.length=0
    · exact stmt_input0 s n0 n1 n2 ce
    · exact stmt_input s n0 n1 n2 ce
  by_cases n3:s.f0.toList=oIf
  · by_cases ce:s.f4.length=0
    · exact stmt_if0 s n0 n1 n2 n3 ce iha ihb
    · exact stmt_if1 s n0 n1 n2 n3 (by omega) iha ihb
  by_cases n4:s.f0.toList=oWhile
  · exact stmt_while s n0 n1 n2 n3 n4 iha ihb
  by_cases n5:s.f0.toList=oAssert
  · exact stmt_assert s n0 n1 n2 n3 n4 n5
  by_cases n6:s.f0.toList=oAssume
  · exact stmt_assume s n0 n1 n2 n3 n4 n5 n6
  by_cases n7:s.f0.toList=oCall
  · exact stmt_call s n0 n1 n2 n3 n4 n5 n6 n7
  · exact stmt_else s n0 n1 n2 n3 n4 n5 n6 n7
end Go.Proofs.YtnnbbeloifhofaaDoor.P
end
section
namespace Go.Proofs.YtnnbbeloifhofaaDoor.P
open Go Go.RowKit Go.Proofs
open Go.Proofs.YtnnbbeloifhofaaDoorW.PrintWords Go.Proofs.YtnnbbeloifhofaaDoorW.PrintLast Go.Proofs.YtnnbbeloifhofaaDoorW.PrintMore
set_option linter.unusedVariables false
theorem cellsByte:Tryd.prog.cellsOf 5=1:=by kernel_rfl
set_option maxHeartbeats 2000000 in
set_option maxRecDepth 100000 in
theorem string_pr (B b:Nat) (l:List UInt8) (d:Int) (w:World) (h:IsPr B b (Lib.byteCells l) d w) (h0:l≠[]) :
    Calls Tryd.prog 41 #[.pointer (some ⟨b,0,none⟩)] w fun e w'=>e=.returned (.string ⟨l.toArray⟩)∧Below B w w':=by
  obtain ⟨p,hB,v,hbk,hown,hne⟩ : ∃ p,PrAt B b p (Lib.byteCells l) d w:=by
    rcases h with h|h
    · exact ⟨_,h⟩
    · exact ⟨_,h⟩
  have hl0:l.length≠0:=by simpa using h0
  rw [Lib.byteCells_length] at hown
  obtain ⟨g,cap,cur,rfl,hbg,hg,hnc,hcm,hcs,htake⟩ : ∃ g cap cur,v=.slice (some ⟨g,0,none⟩) l.length cap∧B≤g∧w.heap[g]?=some (.cells cur 5 (0,0))∧l.length≤cap∧cap≤maxLen∧cur.size=cap * 1∧cur.toList.take (l.length * 1)=Lib.byteCells l:=by
    rcases hown.2 with ⟨_,hz⟩ | ⟨g,cap,cur,hv,r⟩
    · exact absurd hz hl0
    · exact ⟨g,cap,cur,hv,r⟩
  have c1:w.drew.cell? ⟨b,1,none⟩=some (.slice (some ⟨g,0,none⟩) l.length cap):=by
    have:w.drew.heap[b]?=some (.cells #[p,.slice (some ⟨g,0,none⟩) l.length cap,.int .i64 d] 88 (0,0)):=hbk
    rw [Lib.cell_of_heap this];rfl
  have hSD:(Builtin.unsafeSliceData_ #[84] 113 #[.slice (some ⟨g,0,none⟩) l.length cap]).run Tryd.prog w.drew=.ok (.pointer (some ⟨g,0,none⟩)) w.drew:=
    Lib.run_unsafeSliceData_row _ _ _ _ _ _ (by omega)
  have hUS:(Builtin.unsafeString_ #[113,3] 9 #[.pointer (some ⟨g,0,none⟩),.int .i64 l.length]).run Tryd.prog w.drew=.ok (.string ⟨l.toArray⟩) (w.drew.freeze ⟨g,0,none⟩ l.length):=by
    refine Lib.run_unsafeString_row w.drew 113 3 9 5 Tryd.underlying113 cellsByte g cur.size (by have hg':w.drew.heap[g]?=some (.cells cur 5 (0,0)):=hg;simp [World.shape?,hg']) l h0 (by omega) (by unfold maxLen at hcm;omega) ?_
    intro j x hx
    have:=hown.cells (g:=g) rfl j (.int .u8 x.toNat) (by simp [Lib.byteCells,hx])
    exact this
  clear hown htake hcs hcm hnc hg hbk hne
  go_enter Tryd.func41,Tryd.ntmps41
  go_wp2
  go_region
  all_goals (go_wp2;go_ret;exact ⟨rfl,Lib.below_freeze (Below.drew (Below.refl B w)) (p:=⟨g,0,none⟩) hbg _⟩)
end Go.Proofs.YtnnbbeloifhofaaDoor.P
end
section
namespace Go.Proofs.YtnnbbeloifhofaaDoor.P
open Go Go.RowKit Go.Proofs
open Go.Proofs.YtnnbbeloifhofaaDoorW.PrintWords Go.Proofs.YtnnbbeloifhofaaDoorW.PrintLast Go.Proofs.YtnnbbeloifhofaaDoorW.PrintMore
abbrev ES:=S79
abbrev VS:=S80
abbrev TP:=S66
abbrev RP:=S69
def convP (x:RP):TP:=⟨x.f0,convSs x.f1⟩
def convPs (l:List RP):List TP:=l.map convP
def enumB (e:ES):List UInt8:=lineB 0 [lit [101,110,117,109,32],e.f0,lit [32,123,32],strOf (joinF e.f1 (lit [44,32])),lit [32,125]]
def enumsB:List ES→List UInt8
  | []=>[]
  | x :: xs=>enumB x++enumsB xs
def manyT (n:Int):ByteArray:=if 0 < n then (lit [91]++itoaB n)++lit [93] else lit []
def varB (v:VS):List UInt8:=lineB 0 [lit [118,97,114,32],v.f0,lit [58,32],v.f1,manyT v.f2,lit [59]]
def varsB:List VS→List UInt8
  | []=>[]
  | x :: xs=>varB x++varsB xs
def procB (x:RP):List UInt8:=lineB 0 [lit [112,114,111,99,32],x.f0,lit [32,123]]++stmtsB x.f1 1++lineB 0 [lit [125]]
def procsB:List RP→List UInt8
  | []=>[]
  | x :: xs=>procB x++procsB xs
def mainB (m:List RS):List UInt8:=lineB 0 [lit [109,97,105,110,32,123]]++stmtsB m 1++lineB 0 [lit [125]]
def printB (ens:List ES) (vs:List VS) (ps:List RP) (m:List RS):List UInt8:=enumsB ens++varsB vs++procsB ps++mainB m
theorem printB_eq (ens:List ES) (vs:List VS) (ps:List RP) (m:List RS):printB ens vs ps m=enumsB ens++varsB vs++procsB ps++(lineB 0 [lit [109,97,105,110,32,123]]++stmtsB m 1++lineB 0 [lit [125]]):=rfl
theorem enumsB_app (l m:List ES):enumsB (l++m)=enumsB l++enumsB m:=by
  induction l with
  | nil=>rfl
  | cons x xs ih=>rw [List.cons_append,enumsB,enumsB,ih,List.append_assoc]
theorem varsB_app (l m:List VS):varsB (l++m)=varsB l++varsB m:=by
  induction l with
  | nil=>rfl
  | cons x xs ih=>rw [List.cons_append,varsB,varsB,ih,List.append_assoc]
theorem procsB_app (l m:List RP):procsB (l++m)=procsB l++procsB m:=by
  induction l with
  | nil=>rfl
  | cons x xs ih=>rw [List.cons_append,procsB,procsB,ih,List.append_assoc]
structure PrintOk (ens:List ES) (vs:List VS) (ps:List RP) (m:List RS):Prop where
  hE:ens.length≤1099511627776
  hV:vs.length≤1099511627776
  hP:ps.length≤1099511627776
  hJ : ∀ e ∈ ens,e.f1.length≤140737488355328
  hI : ∀ v ∈ vs,okI v.f2
  hB : ∀ x ∈ ps,okSs x.f1∧1+bulkSs x.f1≤1099511627770
  hM:okSs m
  hMb:1+bulkSs m≤1099511627770
  hlen:(printB ens vs ps m).length≤140737488355328
theorem take_app {α:Type} (f:List α→List UInt8) (happ : ∀ l m,f (l++m)=f l++f m) (l:List α) (i:Nat) (h:i < l.length):f (l.take (i+1))=f (l.take i)++f [l[i]]∧(f (l.take (i+1))).length≤(f l).length:=by
  refine ⟨by rw [List.take_succ_eq_append_getElem h,happ],?_⟩
  conv=>rhs;rw [← List.take_append_drop (i+1) l,happ,List.length_append]
  omega
theorem convPs_len (l:List RP):(convPs l).length=l.length:=List.length_map ..
theorem rd_ens {l:List ES} {i:Nat} (h:i < l.length):rd_T79 l (i:Int)=l[i]:=by
  rw [show rd_T79 l (i:Int)=l.getD i z79 from rfl,List.getD_eq_getElem?_getD,List.getElem?_eq_getElem h];rfl
theorem rd_vs {l:List VS} {i:Nat} (h:i < l.length):rd_T80 l (i:Int)=l[i]:=by
  rw [show rd_T80 l (i:Int)=l.getD i z80 from rfl,List.getD_eq_getElem?_getD,List.getElem?_eq_getElem h];rfl
theorem rd_ps {l:List RP} {i:Nat} (h:i < l.length):rd_T66 (convPs l) (i:Int)=convP l[i]:=by
  rw [show rd_T66 (convPs l) (i:Int)=(convPs l).getD i z66 from rfl,convPs,List.getD_eq_getElem?_getD,List.getElem?_map,List.getElem?_eq_getElem h];rfl
theorem joinE_cons (x:ByteArray) (xs:List ByteArray):joinF (x :: xs) ⟨#[]⟩=x.data.toList++joinF xs ⟨#[]⟩:=by
  cases xs with
  | nil=>unfold joinF;simp [Lib.join]
  | cons y ys=>unfold joinF;simp [Lib.join]
theorem join_in_enum (e:ES):(joinF e.f1 (lit [44,32])).length≤(enumB e).length:=by
  unfold enumB lineB
  rw [joinE_cons,joinE_cons,joinE_cons,joinE_cons]
  simp only [List.length_append,strOf_list]
  omega
end Go.Proofs.YtnnbbeloifhofaaDoor.P
end
section
namespace Go.Proofs.YtnnbbeloifhofaaDoor.P
open Go Go.RowKit Go.Proofs
open Go.Proofs.YtnnbbeloifhofaaDoorW.PrintWords Go.Proofs.YtnnbbeloifhofaaDoorW.PrintLast Go.Proofs.YtnnbbeloifhofaaDoorW.PrintMore
set_option linter.unusedVariables false
set_option linter.unusedSimpArgs false
set_option maxHeartbeats 4000000 in
set_option maxRecDepth 100000 in
theorem print_pr (ens:List ES) (vs:List VS) (ps:List RP) (m:List RS) (A0 A1 A2 A3:Option Addr) (c0 c1 c2 c3:Nat) (w:World) (hT:TabT w)
    (hC0:Kd.C k79 w A0 ens.length ens) (hC1:Kd.C k80 w A1 vs.length vs) (hC2:Kd.C k66 w A2 (convPs ps).length (convPs ps)) (hl2:(convPs ps).length≤c2) (hC3:Kd.C k76 w A3 (convSs m).length (convSs m)) (hl3:(convSs m).length≤c3) (hok:PrintOk ens vs ps m) :
    Calls Tryd.prog 22 #[.agg #[.slice A0 ens.length c0,.slice A1 vs.length c1,.slice A2 (convPs ps).length c2,.slice A3 (convSs m).length c3]] w fun e w'=>e=.returned (.string (strOf (printB ens vs ps m)))∧Below w.heap.size w w':=by
  obtain ⟨hE,hV,hP,hJ,hI,hB,hM,hMb,hlen⟩:=hok
  have HE:=Aside0.mk hE
  have HV:=Aside0.mk hV
  have HPs:=Aside0.mk hP
  have HJ:=Aside0.mk hJ
  have HI:=Aside0.mk hI
  have HBd:=Aside0.mk hB
  have HM:=Aside0.mk (And.intro hM hMb)
  have HC0:=Aside0.mk hC0
  have HC1:=Aside0.mk hC1
  have HC2:=Aside0.mk (And.intro hC2 hl2)
  have HC3:=Aside0.mk (And.intro hC3 hl3)
  rw [printB_eq] at hlen
  have HLEN:=Aside0.mk hlen
  clear hE hV hP hJ hI hB hM hMb hC0 hC1 hC2 hC3 hlen hl2 hl3
  go_enter Tryd.func22,Tryd.ntmps22
  go_wp2_with (first|((with_reducible refine gate_dst (N:=1) rfl ?_);refine box_event ?hgP (N:=1) ?hdP (cs:=#[.slice A0 ens.length c0,.slice A1 vs.length c1,.slice A2 (convPs ps).length c2,.slice A3 (convSs m).length c3]) (t:=50) ?hrP ?_;(case hdP=>rfl);(case hgP=>rfl);(case hrP=>first|(go_simp;done)|(go_simp;rfl));intro gA hg w1 hbox hb;have BKP:=Aside0.mk hbox;have GWP:=Aside0.mk hg;have HBP:=Aside0.mk hb;clear hb hbox hg;have zP0:w1.cell? ⟨gA,0,none⟩=some (.slice A0 ens.length c0):=(blk_cell BKP.out 0).trans rfl;have yP0:=blk_frozen BKP.out 0;have zP1:w1.cell? ⟨gA,1,none⟩=some (.slice A1 vs.length c1):=(blk_cell BKP.out 1).trans rfl;have yP1:=blk_frozen BKP.out 1;have zP2:w1.cell? ⟨gA,2,none⟩=some (.slice A2 (convPs ps).length c2):=(blk_cell BKP.out 2).trans rfl;have yP2:=blk_frozen BKP.out 2;have zP3:w1.cell? ⟨gA,3,none⟩=some (.slice A3 (convSs m).length c3):=(blk_cell BKP.out 3).trans rfl;have yP3:=blk_frozen BKP.out 3)|((with_reducible refine gate_dst (N:=12) rfl ?_);refine box_event ?hgQ (N:=12) ?hdQ (cs:=#[.pointer none,.slice none 0 0,.int .i64 0]) (t:=88) ?hrQ ?_;(case hdQ=>rfl);(case hgQ=>rfl);(case hrQ=>first|(go_simp;done)|(go_simp;rfl));intro b hg w2 hbox hb;have BKQ:=Aside0.mk hbox;have GWQ:=Aside0.mk hg;have HBQ:=Aside0.mk hb;clear hb hbox hg;have zQ0:w2.cell? ⟨b,0,none⟩=some (.pointer none):=(blk_cell BKQ.out 0).trans rfl;have yQ0:=blk_frozen BKQ.out 0;have zQ1:w2.cell? ⟨b,1,none⟩=some (.slice none 0 0):=(blk_cell BKQ.out 1).trans rfl;have yQ1:=blk_frozen BKQ.out 1;have zQ2:w2.cell? ⟨b,2,none⟩=some (.int .i64 0):=(blk_cell BKQ.out 2).trans rfl;have yQ2:=blk_frozen BKQ.out 2;have BKP2:=Aside0.mk (blk_below BKP.out HBQ.out);have p0:w2.cell? ⟨gA,0,none⟩=some (.slice A0 ens.length c0):=(blk_cell BKP2.out 0).trans rfl;have p1:w2.cell? ⟨gA,1,none⟩=some (.slice A1 vs.length c1):=(blk_cell BKP2.out 1).trans rfl;have p2:w2.cell? ⟨gA,2,none⟩=some (.slice A2 (convPs ps).length c2):=(blk_cell BKP2.out 2).trans rfl;have p3:w2.cell? ⟨gA,3,none⟩=some (.slice A3 (convSs m).length c3):=(blk_cell BKP2.out 3).trans rfl))
  have HNE:Aside0 (gA≠b):=⟨fun e=>by have h1:=blk_lt BKP.out;have h2:=GWQ.out;omega⟩
  have HG:Aside0 (w.heap.size≤b):=⟨by have h1:=HBP.out.size;have h2:=GWQ.out;omega⟩
  have HP0:Aside0 (IsPr w.heap.size b (Lib.byteCells []) 0 w2):=⟨.inl ⟨HG.out,.slice none 0 0,BKQ.out,own_nil _ _ _ _,by simp [Value.ownBlock]⟩⟩
  have HB0:Aside0 (Below w.heap.size w w2):=⟨HBP.out.trans (HBQ.out.mono HBP.out.size)⟩
  have BKP:=BKP2
  clear BKP2 zP0 zP1 zP2 zP3 zQ0 zQ1 zQ2 yP0 yP1 yP2 yP3 yQ0 yQ1 yQ2 BKQ HBP HBQ
  clear p0 p1 p2 p3
  go_loopg [16] (ens.length+1) (fun kq v16 w'=>∃ i:Nat,v16=.int .i64 (i:Int)∧Aside0 (i+kq=ens.length+1∧i≤ens.length)∧Aside0 (IsPr w.heap.size b (Lib.byteCells (enumsB (ens.take i))) 0 w')∧Aside0 (Below w.heap.size w w')∧Aside0 (Beside b w2 w'))
  case atStart=>exact ⟨0,rfl,⟨by omega,by omega⟩,HP0,HB0,⟨Beside.refl b w2⟩⟩
  case round=>
    obtain ⟨i,rfl,HIq,HPi,HBi,HSi⟩:=hrel
    by_cases hi:i < ens.length
    · have cc:decide ((i:Int) < (ens.length:Int))=true:=decide_eq_true (by omega)
      cases gk with
      | zero=>exact absurd HIq.out (by omega)
      | succ k1=>
      obtain ⟨ad,A5,c5,rfl,x0,x1,l1,g1⟩:=at_T79 HC0.out (i:Int) (by omega) (by omega)
      have hm:ens[i] ∈ ens:=List.getElem_mem hi
      rw [rd_ens hi] at x0 x1 l1 g1
      obtain ⟨hnx,hle⟩:=take_app enumsB enumsB_app ens i hi
      have hje:=HJ.out _ hm
      generalize hse:ens[i]=e at x0 x1 l1 g1 hnx hle hje hm
      clear hse hm
      simp only [Int.toNat_natCast] at x0 x1
      replace x0:=(HBi.out.cell (World.block_lt_of_cell? w _ x0)).trans x0
      replace x1:=(HBi.out.cell (World.block_lt_of_cell? w _ x1)).trans x1
      have p0:(0≤(i:Int))=True:=eq_true (by omega)
      have q0:((i:Int) < (ens.length:Int))=True:=eq_true (by omega)
      rw [enumsB,enumsB,List.append_nil] at hnx
      have HLN:Aside0 ((enumsB (ens.take i)).length+(enumB e).length≤140737488355328):=⟨by have h1:=HLEN.out;rw [hnx] at hle;simp only [List.length_append] at hle h1;omega⟩
      have HJN:Aside0 (strings_Join.f e.f1 (lit [44,32])=some (strOf (joinF e.f1 (lit [44,32])))):=⟨by
        unfold strings_Join.f
        have h1:=HLN.out
        have h2:(joinF e.f1 (lit [44,32])).length≤(enumB e).length:=join_in_enum e
        rw [if_pos ⟨by omega,hje⟩]⟩
      have HNX:=Aside0.mk hnx
      have HG1:=Aside0.mk (And.intro g1 l1)
      have HWI:Aside0 (wrap64 ((i:Int)+1)=((i+1:Nat):Int)):=⟨by rw [wrap64_small (by omega) (by have:=HE.out;omega)];rfl⟩
      clear hnx hle hje l1 g1
      go_wp2_with (first|((with_reducible refine gate_dst (N:=5) rfl ?_);refine box_event ?hgE (N:=5) ?hdE (cs:=#[.string (⟨#[]⟩:ByteArray),.slice none 0 0]) (t:=79) ?hrE ?_;(case hdE=>rfl);(case hgE=>rfl);(case hrE=>first|(go_simp;done)|(go_simp;rfl));intro gb hg w8 hbox hb;have BKE:=Aside0.mk hbox;have GWE:=Aside0.mk hg;have HBE:=Aside0.mk hb;clear hb hbox hg;have zE0:w8.cell? ⟨gb,0,none⟩=some (.string (⟨#[]⟩:ByteArray)):=(blk_cell BKE.out 0).trans rfl;have yE0:=blk_frozen BKE.out 0;have zE1:w8.cell? ⟨gb,1,none⟩=some (.slice none 0 0):=(blk_cell BKE.out 1).trans rfl;have yE1:=blk_frozen BKE.out 1))
      have hge:wr.heap.size≤gb:=Nat.le_of_eq GWE.out.symm
      have BK9:=blk_set (blk_set BKE.out 0 (.string e.f0)) 1 (.slice A5 e.f1.length c5)
      have e9:Below wr.heap.size wr ((w8.setCell ⟨gb,0,none⟩ (.string e.f0)).setCell ⟨gb,1,none⟩ (.slice A5 e.f1.length c5)):=(HBE.out.setCell (p:=⟨gb,0,none⟩) hge _).setCell (p:=⟨gb,1,none⟩) hge _
      generalize ((w8.setCell ⟨gb,0,none⟩ (.string e.f0)).setCell ⟨gb,1,none⟩ (.slice A5 e.f1.length c5))=w9 at BK9 e9 ⊢
      have z0:w9.cell? ⟨gb,0,none⟩=some (.string e.f0):=(blk_cell BK9 0).trans rfl
      have z1:w9.cell? ⟨gb,1,none⟩=some (.slice A5 e.f1.length c5):=(blk_cell BK9 1).trans rfl
      have HE9:=Aside0.mk e9
      clear e9 BK9 zE0 zE1 yE0 yE1 BKE HBE GWE hge x0 x1
      have hHeld0:w9.drew.cell? ⟨gb,0,none⟩=some (.string e.f0)∧w9.drew.cell? ⟨gb,1,none⟩=some (.slice A5 e.f1.length c5)∧Below w9.heap.size w9 w9.drew:=⟨z0,z1,Below.drew (Below.refl _ w9)⟩
      refine start_ (n:=8) (ds:=[7]) (S:=fun w'=>w'.cell? ⟨gb,0,none⟩=some (.string e.f0)∧w'.cell? ⟨gb,1,none⟩=some (.slice A5 e.f1.length c5)∧Below w9.heap.size w9 w') #[false,false,false,false,false,false,false,false] (by kernel_rfl) rfl rfl hHeld0 (fun hHeld=>?_)
      clear hHeld0 z0 z1
      generalize w9.drew=wa at hHeld ⊢
      refine pure_ (i:=0) (N:=some 20) (v:=?_) (a':=?_) #[true,false,false,false,false,false,false,false] rfl rfl (by kernel_rfl) (fun _ _ _ h=>h) (Or.inl ⟨by rfl,?_⟩) ?_ ?_
      rotate_left
      · intro w'
        go_simp
        with_reducible rfl
      rotate_left
      · simp only [Act.put,List.setIfInBounds_toArray,List.set_cons_zero,List.set_cons_succ,i64_w,i32_w]
        rfl
      refine pure_ (i:=1) (N:=some 21) (v:=?_) (a':=?_) #[true,true,false,false,false,false,false,false] rfl rfl (by kernel_rfl) (fun _ _ _ h=>h) (Or.inl ⟨by rfl,?_⟩) ?_ ?_
      rotate_left
      · intro w'
        go_simp
        with_reducible rfl
      rotate_left
      · simp only [Act.put,List.setIfInBounds_toArray,List.set_cons_zero,List.set_cons_succ,i64_w,i32_w]
        rfl
      refine pure_ (i:=3) (N:=some 23) (v:=?_) (a':=?_) #[true,true,false,true,false,false,false,false] rfl rfl (by kernel_rfl) (fun _ _ _ h=>h) (Or.inl ⟨by rfl,?_⟩) ?_ ?_
      rotate_left
      · intro w'
        go_simp
        with_reducible rfl
      rotate_left
      · simp only [Act.put,List.setIfInBounds_toArray,List.set_cons_zero,List.set_cons_succ,i64_w,i32_w]
        rfl
      refine take_ (i:=2) (N:=some 22) (v:=?_) (a':=?_) #[true,true,true,true,false,false,false,false] rfl rfl (by kernel_rfl) (fun _ _ _ h=>h) (Or.inl ⟨by rfl,?_⟩) hHeld ?_ ?_
      rotate_left
      · rintro w' ⟨s0,s1,s2⟩
        go_simp
        with_reducible rfl
      rotate_left
      · simp only [Act.put,List.setIfInBounds_toArray,List.set_cons_zero,List.set_cons_succ,i64_w,i32_w]
        rfl
      refine take_ (i:=4) (N:=some 24) (v:=?_) (a':=?_) #[true,true,true,true,true,false,false,false] rfl rfl (by kernel_rfl) (fun _ _ _ h=>h) (Or.inl ⟨by rfl,?_⟩) hHeld ?_ ?_
      rotate_left
      · rintro w' ⟨s0,s1,s2⟩
        go_simp
        with_reducible rfl
      rotate_left
      · simp only [Act.put,List.setIfInBounds_toArray,List.set_cons_zero,List.set_cons_succ,i64_w,i32_w]
        rfl
      refine one_ (i:=5) (N:=some 25) #[true,true,true,true,true,true,false,false] rfl rfl (by kernel_rfl) (by decide) (fun K hK=>?_)
      refine goes_ Tryd.func39 (by kernel_rfl) rfl #[.slice A5 e.f1.length c5,.string ⟨#[44,32]⟩] (by rfl) rfl rfl (by (try simp only [List.map_toArray,List.map_cons,List.map_nil]);first|done|rfl) ?_
      have hb2:Below w.heap.size w wa:=HBi.out.trans ((HE9.out.trans (hHeld.2.2.mono HE9.out.size)).mono HBi.out.size)
      refine (strings_Join.calls A5 c5 e.f1 _ _ wa (Kd.C_below HG1.out.1 hb2) HG1.out.2 HJN.out).mono ?_
      clear hb2
      rintro e_ wb ⟨rfl,hb⟩
      refine ⟨_,rfl,?_⟩
      obtain ⟨t0,t1,t2⟩:=hHeld
      have hHeld:wb.cell? ⟨gb,0,none⟩=some (.string e.f0)∧wb.cell? ⟨gb,1,none⟩=some (.slice A5 e.f1.length c5)∧Below w9.heap.size w9 wb:=⟨(hb.cell (World.block_lt_of_cell? wa _ t0)).trans t0,(hb.cell (World.block_lt_of_cell? wa _ t1)).trans t1,t2.trans (hb.mono t2.size)⟩
      refine hK.out _ _ hHeld (fun hHeld=>?_)
      clear hK K hb t0 t1 t2
      refine norm_ (a':=?_) ?_ ?_
      rotate_left
      · show Act.put _ (some 25) _=_
        simp only [Act.put,List.setIfInBounds_toArray,List.set_cons_zero,List.set_cons_succ,i64_w,i32_w]
        rfl
      refine one_ (i:=6) (N:=some 26) #[true,true,true,true,true,true,true,false] rfl rfl (by kernel_rfl) (by decide) (fun K hK=>?_)
      refine Kd.R_lit_step Kd.string (w0:=wb) wb.heap.size 9 (by rfl) (N:=26) rfl (xs:=[(lit [101,110,117,109,32]),e.f0,(lit [32,123,32]),(strOf (joinF e.f1 (lit [44,32]))),(lit [32,125])]) (inner:=[.string (lit [101,110,117,109,32]),.string e.f0,.string (lit [32,123,32]),.string (strOf (joinF e.f1 (lit [44,32]))),.string (lit [32,125])]) (ok:=fun _=>True) (okp:=fun _=>True) ?hrD ?hpD (fun _ hk=>hk) trivial (Below.refl _ _) (Nat.le_refl _) (by simp) ?_
      case hrD=>first|(go_simp;done)|(go_simp;rfl)
      case hpD=>exact Reps.one (show Kd.M Kd.string _ _ _ ((lit [101,110,117,109,32])) [.string ((lit [101,110,117,109,32]))] from rfl) (Reps.one (show Kd.M Kd.string _ _ _ (e.f0) [.string (e.f0)] from rfl) (Reps.one (show Kd.M Kd.string _ _ _ ((lit [32,123,32])) [.string ((lit [32,123,32]))] from rfl) (Reps.one (show Kd.M Kd.string _ _ _ ((strOf (joinF e.f1 (lit [44,32])))) [.string ((strOf (joinF e.f1 (lit [44,32]))))] from rfl) (Reps.one (show Kd.M Kd.string _ _ _ ((lit [32,125])) [.string ((lit [32,125]))] from rfl) (Reps.none _ _)))))
      intro vrow wc hrow hb hg_ hnew_
      clear hg_ hnew_
      obtain ⟨Ao,co,rfl⟩:=Kd.R_slice hrow
      have hro:=(Kd.R_reads' hrow).2
      obtain ⟨t0,t1,t2⟩:=hHeld
      have hHeld:wc.cell? ⟨gb,0,none⟩=some (.string e.f0)∧wc.cell? ⟨gb,1,none⟩=some (.slice A5 e.f1.length c5)∧Below w9.heap.size w9 wc:=⟨(hb.cell (World.block_lt_of_cell? wb _ t0)).trans t0,(hb.cell (World.block_lt_of_cell? wb _ t1)).trans t1,t2.trans (hb.mono t2.size)⟩
      refine hK.out _ _ hHeld (fun hHeld=>?_)
      clear hK K hb t0 t1 t2
      clear hrow
      refine norm_ (a':=?_) ?_ ?_
      rotate_left
      · show Act.put _ (some 26) _=_
        simp only [Act.put,List.setIfInBounds_toArray,List.set_cons_zero,List.set_cons_succ,i64_w,i32_w]
        rfl
      have e4:Below wr.heap.size wr wc:=HE9.out.trans (hHeld.2.2.mono HE9.out.size)
      refine last_ (i:=7) (N:=some 27) #[true,true,true,true,true,true,true,true] rfl rfl (by kernel_rfl) (by decide) (fun K hK=>?_)
      refine goes_ Tryd.func38 (by kernel_rfl) rfl #[.pointer (some ⟨b,0,none⟩),.slice Ao 5 co] (by rfl) rfl rfl (by (try simp only [List.map_toArray,List.map_cons,List.map_nil]);first|done|rfl) ?_
      refine (line_pr w.heap.size b (enumsB (ens.take i)) 0 Ao co [(lit [101,110,117,109,32]),e.f0,(lit [32,123,32]),(strOf (joinF e.f1 (lit [44,32]))),(lit [32,125])] wc (HPi.out.kept e4) hro.2 hro.1 (by decide) (by decide) (by simp) HLN.out (Nat.le_trans HBi.out.size e4.size)).mono ?_
      rintro e_ wd ⟨rfl,hP',hb',hs'⟩
      have HPn:Aside0 (IsPr w.heap.size b (Lib.byteCells ((enumsB (ens.take i))++lineB 0 [(lit [101,110,117,109,32]),e.f0,(lit [32,123,32]),(strOf (joinF e.f1 (lit [44,32]))),(lit [32,125])])) 0 wd):=⟨.inr hP'⟩
      have HBn:=Aside0.mk (HBi.out.trans ((e4.mono HBi.out.size).trans hb'))
      have HSn:=Aside0.mk (HSi.out.trans ((Beside.of e4).trans hs'))
      clear hP' hb' hs' e4 hro hHeld
      refine ⟨_,rfl,?_⟩
      refine hK.out _ _ ?_
      refine done_ (by kernel_rfl) ?_
      clear hK K
      go_wp2
      go_roundg k1
      case measure=>omega
      case rel=>exact ⟨i+1,congrArg (Value.int IntKind.i64) HWI.out,⟨by have:=HIq.out;omega,by omega⟩,⟨by rw [HNX.out];exact HPn.out⟩,HBn,HSn⟩
    · have cA:decide ((i:Int) < (ens.length:Int))=false:=decide_eq_false (by omega)
      have cB:decide (i < ens.length)=false:=decide_eq_false (by omega)
      have cC:(i < ens.length)=False:=eq_false (by omega)
      rw [List.take_of_length_le (by omega)] at HPi
      have BP:=(HSi.out gA _ _ _ HNE.out (by decide) BKP.out)
      have p0:wr.cell? ⟨gA,0,none⟩=some (.slice A0 ens.length c0):=by rw [Lib.cell_of_heap BP];rfl
      have p1:wr.cell? ⟨gA,1,none⟩=some (.slice A1 vs.length c1):=by rw [Lib.cell_of_heap BP];rfl
      have p2:wr.cell? ⟨gA,2,none⟩=some (.slice A2 (convPs ps).length c2):=by rw [Lib.cell_of_heap BP];rfl
      have p3:wr.cell? ⟨gA,3,none⟩=some (.slice A3 (convSs m).length c3):=by rw [Lib.cell_of_heap BP];rfl
      clear BP
      have HP1:=HPi
      have HB1:=HBi
      have HS1:=HSi
      clear HPi HBi HSi cA cB cC
      go_wp2
      clear p0 p1 p2 p3
      go_loopg [32] (vs.length+1) (fun kq v32 w'=>∃ i:Nat,v32=.int .i64 (i:Int)∧Aside0 (i+kq=vs.length+1∧i≤vs.length)∧Aside0 (IsPr w.heap.size b (Lib.byteCells (enumsB ens++varsB (vs.take i))) 0 w')∧Aside0 (Below w.heap.size w w')∧Aside0 (Beside b w2 w'))
      case atStart=>exact ⟨0,rfl,⟨by omega,by omega⟩,⟨by rw [List.take_zero,varsB,List.append_nil];exact HP1.out⟩,HB1,HS1⟩
      case round=>
        clear HP1 HB1 HS1
        obtain ⟨i,rfl,HIq,HPi,HBi,HSi⟩:=hrel
        by_cases hi:i < vs.length
        · have cc:decide ((i:Int) < (vs.length:Int))=true:=decide_eq_true (by omega)
          cases gk with
          | zero=>exact absurd HIq.out (by omega)
          | succ k1=>
          obtain ⟨ad,rfl,x0,x1,x2⟩:=at_T80 HC1.out (i:Int) (by omega) (by omega)
          have hm:vs[i] ∈ vs:=List.getElem_mem hi
          rw [rd_vs hi] at x0 x1 x2
          obtain ⟨hnx,hle⟩:=take_app varsB varsB_app vs i hi
          have hje:=HI.out _ hm
          generalize hse:vs[i]=v at x0 x1 x2 hnx hle hje hm
          clear hse hm
          simp only [Int.toNat_natCast] at x0 x1 x2
          replace x0:=(HBi.out.cell (World.block_lt_of_cell? w _ x0)).trans x0
          replace x1:=(HBi.out.cell (World.block_lt_of_cell? w _ x1)).trans x1
          replace x2:=(HBi.out.cell (World.block_lt_of_cell? w _ x2)).trans x2
          have p0:(0≤(i:Int))=True:=eq_true (by omega)
          have q0:((i:Int) < (vs.length:Int))=True:=eq_true (by omega)
          rw [varsB,varsB,List.append_nil] at hnx
          have hln:(enumsB ens++varsB (vs.take i)).length+(varB v).length≤140737488355328:=by have h1:=HLEN.out;rw [hnx] at hle;simp only [List.length_append] at hle h1 ⊢;omega
          have HNX:=Aside0.mk hnx
          have HWI:Aside0 (wrap64 ((i:Int)+1)=((i+1:Nat):Int)):=⟨by rw [wrap64_small (by omega) (by have:=HV.out;omega)];rfl⟩
          have hrs:=itoaB_size hje
          have his:=itoa_some v.f2 hje
          clear hnx hle hje
          unfold varB at hln HNX
          by_cases hL:0 < v.f2
          · rw [manyT,if_pos hL] at hln HNX
            generalize itoaB v.f2=r at hln HNX hrs his
            have HLN:=Aside0.mk hln
            have HIS:=Aside0.mk his
            have cL:decide (0 < v.f2)=true:=decide_eq_true hL
            have k1_:(9223372036854775807 < 1+r.size)=False:=eq_false (by omega)
            have k2_:(9223372036854775807 < 1+r.size+1)=False:=eq_false (by omega)
            clear hln his hL hrs
            go_wp2_with (first|((with_reducible refine gate_dst (N:=7) rfl ?_);refine box_event ?hgV (N:=7) ?hdV (cs:=#[.string (⟨#[]⟩:ByteArray),.string (⟨#[]⟩:ByteArray),.int .i64 0]) (t:=80) ?hrV ?_;(case hdV=>rfl);(case hgV=>rfl);(case hrV=>first|(go_simp;done)|(go_simp;rfl));intro gb hg w8 hbox hb;have BKV:=Aside0.mk hbox;have GWV:=Aside0.mk hg;have HBV:=Aside0.mk hb;clear hb hbox hg;have zV0:w8.cell? ⟨gb,0,none⟩=some (.string (⟨#[]⟩:ByteArray)):=(blk_cell BKV.out 0).trans rfl;have yV0:=blk_frozen BKV.out 0;have zV1:w8.cell? ⟨gb,1,none⟩=some (.string (⟨#[]⟩:ByteArray)):=(blk_cell BKV.out 1).trans rfl;have yV1:=blk_frozen BKV.out 1;have zV2:w8.cell? ⟨gb,2,none⟩=some (.int .i64 0):=(blk_cell BKV.out 2).trans rfl;have yV2:=blk_frozen BKV.out 2))
            have hge:wr.heap.size≤gb:=Nat.le_of_eq GWV.out.symm
            have BK9:=blk_set (blk_set (blk_set BKV.out 0 (.string v.f0)) 1 (.string v.f1)) 2 (.int .i64 v.f2)
            have e9:Below wr.heap.size wr (((w8.setCell ⟨gb,0,none⟩ (.string v.f0)).setCell ⟨gb,1,none⟩ (.string v.f1)).setCell ⟨gb,2,none⟩ (.int .i64 v.f2)):=((HBV.out.setCell (p:=⟨gb,0,none⟩) hge _).setCell (p:=⟨gb,1,none⟩) hge _).setCell (p:=⟨gb,2,none⟩) hge _
            clear zV0 zV1 zV2 yV0 yV1 yV2 BKV HBV GWV x0 x1 x2
            generalize (((w8.setCell ⟨gb,0,none⟩ (.string v.f0)).setCell ⟨gb,1,none⟩ (.string v.f1)).setCell ⟨gb,2,none⟩ (.int .i64 v.f2))=w9 at BK9 e9 ⊢
            refine (strconv_Itoa_31.calls v.f2 r w9 (hT.later (HBi.out.trans (e9.mono HBi.out.size))) HIS.out).mono ?_
            rintro e_ wb ⟨rfl,hb⟩
            have e9:=e9.trans (hb.mono e9.size)
            have BK9:=blk_below BK9 hb
            have z0:wb.cell? ⟨gb,0,none⟩=some (.string v.f0):=(blk_cell BK9 0).trans rfl
            have z1:wb.cell? ⟨gb,1,none⟩=some (.string v.f1):=(blk_cell BK9 1).trans rfl
            have HE9:=Aside0.mk e9
            clear e9 BK9 hb
            go_wp2_with (first|((with_reducible refine gate_dst (N:=50) rfl ?_);(try (refine gate_guard (by rfl) ?_;dsimp only));refine Kd.R_lit Kd.string (w0:=_) _ 9 ?hg_ (N:=50) ?hd_ (xs:=[(lit [118,97,114,32]),v.f0,(lit [58,32]),v.f1,((lit [91]++r)++lit [93]),(lit [59])]) (inner:=[.string (lit [118,97,114,32]),.string v.f0,.string (lit [58,32]),.string v.f1,.string ((lit [91]++r)++lit [93]),.string (lit [59])]) (ok:=fun _=>True) (okp:=fun _=>True) ?hr_ ?hp_ (fun _ hk=>hk) trivial (Below.refl _ _) (Nat.le_refl _) (by simp) ?_;(case hd_=>rfl);(case hg_=>rfl);(case hr_=>first|(go_simp;done)|(go_simp;rfl));(case hp_=>exact Reps.one (show Kd.M Kd.string _ _ _ ((lit [118,97,114,32])) [.string ((lit [118,97,114,32]))] from rfl) (Reps.one (show Kd.M Kd.string _ _ _ (v.f0) [.string (v.f0)] from rfl) (Reps.one (show Kd.M Kd.string _ _ _ ((lit [58,32])) [.string ((lit [58,32]))] from rfl) (Reps.one (show Kd.M Kd.string _ _ _ (v.f1) [.string (v.f1)] from rfl) (Reps.one (show Kd.M Kd.string _ _ _ (((lit [91]++r)++lit [93])) [.string (((lit [91]++r)++lit [93]))] from rfl) (Reps.one (show Kd.M Kd.string _ _ _ ((lit [59])) [.string ((lit [59]))] from rfl) (Reps.none _ _)))))));intro vrow wc hrow hb hg_ hnew_;have HL:=Aside0.mk hb;clear hg_ hnew_ hb;obtain ⟨Ao,co,rfl⟩:=Kd.R_slice hrow;have hro:=(Kd.R_reads' hrow).2;have HR:=Aside0.mk hro;clear hro hrow))
            have e4:=HE9.out.trans (HL.out.mono HE9.out.size)
            clear HE9 HL z0 z1
            refine (line_pr w.heap.size b (enumsB ens++varsB (vs.take i)) 0 Ao co [(lit [118,97,114,32]),v.f0,(lit [58,32]),v.f1,((lit [91]++r)++lit [93]),(lit [59])] wc (HPi.out.kept e4) HR.out.2 HR.out.1 (by decide) (by decide) (by simp) HLN.out (Nat.le_trans HBi.out.size e4.size)).mono ?_
            rintro e_ wd ⟨rfl,hP',hb',hs'⟩
            have HPn:Aside0 (IsPr w.heap.size b (Lib.byteCells ((enumsB ens++varsB (vs.take i))++lineB 0 [(lit [118,97,114,32]),v.f0,(lit [58,32]),v.f1,((lit [91]++r)++lit [93]),(lit [59])])) 0 wd):=⟨.inr hP'⟩
            have HBn:=Aside0.mk (HBi.out.trans ((e4.mono HBi.out.size).trans hb'))
            have HSn:=Aside0.mk (HSi.out.trans ((Beside.of e4).trans hs'))
            clear hP' hb' hs' e4 HR
            go_wp2
            go_roundg k1
            case measure=>omega
            case rel=>exact ⟨i+1,congrArg (Value.int IntKind.i64) HWI.out,⟨by have:=HIq.out;omega,by omega⟩,⟨by rw [HNX.out];simpa only [List.append_assoc] using HPn.out⟩,HBn,HSn⟩
          · rw [manyT,if_neg hL] at hln HNX
            have HLN:=Aside0.mk hln
            have cL:decide (0 < v.f2)=false:=decide_eq_false hL
            clear hln his hL hrs
            go_wp2_with (first|((with_reducible refine gate_dst (N:=7) rfl ?_);refine box_event ?hgV (N:=7) ?hdV (cs:=#[.string (⟨#[]⟩:ByteArray),.string (⟨#[]⟩:ByteArray),.int .i64 0]) (t:=80) ?hrV ?_;(case hdV=>rfl);(case hgV=>rfl);(case hrV=>first|(go_simp;done)|(go_simp;rfl));intro gb hg w8 hbox hb;have BKV:=Aside0.mk hbox;have GWV:=Aside0.mk hg;have HBV:=Aside0.mk hb;clear hb hbox hg;have zV0:w8.cell? ⟨gb,0,none⟩=some (.string (⟨#[]⟩:ByteArray)):=(blk_cell BKV.out 0).trans rfl;have yV0:=blk_frozen BKV.out 0;have zV1:w8.cell? ⟨gb,1,none⟩=some (.string (⟨#[]⟩:ByteArray)):=(blk_cell BKV.out 1).trans rfl;have yV1:=blk_frozen BKV.out 1;have zV2:w8.cell? ⟨gb,2,none⟩=some (.int .i64 0):=(blk_cell BKV.out 2).trans rfl;have yV2:=blk_frozen BKV.out 2)|((with_reducible refine gate_dst (N:=50) rfl ?_);(try (refine gate_guard (by rfl) ?_;dsimp only));refine Kd.R_lit Kd.string (w0:=_) _ 9 ?hg_ (N:=50) ?hd_ (xs:=[(lit [118,97,114,32]),v.f0,(lit [58,32]),v.f1,(lit []),(lit [59])]) (inner:=[.string (lit [118,97,114,32]),.string v.f0,.string (lit [58,32]),.string v.f1,.string (lit []),.string (lit [59])]) (ok:=fun _=>True) (okp:=fun _=>True) ?hr_ ?hp_ (fun _ hk=>hk) trivial (Below.refl _ _) (Nat.le_refl _) (by simp) ?_;(case hd_=>rfl);(case hg_=>rfl);(case hr_=>first|(go_simp;done)|(go_simp;rfl));(case hp_=>exact Reps.one (show Kd.M Kd.string _ _ _ ((lit [118,97,114,32])) [.string ((lit [118,97,114,32]))] from rfl) (Reps.one (show Kd.M Kd.string _ _ _ (v.f0) [.string (v.f0)] from rfl) (Reps.one (show Kd.M Kd.string _ _ _ ((lit [58,32])) [.string ((lit [58,32]))] from rfl) (Reps.one (show Kd.M Kd.string _ _ _ (v.f1) [.string (v.f1)] from rfl) (Reps.one (show Kd.M Kd.string _ _ _ ((lit [])) [.string ((lit []))] from rfl) (Reps.one (show Kd.M Kd.string _ _ _ ((lit [59])) [.string ((lit [59]))] from rfl) (Reps.none _ _)))))));intro vrow wc hrow hb hg_ hnew_;have HL:=Aside0.mk hb;clear hg_ hnew_ hb;obtain ⟨Ao,co,rfl⟩:=Kd.R_slice hrow;have hro:=(Kd.R_reads' hrow).2;have HR:=Aside0.mk hro;clear hro hrow))
            have hge:wr.heap.size≤gb:=Nat.le_of_eq GWV.out.symm
            have e9:Below wr.heap.size wr (((w8.setCell ⟨gb,0,none⟩ (.string v.f0)).setCell ⟨gb,1,none⟩ (.string v.f1)).setCell ⟨gb,2,none⟩ (.int .i64 v.f2)):=((HBV.out.setCell (p:=⟨gb,0,none⟩) hge _).setCell (p:=⟨gb,1,none⟩) hge _).setCell (p:=⟨gb,2,none⟩) hge _
            have e4:=e9.trans (HL.out.mono e9.size)
            clear zV0 zV1 zV2 yV0 yV1 yV2 BKV HBV GWV x0 x1 x2 e9 HL
            refine (line_pr w.heap.size b (enumsB ens++varsB (vs.take i)) 0 Ao co [(lit [118,97,114,32]),v.f0,(lit [58,32]),v.f1,(lit []),(lit [59])] wc (HPi.out.kept e4) HR.out.2 HR.out.1 (by decide) (by decide) (by simp) HLN.out (Nat.le_trans HBi.out.size e4.size)).mono ?_
            rintro e_ wd ⟨rfl,hP',hb',hs'⟩
            have HPn:Aside0 (IsPr w.heap.size b (Lib.byteCells ((enumsB ens++varsB (vs.take i))++lineB 0 [(lit [118,97,114,32]),v.f0,(lit [58,32]),v.f1,(lit []),(lit [59])])) 0 wd):=⟨.inr hP'⟩
            have HBn:=Aside0.mk (HBi.out.trans ((e4.mono HBi.out.size).trans hb'))
            have HSn:=Aside0.mk (HSi.out.trans ((Beside.of e4).trans hs'))
            clear hP' hb' hs' e4 HR
            go_wp2
            go_roundg k1
            case measure=>omega
            case rel=>exact ⟨i+1,congrArg (Value.int IntKind.i64) HWI.out,⟨by have:=HIq.out;omega,by omega⟩,⟨by rw [HNX.out];simpa only [List.append_assoc] using HPn.out⟩,HBn,HSn⟩
        · have cA:decide ((i:Int) < (vs.length:Int))=false:=decide_eq_false (by omega)
          have cB:decide (i < vs.length)=false:=decide_eq_false (by omega)
          have cC:(i < vs.length)=False:=eq_false (by omega)
          rw [List.take_of_length_le (by omega)] at HPi
          have BP:=(HSi.out gA _ _ _ HNE.out (by decide) BKP.out)
          have p0:wr.cell? ⟨gA,0,none⟩=some (.slice A0 ens.length c0):=by rw [Lib.cell_of_heap BP];rfl
          have p1:wr.cell? ⟨gA,1,none⟩=some (.slice A1 vs.length c1):=by rw [Lib.cell_of_heap BP];rfl
          have p2:wr.cell? ⟨gA,2,none⟩=some (.slice A2 (convPs ps).length c2):=by rw [Lib.cell_of_heap BP];rfl
          have p3:wr.cell? ⟨gA,3,none⟩=some (.slice A3 (convSs m).length c3):=by rw [Lib.cell_of_heap BP];rfl
          clear BP
          have HP1:=HPi
          have HB1:=HBi
          have HS1:=HSi
          clear HPi HBi HSi cA cB cC
          go_wp2
          clear p0 p1 p2 p3
          go_loopg [56] (ps.length+1) (fun kq v56 w'=>∃ i:Nat,v56=.int .i64 (i:Int)∧Aside0 (i+kq=ps.length+1∧i≤ps.length)∧Aside0 (IsPr w.heap.size b (Lib.byteCells (enumsB ens++varsB vs++procsB (ps.take i))) 0 w')∧Aside0 (Below w.heap.size w w')∧Aside0 (Beside b w2 w'))
          case atStart=>exact ⟨0,rfl,⟨by omega,by omega⟩,⟨by rw [List.take_zero,procsB,List.append_nil];exact HP1.out⟩,HB1,HS1⟩
          case round=>
            clear HP1 HB1 HS1
            obtain ⟨i,rfl,HIq,HPi,HBi,HSi⟩:=hrel
            by_cases hi:i < ps.length
            · have cc:decide ((i:Int) < ((convPs ps).length:Int))=true:=decide_eq_true (by rw [convPs_len];omega)
              cases gk with
              | zero=>exact absurd HIq.out (by omega)
              | succ k1=>
              obtain ⟨ad,A5,c5,rfl,x0,x1,l1,g1⟩:=at_T66 HC2.out.1 (i:Int) (by omega) (by rw [convPs_len];omega)
              have hm:ps[i] ∈ ps:=List.getElem_mem hi
              rw [rd_ps hi] at x0 x1 l1 g1
              obtain ⟨hnx,hle⟩:=take_app procsB procsB_app ps i hi
              have hje:=HBd.out _ hm
              generalize hse:ps[i]=x at x0 x1 l1 g1 hnx hle hje hm
              clear hse hm
              simp only [Int.toNat_natCast,convP] at x0 x1 l1 g1
              replace x0:=(HBi.out.cell (World.block_lt_of_cell? w _ x0)).trans x0
              replace x1:=(HBi.out.cell (World.block_lt_of_cell? w _ x1)).trans x1
              have p0:(0≤(i:Int))=True:=eq_true (by omega)
              have q0:((i:Int) < ((convPs ps).length:Int))=True:=eq_true (by rw [convPs_len];omega)
              rw [procsB,procsB,List.append_nil] at hnx
              have hln:(enumsB ens++varsB vs++procsB (ps.take i)).length+(procB x).length≤140737488355328:=by have h1:=HLEN.out;rw [hnx] at hle;simp only [List.length_append] at hle h1 ⊢;omega
              unfold procB at hln hnx
              have HLN:=Aside0.mk hln
              have HNX:=Aside0.mk hnx
              have HG1:=Aside0.mk (And.intro g1 l1)
              have HJE:=Aside0.mk hje
              have HWI:Aside0 (wrap64 ((i:Int)+1)=((i+1:Nat):Int)):=⟨by rw [wrap64_small (by omega) (by have:=HPs.out;omega)];rfl⟩
              clear hnx hle hje hln l1 g1
              go_wp2_with (first|((with_reducible refine gate_dst (N:=10) rfl ?_);refine box_event ?hgX (N:=10) ?hdX (cs:=#[.string (⟨#[]⟩:ByteArray),.slice none 0 0]) (t:=66) ?hrX ?_;(case hdX=>rfl);(case hgX=>rfl);(case hrX=>first|(go_simp;done)|(go_simp;rfl));intro gb hg w8 hbox hb;have BKX:=Aside0.mk hbox;have GWX:=Aside0.mk hg;have HBX:=Aside0.mk hb;clear hb hbox hg;have zX0:w8.cell? ⟨gb,0,none⟩=some (.string (⟨#[]⟩:ByteArray)):=(blk_cell BKX.out 0).trans rfl;have yX0:=blk_frozen BKX.out 0;have zX1:w8.cell? ⟨gb,1,none⟩=some (.slice none 0 0):=(blk_cell BKX.out 1).trans rfl;have yX1:=blk_frozen BKX.out 1)|((with_reducible refine gate_dst (N:=63) rfl ?_);(try (refine gate_guard (by rfl) ?_;dsimp only));refine Kd.R_lit Kd.string (w0:=_) _ 9 ?hg_ (N:=63) ?hd_ (xs:=[(lit [112,114,111,99,32]),x.f0,(lit [32,123])]) (inner:=[.string (lit [112,114,111,99,32]),.string x.f0,.string (lit [32,123])]) (ok:=fun _=>True) (okp:=fun _=>True) ?hr_ ?hp_ (fun _ hk=>hk) trivial (Below.refl _ _) (Nat.le_refl _) (by simp) ?_;(case hd_=>rfl);(case hg_=>rfl);(case hr_=>first|(go_simp;done)|(go_simp;rfl));(case hp_=>exact Reps.one (show Kd.M Kd.string _ _ _ ((lit [112,114,111,99,32])) [.string ((lit [112,114,111,99,32]))] from rfl) (Reps.one (show Kd.M Kd.string _ _ _ (x.f0) [.string (x.f0)] from rfl) (Reps.one (show Kd.M Kd.string _ _ _ ((lit [32,123])) [.string ((lit [32,123]))] from rfl) (Reps.none _ _))));intro vrow wc hrow hb hg_ hnew_;have HL:=Aside0.mk hb;clear hg_ hnew_ hb;obtain ⟨Ao,co,rfl⟩:=Kd.R_slice hrow;have hro:=(Kd.R_reads' hrow).2;have HR:=Aside0.mk hro;clear hro hrow))
              have hge:wr.heap.size≤gb:=Nat.le_of_eq GWX.out.symm
              have BK9:=blk_set (blk_set BKX.out 0 (.string x.f0)) 1 (.slice A5 (convSs x.f1).length c5)
              have e9:Below wr.heap.size wr ((w8.setCell ⟨gb,0,none⟩ (.string x.f0)).setCell ⟨gb,1,none⟩ (.slice A5 (convSs x.f1).length c5)):=(HBX.out.setCell (p:=⟨gb,0,none⟩) hge _).setCell (p:=⟨gb,1,none⟩) hge _
              have e4:=e9.trans (HL.out.mono e9.size)
              have BK9:=Aside0.mk (blk_below BK9 HL.out)
              have hgb:gb≠b:=fun e=>by have:=HPi.out.lt;have:=GWX.out;omega
              clear zX0 zX1 yX0 yX1 BKX HBX GWX x0 x1 e9 HL hge
              have BQ:=Aside0.mk (fun (w':World) (h:Beside b wc w')=>h gb _ _ _ hgb (by decide) BK9.out)
              have HWC:=Aside0.mk (Below.refl wc.heap.size wc)
              refine (line_pr w.heap.size b (enumsB ens++varsB vs++procsB (ps.take i)) 0 Ao co [(lit [112,114,111,99,32]),x.f0,(lit [32,123])] wc (HPi.out.kept e4) HR.out.2 HR.out.1 (by decide) (by decide) (by simp) (by have h1:=HLN.out;simp only [List.length_append,Int.zero_add] at h1 ⊢;omega) (Nat.le_trans HBi.out.size e4.size)).mono ?_
              rintro e_ wd ⟨rfl,hP',hb',hs'⟩
              have HPA:Aside0 (IsPr w.heap.size b (Lib.byteCells ((enumsB ens++varsB vs++procsB (ps.take i))++lineB 0 [(lit [112,114,111,99,32]),x.f0,(lit [32,123])])) 0 wd):=⟨.inr hP'⟩
              have HBA:=Aside0.mk (HBi.out.trans ((e4.mono HBi.out.size).trans hb'))
              have HSA:=Aside0.mk (HSi.out.trans ((Beside.of e4).trans hs'))
              have hsx:=trivial
              have HWD:=hs'
              clear hP' hb' hs' e4 HR HPi HBi HSi
              have BQ2:=Aside0.mk (BQ.out wd HWD)
              clear BQ HWC hsx HWD BK9 hgb
              have z1:wd.cell? ⟨gb,1,none⟩=some (.slice A5 (convSs x.f1).length c5):=(blk_cell BQ2.out 1).trans rfl
              clear BQ2
              go_wp2_with fail
              clear z1
              refine (block_pr x.f1 (fun s _=>stmt_pr s) b ((enumsB ens++varsB vs++procsB (ps.take i))++lineB 0 [lit [112,114,111,99,32],x.f0,lit [32,123]]) 0 A5 c5 w wd HPA.out HBA.out hT HG1.out.1 HG1.out.2 HJE.out.1 (by decide) (by have:=HJE.out.2;omega) (by have h1:=HLN.out;simp only [List.length_append,Int.zero_add] at h1 ⊢;omega)).mono ?_
              rintro e_ we ⟨rfl,hP',hb',hs'⟩
              have HPB:Aside0 (IsPr w.heap.size b (Lib.byteCells (((enumsB ens++varsB vs++procsB (ps.take i))++lineB 0 [lit [112,114,111,99,32],x.f0,lit [32,123]])++stmtsB x.f1 1)) 0 we):=⟨hP'⟩
              have HBB:=Aside0.mk (HBA.out.trans hb')
              have HSB:=Aside0.mk (HSA.out.trans hs')
              clear hP' hb' hs' HPA HBA HSA
              go_wp2_with (first|((with_reducible refine gate_dst (N:=70) rfl ?_);(try (refine gate_guard (by rfl) ?_;dsimp only));refine Kd.R_lit Kd.string (w0:=_) _ 9 ?hg_ (N:=70) ?hd_ (xs:=[(lit [125])]) (inner:=[.string (lit [125])]) (ok:=fun _=>True) (okp:=fun _=>True) ?hr_ ?hp_ (fun _ hk=>hk) trivial (Below.refl _ _) (Nat.le_refl _) (by simp) ?_;(case hd_=>rfl);(case hg_=>rfl);(case hr_=>first|(go_simp;done)|(go_simp;rfl));(case hp_=>exact Reps.one (show Kd.M Kd.string _ _ _ ((lit [125])) [.string ((lit [125]))] from rfl) (Reps.none _ _));intro vrow wc hrow hb hg_ hnew_;have HL:=Aside0.mk hb;clear hg_ hnew_ hb;obtain ⟨Ao,co,rfl⟩:=Kd.R_slice hrow;have hro:=(Kd.R_reads' hrow).2;have HR:=Aside0.mk hro;clear hro hrow))
              have e4:=HL.out
              clear HL
              refine (line_pr w.heap.size b (((enumsB ens++varsB vs++procsB (ps.take i))++lineB 0 [lit [112,114,111,99,32],x.f0,lit [32,123]])++stmtsB x.f1 1) 0 Ao co [(lit [125])] wc (HPB.out.kept e4) HR.out.2 HR.out.1 (by decide) (by decide) (by simp) (by have h1:=HLN.out;simp only [List.length_append,Int.zero_add] at h1 ⊢;omega) (Nat.le_trans HBB.out.size e4.size)).mono ?_
              rintro e_ wf ⟨rfl,hP',hb',hs'⟩
              have HPC:Aside0 (IsPr w.heap.size b (Lib.byteCells ((((enumsB ens++varsB vs++procsB (ps.take i))++lineB 0 [lit [112,114,111,99,32],x.f0,lit [32,123]])++stmtsB x.f1 1)++lineB 0 [(lit [125])])) 0 wf):=⟨.inr hP'⟩
              have HBC:=Aside0.mk (HBB.out.trans ((e4.mono HBB.out.size).trans hb'))
              have HSC:=Aside0.mk (HSB.out.trans ((Beside.of e4).trans hs'))
              have hsx:=(Beside.of e4).trans hs'
              clear hP' hb' hs' e4 HR HPB HBB HSB
              clear hsx
              go_wp2
              go_roundg k1
              case measure=>omega
              case rel=>exact ⟨i+1,congrArg (Value.int IntKind.i64) HWI.out,⟨by have:=HIq.out;omega,by omega⟩,⟨by rw [HNX.out];simpa only [List.append_assoc] using HPC.out⟩,HBC,HSC⟩
            · have cA:decide ((i:Int) < ((convPs ps).length:Int))=false:=decide_eq_false (by rw [convPs_len];omega)
              have cB:decide (i < (convPs ps).length)=false:=decide_eq_false (by rw [convPs_len];omega)
              have cC:(i < (convPs ps).length)=False:=eq_false (by rw [convPs_len];omega)
              rw [List.take_of_length_le (by omega)] at HPi
              have HP1:=HPi
              have HB1:=HBi
              have HS1:=HSi
              clear HPi HBi HSi
              go_wp2_with (first|((with_reducible refine gate_dst (N:=74) rfl ?_);(try (refine gate_guard (by rfl) ?_;dsimp only));refine Kd.R_lit Kd.string (w0:=_) _ 9 ?hg_ (N:=74) ?hd_ (xs:=[(lit [109,97,105,110,32,123])]) (inner:=[.string (lit [109,97,105,110,32,123])]) (ok:=fun _=>True) (okp:=fun _=>True) ?hr_ ?hp_ (fun _ hk=>hk) trivial (Below.refl _ _) (Nat.le_refl _) (by simp) ?_;(case hd_=>rfl);(case hg_=>rfl);(case hr_=>first|(go_simp;done)|(go_simp;rfl));(case hp_=>exact Reps.one (show Kd.M Kd.string _ _ _ ((lit [109,97,105,110,32,123])) [.string ((lit [109,97,105,110,32,123]))] from rfl) (Reps.none _ _));intro vrow wc hrow hb hg_ hnew_;have HL:=Aside0.mk hb;clear hg_ hnew_ hb;obtain ⟨Ao,co,rfl⟩:=Kd.R_slice hrow;have hro:=(Kd.R_reads' hrow).2;have HR:=Aside0.mk hro;clear hro hrow))
              have e4:=HL.out
              clear HL
              refine (line_pr w.heap.size b (enumsB ens++varsB vs++procsB ps) 0 Ao co [(lit [109,97,105,110,32,123])] wc (HP1.out.kept e4) HR.out.2 HR.out.1 (by decide) (by decide) (by simp) (by have h1:=HLEN.out;simp only [List.length_append,Int.zero_add] at h1 ⊢;omega) (Nat.le_trans HB1.out.size e4.size)).mono ?_
              rintro e_ wd ⟨rfl,hP',hb',hs'⟩
              have HPA:Aside0 (IsPr w.heap.size b (Lib.byteCells ((enumsB ens++varsB vs++procsB ps)++lineB 0 [(lit [109,97,105,110,32,123])])) 0 wd):=⟨.inr hP'⟩
              have HBA:=Aside0.mk (HB1.out.trans ((e4.mono HB1.out.size).trans hb'))
              have HSA:=Aside0.mk (HS1.out.trans ((Beside.of e4).trans hs'))
              have hsx:=(Beside.of e4).trans hs'
              clear hP' hb' hs' e4 HR HP1 HB1 HS1
              have BP:=(HSA.out gA _ _ _ HNE.out (by decide) BKP.out)
              have p3:wd.cell? ⟨gA,3,none⟩=some (.slice A3 (convSs m).length c3):=by rw [Lib.cell_of_heap BP];rfl
              clear BP hsx
              go_wp2_with fail
              clear p3
              refine (block_pr m (fun s _=>stmt_pr s) b ((enumsB ens++varsB vs++procsB ps)++lineB 0 [lit [109,97,105,110,32,123]]) 0 A3 c3 w wd HPA.out HBA.out hT HC3.out.1 HC3.out.2 HM.out.1 (by decide) (by have:=HM.out.2;omega) (by have h1:=HLEN.out;simp only [List.length_append,Int.zero_add] at h1 ⊢;omega)).mono ?_
              rintro e_ we ⟨rfl,hP',hb',hs'⟩
              have HPB:Aside0 (IsPr w.heap.size b (Lib.byteCells (((enumsB ens++varsB vs++procsB ps)++lineB 0 [lit [109,97,105,110,32,123]])++stmtsB m 1)) 0 we):=⟨hP'⟩
              have HBB:=Aside0.mk (HBA.out.trans hb')
              have HSB:=Aside0.mk (HSA.out.trans hs')
              clear hP' hb' hs' HPA HBA HSA
              go_wp2_with (first|((with_reducible refine gate_dst (N:=81) rfl ?_);(try (refine gate_guard (by rfl) ?_;dsimp only));refine Kd.R_lit Kd.string (w0:=_) _ 9 ?hg_ (N:=81) ?hd_ (xs:=[(lit [125])]) (inner:=[.string (lit [125])]) (ok:=fun _=>True) (okp:=fun _=>True) ?hr_ ?hp_ (fun _ hk=>hk) trivial (Below.refl _ _) (Nat.le_refl _) (by simp) ?_;(case hd_=>rfl);(case hg_=>rfl);(case hr_=>first|(go_simp;done)|(go_simp;rfl));(case hp_=>exact Reps.one (show Kd.M Kd.string _ _ _ ((lit [125])) [.string ((lit [125]))] from rfl) (Reps.none _ _));intro vrow wc hrow hb hg_ hnew_;have HL:=Aside0.mk hb;clear hg_ hnew_ hb;obtain ⟨Ao,co,rfl⟩:=Kd.R_slice hrow;have hro:=(Kd.R_reads' hrow).2;have HR:=Aside0.mk hro;clear hro hrow))
              have e4:=HL.out
              clear HL
              refine (line_pr w.heap.size b (((enumsB ens++varsB vs++procsB ps)++lineB 0 [lit [109,97,105,110,32,123]])++stmtsB m 1) 0 Ao co [(lit [125])] wc (HPB.out.kept e4) HR.out.2 HR.out.1 (by decide) (by decide) (by simp) (by have h1:=HLEN.out;simp only [List.length_append,Int.zero_add] at h1 ⊢;omega) (Nat.le_trans HBB.out.size e4.size)).mono ?_
              rintro e_ wf ⟨rfl,hP',hb',hs'⟩
              have HPC:Aside0 (IsPr w.heap.size b (Lib.byteCells ((((enumsB ens++varsB vs++procsB ps)++lineB 0 [lit [109,97,105,110,32,123]])++stmtsB m 1)++lineB 0 [(lit [125])])) 0 wf):=⟨.inr hP'⟩
              have HBC:=Aside0.mk (HBB.out.trans ((e4.mono HBB.out.size).trans hb'))
              have HSC:=Aside0.mk (HSB.out.trans ((Beside.of e4).trans hs'))
              have hsx:=(Beside.of e4).trans hs'
              clear hP' hb' hs' e4 HR HPB HBB HSB
              clear hsx
              go_wp2_with fail
              refine (string_pr w.heap.size b _ 0 wf HPC.out (by intro h;have h2:=congrArg List.length h;simp only [lineB,List.length_append,List.length_cons,List.length_nil] at h2;omega)).mono ?_
              rintro e_ wg ⟨rfl,hb'⟩
              have HBD:=HBC.out.trans hb'
              go_wp2
              go_ret
              refine ⟨?_,HBD⟩
              rw [printB_eq]
              simp only [List.append_assoc]
              rfl
end Go.Proofs.YtnnbbeloifhofaaDoor.P
end
section
namespace Go.Proofs.YtnnbbeloifhofaaDoor.P
open Go Go.RowKit Go.Proofs
open Go.Proofs.YtnnbbeloifhofaaDoorW.PrintWords Go.Proofs.YtnnbbeloifhofaaDoorW.PrintLast Go.Proofs.YtnnbbeloifhofaaDoorW.PrintMore
set_option linter.unusedVariables false
mutual
def backE:TE→RE
  | ⟨a,b,n,l,t⟩=>⟨a,b,n,backEs l,t⟩
def backEs:List TE→List RE
  | []=>[]
  | x :: xs=>backE x :: backEs xs
end
mutual
def backS:TS→RS
  | ⟨a,b,e,l,m,t⟩=>⟨a,b,backEs e,backSs l,backSs m,t⟩
def backSs:List TS→List RS
  | []=>[]
  | x :: xs=>backS x :: backSs xs
end
def backP (x:TP):RP:=⟨x.f0,backSs x.f1⟩
def backPs (l:List TP):List RP:=l.map backP
mutual
theorem conv_backE : ∀ x:TE,convE (backE x)=x
  | ⟨a,b,n,l,t⟩=>by rw [backE,convE,conv_backEs l]
theorem conv_backEs : ∀ l:List TE,convEs (backEs l)=l
  | []=>rfl
  | x :: xs=>by rw [backEs,convEs,conv_backE x,conv_backEs xs]
end
mutual
theorem conv_backS : ∀ x:TS,convS (backS x)=x
  | ⟨a,b,e,l,m,t⟩=>by rw [backS,convS,conv_backEs e,conv_backSs l,conv_backSs m]
theorem conv_backSs : ∀ l:List TS,convSs (backSs l)=l
  | []=>rfl
  | x :: xs=>by rw [backSs,convSs,conv_backS x,conv_backSs xs]
end
mutual
theorem back_convE : ∀ x:RE,backE (convE x)=x
  | ⟨a,b,n,l,t⟩=>by rw [convE,backE,back_convEs l]
theorem back_convEs : ∀ l:List RE,backEs (convEs l)=l
  | []=>rfl
  | x :: xs=>by rw [convEs,backEs,back_convE x,back_convEs xs]
end
mutual
theorem back_convS : ∀ x:RS,backS (convS x)=x
  | ⟨a,b,e,l,m,t⟩=>by rw [convS,backS,back_convEs e,back_convSs l,back_convSs m]
theorem back_convSs : ∀ l:List RS,backSs (convSs l)=l
  | []=>rfl
  | x :: xs=>by rw [convSs,backSs,back_convS x,back_convSs xs]
end
theorem conv_backPs (l:List TP):convPs (backPs l)=l:=by
  induction l with
  | nil=>rfl
  | cons x xs ih=>
    show convP (backP x) :: convPs (backPs xs)=_
    rw [ih,convP,backP,conv_backSs]
theorem back_convPs (l:List RP):backPs (convPs l)=l:=by
  induction l with
  | nil=>rfl
  | cons x xs ih=>
    show backP (convP x) :: backPs (convPs xs)=_
    rw [ih,convP,backP,back_convSs]
def okIB (n:Int):Bool:=decide (-9223372036854775808≤n) && decide (n≤9223372036854775807)
theorem okIB_iff (n:Int):okIB n=true↔okI n:=by unfold okIB okI;simp
mutual
def okEB:RE→Bool
  | ⟨_,_,n,l,_⟩=>okIB n && okEsB l
def okEsB:List RE→Bool
  | []=>true
  | x :: xs=>okEB x && okEsB xs
end
mutual
def okSB:RS→Bool
  | ⟨_,_,e,a,m,_⟩=>okEsB e && okSsB a && okSsB m
def okSsB:List RS→Bool
  | []=>true
  | x :: xs=>okSB x && okSsB xs
end
mutual
theorem okEB_iff : ∀ x:RE,okEB x=true↔okE x
  | ⟨_,_,n,l,_⟩=>by rw [okEB,okE,Bool.and_eq_true,okIB_iff,okEsB_iff l]
theorem okEsB_iff : ∀ l:List RE,okEsB l=true↔okEs l
  | []=>by rw [okEsB,okEs];simp
  | x :: xs=>by rw [okEsB,okEs,Bool.and_eq_true,okEB_iff x,okEsB_iff xs]
end
mutual
theorem okSB_iff : ∀ x:RS,okSB x=true↔okS x
  | ⟨_,_,e,a,m,_⟩=>by rw [okSB,okS,Bool.and_eq_true,Bool.and_eq_true,okEsB_iff e,okSsB_iff a,okSsB_iff m,and_assoc]
theorem okSsB_iff : ∀ l:List RS,okSsB l=true↔okSs l
  | []=>by rw [okSsB,okSs];simp
  | x :: xs=>by rw [okSsB,okSs,Bool.and_eq_true,okSB_iff x,okSsB_iff xs]
end
def printOkB (ens:List ES) (vs:List VS) (ps:List RP) (m:List RS):Bool:=
  decide (ens.length≤1099511627776) && decide (vs.length≤1099511627776) && decide (ps.length≤1099511627776) && ens.all (fun e=>decide (e.f1.length≤140737488355328)) && vs.all (fun v=>okIB v.f2) &&
  ps.all (fun x=>okSsB x.f1 && decide (1+bulkSs x.f1≤1099511627770)) && okSsB m && decide (1+bulkSs m≤1099511627770) && decide ((printB ens vs ps m).length≤140737488355328)
theorem printOkB_iff (ens:List ES) (vs:List VS) (ps:List RP) (m:List RS):printOkB ens vs ps m=true↔PrintOk ens vs ps m:=by
  unfold printOkB
  simp only [Bool.and_eq_true,decide_eq_true_eq,List.all_eq_true,okIB_iff,okSsB_iff]
  constructor
  · rintro ⟨⟨⟨⟨⟨⟨⟨⟨h1,h2⟩,h3⟩,h4⟩,h5⟩,h6⟩,h7⟩,h8⟩,h9⟩
    exact ⟨h1,h2,h3,h4,h5,h6,h7,h8,h9⟩
  · rintro ⟨h1,h2,h3,h4,h5,h6,h7,h8,h9⟩
    exact ⟨⟨⟨⟨⟨⟨⟨⟨h1,h2⟩,h3⟩,h4⟩,h5⟩,h6⟩,h7⟩,h8⟩,h9⟩
def tree_Print.f (l0_0:List ES) (l0_1:List VS) (l0_2:List TP) (l0_3:List TS):Option ByteArray:=
  if printOkB l0_0 l0_1 (backPs l0_2) (backSs l0_3)=true then some (strOf (printB l0_0 l0_1 (backPs l0_2) (backSs l0_3))) else none
theorem tree_Print.some (l0_0:List ES) (l0_1:List VS) (l0_2:List RP) (l0_3:List RS) (h:PrintOk l0_0 l0_1 l0_2 l0_3):tree_Print.f l0_0 l0_1 (convPs l0_2) (convSs l0_3)=.some (strOf (printB l0_0 l0_1 l0_2 l0_3)):=by
  unfold tree_Print.f
  rw [back_convPs,back_convSs,if_pos ((printOkB_iff ..).2 h)]
theorem tree_Print.calls (A0_0:Option Addr) (c0_0:Nat) (l0_0:List ES) (A0_1:Option Addr) (c0_1:Nat) (l0_1:List VS) (A0_2:Option Addr) (c0_2:Nat) (l0_2:List TP) (A0_3:Option Addr) (c0_3:Nat) (l0_3:List TS) (r:ByteArray) (w:World) (hT:TabT w)
    (hr0_0:Kd.C k79 w A0_0 l0_0.length l0_0) (hc0_0:l0_0.length≤c0_0) (hr0_1:Kd.C k80 w A0_1 l0_1.length l0_1) (hc0_1:l0_1.length≤c0_1) (hr0_2:Kd.C k66 w A0_2 l0_2.length l0_2) (hc0_2:l0_2.length≤c0_2) (hr0_3:Kd.C k76 w A0_3 l0_3.length l0_3) (hc0_3:l0_3.length≤c0_3)
    (h:tree_Print.f l0_0 l0_1 l0_2 l0_3=.some r) :
    Calls Tryd.prog 22 #[.agg #[.slice A0_0 l0_0.length c0_0,.slice A0_1 l0_1.length c0_1,.slice A0_2 l0_2.length c0_2,.slice A0_3 l0_3.length c0_3]] w fun e w'=>e=.returned (.string r)∧Below w.heap.size w w':=by
  unfold tree_Print.f at h
  split at h
  · rename_i hok
    rw [printOkB_iff] at hok
    obtain rfl:=Option.some.inj h
    have:=print_pr l0_0 l0_1 (backPs l0_2) (backSs l0_3) A0_0 A0_1 A0_2 A0_3 c0_0 c0_1 c0_2 c0_3 w hT hr0_0 hr0_1 (by rw [conv_backPs];exact hr0_2) (by rw [conv_backPs];exact hc0_2) (by rw [conv_backSs];exact hr0_3) (by rw [conv_backSs];exact hc0_3) hok
    rw [conv_backPs,conv_backSs] at this
    exact this
  · cases h
end Go.Proofs.YtnnbbeloifhofaaDoor.P
end
section
namespace Go.Proofs.YtnnbbeloifhofaaDoor.P
open Go Go.RowKit Go.Proofs
open Go.Proofs.YtnnbbeloifhofaaDoorW.PrintWords Go.Proofs.YtnnbbeloifhofaaDoorW.PrintLast Go.Proofs.YtnnbbeloifhofaaDoorW.PrintMore
set_option linter.unusedVariables false
abbrev REn:=S72
abbrev RV:=S56
def bulkN (l:List ByteArray):Nat:=(l.map fun x=>x.size+1).sum
def bulkEn (x:REn):Nat:=x.f0.size+bulkN x.f1+1
def bulkV (x:RV):Nat:=x.f0.size+x.f1.size+1
def bulkPr (x:RP):Nat:=x.f0.size+bulkSs x.f1+1
def bulkP (e:List REn) (v:List RV) (p:List RP) (m:List RS):Nat:=(e.map bulkEn).sum+(v.map bulkV).sum+(p.map bulkPr).sum+bulkSs m
theorem mem_sum {α:Type} (f:α→Nat) {l:List α} {x:α} (h:x ∈ l):f x≤(l.map f).sum:=by
  induction l with
  | nil=>cases h
  | cons y ys ih=>
    rw [List.map_cons,List.sum_cons]
    rcases List.mem_cons.1 h with e|h
    · subst e;omega
    · have:=ih h;omega
theorem len_sum {α:Type} (f:α→Nat) (h : ∀ x,1≤f x) (l:List α):l.length≤(l.map f).sum:=by
  induction l with
  | nil=>exact Nat.zero_le _
  | cons y ys ih=>rw [List.map_cons,List.sum_cons,List.length_cons];have:=h y;omega
theorem len_bulkN (l:List ByteArray):l.length≤bulkN l:=len_sum _ (fun x=>by omega) l
theorem join_cons (a b:List UInt8) (l:List (List UInt8)) (s:List UInt8):Lib.join (a :: b :: l) s=a++s++Lib.join (b :: l) s:=by simp [Lib.join]
theorem join_one (a:List UInt8) (s:List UInt8):Lib.join [a] s=a:=by simp [Lib.join]
theorem joinF_len (l:List ByteArray) (s:ByteArray):(joinF l s).length≤(l.map fun x=>x.size+s.size).sum:=by
  have hsz : ∀ x:ByteArray,x.data.toList.length=x.size:=fun x=>by rw [Array.length_toList];rfl
  unfold joinF
  induction l with
  | nil=>exact Nat.zero_le _
  | cons x xs ih=>
    cases xs with
    | nil=>rw [List.map_cons,List.map_nil,join_one,List.map_cons,List.map_nil,List.sum_cons,List.sum_nil,hsz];omega
    | cons y ys=>
      rw [List.map_cons,List.map_cons,join_cons,List.length_append,List.length_append,List.map_cons,List.sum_cons,hsz,hsz]
      rw [List.map_cons] at ih
      omega
theorem lineB_len (d:Nat) (ws:List ByteArray):(lineB (d:Int) ws).length≤2 * d+(ws.map ByteArray.size).sum+1:=by
  unfold lineB
  have h:=joinF_len ws ⟨#[]⟩
  have h0 : ∀ l:List ByteArray,(l.map fun x=>x.size+(⟨#[]⟩:ByteArray).size)=l.map ByteArray.size:=fun l=>rfl
  rw [h0] at h
  rw [List.length_append,List.length_append,Lib.repeatL_length]
  simp only [List.length_cons,List.length_nil,Int.toNat_natCast]
  omega
theorem nth_size {l:List RE} {f:RE→ByteArray} {c:Nat} (h : ∀ x ∈ l,(f x).size≤c * bulkE x) (i:Nat):(nth (l.map f) i).size≤c * bulkEs l:=by
  by_cases hi:i < l.length
  · rw [nth_map hi]
    exact Nat.le_trans (h _ (List.getElem_mem hi)) (Nat.mul_le_mul_left c (mem_bulkEs (List.getElem_mem hi)))
  · rw [nth_none (by rw [List.length_map];exact hi)];exact Nat.zero_le _
theorem nth_text (l:List RE) (ho:okEs l) (i:Nat):(nth (textEs l) i).size≤24 * bulkEs l:=by
  rw [textEs_map]
  exact nth_size (fun x hx=>by have:=textE_size x (okEs_mem ho hx);omega) i
theorem stmtF_len (d:Nat) (op name:ByteArray) (e:List RE) (ho:okEs e) (a m:List UInt8) (els:Bool):(stmtF (d:Int) op name e a m els).length≤6 * d+60+2 * op.size+2 * name.size+48 * bulkEs e+a.length+m.length:=by
  have h0:=nth_text e ho 0
  have h1:=nth_text e ho 1
  have hz : ∀ l:List UInt8,(lit l).size=l.length:=size_lit
  unfold stmtF
  repeat' split
  all_goals try simp only [List.length_append]
  · have:=lineB_len d [name,lit [32,61,32],nth (textEs e) 0,lit [59]]
    simp only [List.map_cons,List.map_nil,List.sum_cons,List.sum_nil,hz,List.length_cons,List.length_nil] at this;omega
  · have:=lineB_len d [name,lit [91],nth (textEs e) 0,lit [93,32,61,32],nth (textEs e) 1,lit [59]]
    simp only [List.map_cons,List.map_nil,List.sum_cons,List.sum_nil,hz,List.length_cons,List.length_nil] at this;omega
  · have:=lineB_len d [name,lit [32,61,32,105,110,112,117,116,59]]
    simp only [List.map_cons,List.map_nil,List.sum_cons,List.sum_nil,hz,List.length_cons,List.length_nil] at this;omega
  · have:=lineB_len d [name,lit [32,61,32,105,110,112,117,116,40],nth (textEs e) 0,lit [44,32],nth (textEs e) 1,lit [41,59]]
    simp only [List.map_cons,List.map_nil,List.sum_cons,List.sum_nil,hz,List.length_cons,List.length_nil] at this;omega
  · have h2:=lineB_len d [op,lit [32],nth (textEs e) 0,lit [32,123]]
    have h3:=lineB_len d [lit [125,32,101,108,115,101,32,123]]
    have h4:=lineB_len d [lit [125]]
    simp only [List.map_cons,List.map_nil,List.sum_cons,List.sum_nil,hz,List.length_cons,List.length_nil] at h2 h3 h4;omega
  · have h2:=lineB_len d [op,lit [32],nth (textEs e) 0,lit [32,123]]
    have h4:=lineB_len d [lit [125]]
    simp only [List.map_cons,List.map_nil,List.sum_cons,List.sum_nil,hz,List.length_cons,List.length_nil] at h2 h4 ⊢;omega
  · have:=lineB_len d [op,lit [32],nth (textEs e) 0,lit [59]]
    simp only [List.map_cons,List.map_nil,List.sum_cons,List.sum_nil,hz,List.length_cons,List.length_nil] at this;omega
  · have:=lineB_len d [lit [99,97,108,108,32],name,lit [59]]
    simp only [List.map_cons,List.map_nil,List.sum_cons,List.sum_nil,hz,List.length_cons,List.length_nil] at this;omega
  · have:=lineB_len d [op,lit [59]]
    simp only [List.map_cons,List.map_nil,List.sum_cons,List.sum_nil,hz,List.length_cons,List.length_nil] at this;omega
theorem stmtB_len (C:Nat) : ∀ s:RS,okS s→∀ d:Nat,6 * (d+bulkS s)+60≤C→(stmtB s (d:Int)).length≤bulkS s * C:=RS.all fun s iha ihb ho d hd=>by
  rw [okS_eq] at ho
  rw [bulkS_eq] at hd
  have gen : ∀ l:List RS,(∀ y ∈ l,okS y→∀ d:Nat,6 * (d+bulkS y)+60≤C→(stmtB y (d:Int)).length≤bulkS y * C)→okSs l→∀ d:Nat,6 * (d+bulkSs l)+60≤C→(stmtsB l (d:Int)).length≤bulkSs l * C:=by
    intro l
    induction l with
    | nil=>intro _ _ d _;rw [stmtsB,bulkSs];exact Nat.zero_le _
    | cons y ys ih=>
      intro h ho d hd
      rw [bulkSs] at hd ⊢
      rw [stmtsB,List.length_append,Nat.add_mul]
      exact Nat.add_le_add (h y (List.mem_cons_self ..) ho.1 d (by omega)) (ih (fun z hz=>h z (List.mem_cons_of_mem _ hz)) ho.2 d (by omega))
  have ha:=gen s.f3 iha ho.2.1 (d+1) (by omega)
  have hb:=gen s.f4 ihb ho.2.2 (d+1) (by omega)
  have hf:=stmtF_len d s.f0 s.f1 s.f2 ho.1 (stmtsB s.f3 ((d+1:Nat):Int)) (stmtsB s.f4 ((d+1:Nat):Int)) (decide (s.f4.length > 0))
  rw [stmtB_eq,show ((d:Int)+1)=((d+1:Nat):Int) from rfl]
  rw [bulkS_eq,Nat.add_mul,Nat.add_mul,Nat.add_mul,Nat.add_mul,Nat.add_mul]
  have e1:2 * s.f0.size≤s.f0.size * C:=by rw [Nat.mul_comm 2];exact Nat.mul_le_mul_left _ (by omega)
  have e2:2 * s.f1.size≤s.f1.size * C:=by rw [Nat.mul_comm 2];exact Nat.mul_le_mul_left _ (by omega)
  have e3:48 * bulkEs s.f2≤bulkEs s.f2 * C:=by rw [Nat.mul_comm 48];exact Nat.mul_le_mul_left _ (by omega)
  omega
theorem stmtsB_len (C:Nat) : ∀ l:List RS,okSs l→∀ d:Nat,6 * (d+bulkSs l)+60≤C→(stmtsB l (d:Int)).length≤bulkSs l * C
  | [],_,d,_=>by rw [stmtsB,bulkSs];exact Nat.zero_le _
  | y :: ys,ho,d,hd=>by
    rw [bulkSs] at hd ⊢
    rw [stmtsB,List.length_append,Nat.add_mul]
    exact Nat.add_le_add (stmtB_len C y ho.1 d (by omega)) (stmtsB_len C ys ho.2 d (by omega))
def convEn (x:REn):ES:=⟨x.f0,x.f1⟩
def convV (x:RV):VS:=⟨x.f0,x.f1,x.f2⟩
def okP (v:List RV) (p:List RP) (m:List RS):Prop:=(∀ x ∈ v,okI x.f2)∧(∀ x ∈ p,okSs x.f1)∧okSs m
theorem enumB_len (x:REn):(enumB (convEn x)).length≤20 * bulkEn x:=by
  unfold enumB
  have h:=lineB_len 0 [lit [101,110,117,109,32],(convEn x).f0,lit [32,123,32],strOf (joinF (convEn x).f1 (lit [44,32])),lit [32,125]]
  have hj:=joinF_len x.f1 (lit [44,32])
  have hz : ∀ l:List UInt8,(lit l).size=l.length:=size_lit
  have hb:(x.f1.map fun y=>y.size+(lit [44,32]).size).sum≤2 * bulkN x.f1:=by
    unfold bulkN
    generalize x.f1=l
    induction l with
    | nil=>exact Nat.zero_le _
    | cons y ys ih=>rw [List.map_cons,List.map_cons,List.sum_cons,List.sum_cons];rw [hz] at ih ⊢;simp only [List.length_cons,List.length_nil] at ih ⊢;omega
  simp only [List.map_cons,List.map_nil,List.sum_cons,List.sum_nil,hz,List.length_cons,List.length_nil,strOf_size,convEn] at h ⊢
  unfold bulkEn
  rw [show (((0:Nat)):Int)=0 from rfl] at h
  omega
theorem manyT_size (n:Int) (h:okI n):(manyT n).size≤23:=by
  unfold manyT
  have:=itoaB_size h
  split
  · have hz : ∀ l:List UInt8,(lit l).size=l.length:=size_lit
    rw [ByteArray.size_append,ByteArray.size_append,hz,hz];simp only [List.length_cons,List.length_nil];omega
  · exact Nat.zero_le _
theorem varB_len (x:RV) (h:okI x.f2):(varB (convV x)).length≤40 * bulkV x:=by
  unfold varB
  have h1:=lineB_len 0 [lit [118,97,114,32],(convV x).f0,lit [58,32],(convV x).f1,manyT (convV x).f2,lit [59]]
  have hz : ∀ l:List UInt8,(lit l).size=l.length:=size_lit
  have hm:=manyT_size _ h
  simp only [List.map_cons,List.map_nil,List.sum_cons,List.sum_nil,hz,List.length_cons,List.length_nil,convV] at h1 ⊢
  unfold bulkV
  rw [show (((0:Nat)):Int)=0 from rfl] at h1
  omega
theorem procB_len (C:Nat) (x:RP) (ho:okSs x.f1) (hC:6 * (1+bulkPr x)+60≤C):(procB x).length≤bulkPr x * C:=by
  unfold procB
  have h1:=lineB_len 0 [lit [112,114,111,99,32],x.f0,lit [32,123]]
  have h2:=lineB_len 0 [lit [125]]
  have hz : ∀ l:List UInt8,(lit l).size=l.length:=size_lit
  unfold bulkPr at hC ⊢
  have h3:=stmtsB_len C x.f1 ho 1 (by omega)
  simp only [List.map_cons,List.map_nil,List.sum_cons,List.sum_nil,hz,List.length_cons,List.length_nil] at h1 h2
  rw [show (((0:Nat)):Int)=0 from rfl] at h1 h2
  rw [List.length_append,List.length_append,Nat.add_mul,Nat.add_mul]
  have e1:x.f0.size≤x.f0.size * C:=Nat.le_mul_of_pos_right _ (by omega)
  rw [show (((1:Nat)):Int)=1 from rfl] at h3
  omega
theorem mainB_len (C:Nat) (m:List RS) (ho:okSs m) (hC:6 * (1+bulkSs m)+60≤C):(mainB m).length≤bulkSs m * C+20:=by
  unfold mainB
  have h1:=lineB_len 0 [lit [109,97,105,110,32,123]]
  have h2:=lineB_len 0 [lit [125]]
  have hz : ∀ l:List UInt8,(lit l).size=l.length:=size_lit
  have h3:=stmtsB_len C m ho 1 (by omega)
  simp only [List.map_cons,List.map_nil,List.sum_cons,List.sum_nil,hz,List.length_cons,List.length_nil] at h1 h2
  rw [show (((0:Nat)):Int)=0 from rfl] at h1 h2
  rw [show (((1:Nat)):Int)=1 from rfl] at h3
  rw [List.length_append,List.length_append]
  omega
theorem enumsB_len : ∀ l:List REn,(enumsB (l.map convEn)).length≤20 * (l.map bulkEn).sum
  | []=>Nat.zero_le _
  | x :: xs=>by
    rw [List.map_cons,enumsB,List.length_append,List.map_cons,List.sum_cons]
    have:=enumB_len x;have:=enumsB_len xs;omega
theorem varsB_len : ∀ l:List RV,(∀ x ∈ l,okI x.f2)→(varsB (l.map convV)).length≤40 * (l.map bulkV).sum
  | [],_=>Nat.zero_le _
  | x :: xs,h=>by
    rw [List.map_cons,varsB,List.length_append,List.map_cons,List.sum_cons]
    have:=varB_len x (h x (List.mem_cons_self ..));have:=varsB_len xs (fun y hy=>h y (List.mem_cons_of_mem _ hy));omega
theorem procsB_len (C:Nat) : ∀ l:List RP,(∀ x ∈ l,okSs x.f1)→6 * (1+(l.map bulkPr).sum)+60≤C→(procsB l).length≤(l.map bulkPr).sum * C
  | [],_,_=>Nat.zero_le _
  | x :: xs,h,hC=>by
    rw [List.map_cons,List.sum_cons] at hC
    rw [procsB,List.length_append,List.map_cons,List.sum_cons,Nat.add_mul]
    exact Nat.add_le_add (procB_len C x (h x (List.mem_cons_self ..)) (by omega)) (procsB_len C xs (fun y hy=>h y (List.mem_cons_of_mem _ hy)) (by omega))
theorem printOk_small (e:List REn) (v:List RV) (p:List RP) (m:List RS) (ho:okP v p m) (hb:bulkP e v p m≤2097152):PrintOk (e.map convEn) (v.map convV) p m:=by
  obtain ⟨hv,hp,hm⟩:=ho
  unfold bulkP at hb
  have l1:=len_sum bulkEn (fun x=>by unfold bulkEn;omega) e
  have l2:=len_sum bulkV (fun x=>by unfold bulkV;omega) v
  have l3:=len_sum bulkPr (fun x=>by unfold bulkPr;omega) p
  refine ⟨by rw [List.length_map];omega,by rw [List.length_map];omega,by omega,fun x hx=>?_,fun x hx=>?_,fun x hx=>⟨hp x hx,?_⟩,hm,by omega,?_⟩
  · obtain ⟨y,hy,rfl⟩:=List.mem_map.1 hx
    have:=mem_sum bulkEn hy
    have e1:bulkEn y=y.f0.size+bulkN y.f1+1:=rfl
    have h2:=len_bulkN y.f1
    show y.f1.length≤_
    omega
  · obtain ⟨y,hy,rfl⟩:=List.mem_map.1 hx
    exact hv y hy
  · have:=mem_sum bulkPr hx
    have e1:bulkPr x=x.f0.size+bulkSs x.f1+1:=rfl
    omega
  · unfold printB
    have a1:=enumsB_len e
    have a2:=varsB_len v hv
    have a3:=procsB_len 12583000 p hp (by omega)
    have a4:=mainB_len 12583000 m hm (by omega)
    simp only [List.length_append]
    omega
theorem all2_text {l m:List RE} (h : ∀ x ∈ l,∀ y,sameE x y=true→textE x=textE y∧cloE x=cloE y) (hs:sameEs l m=true):textEs l=textEs m∧cloEs l=cloEs m:=by
  induction l generalizing m with
  | nil=>
    cases m with
    | nil=>exact ⟨rfl,rfl⟩
    | cons y ys=>rw [sameEs] at hs;cases hs;all_goals simp_all
  | cons x xs ih=>
    cases m with
    | nil=>rw [sameEs] at hs;cases hs;all_goals simp_all
    | cons y ys=>
      rw [sameEs,Bool.and_eq_true] at hs
      obtain ⟨h1,h2⟩:=h x (List.mem_cons_self ..) y hs.1
      obtain ⟨h3,h4⟩:=ih (fun z hz=>h z (List.mem_cons_of_mem _ hz)) hs.2
      exact ⟨by rw [textEs,textEs,h1,h3],by rw [cloEs,cloEs,h2,h4]⟩
theorem same_text : ∀ x y:RE,sameE x y=true→textE x=textE y∧cloE x=cloE y:=RE.all fun x ih y hs=>by
  rw [sameE_eq] at hs
  simp only [Bool.and_eq_true,decide_eq_true_eq] at hs
  obtain ⟨h0,h1,h2,h3⟩:=hs
  obtain ⟨h4,h5⟩:=all2_text ih h3
  have:textE x=textE y:=by rw [textE_eq,textE_eq,h0,h1,h2,h4,h5]
  exact ⟨this,by rw [cloE_eq,cloE_eq,this,h0]⟩
theorem same_texts {l m:List RE} (h:sameEs l m=true):textEs l=textEs m:=(all2_text (fun x _ y=>same_text x y) h).1
theorem sameEs_len : ∀ {l m:List RE},sameEs l m=true→l.length=m.length
  | [],[],_=>rfl
  | _ :: _,[],h=>by simp [sameEs] at h
  | [],_ :: _,h=>by simp [sameEs] at h
  | x :: xs,y :: ys,h=>by rw [sameEs,Bool.and_eq_true] at h;rw [List.length_cons,List.length_cons,sameEs_len h.2]
theorem sameSs_len : ∀ {l m:List RS},sameSs l m=true→l.length=m.length
  | [],[],_=>rfl
  | _ :: _,[],h=>by simp [sameSs] at h
  | [],_ :: _,h=>by simp [sameSs] at h
  | x :: xs,y :: ys,h=>by rw [sameSs,Bool.and_eq_true] at h;rw [List.length_cons,List.length_cons,sameSs_len h.2]
theorem all2_stmts {l m:List RS} (h : ∀ x ∈ l,∀ y,sameS x y=true→∀ d,stmtB x d=stmtB y d) (hs:sameSs l m=true) (d:Int):stmtsB l d=stmtsB m d:=by
  induction l generalizing m with
  | nil=>
    cases m with
    | nil=>rfl
    | cons y ys=>simp [sameSs] at hs
  | cons x xs ih=>
    cases m with
    | nil=>simp [sameSs] at hs
    | cons y ys=>
      rw [sameSs,Bool.and_eq_true] at hs
      rw [stmtsB,stmtsB,h x (List.mem_cons_self ..) y hs.1 d,ih (fun z hz=>h z (List.mem_cons_of_mem _ hz)) hs.2]
theorem same_stmt : ∀ x y:RS,sameS x y=true→∀ d,stmtB x d=stmtB y d:=RS.all fun x iha ihb y hs d=>by
  rw [sameS_eq] at hs
  simp only [Bool.and_eq_true,decide_eq_true_eq] at hs
  obtain ⟨h0,h1,h2,h3,h4⟩:=hs
  rw [stmtB_eq,stmtB_eq,all2_stmts iha h3,all2_stmts ihb h4,sameSs_len h4]
  unfold stmtF
  rw [h0,h1,same_texts h2,sameEs_len h2]
theorem same_stmts {l m:List RS} (h:sameSs l m=true) (d:Int):stmtsB l d=stmtsB m d:=all2_stmts (fun x _ y=>same_stmt x y) h d
end Go.Proofs.YtnnbbeloifhofaaDoor.P
end
section
namespace Go.Proofs.YtnnbbeloifhofaaDoor.P
open Go Go.RowKit Go.Proofs
open Go.Proofs.YtnnbbeloifhofaaDoorW.PrintWords
open Go.Proofs.YtnnbbeloifhofaaDoor.Rows (uptoBulk uptoBulkAll)
set_option linter.unusedVariables false
section
variable {H:Type} {enc:TypeId × Value→H} {w:World} {base:Nat} {spare:Nat→Bool} {held:Bool}
theorem rd_int {t:TypeId} {k:IntKind} {fuel:Nat} {cs:List Value} {r:DataW H × List MemPlace} (ht:Tryd.prog.underlying t=some (.int k)) (h:DataW.trod enc Tryd.prog w base spare held fuel t cs=some r) :
    ∃ x:Int,cs=[.int k x]∧r.1=.lit (.int k x)∧(Lit.int k x).wf=true:=by
  obtain ⟨x,hc,hr,hw⟩:=DataW.trod_int ht h
  exact ⟨x,hc,by rw [hr],hw⟩
theorem rd_str {t:TypeId} {fuel:Nat} {cs:List Value} {r:DataW H × List MemPlace} (ht:Tryd.prog.underlying t=some .string) (h:DataW.trod enc Tryd.prog w base spare held fuel t cs=some r) :
    ∃ x:ByteArray,cs=[.string x]∧r.1=.lit (.string x.data.toList):=by
  obtain ⟨x,hc,hr,hw⟩:=DataW.trod_string ht h
  exact ⟨x,hc,by rw [hr]⟩
theorem rd_row {α:Type} {d:Kd α} {t e:TypeId} {R:α→DataW H→Prop} {fuel:Nat} {cs:List Value} {r:DataW H × List MemPlace} (ht:Tryd.prog.underlying t=some (.slice e)) (hc:Tryd.prog.cellsOf e=d.sz)
    (hel : ∀ n,n < fuel→∀ (cs:List Value) (r:DataW H × List MemPlace),DataW.trod enc Tryd.prog w base spare held n e cs=some r→∃ x,d.K w x cs∧R x r.1)
    (h:DataW.trod enc Tryd.prog w base spare held fuel t cs=some r) :
    ∃ (xs:List α) (A:Option Addr) (c:Nat),cs=[.slice A xs.length c]∧xs.length≤c∧d.C w A xs.length xs∧
      ((r.1=.nil∧xs=[])∨∃ ys zs,r.1=.slice ys zs∧ys.length=xs.length∧∀ (i:Nat) x y,xs[i]?=some x→ys[i]?=some y→R x y):=by
  rcases DataW.trod_slice ht h with ⟨rfl,rfl⟩ | ⟨a,len,cap,elems,rest,n,rfl,rfl,rfl,hb,hl,hm,hlen,hel2,hsp,hns⟩
  · exact ⟨[],none,0,rfl,Nat.le_refl _,Kd.C_nil _ _,.inl ⟨rfl,rfl⟩⟩
  · have hx : ∀ i,i < len→∃ x cs' q,w.cells? base (a.add (i * Tryd.prog.cellsOf e)) (Tryd.prog.cellsOf e)=some cs'∧d.K w x cs'∧elems[i]?=some q∧R x q.1:=fun i h=>by
      have h1:=hel2 i h
      rw [List.getElem?_eq_getElem (by omega)] at h1
      obtain ⟨cs',hcs,htr⟩:=Option.bind_eq_some_iff.1 h1
      obtain ⟨x,hK,hR⟩:=hel n (by omega) cs' _ htr
      exact ⟨x,cs',_,hcs,hK,List.getElem?_eq_getElem (by omega),hR⟩
    obtain ⟨xs,hlx,hxs⟩ : ∃ xs:List α,xs.length=len∧∀ i x,xs[i]?=some x→∃ cs' q,w.cells? base (a.add (i * Tryd.prog.cellsOf e)) (Tryd.prog.cellsOf e)=some cs'∧d.K w x cs'∧elems[i]?=some q∧R x q.1:=by
      clear hel2 h hm hl hlen hsp hns
      induction len with
      | zero=>exact ⟨[],rfl,fun i x h=>by simp at h⟩
      | succ k ih=>
        obtain ⟨xs,h1,h2⟩:=ih (fun i h=>hx i (by omega))
        obtain ⟨x,hxk⟩:=hx k (by omega)
        refine ⟨xs++[x],by simp [h1],fun i y hy=>?_⟩
        rcases Nat.lt_or_ge i k with hlt|hge
        · rw [List.getElem?_append_left (by omega)] at hy;exact h2 i y hy
        · rw [List.getElem?_append_right (by omega)] at hy
          have:i - xs.length=0:=by
            rcases Nat.eq_zero_or_pos (i - xs.length) with h|h
            · exact h
            · rw [List.getElem?_eq_none (by simp;omega)] at hy;cases hy
          obtain rfl:i=k:=by omega
          rw [this] at hy
          simp at hy
          subst hy
          exact hxk
    refine ⟨xs,some a,cap,by rw [hlx],by omega,?_,.inr ⟨_,_,rfl,by simp [hlx,hlen],?_⟩⟩
    · refine ⟨rfl,by unfold maxLen at hm;omega,fun _=>⟨a,rfl,fun j p hj=>?_⟩⟩
      obtain ⟨cs',_,hcs,hK,_⟩:=hxs j p hj
      obtain ⟨_,hl2,hcell⟩:=World.cells?_some hcs
      refine ⟨cs',by rw [hl2,hc],hK,fun i u hu=>?_⟩
      have hlt:i < Tryd.prog.cellsOf e:=by rw [← hl2];exact (List.getElem?_eq_some_iff.mp hu).1
      have:=hcell i hlt
      rw [Go.Deep.add_add a,hc] at this
      rw [this];exact hu
    · intro i x y hx hy
      obtain ⟨_,q,_,_,hq,hR⟩:=hxs i x hx
      rw [List.getElem?_map,hq] at hy
      obtain rfl:=Option.some.inj hy
      exact hR
theorem sum_bulk {α:Type} {f:α→Nat} {Q:α→Prop} : ∀ {xs:List α} {ys:List (DataW H)},ys.length=xs.length→(∀ (i:Nat) x y,xs[i]?=some x→ys[i]?=some y→f x≤uptoBulk y∧Q x)→(xs.map f).sum≤uptoBulkAll ys∧∀ x ∈ xs,Q x
  | [],ys,_,_=>⟨Nat.zero_le _,fun x h=>by cases h⟩
  | x :: xs,[],h,_=>by simp at h
  | x :: xs,y :: ys,h,hR=>by
    have h0:=hR 0 x y rfl rfl
    obtain ⟨h1,h2⟩:=sum_bulk (f:=f) (Q:=Q) (xs:=xs) (ys:=ys) (by simpa using h) (fun i a b ha hb=>hR (i+1) a b ha hb)
    refine ⟨?_,fun z hz=>?_⟩
    · rw [List.map_cons,List.sum_cons]
      show _≤uptoBulk y+uptoBulkAll ys
      omega
    · rcases List.mem_cons.1 hz with e|hz
      · exact e ▸ h0.2
      · exact h2 z hz
theorem rd_rowB {α:Type} {d:Kd α} {t e:TypeId} {f:α→Nat} {Q:α→Prop} {fuel:Nat} {cs:List Value} {r:DataW H × List MemPlace} (ht:Tryd.prog.underlying t=some (.slice e)) (hc:Tryd.prog.cellsOf e=d.sz)
    (hel : ∀ n,n < fuel→∀ (cs:List Value) (r:DataW H × List MemPlace),DataW.trod enc Tryd.prog w base spare held n e cs=some r→∃ x,d.K w x cs∧f x≤uptoBulk r.1∧Q x)
    (h:DataW.trod enc Tryd.prog w base spare held fuel t cs=some r) :
    ∃ (xs:List α) (A:Option Addr) (c:Nat),cs=[.slice A xs.length c]∧xs.length≤c∧d.C w A xs.length xs∧(xs.map f).sum+1≤uptoBulk r.1∧∀ x ∈ xs,Q x:=by
  obtain ⟨xs,A,c,h1,h2,h3,h4⟩:=rd_row (R:=fun x y=>f x≤uptoBulk y∧Q x) ht hc hel h
  refine ⟨xs,A,c,h1,h2,h3,?_⟩
  rcases h4 with ⟨e1,rfl⟩ | ⟨ys,zs,e1,hl,hR⟩
  · rw [e1];exact ⟨Nat.le_refl _,fun x h=>by cases h⟩
  · obtain ⟨h5,h6⟩:=sum_bulk hl hR
    rw [e1]
    refine ⟨?_,h6⟩
    show _≤uptoBulkAll ys+uptoBulkAll zs+1
    omega
theorem bulkEs_sum (l:List RE):bulkEs l=(l.map bulkE).sum:=by
  induction l with
  | nil=>rfl
  | cons x xs ih=>rw [bulkEs,List.map_cons,List.sum_cons,ih]
theorem bulkSs_sum (l:List RS):bulkSs l=(l.map bulkS).sum:=by
  induction l with
  | nil=>rfl
  | cons x xs ih=>rw [bulkSs,List.map_cons,List.sum_cons,ih]
theorem okEs_all {l:List RE} (h : ∀ x ∈ l,okE x):okEs l:=by
  induction l with
  | nil=>trivial
  | cons x xs ih=>exact ⟨h x (List.mem_cons_self ..),ih (fun y hy=>h y (List.mem_cons_of_mem _ hy))⟩
theorem okSs_all {l:List RS} (h : ∀ x ∈ l,okS x):okSs l:=by
  induction l with
  | nil=>trivial
  | cons x xs ih=>exact ⟨h x (List.mem_cons_self ..),ih (fun y hy=>h y (List.mem_cons_of_mem _ hy))⟩
theorem okI_wf {x:Int} (h:(Lit.int .i64 x).wf=true):okI x:=by
  have h2:IntKind.i64.min≤x∧x≤9223372036854775807:=by simpa [Lit.wf] using h
  rw [show IntKind.i64.min = -9223372036854775808 by decide +kernel] at h2
  exact h2
theorem str_bulk (x:ByteArray):uptoBulk (.lit (.string x.data.toList):DataW H)=x.size+1:=by
  show x.data.toList.length+1=_
  rw [Array.length_toList];rfl
theorem cRE:Tryd.prog.cellsOf 24=5:=by kernel_rfl
theorem cRS:Tryd.prog.cellsOf 29=6:=by kernel_rfl
theorem cI:Tryd.prog.cellsOf 3=1:=by kernel_rfl
theorem cS:Tryd.prog.cellsOf 9=1:=by kernel_rfl
theorem cLE:Tryd.prog.cellsOf 22=1:=by kernel_rfl
theorem cLS:Tryd.prog.cellsOf 27=1:=by kernel_rfl
set_option maxRecDepth 100000 in
theorem readE : ∀ (fuel:Nat) (cs:List Value) (r:DataW H × List MemPlace),DataW.trod enc Tryd.prog w base spare held fuel 24 cs=some r→
    ∃ x:RE,(∃ A c,cs=[.string x.f0,.string x.f1,.int .i64 x.f2,.slice A x.f3.length c,.int .i64 x.f4]∧x.f3.length≤c∧Kd.C k24 w A x.f3.length x.f3)∧bulkE x≤uptoBulk r.1∧okE x:=by
  intro fuel
  induction fuel using Nat.strongRecOn with
  | _ fuel ih=>
  intro cs r h
  obtain ⟨xs,n,rfl,rfl,hl,hx,hf⟩:=DataW.trod_struct Tryd.underlying24 h
  rw [cRE] at hl
  match cs,hl with
  | [c0,c1,c2,c3,c4],_=>
    match xs,hx with
    | [y0,y1,y2,y3,y4],_=>
      have h0:DataW.trod enc Tryd.prog w base spare held n 9 [c0]=some y0:=by
        have h:DataW.trod enc Tryd.prog w base spare held n 9 (List.take (Tryd.prog.cellsOf 9) (List.drop 0 [c0,c1,c2,c3,c4]))=some y0:=hf 0 _ rfl
        rw [cS] at h;exact h
      have h1:DataW.trod enc Tryd.prog w base spare held n 9 [c1]=some y1:=by
        have h:DataW.trod enc Tryd.prog w base spare held n 9 (List.take (Tryd.prog.cellsOf 9) (List.drop 1 [c0,c1,c2,c3,c4]))=some y1:=hf 1 _ rfl
        rw [cS] at h;exact h
      have h2:DataW.trod enc Tryd.prog w base spare held n 3 [c2]=some y2:=by
        have h:DataW.trod enc Tryd.prog w base spare held n 3 (List.take (Tryd.prog.cellsOf 3) (List.drop 2 [c0,c1,c2,c3,c4]))=some y2:=hf 2 _ rfl
        rw [cI] at h;exact h
      have h3:DataW.trod enc Tryd.prog w base spare held n 22 [c3]=some y3:=by
        have h:DataW.trod enc Tryd.prog w base spare held n 22 (List.take (Tryd.prog.cellsOf 22) (List.drop 3 [c0,c1,c2,c3,c4]))=some y3:=hf 3 _ rfl
        rw [cLE] at h;exact h
      have h4:DataW.trod enc Tryd.prog w base spare held n 3 [c4]=some y4:=by
        have h:DataW.trod enc Tryd.prog w base spare held n 3 (List.take (Tryd.prog.cellsOf 3) (List.drop 4 [c0,c1,c2,c3,c4]))=some y4:=hf 4 _ rfl
        rw [cI] at h;exact h
      obtain ⟨x0,e0,d0⟩:=rd_str Tryd.underlying9 h0
      obtain ⟨x1,e1,d1⟩:=rd_str Tryd.underlying9 h1
      obtain ⟨x2,e2,d2,w2⟩:=rd_int Tryd.underlying3 h2
      obtain ⟨x3,A3,k3,e3,l3,g3,b3,o3⟩:=rd_rowB (d:=k24) (f:=bulkE) (Q:=okE) Tryd.underlying22 (by rw [cRE];rfl) (fun m hm cs r hr=>by
        obtain ⟨x,⟨A,c,rfl,hl,hC⟩,hb,ho⟩:=ih m (by omega) cs r hr
        exact ⟨x,k24_mk w x hl hC,hb,ho⟩) h3
      obtain ⟨x4,e4,d4,w4⟩:=rd_int Tryd.underlying3 h4
      simp only [List.cons.injEq,and_true] at e0 e1 e2 e3 e4
      subst e0 e1 e2 e3 e4
      refine ⟨⟨x0,x1,x2,x3,x4⟩,⟨A3,k3,rfl,l3,g3⟩,?_,⟨okI_wf w2,okEs_all o3⟩⟩
      rw [bulkE,bulkEs_sum]
      show _≤(uptoBulk y0.1+(uptoBulk y1.1+(uptoBulk y2.1+(uptoBulk y3.1+(uptoBulk y4.1+0)))))+1
      rw [d0,d1,str_bulk,str_bulk]
      omega
theorem readEs (fuel:Nat) (cs:List Value) (r:DataW H × List MemPlace) (h:DataW.trod enc Tryd.prog w base spare held fuel 22 cs=some r) :
    ∃ (l:List RE) (A:Option Addr) (c:Nat),cs=[.slice A l.length c]∧l.length≤c∧Kd.C k24 w A l.length l∧bulkEs l+1≤uptoBulk r.1∧okEs l:=by
  obtain ⟨x3,A3,k3,e3,l3,g3,b3,o3⟩:=rd_rowB (d:=k24) (f:=bulkE) (Q:=okE) Tryd.underlying22 (by rw [cRE];rfl) (fun m hm cs r hr=>by
    obtain ⟨x,⟨A,c,rfl,hl,hC⟩,hb,ho⟩:=readE m cs r hr
    exact ⟨x,k24_mk w x hl hC,hb,ho⟩) h
  exact ⟨x3,A3,k3,e3,l3,g3,by rw [bulkEs_sum];exact b3,okEs_all o3⟩
set_option maxRecDepth 100000 in
theorem readS : ∀ (fuel:Nat) (cs:List Value) (r:DataW H × List MemPlace),DataW.trod enc Tryd.prog w base spare held fuel 29 cs=some r→
    ∃ x:RS,Kd.K k29 w x cs∧bulkS x≤uptoBulk r.1∧okS x:=by
  intro fuel
  induction fuel using Nat.strongRecOn with
  | _ fuel ih=>
  intro cs r h
  obtain ⟨xs,n,rfl,rfl,hl,hx,hf⟩:=DataW.trod_struct Tryd.underlying29 h
  rw [cRS] at hl
  match cs,hl with
  | [c0,c1,c2,c3,c4,c5],_=>
    match xs,hx with
    | [y0,y1,y2,y3,y4,y5],_=>
      have h0:DataW.trod enc Tryd.prog w base spare held n 9 [c0]=some y0:=by
        have h:DataW.trod enc Tryd.prog w base spare held n 9 (List.take (Tryd.prog.cellsOf 9) (List.drop 0 [c0,c1,c2,c3,c4,c5]))=some y0:=hf 0 _ rfl
        rw [cS] at h;exact h
      have h1:DataW.trod enc Tryd.prog w base spare held n 9 [c1]=some y1:=by
        have h:DataW.trod enc Tryd.prog w base spare held n 9 (List.take (Tryd.prog.cellsOf 9) (List.drop 1 [c0,c1,c2,c3,c4,c5]))=some y1:=hf 1 _ rfl
        rw [cS] at h;exact h
      have h2:DataW.trod enc Tryd.prog w base spare held n 22 [c2]=some y2:=by
        have h:DataW.trod enc Tryd.prog w base spare held n 22 (List.take (Tryd.prog.cellsOf 22) (List.drop 2 [c0,c1,c2,c3,c4,c5]))=some y2:=hf 2 _ rfl
        rw [cLE] at h;exact h
      have h3:DataW.trod enc Tryd.prog w base spare held n 27 [c3]=some y3:=by
        have h:DataW.trod enc Tryd.prog w base spare held n 27 (List.take (Tryd.prog.cellsOf 27) (List.drop 3 [c0,c1,c2,c3,c4,c5]))=some y3:=hf 3 _ rfl
        rw [cLS] at h;exact h
      have h4:DataW.trod enc Tryd.prog w base spare held n 27 [c4]=some y4:=by
        have h:DataW.trod enc Tryd.prog w base spare held n 27 (List.take (Tryd.prog.cellsOf 27) (List.drop 4 [c0,c1,c2,c3,c4,c5]))=some y4:=hf 4 _ rfl
        rw [cLS] at h;exact h
      have h5:DataW.trod enc Tryd.prog w base spare held n 3 [c5]=some y5:=by
        have h:DataW.trod enc Tryd.prog w base spare held n 3 (List.take (Tryd.prog.cellsOf 3) (List.drop 5 [c0,c1,c2,c3,c4,c5]))=some y5:=hf 5 _ rfl
        rw [cI] at h;exact h
      obtain ⟨x0,e0,d0⟩:=rd_str Tryd.underlying9 h0
      obtain ⟨x1,e1,d1⟩:=rd_str Tryd.underlying9 h1
      obtain ⟨x2,A2,k2,e2,l2,g2,b2,o2⟩:=readEs n _ _ h2
      obtain ⟨x3,A3,k3,e3,l3,g3,b3,o3⟩:=rd_rowB (d:=k29) (f:=bulkS) (Q:=okS) Tryd.underlying27 (by rw [cRS];rfl) (fun m hm cs r hr=>ih m (by omega) cs r hr) h3
      obtain ⟨x4,A4,k4,e4,l4,g4,b4,o4⟩:=rd_rowB (d:=k29) (f:=bulkS) (Q:=okS) Tryd.underlying27 (by rw [cRS];rfl) (fun m hm cs r hr=>ih m (by omega) cs r hr) h4
      obtain ⟨x5,e5,d5,w5⟩:=rd_int Tryd.underlying3 h5
      simp only [List.cons.injEq,and_true] at e0 e1 e2 e3 e4 e5
      subst e0 e1 e2 e3 e4 e5
      refine ⟨⟨x0,x1,x2,x3,x4,x5⟩,k29_mk w ⟨x0,x1,x2,x3,x4,x5⟩ l2 g2 l3 g3 l4 g4,?_,⟨o2,okSs_all o3,okSs_all o4⟩⟩
      rw [bulkS,bulkSs_sum,bulkSs_sum]
      show _≤(uptoBulk y0.1+(uptoBulk y1.1+(uptoBulk y2.1+(uptoBulk y3.1+(uptoBulk y4.1+(uptoBulk y5.1+0))))))+1
      rw [d0,d1,str_bulk,str_bulk]
      omega
theorem readSs (fuel:Nat) (cs:List Value) (r:DataW H × List MemPlace) (h:DataW.trod enc Tryd.prog w base spare held fuel 27 cs=some r) :
    ∃ (l:List RS) (A:Option Addr) (c:Nat),cs=[.slice A l.length c]∧l.length≤c∧Kd.C k29 w A l.length l∧bulkSs l+1≤uptoBulk r.1∧okSs l:=by
  obtain ⟨x3,A3,k3,e3,l3,g3,b3,o3⟩:=rd_rowB (d:=k29) (f:=bulkS) (Q:=okS) Tryd.underlying27 (by rw [cRS];rfl) (fun m hm cs r hr=>readS m cs r hr) h
  exact ⟨x3,A3,k3,e3,l3,g3,by rw [bulkSs_sum];exact b3,okSs_all o3⟩
end
end Go.Proofs.YtnnbbeloifhofaaDoor.P
end
section
namespace Go.Proofs.YtnnbbeloifhofaaDoor.P
open Go.RowKit Go.Proofs.YtnnbbeloifhofaaDoorW.PrintWords Go.Proofs.YtnnbbeloifhofaaDoorW.PrintLast Go.Proofs.YtnnbbeloifhofaaDoorW.PrintMore
attribute [local go_sem] max2_int min2_int max_two min_two max_three min_three max_four min_four
set_option linter.unusedVariables false
set_option linter.unusedSimpArgs false
def tree_Sized.l0:Nat→Int→List (S66)→Int→Int→Option (Int)
 | 0,_,_,_,_=>none
 | k+1,x3,x10,x11,x12=>if x12 < x11 then (if 0≤x12 then (if x12 < (x10.length:Int) then ((tree_stmts.f k ((rd_T66 x10 x12).f1)).bind fun t248=>(tree_Sized.l0 k (wrap64 (x3+t248)) x10 x11 (wrap64 (x12+1)))) else (none)) else (none)) else (some x3)
def tree_Sized.f (k:Nat) (l0_0:List (S79)) (l0_1:List (S80)) (l0_2:List (S66)) (l0_3:List (S76)):Option (Int):=(tree_stmts.f k l0_3).bind fun t245=>(tree_Sized.l0 k t245 l0_2 (l0_2.length:Int) 0)
set_option maxHeartbeats 8000000 in
set_option maxRecDepth 100000 in
theorem tree_Sized.calls (k:Nat) (A0_0:Option Addr) (c0_0:Nat) (l0_0:List (S79)) (A0_1:Option Addr) (c0_1:Nat) (l0_1:List (S80)) (A0_2:Option Addr) (c0_2:Nat) (l0_2:List (S66)) (A0_3:Option Addr) (c0_3:Nat) (l0_3:List (S76)) (r:Int) (w:World) (hr0_0:Kd.C k79 w A0_0 l0_0.length l0_0) (hc0_0:l0_0.length≤c0_0) (hr0_1:Kd.C k80 w A0_1 l0_1.length l0_1) (hc0_1:l0_1.length≤c0_1) (hr0_2:Kd.C k66 w A0_2 l0_2.length l0_2) (hc0_2:l0_2.length≤c0_2) (hr0_3:Kd.C k76 w A0_3 l0_3.length l0_3) (hc0_3:l0_3.length≤c0_3) (h:tree_Sized.f k l0_0 l0_1 l0_2 l0_3=some r) :
  Calls Tryd.prog 20 #[.agg #[.slice A0_0 l0_0.length c0_0,.slice A0_1 l0_1.length c0_1,.slice A0_2 l0_2.length c0_2,.slice A0_3 l0_3.length c0_3]] w fun e w'=>e=.returned (.int .i64 r)∧Below w.heap.size w w':=by
 have hu50:=Tryd.underlying50
 have hu66:=Tryd.underlying66
 have HR0_0:=Aside0.mk hr0_0
 have HC0_0:=Aside0.mk hc0_0
 clear hr0_0 hc0_0
 have HR0_1:=Aside0.mk hr0_1
 have HC0_1:=Aside0.mk hc0_1
 clear hr0_1 hc0_1
 have HR0_2:=Aside0.mk hr0_2
 have HC0_2:=Aside0.mk hc0_2
 clear hr0_2 hc0_2
 have HR0_3:=Aside0.mk hr0_3
 have HC0_3:=Aside0.mk hc0_3
 clear hr0_3 hc0_3
 have HB:=Aside0.mk (Below.refl w.heap.size w)
 have H:((tree_stmts.f k l0_3).bind fun t245=>(tree_Sized.l0 k t245 l0_2 (l0_2.length:Int) 0))=some r:=h
 clear h
 replace H:=Option.bind_eq_some_iff.mp H
 obtain ⟨t245,A20,H⟩:=H
 replace H:(tree_Sized.l0 k t245 l0_2 (l0_2.length:Int) 0)=some r:=H
 have A2:=Aside0.mk A20
 clear A20
 have H':=Aside0.mk H
 clear H
 go_enter Tryd.func20,Tryd.ntmps20
 go_wp2_with (first|((with_reducible refine gate_dst (N:=1) rfl ?_);refine box_event ?hg (N:=1) ?hd (cs:=#[.slice A0_0 l0_0.length c0_0,.slice A0_1 l0_1.length c0_1,.slice A0_2 l0_2.length c0_2,.slice A0_3 l0_3.length c0_3]) (t:=50) ?hr ?_;(case hd=>rfl);(case hg=>rfl);(case hr=>first|(go_simp;done)|(go_simp;rfl));intro gb244 hg w3 hbox hb;have n0_:=Aside0.mk (below_step (bl_ HB.out) hb);have n1_:=Aside0.mk (hbox);have n2_:=Aside0.mk ((gs_ hg (bl_ HB.out):w.heap.size≤gb244));have n3_:=Aside0.mk ((gs_ hg (bl_ HB.out):w.heap.size≤gb244));clear HB;have HB:=n0_;have BK244:=n1_;have GW244:=n2_;have GE244:=n3_;clear n0_ n1_ n2_ n3_;clear hb hbox hg;have hcz4_0:w3.cell? ⟨gb244,0,none⟩=some (.slice A0_0 l0_0.length c0_0):=zc_ BK244.out 0;have hcz4_1:w3.cell? ⟨gb244,1,none⟩=some (.slice A0_1 l0_1.length c0_1):=zc_ BK244.out 1;have hcz4_2:w3.cell? ⟨gb244,2,none⟩=some (.slice A0_2 l0_2.length c0_2):=zc_ BK244.out 2;have hcz4_3:w3.cell? ⟨gb244,3,none⟩=some (.slice A0_3 l0_3.length c0_3):=zc_ BK244.out 3;have hfz4_0:=blk_frozen BK244.out 0;have hfz4_1:=blk_frozen BK244.out 1;have hfz4_2:=blk_frozen BK244.out 2;have hfz4_3:=blk_frozen BK244.out 3)|((with_reducible refine gate_callee (f:=36) rfl ?_);refine goesL_ (some 8) rfl rfl Tryd.func36 (by kernel_rfl) rfl #[.slice A0_3 l0_3.length c0_3] rfl ar_ ?_;(with_reducible refine (tree_stmts.calls k _ _ l0_3 t245 _ ?side1 ?side2 A2.out).mono ?_);(case side1=>exact kc_ HR0_3.out HB.out);(case side2=>exact HC0_3.out);rintro e w5 ⟨rfl,hb⟩;refine ⟨_,rfl,?_⟩;have n0_:=Aside0.mk (bb_ BK244.out hb);have n1_:=Aside0.mk (below_step (bl_ HB.out) hb);clear BK244;clear HB;have BK244:=n0_;have HB:=n1_;clear n0_ n1_;(try clear hb);(try clear hb2);(try clear hk);(try clear hi);have hcz6_0:w5.cell? ⟨gb244,0,none⟩=some (.slice A0_0 l0_0.length c0_0):=zc_ BK244.out 0;have hcz6_1:w5.cell? ⟨gb244,1,none⟩=some (.slice A0_1 l0_1.length c0_1):=zc_ BK244.out 1;have hcz6_2:w5.cell? ⟨gb244,2,none⟩=some (.slice A0_2 l0_2.length c0_2):=zc_ BK244.out 2;have hcz6_3:w5.cell? ⟨gb244,3,none⟩=some (.slice A0_3 l0_3.length c0_3):=zc_ BK244.out 3;have hfz6_0:=blk_frozen BK244.out 0;have hfz6_1:=blk_frozen BK244.out 1;have hfz6_2:=blk_frozen BK244.out 2;have hfz6_3:=blk_frozen BK244.out 3))
 (try simp only [Act.put,List.setIfInBounds_toArray,List.set_cons_succ,List.set_cons_zero])
 go_loopg [3,12] k (fun kq v3 v12 w'=>∃ (x3_1:Int) (x12_1:Int),v3=.int .i64 x3_1∧v12=.int .i64 x12_1∧Aside0 (tree_Sized.l0 kq x3_1 l0_2 (l0_2.length:Int) x12_1=some r)∧Aside0 (kq≤k)∧Aside0 (w'.heap[gb244]?=some (.cells #[(.slice A0_0 l0_0.length c0_0),(.slice A0_1 l0_1.length c0_1),(.slice A0_2 l0_2.length c0_2),(.slice A0_3 l0_3.length c0_3)] 50 (0,0)))∧Aside0 (Below w.heap.size w w'))
 case atStart=>exact ⟨(t245),(0),rf_,rf_,H',⟨Nat.le_refl _⟩,⟨kb_ BK244.out⟩,⟨bl_ HB.out⟩⟩
 case round=>
  clear H'
  (try clear c2);(try clear p2);(try clear c3);(try clear hcz4_0);(try clear hcz4_1);(try clear hcz4_2);(try clear hcz4_3);(try clear hcz6_0);(try clear hcz6_1);(try clear hcz6_2);(try clear hcz6_3);(try clear hfz4_0);(try clear hfz4_1);(try clear hfz4_2);(try clear hfz4_3);(try clear hfz6_0);(try clear hfz6_1);(try clear hfz6_2);(try clear hfz6_3)
  obtain ⟨x3_1,x12_1,rfl,rfl,HA,HK1,BK244,HB⟩:=hrel
  cases gk with
  | zero=>exact absurd HA.out (by simp [tree_Sized.l0])
  | succ k1=>
   have H:=HA.out
   clear HA
   simp only [tree_Sized.l0] at H
   by_cases c7:x12_1 < (l0_2.length:Int)
   ·rw [if_pos c7] at H
    have c7b0:decide (x12_1 < (l0_2.length:Int))=true:=decide_eq_true c7
    clear c7
    by_cases c8:0≤x12_1
    ·rw [if_pos c8] at H
     have c8b0:decide (0≤x12_1)=true:=decide_eq_true c8
     clear c8
     by_cases c9:x12_1 < (l0_2.length:Int)
     ·rw [if_pos c9] at H
      have c9b0:decide (x12_1 < (l0_2.length:Int))=true:=decide_eq_true c9
      clear c9
      replace H:=Option.bind_eq_some_iff.mp H
      obtain ⟨t248,A100,H⟩:=H
      replace H:(tree_Sized.l0 k1 (wrap64 (x3_1+t248)) l0_2 (l0_2.length:Int) (wrap64 (x12_1+1)))=some r:=H
      have A10:=Aside0.mk A100
      clear A100
      have H':=Aside0.mk H
      clear H
      have p246:0≤(x12_1:Int):=of_decide_eq_true as_
      have q246:x12_1 < (l0_2.length:Int):=of_decide_eq_true as_
      obtain ⟨ad246,A246_1,c246_1,e246,hx246_0,hx246_1,hl246_1,hi246_1⟩:=at_T66 HR0_2.out x12_1 p246 q246
      cases e246
      replace hx246_0:=(cb_ HB.out hx246_0:_)
      replace hx246_1:=(cb_ HB.out hx246_1:_)
      have HR246_1:=Aside0.mk hi246_1
      have HC246_1:=Aside0.mk hl246_1
      clear hi246_1 hl246_1
      replace p246:=eq_true p246
      replace q246:=eq_true q246
      go_wp2_with (first|((with_reducible refine gate_dst (N:=5) rfl ?_);refine box_event ?hg (N:=5) ?hd (cs:=#[.string (⟨#[]⟩:ByteArray),.slice none 0 0]) (t:=66) ?hr ?_;(case hd=>rfl);(case hg=>rfl);(case hr=>first|(go_simp;done)|(go_simp;rfl));intro gb247 hg w11 hbox hb;have n0_:=Aside0.mk (bb_ BK244.out hb);have n1_:=Aside0.mk (below_step (bl_ HB.out) hb);have n2_:=Aside0.mk (hbox);have n3_:=Aside0.mk ((gs_ hg (bl_ HB.out):w.heap.size≤gb247));have n4_:=Aside0.mk ((gs_ hg (bl_ HB.out):w.heap.size≤gb247));have n5_:=Aside0.mk ((nl_ hg BK244.out:gb244≠gb247));have n6_:=Aside0.mk ((nr_ hg BK244.out:gb247≠gb244));clear BK244;clear HB;have BK244:=n0_;have HB:=n1_;have BK247:=n2_;have GW247:=n3_;have GE247:=n4_;have NB244_247:=n5_;have NB247_244:=n6_;clear n0_ n1_ n2_ n3_ n4_ n5_ n6_;clear hb hbox hg;have hnb12:=NB247_244.out;have hnc12:=NB244_247.out;have hcz13_0:w11.cell? ⟨gb247,0,none⟩=some (.string (⟨#[]⟩:ByteArray)):=zc_ BK247.out 0;have hcz13_1:w11.cell? ⟨gb247,1,none⟩=some (.slice none 0 0):=zc_ BK247.out 1;have hfz13_0:=blk_frozen BK247.out 0;have hfz13_1:=blk_frozen BK247.out 1)|((with_reducible refine gate_callee (f:=36) rfl ?_);refine goesL_ (some 19) rfl rfl Tryd.func36 (by kernel_rfl) rfl #[.slice A246_1 ((rd_T66 l0_2 x12_1).f1).length c246_1] rfl ar_ ?_;(with_reducible refine (tree_stmts.calls k1 _ _ ((rd_T66 l0_2 x12_1).f1) t248 _ ?side1 ?side2 A10.out).mono ?_);(case side1=>exact Kd.C_below HR246_1.out (bl_ HB.out));(case side2=>exact HC246_1.out);rintro e w14 ⟨rfl,hb⟩;refine ⟨_,rfl,?_⟩;have n0_:=Aside0.mk (blk_below (g:=gb244) (o:=.cells #[.slice A0_0 l0_0.length c0_0,.slice A0_1 l0_1.length c0_1,.slice (some ad246) l0_2.length c0_2,.slice A0_3 l0_3.length c0_3] 50 (0,0)) (kbc_ BK244.out) hb);have n1_:=Aside0.mk (blk_below (g:=gb247) (o:=.cells #[.string ((rd_T66 l0_2 x12_1).f0),.slice A246_1 ((rd_T66 l0_2 x12_1).f1).length c246_1] 66 (0,0)) (kbc_ BK247.out) hb);have n2_:=Aside0.mk (below_step (bl_ HB.out) hb);clear BK244;clear BK247;clear HB;have BK244:=n0_;have BK247:=n1_;have HB:=n2_;clear n0_ n1_ n2_;(try clear hb);(try clear hb2);(try clear hk);(try clear hi)))
      go_roundg k1
      case measure=>have:=HK1.out;omega
      case rel=>exact ⟨(wrap64 (x3_1+t248)),(wrap64 (x12_1+1)),rf_,rf_,H',⟨by have:=HK1.out;omega⟩,⟨kb_ BK244.out⟩,⟨bl_ HB.out⟩⟩
     ·rw [if_neg c9] at H
      exact absurd H (by simp)
    ·rw [if_neg c8] at H
     exact absurd H (by simp)
   ·rw [if_neg c7] at H
    have c7b0:decide (x12_1 < (l0_2.length:Int))=false:=decide_eq_false c7
    clear c7
    obtain rfl:=Option.some.inj H
    go_wp2
    go_ret
    exact ⟨rt_,bl_ HB.out⟩
end Go.Proofs.YtnnbbeloifhofaaDoor.P
end
section
namespace Go.Proofs.YtnnbbeloifhofaaDoor.P
open Go Go.RowKit Go.Proofs
open Go.Proofs.YtnnbbeloifhofaaDoorW.PrintWords Go.Proofs.YtnnbbeloifhofaaDoorW.PrintLast Go.Proofs.YtnnbbeloifhofaaDoorW.PrintMore
set_option linter.unusedVariables false
section
variable (e:List REn) (v:List RV) (p:List RP) (m:List RS)
structure Small:Prop where
  en:e.length < 1099511627776
  va:v.length < 1099511627776
  pr:p.length < 1099511627776
  el : ∀ x ∈ e,x.f1.length < 1099511627776
  bo : ∀ x ∈ p,bulkSs x.f1 < 1099511627775
  ma:bulkSs m < 1099511627775
theorem small_of (hb:bulkP e v p m < 1099511627775):Small e v p m:=by
  unfold bulkP at hb
  have l1:=len_sum bulkEn (fun x=>by unfold bulkEn;omega) e
  have l2:=len_sum bulkV (fun x=>by unfold bulkV;omega) v
  have l3:=len_sum bulkPr (fun x=>by unfold bulkPr;omega) p
  refine ⟨by omega,by omega,by omega,fun x hx=>?_,fun x hx=>?_,by omega⟩
  · have:=mem_sum bulkEn hx
    have e1:bulkEn x=x.f0.size+bulkN x.f1+1:=rfl
    have:=len_bulkN x.f1
    omega
  · have:=mem_sum bulkPr hx
    have e1:bulkPr x=x.f0.size+bulkSs x.f1+1:=rfl
    omega
end
theorem strs_ev (xs ys:List ByteArray) (hlim:xs.length < 4611686018427387904):Ev (fun k=>slices_Equal_string_string.f k xs ys) (all2 (fun a b=>decide (a=b)) xs ys):=by
  unfold slices_Equal_string_string.f
  by_cases hl:xs.length=ys.length
  · refine Ev.yes (by omega) ?_
    rw [← Bool.and_true (all2 _ xs ys)]
    refine all_step xs ys ByteArray.empty ByteArray.empty (fun k i=>slices_Equal_string_string.l0 k xs ys (xs.length:Int) i) (fun a b=>decide (a=b)) true hl hlim ?_ ?_
    · intro i hi r hr
      refine Ev.step (fun k=>slices_Equal_string_string.l0.eq_2 _ _ _ _ k) (Ev.yes (by omega) (Ev.yes (by omega) (Ev.yes (by omega) (Ev.yes (by omega) ?_))))
      show Ev _ (decide (xs.getD i ByteArray.empty=ys.getD i ByteArray.empty) && r)
      by_cases h:xs.getD i ByteArray.empty=ys.getD i ByteArray.empty
      · refine Ev.yes (show (xs.getD i ByteArray.empty).toList=(ys.getD i ByteArray.empty).toList from toList_iff.2 h) ?_
        rw [decide_eq_true h,Bool.true_and];exact hr
      · refine Ev.no (show ¬ (xs.getD i ByteArray.empty).toList=(ys.getD i ByteArray.empty).toList from fun e=>h (toList_iff.1 e)) ?_
        rw [decide_eq_false h,Bool.false_and];exact Ev.now _
    · exact Ev.step (fun k=>slices_Equal_string_string.l0.eq_2 _ _ _ _ k) (Ev.no (by omega) (Ev.now _))
  · refine Ev.no (by omega) ?_
    rw [all2_len hl];exact Ev.now _
def sameEn (x y:REn):Bool:=decide (x.f0=y.f0) && all2 (fun a b=>decide (a=b)) x.f1 y.f1
theorem ens_ev (xs ys:List REn) (hlim:xs.length < 4611686018427387904) (hin : ∀ x ∈ xs,x.f1.length < 4611686018427387904):Ev (fun k=>tree_Enum_at_tree_Same_1.f k (xs.map convEn) (ys.map convEn)) (all2 sameEn xs ys):=by
  unfold tree_Enum_at_tree_Same_1.f
  rw [List.length_map,List.length_map]
  by_cases hl:xs.length=ys.length
  · refine Ev.yes (by omega) ?_
    rw [← Bool.and_true (all2 _ xs ys)]
    refine all_step xs ys z72 z72 (fun k i=>tree_Enum_at_tree_Same_1.l0 k (ys.map convEn) (xs.map convEn) (xs.length:Int) i) sameEn true hl hlim ?_ ?_
    · intro i hi r hr
      have hm:=getD_mem' z72 hi
      refine Ev.step (fun k=>tree_Enum_at_tree_Same_1.l0.eq_2 _ _ _ _ k) (Ev.yes (by omega) (Ev.yes (by omega) (Ev.yes (by rw [List.length_map];omega) (Ev.yes (by rw [List.length_map];omega) ?_))))
      rw [show rd_T79 (xs.map convEn) (i:Int)=convEn (xs.getD i z72) from getD_map' convEn xs i _ _ hi,show rd_T79 (ys.map convEn) (i:Int)=convEn (ys.getD i z72) from getD_map' convEn ys i _ _ (by omega)]
      have hq:=hin _ hm
      revert hq
      generalize xs.getD i z72=x
      generalize ys.getD i z72=y
      intro hq
      have:Ev (fun k=>tree_Same_1.f k (convEn x).f0 (convEn x).f1 (convEn y).f0 (convEn y).f1) (sameEn x y):=by
        unfold tree_Same_1.f sameEn
        by_cases h:x.f0=y.f0
        · refine Ev.yes (toList_iff.2 h) ?_
          rw [decide_eq_true h,Bool.true_and]
          exact Ev.bind (strs_ev x.f1 y.f1 hq) (Ev.now _)
        · refine Ev.no (fun e=>h (toList_iff.1 e)) ?_
          rw [decide_eq_false h,Bool.false_and];exact Ev.now _
      refine Ev.bind this ?_
      cases e:sameEn x y with
      | false=>exact Ev.no (by simp) (Ev.now _)
      | true=>exact Ev.yes rfl (by rw [Bool.true_and];exact hr)
    · exact Ev.step (fun k=>tree_Enum_at_tree_Same_1.l0.eq_2 _ _ _ _ k) (Ev.no (by omega) (Ev.now _))
  · refine Ev.no (by omega) ?_
    rw [all2_len hl];exact Ev.now _
def sameV (x y:RV):Bool:=decide (x.f0=y.f0) && (decide (x.f1=y.f1) && decide (x.f2=y.f2))
theorem vars_ev (xs ys:List RV) (hlim:xs.length < 4611686018427387904):Ev (fun k=>tree_Var.f k (xs.map convV) (ys.map convV)) (all2 sameV xs ys):=by
  unfold tree_Var.f
  rw [List.length_map,List.length_map]
  by_cases hl:xs.length=ys.length
  · refine Ev.yes (by omega) ?_
    rw [← Bool.and_true (all2 _ xs ys)]
    refine all_step xs ys z56 z56 (fun k i=>tree_Var.l0 k (xs.map convV) (ys.map convV) (xs.length:Int) i) sameV true hl hlim ?_ ?_
    · intro i hi r hr
      refine Ev.step (fun k=>tree_Var.l0.eq_2 _ _ _ _ k) (Ev.yes (by omega) (Ev.yes (by omega) (Ev.yes (by rw [List.length_map];omega) (Ev.yes (by rw [List.length_map];omega) ?_))))
      rw [show rd_T80 (xs.map convV) (i:Int)=convV (xs.getD i z56) from getD_map' convV xs i _ _ hi,show rd_T80 (ys.map convV) (i:Int)=convV (ys.getD i z56) from getD_map' convV ys i _ _ (by omega)]
      generalize xs.getD i z56=x
      generalize ys.getD i z56=y
      have e:(!((convV x).f0.toList == (convV y).f0.toList) || (!((convV x).f1.toList == (convV y).f1.toList) || !((convV x).f2 == (convV y).f2))) = !(sameV x y):=by
        have a0:((convV x).f0.toList == (convV y).f0.toList)=decide (x.f0=y.f0):=by
          rw [Bool.eq_iff_iff,beq_iff_eq,decide_eq_true_eq];exact toList_iff
        have a1:((convV x).f1.toList == (convV y).f1.toList)=decide (x.f1=y.f1):=by
          rw [Bool.eq_iff_iff,beq_iff_eq,decide_eq_true_eq];exact toList_iff
        have a2:((convV x).f2 == (convV y).f2)=decide (x.f2=y.f2):=by
          rw [Bool.eq_iff_iff,beq_iff_eq,decide_eq_true_eq];exact Iff.rfl
        rw [a0,a1,a2];unfold sameV;simp only [Bool.not_and]
      rw [e]
      cases h:sameV x y with
      | false=>exact Ev.yes rfl (Ev.now _)
      | true=>exact Ev.no (by simp) (by rw [Bool.true_and];exact hr)
    · exact Ev.step (fun k=>tree_Var.l0.eq_2 _ _ _ _ k) (Ev.no (by omega) (Ev.now _))
  · refine Ev.no (by omega) ?_
    rw [all2_len hl];exact Ev.now _
def samePr (x y:RP):Bool:=decide (x.f0=y.f0) && sameSs x.f1 y.f1
theorem procs_ev (xs ys:List RP) (hlim:xs.length < 4611686018427387904) (hin : ∀ x ∈ xs,bulkSs x.f1 < 1099511627775):Ev (fun k=>tree_Proc_at_tree_Same_2.f k (convPs xs) (convPs ys)) (all2 samePr xs ys):=by
  unfold tree_Proc_at_tree_Same_2.f
  rw [convPs_len,convPs_len]
  by_cases hl:xs.length=ys.length
  · refine Ev.yes (by omega) ?_
    rw [← Bool.and_true (all2 _ xs ys)]
    refine all_step xs ys z69 z69 (fun k i=>tree_Proc_at_tree_Same_2.l0 k (convPs ys) (convPs xs) (xs.length:Int) i) samePr true hl hlim ?_ ?_
    · intro i hi r hr
      have hm:=getD_mem' z69 hi
      refine Ev.step (fun k=>tree_Proc_at_tree_Same_2.l0.eq_2 _ _ _ _ k) (Ev.yes (by omega) (Ev.yes (by omega) (Ev.yes (by rw [convPs_len];omega) (Ev.yes (by rw [convPs_len];omega) ?_))))
      rw [show rd_T66 (convPs xs) (i:Int)=convP (xs.getD i z69) from getD_map' convP xs i _ _ hi,show rd_T66 (convPs ys) (i:Int)=convP (ys.getD i z69) from getD_map' convP ys i _ _ (by omega)]
      have hq:=hin _ hm
      revert hq
      generalize xs.getD i z69=x
      generalize ys.getD i z69=y
      intro hq
      have:Ev (fun k=>tree_Same_2.f k (convP x).f0 (convP x).f1 (convP y).f0 (convP y).f1) (samePr x y):=by
        unfold tree_Same_2.f samePr
        by_cases h:x.f0=y.f0
        · refine Ev.yes (toList_iff.2 h) ?_
          rw [decide_eq_true h,Bool.true_and]
          exact Ev.bind (tSameSs_ev x.f1 y.f1 hq) (Ev.now _)
        · refine Ev.no (fun e=>h (toList_iff.1 e)) ?_
          rw [decide_eq_false h,Bool.false_and];exact Ev.now _
      refine Ev.bind this ?_
      cases e:samePr x y with
      | false=>exact Ev.no (by simp) (Ev.now _)
      | true=>exact Ev.yes rfl (by rw [Bool.true_and];exact hr)
    · exact Ev.step (fun k=>tree_Proc_at_tree_Same_2.l0.eq_2 _ _ _ _ k) (Ev.no (by omega) (Ev.now _))
  · refine Ev.no (by omega) ?_
    rw [all2_len hl];exact Ev.now _
def sameP (e:List REn) (v:List RV) (p:List RP) (m:List RS) (e':List REn) (v':List RV) (p':List RP) (m':List RS):Bool:=all2 sameEn e e' && (all2 sameV v v' && (all2 samePr p p' && sameSs m m'))
theorem Same_ev (e:List REn) (v:List RV) (p:List RP) (m:List RS) (h:Small e v p m) (e':List REn) (v':List RV) (p':List RP) (m':List RS) :
    Ev (fun k=>tree_Same.f k (e.map convEn) (v.map convV) (convPs p) (convSs m) (e'.map convEn) (v'.map convV) (convPs p') (convSs m')) (sameP e v p m e' v' p' m'):=by
  have h1:=h.en
  have h2:=h.va
  have h3:=h.pr
  unfold tree_Same.f sameP
  refine Ev.bind (ens_ev e e' (by omega) (fun x hx=>by have:=h.el x hx;omega)) ?_
  cases all2 sameEn e e' with
  | false=>exact Ev.no (by simp) (Ev.now _)
  | true=>
    refine Ev.yes rfl (Ev.bind (vars_ev v v' (by omega)) ?_)
    cases all2 sameV v v' with
    | false=>exact Ev.no (by simp) (Ev.now _)
    | true=>
      refine Ev.yes rfl (Ev.bind (procs_ev p p' (by omega) h.bo) ?_)
      cases all2 samePr p p' with
      | false=>exact Ev.no (by simp) (Ev.now _)
      | true=>exact Ev.yes rfl (Ev.bind (tSameSs_ev m m' h.ma) (by simp only [Bool.true_and];exact Ev.now _))
end Go.Proofs.YtnnbbeloifhofaaDoor.P
end
section
namespace Go.Proofs.YtnnbbeloifhofaaDoor.P
open Go Go.RowKit Go.Proofs
open Go.Proofs.YtnnbbeloifhofaaDoorW.PrintWords Go.Proofs.YtnnbbeloifhofaaDoorW.PrintLast Go.Proofs.YtnnbbeloifhofaaDoorW.PrintMore
set_option linter.unusedVariables false
theorem C_one {α:Type} {d:Kd α} {w:World} {b:Nat} {c:List Value} {t:TypeId} {x:α} (hb:w.heap[b]?=some (.cells c.toArray t (0,0))) (hK:d.K w x c):d.C w (some ⟨b,0,none⟩) [x].length [x]:=by
  refine ⟨rfl,by simp,fun _=>⟨⟨b,0,none⟩,rfl,fun j p hj=>?_⟩⟩
  match j,hj with
  | 0,hj=>
    obtain rfl:x=p:=by simpa using hj
    refine ⟨c,d.K_len hK,hK,fun i u hu=>?_⟩
    rw [Nat.zero_mul,Nat.zero_add,add_plain,blk_cell hb]
    simpa using hu
  | j+1,hj=>simp at hj
theorem C_two {α:Type} {d:Kd α} {w:World} {b:Nat} {c c':List Value} {t:TypeId} {x y:α} (hb:w.heap[b]?=some (.cells (c++c').toArray t (0,0))) (hK:d.K w x c) (hK':d.K w y c'):d.C w (some ⟨b,0,none⟩) [x,y].length [x,y]:=by
  refine ⟨rfl,by simp,fun _=>⟨⟨b,0,none⟩,rfl,fun j p hj=>?_⟩⟩
  match j,hj with
  | 0,hj=>
    obtain rfl:x=p:=by simpa using hj
    refine ⟨c,d.K_len hK,hK,fun i u hu=>?_⟩
    rw [Nat.zero_mul,Nat.zero_add,add_plain,blk_cell hb]
    have hi:i < c.length:=by
      rcases Nat.lt_or_ge i c.length with h|h
      · exact h
      · rw [List.getElem?_eq_none h] at hu;cases hu
    simpa [List.getElem?_append_left hi] using hu
  | 1,hj=>
    obtain rfl:y=p:=by simpa using hj
    refine ⟨c',d.K_len hK',hK',fun i u hu=>?_⟩
    have hl:=d.K_len hK
    rw [Nat.one_mul,add_plain,blk_cell hb,← hl]
    have h2:(c++c')[c.length+i]?=c'[i]?:=by rw [List.getElem?_append_right (by omega)];congr 1;omega
    simpa [h2] using hu
  | j+2,hj=>simp at hj
theorem blk_at {W:World} {n:Nat} (hn:W.heap.size=n) (o:Obj):(W.alloc o).heap[n]?=some o:=hn ▸ blk_new W o
theorem size_at {W:World} {n:Nat} (hn:W.heap.size=n) (o:Obj):(W.alloc o).heap.size=n+1:=by simp [hn]
def aX:TE:=⟨lit [110,97,109,101],lit [120],0,[],0⟩
def aOne:TE:=⟨lit [110,117,109],lit [],1,[],0⟩
def aAt:TE:=⟨lit [97,116],lit [97],0,[aX],0⟩
def aNeg:TE:=⟨lit [110,101,103],lit [],0,[aX],0⟩
def aPlus:TE:=⟨lit [43],lit [],0,[aOne,aAt],0⟩
def aE:TE:=⟨lit [45],lit [],0,[aNeg,aPlus],0⟩
def aS:TS:=⟨lit [115,101,116],lit [120],[aE],[],[],0⟩
def aliveW (w:World):World:=((((((((((w.alloc (.cells #[.string ⟨#[110,97,109,101]⟩,.string ⟨#[120]⟩,.int .i64 0,.slice none 0 0,.int .i64 0] 33 (0,0))).alloc (.cells #[.string ⟨#[110,117,109]⟩,.string ⟨#[]⟩,.int .i64 1,.slice none 0 0,.int .i64 0] 33 (0,0))).alloc (.cells #[.string ⟨#[110,97,109,101]⟩,.string ⟨#[120]⟩,.int .i64 0,.slice none 0 0,.int .i64 0] 33 (0,0))).alloc (.cells #[.string ⟨#[110,97,109,101]⟩,.string ⟨#[120]⟩,.int .i64 0,.slice none 0 0,.int .i64 0] 33 (0,0))).alloc (.cells #[.string ⟨#[110,117,109]⟩,.string ⟨#[]⟩,.int .i64 1,.slice none 0 0,.int .i64 0,.string ⟨#[97,116]⟩,.string ⟨#[97]⟩,.int .i64 0,.slice (some ⟨(w.heap.size+1+1+1),0,none⟩) 1 1,.int .i64 0] 33 (0,0))).alloc (.cells #[.string ⟨#[110,101,103]⟩,.string ⟨#[]⟩,.int .i64 0,.slice (some ⟨(w.heap.size+1+1),0,none⟩) 1 1,.int .i64 0,.string ⟨#[43]⟩,.string ⟨#[]⟩,.int .i64 0,.slice (some ⟨(w.heap.size+1+1+1+1),0,none⟩) 2 2,.int .i64 0] 33 (0,0))).alloc (.cells #[.string ⟨#[45]⟩,.string ⟨#[]⟩,.int .i64 0,.slice (some ⟨(w.heap.size+1+1+1+1+1),0,none⟩) 2 2,.int .i64 0] 33 (0,0))).alloc (.cells #[.string ⟨#[45]⟩,.string ⟨#[]⟩,.int .i64 0,.slice (some ⟨(w.heap.size+1+1+1+1+1),0,none⟩) 2 2,.int .i64 0] 33 (0,0))).alloc (.cells #[.string ⟨#[115,101,116]⟩,.string ⟨#[120]⟩,.slice (some ⟨(w.heap.size+1+1+1+1+1+1+1),0,none⟩) 1 1,.slice none 0 0,.slice none 0 0,.int .i64 0] 76 (0,0))).alloc (.cells #[.slice none 0 0,.slice none 0 0,.slice none 0 0,.slice (some ⟨(w.heap.size+1+1+1+1+1+1+1+1),0,none⟩) 1 1] 50 (0,0)))
structure AliveAt (w W:World):Prop where
  below:Below w.heap.size w W
  B6:W.heap[(w.heap.size+1+1+1+1+1+1)]?=some (.cells #[.string ⟨#[45]⟩,.string ⟨#[]⟩,.int .i64 0,.slice (some ⟨(w.heap.size+1+1+1+1+1),0,none⟩) 2 2,.int .i64 0] 33 (0,0))
  B9:W.heap[(w.heap.size+1+1+1+1+1+1+1+1+1)]?=some (.cells #[.slice none 0 0,.slice none 0 0,.slice none 0 0,.slice (some ⟨(w.heap.size+1+1+1+1+1+1+1+1),0,none⟩) 1 1] 50 (0,0))
  C5:Kd.C k33 W (some ⟨(w.heap.size+1+1+1+1+1),0,none⟩) [aNeg,aPlus].length [aNeg,aPlus]
  C8:Kd.C k76 W (some ⟨(w.heap.size+1+1+1+1+1+1+1+1),0,none⟩) [aS].length [aS]
theorem AliveAt.later {w W W':World} (h:AliveAt w W) (hb:Below W.heap.size W W'):AliveAt w W':=
  ⟨h.below.trans (hb.mono h.below.size),blk_below h.B6 hb,blk_below h.B9 hb,Kd.C_below h.C5 hb,Kd.C_below h.C8 hb⟩
theorem aliveW_at (w:World):AliveAt w (aliveW w):=by
  have hb:Below w.heap.size w (aliveW w):=below_alloc (below_alloc (below_alloc (below_alloc (below_alloc (below_alloc (below_alloc (below_alloc (below_alloc (below_alloc (Below.refl _ _) _) _) _) _) _) _) _) _) _) _
  have B2:(aliveW w).heap[(w.heap.size+1+1)]?=some (.cells #[.string ⟨#[110,97,109,101]⟩,.string ⟨#[120]⟩,.int .i64 0,.slice none 0 0,.int .i64 0] 33 (0,0)):=by unfold aliveW;exact blk_alloc (blk_alloc (blk_alloc (blk_alloc (blk_alloc (blk_alloc (blk_alloc (blk_at (size_at (size_at (rfl) _) _) _) _) _) _) _) _) _) _
  have B3:(aliveW w).heap[(w.heap.size+1+1+1)]?=some (.cells #[.string ⟨#[110,97,109,101]⟩,.string ⟨#[120]⟩,.int .i64 0,.slice none 0 0,.int .i64 0] 33 (0,0)):=by unfold aliveW;exact blk_alloc (blk_alloc (blk_alloc (blk_alloc (blk_alloc (blk_alloc (blk_at (size_at (size_at (size_at (rfl) _) _) _) _) _) _) _) _) _) _
  have B4:(aliveW w).heap[(w.heap.size+1+1+1+1)]?=some (.cells #[.string ⟨#[110,117,109]⟩,.string ⟨#[]⟩,.int .i64 1,.slice none 0 0,.int .i64 0,.string ⟨#[97,116]⟩,.string ⟨#[97]⟩,.int .i64 0,.slice (some ⟨(w.heap.size+1+1+1),0,none⟩) 1 1,.int .i64 0] 33 (0,0)):=by unfold aliveW;exact blk_alloc (blk_alloc (blk_alloc (blk_alloc (blk_alloc (blk_at (size_at (size_at (size_at (size_at (rfl) _) _) _) _) _) _) _) _) _) _
  have B5:(aliveW w).heap[(w.heap.size+1+1+1+1+1)]?=some (.cells #[.string ⟨#[110,101,103]⟩,.string ⟨#[]⟩,.int .i64 0,.slice (some ⟨(w.heap.size+1+1),0,none⟩) 1 1,.int .i64 0,.string ⟨#[43]⟩,.string ⟨#[]⟩,.int .i64 0,.slice (some ⟨(w.heap.size+1+1+1+1),0,none⟩) 2 2,.int .i64 0] 33 (0,0)):=by unfold aliveW;exact blk_alloc (blk_alloc (blk_alloc (blk_alloc (blk_at (size_at (size_at (size_at (size_at (size_at (rfl) _) _) _) _) _) _) _) _) _) _
  have B6:(aliveW w).heap[(w.heap.size+1+1+1+1+1+1)]?=some (.cells #[.string ⟨#[45]⟩,.string ⟨#[]⟩,.int .i64 0,.slice (some ⟨(w.heap.size+1+1+1+1+1),0,none⟩) 2 2,.int .i64 0] 33 (0,0)):=by unfold aliveW;exact blk_alloc (blk_alloc (blk_alloc (blk_at (size_at (size_at (size_at (size_at (size_at (size_at (rfl) _) _) _) _) _) _) _) _) _) _
  have B7:(aliveW w).heap[(w.heap.size+1+1+1+1+1+1+1)]?=some (.cells #[.string ⟨#[45]⟩,.string ⟨#[]⟩,.int .i64 0,.slice (some ⟨(w.heap.size+1+1+1+1+1),0,none⟩) 2 2,.int .i64 0] 33 (0,0)):=by unfold aliveW;exact blk_alloc (blk_alloc (blk_at (size_at (size_at (size_at (size_at (size_at (size_at (size_at (rfl) _) _) _) _) _) _) _) _) _) _
  have B8:(aliveW w).heap[(w.heap.size+1+1+1+1+1+1+1+1)]?=some (.cells #[.string ⟨#[115,101,116]⟩,.string ⟨#[120]⟩,.slice (some ⟨(w.heap.size+1+1+1+1+1+1+1),0,none⟩) 1 1,.slice none 0 0,.slice none 0 0,.int .i64 0] 76 (0,0)):=by unfold aliveW;exact blk_alloc (blk_at (size_at (size_at (size_at (size_at (size_at (size_at (size_at (size_at (rfl) _) _) _) _) _) _) _) _) _) _
  have B9:(aliveW w).heap[(w.heap.size+1+1+1+1+1+1+1+1+1)]?=some (.cells #[.slice none 0 0,.slice none 0 0,.slice none 0 0,.slice (some ⟨(w.heap.size+1+1+1+1+1+1+1+1),0,none⟩) 1 1] 50 (0,0)):=by unfold aliveW;exact blk_at (size_at (size_at (size_at (size_at (size_at (size_at (size_at (size_at (size_at (rfl) _) _) _) _) _) _) _) _) _) _
  generalize aliveW w=W at hb B2 B3 B4 B5 B6 B7 B8 B9 ⊢
  have C0:Kd.C k33 W none ([]:List TE).length []:=Kd.C_nil _ _
  have Z0:Kd.C k76 W none ([]:List TS).length []:=Kd.C_nil _ _
  have kX:=k33_mk W aX (A3:=none) (c3:=0) (Nat.le_refl _) C0
  have k1:=k33_mk W aOne (A3:=none) (c3:=0) (Nat.le_refl _) C0
  have C2:=C_one (c:=[.string ⟨#[110,97,109,101]⟩,.string ⟨#[120]⟩,.int .i64 0,.slice none 0 0,.int .i64 0]) B2 kX
  have C3:=C_one (c:=[.string ⟨#[110,97,109,101]⟩,.string ⟨#[120]⟩,.int .i64 0,.slice none 0 0,.int .i64 0]) B3 kX
  have kAt:=k33_mk W aAt (A3:=some ⟨(w.heap.size+1+1+1),0,none⟩) (c3:=1) (Nat.le_refl _) C3
  have kNeg:=k33_mk W aNeg (A3:=some ⟨(w.heap.size+1+1),0,none⟩) (c3:=1) (Nat.le_refl _) C2
  have C4:=C_two (c:=[.string ⟨#[110,117,109]⟩,.string ⟨#[]⟩,.int .i64 1,.slice none 0 0,.int .i64 0]) (c':=[.string ⟨#[97,116]⟩,.string ⟨#[97]⟩,.int .i64 0,.slice (some ⟨(w.heap.size+1+1+1),0,none⟩) 1 1,.int .i64 0]) B4 k1 kAt
  have kPlus:=k33_mk W aPlus (A3:=some ⟨(w.heap.size+1+1+1+1),0,none⟩) (c3:=2) (Nat.le_refl _) C4
  have C5:=C_two (c:=[.string ⟨#[110,101,103]⟩,.string ⟨#[]⟩,.int .i64 0,.slice (some ⟨(w.heap.size+1+1),0,none⟩) 1 1,.int .i64 0]) (c':=[.string ⟨#[43]⟩,.string ⟨#[]⟩,.int .i64 0,.slice (some ⟨(w.heap.size+1+1+1+1),0,none⟩) 2 2,.int .i64 0]) B5 kNeg kPlus
  have kE:=k33_mk W aE (A3:=some ⟨(w.heap.size+1+1+1+1+1),0,none⟩) (c3:=2) (Nat.le_refl _) C5
  have C7:=C_one (c:=[.string ⟨#[45]⟩,.string ⟨#[]⟩,.int .i64 0,.slice (some ⟨(w.heap.size+1+1+1+1+1),0,none⟩) 2 2,.int .i64 0]) B7 kE
  have kS:=k76_mk W aS (A2:=some ⟨(w.heap.size+1+1+1+1+1+1+1),0,none⟩) (c2:=1) (Nat.le_refl _) C7 (A3:=none) (c3:=0) (Nat.le_refl _) Z0 (A4:=none) (c4:=0) (Nat.le_refl _) Z0
  exact ⟨hb,B6,B9,C5,C_one (c:=[.string ⟨#[115,101,116]⟩,.string ⟨#[120]⟩,.slice (some ⟨(w.heap.size+1+1+1+1+1+1+1),0,none⟩) 1 1,.slice none 0 0,.slice none 0 0,.int .i64 0]) B8 kS⟩
theorem alive_ok:PrintOk [] [] [] (backSs [aS]) where
  hE:=by decide
  hV:=by decide
  hP:=by decide
  hJ:=fun e h=>by cases h
  hI:=fun e h=>by cases h
  hB:=fun e h=>by cases h
  hM:=by simp [backSs,backS,backEs,backE,aS,aE,aNeg,aPlus,aOne,aAt,aX,okSs,okS,okEs,okE,okI]
  hMb:=by decide +kernel
  hlen:=by decide +kernel
theorem alive_print:tree_Print.f [] [] [] [aS]=some (⟨#[109,97,105,110,32,123,10,32,32,120,32,61,32,40,45,120,41,32,45,32,40,49,32,43,32,97,91,120,93,41,59,10,125,10]⟩:ByteArray):=by
  unfold tree_Print.f
  rw [show backPs []=[] from rfl,if_pos ((printOkB_iff ..).2 alive_ok)]
  exact congrArg some (show strOf (printB [] [] [] (backSs [aS]))=_ by kernel_rfl)
set_option maxHeartbeats 4000000 in
set_option maxRecDepth 100000 in
theorem alive_pr (w:World) (hT:TabT w):Calls Tryd.prog 10 #[] w fun e w'=>e=.returned (.bool true)∧Below w.heap.size w w':=by
  go_enter Tryd.func10,Tryd.ntmps10
  go_wp2_with fail
  show Calls _ _ _ (aliveW w) _
  have HA:=Aside0.mk (aliveW_at w)
  generalize aliveW w=w1 at HA ⊢
  refine (tree_Text.calls 40 (lit [45]) (lit []) 0 (some ⟨(w.heap.size+1+1+1+1+1),0,none⟩) 2 [aNeg,aPlus] 0 (⟨#[40,45,120,41,32,45,32,40,49,32,43,32,97,91,120,93,41]⟩:ByteArray) w1 (hT.later HA.out.below) HA.out.C5 (Nat.le_refl _) (by kernel_rfl)).mono ?_
  rintro e_ w2 ⟨rfl,hb⟩
  have HA:=Aside0.mk (HA.out.later hb)
  clear hb
  have y0:w2.cell? ⟨(w.heap.size+1+1+1+1+1+1),0,none⟩=some (.string ⟨#[45]⟩):=(blk_cell HA.out.B6 0).trans rfl
  have y1:w2.cell? ⟨(w.heap.size+1+1+1+1+1+1),1,none⟩=some (.string ⟨#[]⟩):=(blk_cell HA.out.B6 1).trans rfl
  have y2:w2.cell? ⟨(w.heap.size+1+1+1+1+1+1),2,none⟩=some (.int .i64 0):=(blk_cell HA.out.B6 2).trans rfl
  have y3:w2.cell? ⟨(w.heap.size+1+1+1+1+1+1),3,none⟩=some (.slice (some ⟨(w.heap.size+1+1+1+1+1),0,none⟩) 2 2):=(blk_cell HA.out.B6 3).trans rfl
  have y4:w2.cell? ⟨(w.heap.size+1+1+1+1+1+1),4,none⟩=some (.int .i64 0):=(blk_cell HA.out.B6 4).trans rfl
  have x0:w2.cell? ⟨(w.heap.size+1+1+1+1+1+1+1+1+1),0,none⟩=some (.slice none 0 0):=(blk_cell HA.out.B9 0).trans rfl
  have x1:w2.cell? ⟨(w.heap.size+1+1+1+1+1+1+1+1+1),1,none⟩=some (.slice none 0 0):=(blk_cell HA.out.B9 1).trans rfl
  have x2:w2.cell? ⟨(w.heap.size+1+1+1+1+1+1+1+1+1),2,none⟩=some (.slice none 0 0):=(blk_cell HA.out.B9 2).trans rfl
  have x3:w2.cell? ⟨(w.heap.size+1+1+1+1+1+1+1+1+1),3,none⟩=some (.slice (some ⟨(w.heap.size+1+1+1+1+1+1+1+1),0,none⟩) 1 1):=(blk_cell HA.out.B9 3).trans rfl
  go_wp2_with fail
  refine (tree_Deep.calls 40 (lit [45]) (lit []) 0 (some ⟨(w.heap.size+1+1+1+1+1),0,none⟩) 2 [aNeg,aPlus] 0 4 w2 HA.out.C5 (Nat.le_refl _) (by kernel_rfl)).mono ?_
  rintro e_ w3 ⟨rfl,hb⟩
  have HA:=Aside0.mk (HA.out.later hb)
  clear y0 y1 y2 y3 y4 x0 x1 x2 x3
  clear hb
  have y0:w3.cell? ⟨(w.heap.size+1+1+1+1+1+1),0,none⟩=some (.string ⟨#[45]⟩):=(blk_cell HA.out.B6 0).trans rfl
  have y1:w3.cell? ⟨(w.heap.size+1+1+1+1+1+1),1,none⟩=some (.string ⟨#[]⟩):=(blk_cell HA.out.B6 1).trans rfl
  have y2:w3.cell? ⟨(w.heap.size+1+1+1+1+1+1),2,none⟩=some (.int .i64 0):=(blk_cell HA.out.B6 2).trans rfl
  have y3:w3.cell? ⟨(w.heap.size+1+1+1+1+1+1),3,none⟩=some (.slice (some ⟨(w.heap.size+1+1+1+1+1),0,none⟩) 2 2):=(blk_cell HA.out.B6 3).trans rfl
  have y4:w3.cell? ⟨(w.heap.size+1+1+1+1+1+1),4,none⟩=some (.int .i64 0):=(blk_cell HA.out.B6 4).trans rfl
  have x0:w3.cell? ⟨(w.heap.size+1+1+1+1+1+1+1+1+1),0,none⟩=some (.slice none 0 0):=(blk_cell HA.out.B9 0).trans rfl
  have x1:w3.cell? ⟨(w.heap.size+1+1+1+1+1+1+1+1+1),1,none⟩=some (.slice none 0 0):=(blk_cell HA.out.B9 1).trans rfl
  have x2:w3.cell? ⟨(w.heap.size+1+1+1+1+1+1+1+1+1),2,none⟩=some (.slice none 0 0):=(blk_cell HA.out.B9 2).trans rfl
  have x3:w3.cell? ⟨(w.heap.size+1+1+1+1+1+1+1+1+1),3,none⟩=some (.slice (some ⟨(w.heap.size+1+1+1+1+1+1+1+1),0,none⟩) 1 1):=(blk_cell HA.out.B9 3).trans rfl
  go_wp2_with fail
  refine (tree_Depth.calls 40 (some ⟨(w.heap.size+1+1+1+1+1+1+1+1),0,none⟩) 1 [aS] 1 w3 HA.out.C8 (Nat.le_refl _) (by kernel_rfl)).mono ?_
  rintro e_ w4 ⟨rfl,hb⟩
  have HA:=Aside0.mk (HA.out.later hb)
  clear y0 y1 y2 y3 y4 x0 x1 x2 x3
  clear hb
  have y0:w4.cell? ⟨(w.heap.size+1+1+1+1+1+1),0,none⟩=some (.string ⟨#[45]⟩):=(blk_cell HA.out.B6 0).trans rfl
  have y1:w4.cell? ⟨(w.heap.size+1+1+1+1+1+1),1,none⟩=some (.string ⟨#[]⟩):=(blk_cell HA.out.B6 1).trans rfl
  have y2:w4.cell? ⟨(w.heap.size+1+1+1+1+1+1),2,none⟩=some (.int .i64 0):=(blk_cell HA.out.B6 2).trans rfl
  have y3:w4.cell? ⟨(w.heap.size+1+1+1+1+1+1),3,none⟩=some (.slice (some ⟨(w.heap.size+1+1+1+1+1),0,none⟩) 2 2):=(blk_cell HA.out.B6 3).trans rfl
  have y4:w4.cell? ⟨(w.heap.size+1+1+1+1+1+1),4,none⟩=some (.int .i64 0):=(blk_cell HA.out.B6 4).trans rfl
  have x0:w4.cell? ⟨(w.heap.size+1+1+1+1+1+1+1+1+1),0,none⟩=some (.slice none 0 0):=(blk_cell HA.out.B9 0).trans rfl
  have x1:w4.cell? ⟨(w.heap.size+1+1+1+1+1+1+1+1+1),1,none⟩=some (.slice none 0 0):=(blk_cell HA.out.B9 1).trans rfl
  have x2:w4.cell? ⟨(w.heap.size+1+1+1+1+1+1+1+1+1),2,none⟩=some (.slice none 0 0):=(blk_cell HA.out.B9 2).trans rfl
  have x3:w4.cell? ⟨(w.heap.size+1+1+1+1+1+1+1+1+1),3,none⟩=some (.slice (some ⟨(w.heap.size+1+1+1+1+1+1+1+1),0,none⟩) 1 1):=(blk_cell HA.out.B9 3).trans rfl
  go_wp2_with fail
  refine (tree_Sized.calls 40 none 0 ([]:List S79) none 0 ([]:List S80) none 0 ([]:List S66) (some ⟨(w.heap.size+1+1+1+1+1+1+1+1),0,none⟩) 1 [aS] 8 w4 (Kd.C_nil (α:=S79) k79 _) (Nat.le_refl _) (Kd.C_nil (α:=S80) k80 _) (Nat.le_refl _) (Kd.C_nil (α:=S66) k66 _) (Nat.le_refl _) HA.out.C8 (Nat.le_refl _) (by kernel_rfl)).mono ?_
  rintro e_ w5 ⟨rfl,hb⟩
  have HA:=Aside0.mk (HA.out.later hb)
  clear y0 y1 y2 y3 y4 x0 x1 x2 x3
  clear hb
  have y0:w5.cell? ⟨(w.heap.size+1+1+1+1+1+1),0,none⟩=some (.string ⟨#[45]⟩):=(blk_cell HA.out.B6 0).trans rfl
  have y1:w5.cell? ⟨(w.heap.size+1+1+1+1+1+1),1,none⟩=some (.string ⟨#[]⟩):=(blk_cell HA.out.B6 1).trans rfl
  have y2:w5.cell? ⟨(w.heap.size+1+1+1+1+1+1),2,none⟩=some (.int .i64 0):=(blk_cell HA.out.B6 2).trans rfl
  have y3:w5.cell? ⟨(w.heap.size+1+1+1+1+1+1),3,none⟩=some (.slice (some ⟨(w.heap.size+1+1+1+1+1),0,none⟩) 2 2):=(blk_cell HA.out.B6 3).trans rfl
  have y4:w5.cell? ⟨(w.heap.size+1+1+1+1+1+1),4,none⟩=some (.int .i64 0):=(blk_cell HA.out.B6 4).trans rfl
  have x0:w5.cell? ⟨(w.heap.size+1+1+1+1+1+1+1+1+1),0,none⟩=some (.slice none 0 0):=(blk_cell HA.out.B9 0).trans rfl
  have x1:w5.cell? ⟨(w.heap.size+1+1+1+1+1+1+1+1+1),1,none⟩=some (.slice none 0 0):=(blk_cell HA.out.B9 1).trans rfl
  have x2:w5.cell? ⟨(w.heap.size+1+1+1+1+1+1+1+1+1),2,none⟩=some (.slice none 0 0):=(blk_cell HA.out.B9 2).trans rfl
  have x3:w5.cell? ⟨(w.heap.size+1+1+1+1+1+1+1+1+1),3,none⟩=some (.slice (some ⟨(w.heap.size+1+1+1+1+1+1+1+1),0,none⟩) 1 1):=(blk_cell HA.out.B9 3).trans rfl
  go_wp2_with fail
  refine (tree_Same.calls 40 none 0 ([]:List S79) none 0 ([]:List S80) none 0 ([]:List S66) (some ⟨(w.heap.size+1+1+1+1+1+1+1+1),0,none⟩) 1 [aS] none 0 ([]:List S79) none 0 ([]:List S80) none 0 ([]:List S66) (some ⟨(w.heap.size+1+1+1+1+1+1+1+1),0,none⟩) 1 [aS] true w5 (Kd.C_nil (α:=S79) k79 _) (Nat.le_refl _) (Kd.C_nil (α:=S80) k80 _) (Nat.le_refl _) (Kd.C_nil (α:=S66) k66 _) (Nat.le_refl _) HA.out.C8 (Nat.le_refl _) (Kd.C_nil (α:=S79) k79 _) (Nat.le_refl _) (Kd.C_nil (α:=S80) k80 _) (Nat.le_refl _) (Kd.C_nil (α:=S66) k66 _) (Nat.le_refl _) HA.out.C8 (Nat.le_refl _) (by kernel_rfl)).mono ?_
  rintro e_ w6 ⟨rfl,hb⟩
  have HA:=Aside0.mk (HA.out.later hb)
  clear y0 y1 y2 y3 y4 x0 x1 x2 x3
  clear hb
  have y0:w6.cell? ⟨(w.heap.size+1+1+1+1+1+1),0,none⟩=some (.string ⟨#[45]⟩):=(blk_cell HA.out.B6 0).trans rfl
  have y1:w6.cell? ⟨(w.heap.size+1+1+1+1+1+1),1,none⟩=some (.string ⟨#[]⟩):=(blk_cell HA.out.B6 1).trans rfl
  have y2:w6.cell? ⟨(w.heap.size+1+1+1+1+1+1),2,none⟩=some (.int .i64 0):=(blk_cell HA.out.B6 2).trans rfl
  have y3:w6.cell? ⟨(w.heap.size+1+1+1+1+1+1),3,none⟩=some (.slice (some ⟨(w.heap.size+1+1+1+1+1),0,none⟩) 2 2):=(blk_cell HA.out.B6 3).trans rfl
  have y4:w6.cell? ⟨(w.heap.size+1+1+1+1+1+1),4,none⟩=some (.int .i64 0):=(blk_cell HA.out.B6 4).trans rfl
  have x0:w6.cell? ⟨(w.heap.size+1+1+1+1+1+1+1+1+1),0,none⟩=some (.slice none 0 0):=(blk_cell HA.out.B9 0).trans rfl
  have x1:w6.cell? ⟨(w.heap.size+1+1+1+1+1+1+1+1+1),1,none⟩=some (.slice none 0 0):=(blk_cell HA.out.B9 1).trans rfl
  have x2:w6.cell? ⟨(w.heap.size+1+1+1+1+1+1+1+1+1),2,none⟩=some (.slice none 0 0):=(blk_cell HA.out.B9 2).trans rfl
  have x3:w6.cell? ⟨(w.heap.size+1+1+1+1+1+1+1+1+1),3,none⟩=some (.slice (some ⟨(w.heap.size+1+1+1+1+1+1+1+1),0,none⟩) 1 1):=(blk_cell HA.out.B9 3).trans rfl
  go_wp2_with fail
  refine (tree_SameExpr.calls 40 (lit [45]) (lit []) 0 (some ⟨(w.heap.size+1+1+1+1+1),0,none⟩) 2 [aNeg,aPlus] 0 (lit [45]) (lit []) 0 (some ⟨(w.heap.size+1+1+1+1+1),0,none⟩) 2 [aNeg,aPlus] 0 true w6 HA.out.C5 (Nat.le_refl _) HA.out.C5 (Nat.le_refl _) (by kernel_rfl)).mono ?_
  rintro e_ w7 ⟨rfl,hb⟩
  have HA:=Aside0.mk (HA.out.later hb)
  clear y0 y1 y2 y3 y4 x0 x1 x2 x3
  clear hb
  have y0:w7.cell? ⟨(w.heap.size+1+1+1+1+1+1),0,none⟩=some (.string ⟨#[45]⟩):=(blk_cell HA.out.B6 0).trans rfl
  have y1:w7.cell? ⟨(w.heap.size+1+1+1+1+1+1),1,none⟩=some (.string ⟨#[]⟩):=(blk_cell HA.out.B6 1).trans rfl
  have y2:w7.cell? ⟨(w.heap.size+1+1+1+1+1+1),2,none⟩=some (.int .i64 0):=(blk_cell HA.out.B6 2).trans rfl
  have y3:w7.cell? ⟨(w.heap.size+1+1+1+1+1+1),3,none⟩=some (.slice (some ⟨(w.heap.size+1+1+1+1+1),0,none⟩) 2 2):=(blk_cell HA.out.B6 3).trans rfl
  have y4:w7.cell? ⟨(w.heap.size+1+1+1+1+1+1),4,none⟩=some (.int .i64 0):=(blk_cell HA.out.B6 4).trans rfl
  have x0:w7.cell? ⟨(w.heap.size+1+1+1+1+1+1+1+1+1),0,none⟩=some (.slice none 0 0):=(blk_cell HA.out.B9 0).trans rfl
  have x1:w7.cell? ⟨(w.heap.size+1+1+1+1+1+1+1+1+1),1,none⟩=some (.slice none 0 0):=(blk_cell HA.out.B9 1).trans rfl
  have x2:w7.cell? ⟨(w.heap.size+1+1+1+1+1+1+1+1+1),2,none⟩=some (.slice none 0 0):=(blk_cell HA.out.B9 2).trans rfl
  have x3:w7.cell? ⟨(w.heap.size+1+1+1+1+1+1+1+1+1),3,none⟩=some (.slice (some ⟨(w.heap.size+1+1+1+1+1+1+1+1),0,none⟩) 1 1):=(blk_cell HA.out.B9 3).trans rfl
  go_wp2_with fail
  refine (tree_Print.calls none 0 ([]:List S79) none 0 ([]:List S80) none 0 ([]:List S66) (some ⟨(w.heap.size+1+1+1+1+1+1+1+1),0,none⟩) 1 [aS] (⟨#[109,97,105,110,32,123,10,32,32,120,32,61,32,40,45,120,41,32,45,32,40,49,32,43,32,97,91,120,93,41,59,10,125,10]⟩:ByteArray) w7 (hT.later HA.out.below) (Kd.C_nil (α:=S79) k79 _) (Nat.le_refl _) (Kd.C_nil (α:=S80) k80 _) (Nat.le_refl _) (Kd.C_nil (α:=S66) k66 _) (Nat.le_refl _) HA.out.C8 (Nat.le_refl _) alive_print).mono ?_
  rintro e_ w8 ⟨rfl,hb⟩
  have HA:=Aside0.mk (HA.out.later hb)
  clear y0 y1 y2 y3 y4 x0 x1 x2 x3
  clear hb
  have y0:w8.cell? ⟨(w.heap.size+1+1+1+1+1+1),0,none⟩=some (.string ⟨#[45]⟩):=(blk_cell HA.out.B6 0).trans rfl
  have y1:w8.cell? ⟨(w.heap.size+1+1+1+1+1+1),1,none⟩=some (.string ⟨#[]⟩):=(blk_cell HA.out.B6 1).trans rfl
  have y2:w8.cell? ⟨(w.heap.size+1+1+1+1+1+1),2,none⟩=some (.int .i64 0):=(blk_cell HA.out.B6 2).trans rfl
  have y3:w8.cell? ⟨(w.heap.size+1+1+1+1+1+1),3,none⟩=some (.slice (some ⟨(w.heap.size+1+1+1+1+1),0,none⟩) 2 2):=(blk_cell HA.out.B6 3).trans rfl
  have y4:w8.cell? ⟨(w.heap.size+1+1+1+1+1+1),4,none⟩=some (.int .i64 0):=(blk_cell HA.out.B6 4).trans rfl
  have x0:w8.cell? ⟨(w.heap.size+1+1+1+1+1+1+1+1+1),0,none⟩=some (.slice none 0 0):=(blk_cell HA.out.B9 0).trans rfl
  have x1:w8.cell? ⟨(w.heap.size+1+1+1+1+1+1+1+1+1),1,none⟩=some (.slice none 0 0):=(blk_cell HA.out.B9 1).trans rfl
  have x2:w8.cell? ⟨(w.heap.size+1+1+1+1+1+1+1+1+1),2,none⟩=some (.slice none 0 0):=(blk_cell HA.out.B9 2).trans rfl
  have x3:w8.cell? ⟨(w.heap.size+1+1+1+1+1+1+1+1+1),3,none⟩=some (.slice (some ⟨(w.heap.size+1+1+1+1+1+1+1+1),0,none⟩) 1 1):=(blk_cell HA.out.B9 3).trans rfl
  go_wp2
  go_ret
  exact ⟨rfl,HA.out.below⟩
def helmsmanlaw12_alive.f:Option Bool:=some true
theorem helmsmanlaw12_alive.calls (r:Bool) (w:World) (hT:TabT w) (h:helmsmanlaw12_alive.f=some r):Calls Tryd.prog 10 #[] w fun e w'=>e=.returned (.bool r)∧Below w.heap.size w w':=by
  obtain rfl:=Option.some.inj h
  exact alive_pr w hT
theorem alive_now {f:Nat→Bool→Option Bool} {r:Bool} (h:Ev (fun k=>f k true) r):Ev (fun k=>helmsmanlaw12_alive.f.bind (f k)) r:=h
end Go.Proofs.YtnnbbeloifhofaaDoor.P
end
