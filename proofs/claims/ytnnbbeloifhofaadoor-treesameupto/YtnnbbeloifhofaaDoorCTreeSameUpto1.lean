/- Texts of this claim, joined. -/
import Derived.Test.YtnnbbeloifhofaaDoorCTreeSameUpto0
section
namespace Go.Proofs.YtnnbbeloifhofaaDoor.P
open Go.RowKit Go.Proofs.YtnnbbeloifhofaaDoorW.PrintWords Go.Proofs.YtnnbbeloifhofaaDoorW.PrintLast Go.Proofs.YtnnbbeloifhofaaDoorW.PrintMore
attribute [local go_sem] max2_int min2_int max_two min_two max_three min_three max_four min_four
set_option linter.unusedVariables false
set_option linter.unusedSimpArgs false
mutual
def helmsmanref12_SameExpr.j0:Nat→Bool→ByteArray→ByteArray→Int→List (S24)→Int→ByteArray→ByteArray→Int→List (S24)→Int→Option (Bool)
 | 0,_,_,_,_,_,_,_,_,_,_,_=>none
 | k+1,x33,x325000,x325001,x325002,x325003,x325004,x326000,x326001,x326002,x326003,x326004=>if x33=true then (some false) else (helmsmanref12_SameExpr.l0 k 0 x325000 x325001 x325002 x325003 x325004 x326000 x326001 x326002 x326003 x326004)
def helmsmanref12_SameExpr.l0:Nat→Int→ByteArray→ByteArray→Int→List (S24)→Int→ByteArray→ByteArray→Int→List (S24)→Int→Option (Bool)
 | 0,_,_,_,_,_,_,_,_,_,_,_=>none
 | k+1,x5,x325000,x325001,x325002,x325003,x325004,x326000,x326001,x326002,x326003,x326004=>if x5 < (x325003.length:Int) then (if 0≤x5 then (if x5 < (x326003.length:Int) then ((helmsmanref12_SameExpr.f k ((rd_T24 x325003 x5).f0) ((rd_T24 x325003 x5).f1) ((rd_T24 x325003 x5).f2) ((rd_T24 x325003 x5).f3) ((rd_T24 x325003 x5).f4) ((rd_T24 x326003 x5).f0) ((rd_T24 x326003 x5).f1) ((rd_T24 x326003 x5).f2) ((rd_T24 x326003 x5).f3) ((rd_T24 x326003 x5).f4)).bind fun t328=>(if t328=true then (helmsmanref12_SameExpr.l0 k (wrap64 (x5+1)) x325000 x325001 x325002 x325003 x325004 x326000 x326001 x326002 x326003 x326004) else (some false))) else (none)) else (none)) else (some true)
def helmsmanref12_SameExpr.f:Nat→ByteArray→ByteArray→Int→List (S24)→Int→ByteArray→ByteArray→Int→List (S24)→Int→Option (Bool)
 | 0,_,_,_,_,_,_,_,_,_,_=>none
 | k+1,a0_0,a0_1,a0_2,l0_3,a0_4,a1_0,a1_1,a1_2,l1_3,a1_4=>if a0_0.toList=a1_0.toList then (if a0_1.toList=a1_1.toList then (if a0_2=a1_2 then (helmsmanref12_SameExpr.j0 k ((l0_3.length:Int) != (l1_3.length:Int)) a0_0 a0_1 a0_2 l0_3 a0_4 a1_0 a1_1 a1_2 l1_3 a1_4) else (helmsmanref12_SameExpr.j0 k true a0_0 a0_1 a0_2 l0_3 a0_4 a1_0 a1_1 a1_2 l1_3 a1_4)) else (helmsmanref12_SameExpr.j0 k true a0_0 a0_1 a0_2 l0_3 a0_4 a1_0 a1_1 a1_2 l1_3 a1_4)) else (helmsmanref12_SameExpr.j0 k true a0_0 a0_1 a0_2 l0_3 a0_4 a1_0 a1_1 a1_2 l1_3 a1_4)
end
def helmsmanref12_SameExpr.T6:Bool × List (List Nat × List Nat):=(true,[([],[]),([0],[0]),([],[]),([1,2],[1,2]),([3],[3]),([],[]),([5],[5]),([],[]),([6,7],[6,7]),([8],[8]),([4,9],[4,9]),([10],[10])])
def helmsmanref12_SameExpr.B6:List Nat:=[0,1,0,7,15,0,32,0,224,480,1023,2047]
theorem helmsmanref12_SameExpr.tab6:rtab .any (opsOf Tryd.f27 6)=helmsmanref12_SameExpr.T6:=by kernel_rfl
theorem helmsmanref12_SameExpr.bits6:waitsOk helmsmanref12_SameExpr.T6.2 helmsmanref12_SameExpr.B6=true:=by kernel_rfl
set_option maxHeartbeats 8000000 in
set_option maxRecDepth 100000 in
theorem helmsmanref12_SameExpr.calls (k:Nat) : ∀ (a0_0:ByteArray) (a0_1:ByteArray) (a0_2:Int) (A0_3:Option Addr) (c0_3:Nat) (l0_3:List (S24)) (a0_4:Int) (a1_0:ByteArray) (a1_1:ByteArray) (a1_2:Int) (A1_3:Option Addr) (c1_3:Nat) (l1_3:List (S24)) (a1_4:Int) (r:Bool) (w:World) (hr0_3:Kd.C k24 w A0_3 l0_3.length l0_3) (hc0_3:l0_3.length≤c0_3) (hr1_3:Kd.C k24 w A1_3 l1_3.length l1_3) (hc1_3:l1_3.length≤c1_3) (h:helmsmanref12_SameExpr.f k a0_0 a0_1 a0_2 l0_3 a0_4 a1_0 a1_1 a1_2 l1_3 a1_4=some r),
  Calls Tryd.prog 27 #[.agg #[.string a0_0,.string a0_1,.int .i64 a0_2,.slice A0_3 l0_3.length c0_3,.int .i64 a0_4],.agg #[.string a1_0,.string a1_1,.int .i64 a1_2,.slice A1_3 l1_3.length c1_3,.int .i64 a1_4]] w fun e w'=>e=.returned (.bool r)∧Below w.heap.size w w':=by
 induction k using Nat.strongRecOn with
 | _ k ih=>
 intro a0_0 a0_1 a0_2 A0_3 c0_3 l0_3 a0_4 a1_0 a1_1 a1_2 A1_3 c1_3 l1_3 a1_4 r w hr0_3 hc0_3 hr1_3 hc1_3 h
 cases k with
 | zero=>exact absurd h (by simp [helmsmanref12_SameExpr.f])
 | succ k=>
 simp only [helmsmanref12_SameExpr.f] at h
 have hu24:=Tryd.underlying24
 have HR0_3:=Aside0.mk hr0_3
 have HC0_3:=Aside0.mk hc0_3
 clear hr0_3 hc0_3
 have HR1_3:=Aside0.mk hr1_3
 have HC1_3:=Aside0.mk hc1_3
 clear hr1_3 hc1_3
 have HB:=Aside0.mk (Below.refl w.heap.size w)
 have H:(if a0_0.toList=a1_0.toList then (if a0_1.toList=a1_1.toList then (if a0_2=a1_2 then (helmsmanref12_SameExpr.j0 k ((l0_3.length:Int) != (l1_3.length:Int)) a0_0 a0_1 a0_2 l0_3 a0_4 a1_0 a1_1 a1_2 l1_3 a1_4) else (helmsmanref12_SameExpr.j0 k true a0_0 a0_1 a0_2 l0_3 a0_4 a1_0 a1_1 a1_2 l1_3 a1_4)) else (helmsmanref12_SameExpr.j0 k true a0_0 a0_1 a0_2 l0_3 a0_4 a1_0 a1_1 a1_2 l1_3 a1_4)) else (helmsmanref12_SameExpr.j0 k true a0_0 a0_1 a0_2 l0_3 a0_4 a1_0 a1_1 a1_2 l1_3 a1_4))=some r:=h
 clear h
 have HC3:=Aside0.mk H
 clear H
 go_enter Tryd.func27,Tryd.ntmps27
 go_upto_region 1 with (first|((with_reducible refine gate_dst (N:=2) rfl ?_);(try (refine gate_guard (by rfl) ?_;dsimp only));refine box_event ?hg (N:=2) ?hd (cs:=#[.string a0_0,.string a0_1,.int .i64 a0_2,.slice A0_3 l0_3.length c0_3,.int .i64 a0_4]) (t:=24) ?hr ?_;(case hd=>rfl);(case hg=>rfl);(case hr=>first|(go_simp;done)|(go_simp;rfl));intro gb324 hg w4 hbox hb;have n0_:=Aside0.mk (below_step (bl_ HB.out) hb);have n1_:=Aside0.mk (hbox);have n2_:=Aside0.mk ((gs_ hg (bl_ HB.out):w.heap.size≤gb324));have n3_:=Aside0.mk ((gs_ hg (bl_ HB.out):w.heap.size≤gb324));clear HB;have HB:=n0_;have BK324:=n1_;have GW324:=n2_;have GE324:=n3_;clear n0_ n1_ n2_ n3_;clear hb hbox hg)|((with_reducible refine gate_dst (N:=3) rfl ?_);(try (refine gate_guard (by rfl) ?_;dsimp only));refine box_event ?hg (N:=3) ?hd (cs:=#[.string a1_0,.string a1_1,.int .i64 a1_2,.slice A1_3 l1_3.length c1_3,.int .i64 a1_4]) (t:=24) ?hr ?_;(case hd=>rfl);(case hg=>rfl);(case hr=>first|(go_simp;done)|(go_simp;rfl));intro gb325 hg w5 hbox hb;have n0_:=Aside0.mk (bb_ BK324.out hb);have n1_:=Aside0.mk (below_step (bl_ HB.out) hb);have n2_:=Aside0.mk (hbox);have n3_:=Aside0.mk ((gs_ hg (bl_ HB.out):w.heap.size≤gb325));have n4_:=Aside0.mk ((gs_ hg (bl_ HB.out):w.heap.size≤gb325));have n5_:=Aside0.mk ((nl_ hg BK324.out:gb324≠gb325));have n6_:=Aside0.mk ((nr_ hg BK324.out:gb325≠gb324));clear BK324;clear HB;have BK324:=n0_;have HB:=n1_;have BK325:=n2_;have GW325:=n3_;have GE325:=n4_;have NB324_325:=n5_;have NB325_324:=n6_;clear n0_ n1_ n2_ n3_ n4_ n5_ n6_;clear hb hbox hg))
 (try simp only [Act.put,List.setIfInBounds_toArray,List.set_cons_zero,List.set_cons_succ])
 go_cut [33] (fun v33 wc=>∃ (kq:Nat) (x33_2:Bool),v33=.bool x33_2∧Aside0 (helmsmanref12_SameExpr.j0 kq x33_2 a0_0 a0_1 a0_2 l0_3 a0_4 a1_0 a1_1 a1_2 l1_3 a1_4=some r)∧Aside0 (kq≤k)∧Aside0 (wc.heap[gb324]?=some (.cells #[.string a0_0,.string a0_1,.int .i64 a0_2,(.slice A0_3 l0_3.length c0_3),.int .i64 a0_4] 24 (0,0)))∧Aside0 (wc.heap[gb325]?=some (.cells #[.string a1_0,.string a1_1,.int .i64 a1_2,(.slice A1_3 l1_3.length c1_3),.int .i64 a1_4] 24 (0,0)))∧Aside0 (Below w.heap.size w wc))
 case first=>
  have H:=HC3.out
  clear HC3
  by_cases c6:a0_0.toList=a1_0.toList
  ·rw [if_pos c6] at H
   have c6b0:(a0_0.toList == a1_0.toList)=true:=beq_iff_eq.mpr c6
   have c6b1:(a0_0.toList != a1_0.toList)=false:=bne_eq_false_iff_eq.mpr c6
   clear c6
   (first|rw [c6b0]|(simp only [i64_w,i32_w];rw [c6b0])|skip)
   by_cases c7:a0_1.toList=a1_1.toList
   ·rw [if_pos c7] at H
    have c7b0:(a0_1.toList == a1_1.toList)=true:=beq_iff_eq.mpr c7
    have c7b1:(a0_1.toList != a1_1.toList)=false:=bne_eq_false_iff_eq.mpr c7
    clear c7
    by_cases c8:a0_2=a1_2
    ·rw [if_pos c8] at H
     have c8b0:(a0_2 == a1_2)=true:=beq_iff_eq.mpr c8
     have c8b1:(a0_2 != a1_2)=false:=bne_eq_false_iff_eq.mpr c8
     clear c8
     have H':=Aside0.mk H
     clear H
     have hnb9:=NB324_325.out
     have hnc9:=NB325_324.out
     have hcz10_0:w5.cell? ⟨gb324,0,none⟩=some (.string a0_0):=zc_ BK324.out 0
     have hcz10_1:w5.cell? ⟨gb324,1,none⟩=some (.string a0_1):=zc_ BK324.out 1
     have hcz10_2:w5.cell? ⟨gb324,2,none⟩=some (.int .i64 a0_2):=zc_ BK324.out 2
     have hcz10_3:w5.cell? ⟨gb324,3,none⟩=some (.slice A0_3 l0_3.length c0_3):=zc_ BK324.out 3
     have hcz10_4:w5.cell? ⟨gb324,4,none⟩=some (.int .i64 a0_4):=zc_ BK324.out 4
     have hfz10_0:=blk_frozen BK324.out 0
     have hfz10_1:=blk_frozen BK324.out 1
     have hfz10_2:=blk_frozen BK324.out 2
     have hfz10_3:=blk_frozen BK324.out 3
     have hfz10_4:=blk_frozen BK324.out 4
     have hcz11_0:w5.cell? ⟨gb325,0,none⟩=some (.string a1_0):=zc_ BK325.out 0
     have hcz11_1:w5.cell? ⟨gb325,1,none⟩=some (.string a1_1):=zc_ BK325.out 1
     have hcz11_2:w5.cell? ⟨gb325,2,none⟩=some (.int .i64 a1_2):=zc_ BK325.out 2
     have hcz11_3:w5.cell? ⟨gb325,3,none⟩=some (.slice A1_3 l1_3.length c1_3):=zc_ BK325.out 3
     have hcz11_4:w5.cell? ⟨gb325,4,none⟩=some (.int .i64 a1_4):=zc_ BK325.out 4
     have hfz11_0:=blk_frozen BK325.out 0
     have hfz11_1:=blk_frozen BK325.out 1
     have hfz11_2:=blk_frozen BK325.out 2
     have hfz11_3:=blk_frozen BK325.out 3
     have hfz11_4:=blk_frozen BK325.out 4
     go_wp2
     go_meet
     case rel=>exact ⟨_,(((l0_3.length:Int) != (l1_3.length:Int))),rf_,H',⟨by first|omega|exact Nat.le_refl _⟩,⟨kb_ BK324.out⟩,⟨kb_ BK325.out⟩,⟨bl_ HB.out⟩⟩
    ·rw [if_neg c8] at H
     have c8b0:(a0_2 == a1_2)=false:=beq_eq_false_iff_ne.mpr c8
     have c8b1:(a0_2 != a1_2)=true:=bne_iff_ne.mpr c8
     have H':=Aside0.mk H
     clear H
     have hnb12:=NB324_325.out
     have hnc12:=NB325_324.out
     have hcz13_0:w5.cell? ⟨gb324,0,none⟩=some (.string a0_0):=zc_ BK324.out 0
     have hcz13_1:w5.cell? ⟨gb324,1,none⟩=some (.string a0_1):=zc_ BK324.out 1
     have hcz13_2:w5.cell? ⟨gb324,2,none⟩=some (.int .i64 a0_2):=zc_ BK324.out 2
     have hcz13_3:w5.cell? ⟨gb324,3,none⟩=some (.slice A0_3 l0_3.length c0_3):=zc_ BK324.out 3
     have hcz13_4:w5.cell? ⟨gb324,4,none⟩=some (.int .i64 a0_4):=zc_ BK324.out 4
     have hfz13_0:=blk_frozen BK324.out 0
     have hfz13_1:=blk_frozen BK324.out 1
     have hfz13_2:=blk_frozen BK324.out 2
     have hfz13_3:=blk_frozen BK324.out 3
     have hfz13_4:=blk_frozen BK324.out 4
     have hcz14_0:w5.cell? ⟨gb325,0,none⟩=some (.string a1_0):=zc_ BK325.out 0
     have hcz14_1:w5.cell? ⟨gb325,1,none⟩=some (.string a1_1):=zc_ BK325.out 1
     have hcz14_2:w5.cell? ⟨gb325,2,none⟩=some (.int .i64 a1_2):=zc_ BK325.out 2
     have hcz14_3:w5.cell? ⟨gb325,3,none⟩=some (.slice A1_3 l1_3.length c1_3):=zc_ BK325.out 3
     have hcz14_4:w5.cell? ⟨gb325,4,none⟩=some (.int .i64 a1_4):=zc_ BK325.out 4
     have hfz14_0:=blk_frozen BK325.out 0
     have hfz14_1:=blk_frozen BK325.out 1
     have hfz14_2:=blk_frozen BK325.out 2
     have hfz14_3:=blk_frozen BK325.out 3
     have hfz14_4:=blk_frozen BK325.out 4
     go_wp2
     go_meet
     case rel=>exact ⟨_,(true),rf_,H',⟨by first|omega|exact Nat.le_refl _⟩,⟨kb_ BK324.out⟩,⟨kb_ BK325.out⟩,⟨bl_ HB.out⟩⟩
   ·rw [if_neg c7] at H
    have c7b0:(a0_1.toList == a1_1.toList)=false:=beq_eq_false_iff_ne.mpr c7
    have c7b1:(a0_1.toList != a1_1.toList)=true:=bne_iff_ne.mpr c7
    have H':=Aside0.mk H
    clear H
    have hnb15:=NB324_325.out
    have hnc15:=NB325_324.out
    have hcz16_0:w5.cell? ⟨gb324,0,none⟩=some (.string a0_0):=zc_ BK324.out 0
    have hcz16_1:w5.cell? ⟨gb324,1,none⟩=some (.string a0_1):=zc_ BK324.out 1
    have hcz16_2:w5.cell? ⟨gb324,2,none⟩=some (.int .i64 a0_2):=zc_ BK324.out 2
    have hcz16_3:w5.cell? ⟨gb324,3,none⟩=some (.slice A0_3 l0_3.length c0_3):=zc_ BK324.out 3
    have hcz16_4:w5.cell? ⟨gb324,4,none⟩=some (.int .i64 a0_4):=zc_ BK324.out 4
    have hfz16_0:=blk_frozen BK324.out 0
    have hfz16_1:=blk_frozen BK324.out 1
    have hfz16_2:=blk_frozen BK324.out 2
    have hfz16_3:=blk_frozen BK324.out 3
    have hfz16_4:=blk_frozen BK324.out 4
    have hcz17_0:w5.cell? ⟨gb325,0,none⟩=some (.string a1_0):=zc_ BK325.out 0
    have hcz17_1:w5.cell? ⟨gb325,1,none⟩=some (.string a1_1):=zc_ BK325.out 1
    have hcz17_2:w5.cell? ⟨gb325,2,none⟩=some (.int .i64 a1_2):=zc_ BK325.out 2
    have hcz17_3:w5.cell? ⟨gb325,3,none⟩=some (.slice A1_3 l1_3.length c1_3):=zc_ BK325.out 3
    have hcz17_4:w5.cell? ⟨gb325,4,none⟩=some (.int .i64 a1_4):=zc_ BK325.out 4
    have hfz17_0:=blk_frozen BK325.out 0
    have hfz17_1:=blk_frozen BK325.out 1
    have hfz17_2:=blk_frozen BK325.out 2
    have hfz17_3:=blk_frozen BK325.out 3
    have hfz17_4:=blk_frozen BK325.out 4
    go_wp2
    go_meet
    case rel=>exact ⟨_,(true),rf_,H',⟨by first|omega|exact Nat.le_refl _⟩,⟨kb_ BK324.out⟩,⟨kb_ BK325.out⟩,⟨bl_ HB.out⟩⟩
  ·rw [if_neg c6] at H
   have c6b0:(a0_0.toList == a1_0.toList)=false:=beq_eq_false_iff_ne.mpr c6
   have c6b1:(a0_0.toList != a1_0.toList)=true:=bne_iff_ne.mpr c6
   (first|rw [c6b0]|(simp only [i64_w,i32_w];rw [c6b0])|skip)
   have H':=Aside0.mk H
   clear H
   have hnb18:=NB324_325.out
   have hnc18:=NB325_324.out
   have hcz19_0:w5.cell? ⟨gb324,0,none⟩=some (.string a0_0):=zc_ BK324.out 0
   have hcz19_1:w5.cell? ⟨gb324,1,none⟩=some (.string a0_1):=zc_ BK324.out 1
   have hcz19_2:w5.cell? ⟨gb324,2,none⟩=some (.int .i64 a0_2):=zc_ BK324.out 2
   have hcz19_3:w5.cell? ⟨gb324,3,none⟩=some (.slice A0_3 l0_3.length c0_3):=zc_ BK324.out 3
   have hcz19_4:w5.cell? ⟨gb324,4,none⟩=some (.int .i64 a0_4):=zc_ BK324.out 4
   have hfz19_0:=blk_frozen BK324.out 0
   have hfz19_1:=blk_frozen BK324.out 1
   have hfz19_2:=blk_frozen BK324.out 2
   have hfz19_3:=blk_frozen BK324.out 3
   have hfz19_4:=blk_frozen BK324.out 4
   have hcz20_0:w5.cell? ⟨gb325,0,none⟩=some (.string a1_0):=zc_ BK325.out 0
   have hcz20_1:w5.cell? ⟨gb325,1,none⟩=some (.string a1_1):=zc_ BK325.out 1
   have hcz20_2:w5.cell? ⟨gb325,2,none⟩=some (.int .i64 a1_2):=zc_ BK325.out 2
   have hcz20_3:w5.cell? ⟨gb325,3,none⟩=some (.slice A1_3 l1_3.length c1_3):=zc_ BK325.out 3
   have hcz20_4:w5.cell? ⟨gb325,4,none⟩=some (.int .i64 a1_4):=zc_ BK325.out 4
   have hfz20_0:=blk_frozen BK325.out 0
   have hfz20_1:=blk_frozen BK325.out 1
   have hfz20_2:=blk_frozen BK325.out 2
   have hfz20_3:=blk_frozen BK325.out 3
   have hfz20_4:=blk_frozen BK325.out 4
   go_wp2
   go_meet
   case rel=>exact ⟨_,(true),rf_,H',⟨by first|omega|exact Nat.le_refl _⟩,⟨kb_ BK324.out⟩,⟨kb_ BK325.out⟩,⟨bl_ HB.out⟩⟩
 case rest=>
  clear HC3
  (try clear c1);(try clear c2);(try clear p2);(try clear c6);(try clear c6b0);(try clear c6b1);(try clear c7);(try clear c7b0);(try clear c7b1);(try clear c8);(try clear c8b0);(try clear c8b1);(try clear c9);(try clear c12);(try clear c15);(try clear c18);(try clear hcz10_0);(try clear hcz10_1);(try clear hcz10_2);(try clear hcz10_3);(try clear hcz10_4);(try clear hcz11_0);(try clear hcz11_1);(try clear hcz11_2);(try clear hcz11_3);(try clear hcz11_4);(try clear hcz13_0);(try clear hcz13_1);(try clear hcz13_2);(try clear hcz13_3);(try clear hcz13_4);(try clear hcz14_0);(try clear hcz14_1);(try clear hcz14_2);(try clear hcz14_3);(try clear hcz14_4);(try clear hcz16_0);(try clear hcz16_1);(try clear hcz16_2);(try clear hcz16_3);(try clear hcz16_4);(try clear hcz17_0);(try clear hcz17_1);(try clear hcz17_2);(try clear hcz17_3);(try clear hcz17_4);(try clear hcz19_0);(try clear hcz19_1);(try clear hcz19_2);(try clear hcz19_3);(try clear hcz19_4);(try clear hcz20_0);(try clear hcz20_1);(try clear hcz20_2);(try clear hcz20_3);(try clear hcz20_4);(try clear hfz10_0);(try clear hfz10_1);(try clear hfz10_2);(try clear hfz10_3);(try clear hfz10_4);(try clear hfz11_0);(try clear hfz11_1);(try clear hfz11_2);(try clear hfz11_3);(try clear hfz11_4);(try clear hfz13_0);(try clear hfz13_1);(try clear hfz13_2);(try clear hfz13_3);(try clear hfz13_4);(try clear hfz14_0);(try clear hfz14_1);(try clear hfz14_2);(try clear hfz14_3);(try clear hfz14_4);(try clear hfz16_0);(try clear hfz16_1);(try clear hfz16_2);(try clear hfz16_3);(try clear hfz16_4);(try clear hfz17_0);(try clear hfz17_1);(try clear hfz17_2);(try clear hfz17_3);(try clear hfz17_4);(try clear hfz19_0);(try clear hfz19_1);(try clear hfz19_2);(try clear hfz19_3);(try clear hfz19_4);(try clear hfz20_0);(try clear hfz20_1);(try clear hfz20_2);(try clear hfz20_3);(try clear hfz20_4)
  obtain ⟨kq,x33_2,rfl,HA,HJ2,BK324,BK325,HB⟩:=hcut
  cases kq with
  | zero=>exact absurd HA.out (by simp [helmsmanref12_SameExpr.j0])
  | succ kj2=>
   have H:=HA.out
   clear HA
   simp only [helmsmanref12_SameExpr.j0] at H
   by_cases c21:x33_2=true
   ·subst c21
    have H1:(some false)=some r:=by rw [if_pos rfl] at H;exact H
    clear H
    have H:=H1
    clear H1
    obtain rfl:=Option.some.inj H
    go_wp2
    go_ret
    exact ⟨rt_,bl_ HB.out⟩
   ·replace c21:=Bool.eq_false_iff.mpr c21
    subst c21
    have H1:(helmsmanref12_SameExpr.l0 kj2 0 a0_0 a0_1 a0_2 l0_3 a0_4 a1_0 a1_1 a1_2 l1_3 a1_4)=some r:=by rw [if_neg (show ¬ (false=true) by decide)] at H;exact H
    clear H
    have H:=H1
    clear H1
    have H':=Aside0.mk H
    clear H
    go_wp2
    (try simp only [Act.put,List.setIfInBounds_toArray,List.set_cons_succ,List.set_cons_zero])
    go_loopg [5] kj2 (fun kq v5 w'=>∃ (x5_2:Int),v5=.int .i64 x5_2∧Aside0 (helmsmanref12_SameExpr.l0 kq x5_2 a0_0 a0_1 a0_2 l0_3 a0_4 a1_0 a1_1 a1_2 l1_3 a1_4=some r)∧Aside0 (kq≤kj2)∧Aside0 (w'.heap[gb324]?=some (.cells #[.string a0_0,.string a0_1,.int .i64 a0_2,(.slice A0_3 l0_3.length c0_3),.int .i64 a0_4] 24 (0,0)))∧Aside0 (w'.heap[gb325]?=some (.cells #[.string a1_0,.string a1_1,.int .i64 a1_2,(.slice A1_3 l1_3.length c1_3),.int .i64 a1_4] 24 (0,0)))∧Aside0 (Below w.heap.size w w'))
    case atStart=>exact ⟨(0),rf_,H',⟨Nat.le_refl _⟩,⟨kb_ BK324.out⟩,⟨kb_ BK325.out⟩,⟨bl_ HB.out⟩⟩
    case round=>
     clear H'
     (try clear c1);(try clear c2);(try clear p2);(try clear c6);(try clear c6b0);(try clear c6b1);(try clear c7);(try clear c7b0);(try clear c7b1);(try clear c8);(try clear c8b0);(try clear c8b1);(try clear c9);(try clear c12);(try clear c15);(try clear c18);(try clear c21);(try clear hcz10_0);(try clear hcz10_1);(try clear hcz10_2);(try clear hcz10_3);(try clear hcz10_4);(try clear hcz11_0);(try clear hcz11_1);(try clear hcz11_2);(try clear hcz11_3);(try clear hcz11_4);(try clear hcz13_0);(try clear hcz13_1);(try clear hcz13_2);(try clear hcz13_3);(try clear hcz13_4);(try clear hcz14_0);(try clear hcz14_1);(try clear hcz14_2);(try clear hcz14_3);(try clear hcz14_4);(try clear hcz16_0);(try clear hcz16_1);(try clear hcz16_2);(try clear hcz16_3);(try clear hcz16_4);(try clear hcz17_0);(try clear hcz17_1);(try clear hcz17_2);(try clear hcz17_3);(try clear hcz17_4);(try clear hcz19_0);(try clear hcz19_1);(try clear hcz19_2);(try clear hcz19_3);(try clear hcz19_4);(try clear hcz20_0);(try clear hcz20_1);(try clear hcz20_2);(try clear hcz20_3);(try clear hcz20_4);(try clear hfz10_0);(try clear hfz10_1);(try clear hfz10_2);(try clear hfz10_3);(try clear hfz10_4);(try clear hfz11_0);(try clear hfz11_1);(try clear hfz11_2);(try clear hfz11_3);(try clear hfz11_4);(try clear hfz13_0);(try clear hfz13_1);(try clear hfz13_2);(try clear hfz13_3);(try clear hfz13_4);(try clear hfz14_0);(try clear hfz14_1);(try clear hfz14_2);(try clear hfz14_3);(try clear hfz14_4);(try clear hfz16_0);(try clear hfz16_1);(try clear hfz16_2);(try clear hfz16_3);(try clear hfz16_4);(try clear hfz17_0);(try clear hfz17_1);(try clear hfz17_2);(try clear hfz17_3);(try clear hfz17_4);(try clear hfz19_0);(try clear hfz19_1);(try clear hfz19_2);(try clear hfz19_3);(try clear hfz19_4);(try clear hfz20_0);(try clear hfz20_1);(try clear hfz20_2);(try clear hfz20_3);(try clear hfz20_4);(try clear p2)
     obtain ⟨x5_2,rfl,HA,HK2,BK324,BK325,HB⟩:=hrel
     cases gk with
     | zero=>exact absurd HA.out (by simp [helmsmanref12_SameExpr.l0])
     | succ k2=>
      have H:=HA.out
      clear HA
      simp only [helmsmanref12_SameExpr.l0] at H
      by_cases c22:x5_2 < (l0_3.length:Int)
      ·rw [if_pos c22] at H
       have c22b0:decide (x5_2 < (l0_3.length:Int))=true:=decide_eq_true c22
       clear c22
       by_cases c23:0≤x5_2
       ·rw [if_pos c23] at H
        have c23b0:decide (0≤x5_2)=true:=decide_eq_true c23
        clear c23
        by_cases c24:x5_2 < (l1_3.length:Int)
        ·rw [if_pos c24] at H
         have c24b0:decide (x5_2 < (l1_3.length:Int))=true:=decide_eq_true c24
         clear c24
         replace H:=Option.bind_eq_some_iff.mp H
         obtain ⟨t328,A250,H⟩:=H
         replace H:(if t328=true then (helmsmanref12_SameExpr.l0 k2 (wrap64 (x5_2+1)) a0_0 a0_1 a0_2 l0_3 a0_4 a1_0 a1_1 a1_2 l1_3 a1_4) else (some false))=some r:=H
         have A25:=Aside0.mk A250
         clear A250
         by_cases c26:t328=true
         ·subst c26
          have H1:(helmsmanref12_SameExpr.l0 k2 (wrap64 (x5_2+1)) a0_0 a0_1 a0_2 l0_3 a0_4 a1_0 a1_1 a1_2 l1_3 a1_4)=some r:=by rw [if_pos rfl] at H;exact H
          clear H
          have H:=H1
          clear H1
          have H':=Aside0.mk H
          clear H
          have hnb27:=NB324_325.out
          have hnc27:=NB325_324.out
          have hcz28_0:wr.cell? ⟨gb324,0,none⟩=some (.string a0_0):=zc_ BK324.out 0
          have hcz28_1:wr.cell? ⟨gb324,1,none⟩=some (.string a0_1):=zc_ BK324.out 1
          have hcz28_2:wr.cell? ⟨gb324,2,none⟩=some (.int .i64 a0_2):=zc_ BK324.out 2
          have hcz28_3:wr.cell? ⟨gb324,3,none⟩=some (.slice A0_3 l0_3.length c0_3):=zc_ BK324.out 3
          have hcz28_4:wr.cell? ⟨gb324,4,none⟩=some (.int .i64 a0_4):=zc_ BK324.out 4
          have hfz28_0:=blk_frozen BK324.out 0
          have hfz28_1:=blk_frozen BK324.out 1
          have hfz28_2:=blk_frozen BK324.out 2
          have hfz28_3:=blk_frozen BK324.out 3
          have hfz28_4:=blk_frozen BK324.out 4
          try go_wp2
          have n0_:=Aside0.mk (blk_drew BK324.out)
          have n1_:=Aside0.mk (blk_drew BK325.out)
          have n2_:=Aside0.mk (below_drew1 HB.out)
          clear BK324
          clear BK325
          clear HB
          have BK324:=n0_
          have BK325:=n1_
          have HB:=n2_
          clear n0_ n1_ n2_
          have p326:0≤(x5_2:Int):=of_decide_eq_true as_
          have q326:x5_2 < (l0_3.length:Int):=of_decide_eq_true as_
          obtain ⟨ad326,A326_3,c326_3,e326,hx326_0,hx326_1,hx326_2,hx326_3,hx326_4,hl326_3,hi326_3⟩:=at_T24 HR0_3.out x5_2 p326 q326
          have hw326_4:=hx326_4
          have hw326_3:=hx326_3
          have hw326_2:=hx326_2
          have hw326_1:=hx326_1
          have hw326_0:=hx326_0
          cases e326
          replace hx326_0:=(cb_ HB.out hx326_0:_)
          replace hx326_1:=(cb_ HB.out hx326_1:_)
          replace hx326_2:=(cb_ HB.out hx326_2:_)
          replace hx326_3:=(cb_ HB.out hx326_3:_)
          replace hx326_4:=(cb_ HB.out hx326_4:_)
          have HR326_3:=Aside0.mk hi326_3
          have HC326_3:=Aside0.mk hl326_3
          clear hi326_3 hl326_3
          replace p326:=eq_true p326
          replace q326:=eq_true q326
          have p327:0≤(x5_2:Int):=of_decide_eq_true as_
          have q327:x5_2 < (l1_3.length:Int):=of_decide_eq_true as_
          obtain ⟨ad327,A327_3,c327_3,e327,hx327_0,hx327_1,hx327_2,hx327_3,hx327_4,hl327_3,hi327_3⟩:=at_T24 HR1_3.out x5_2 p327 q327
          have hw327_4:=hx327_4
          have hw327_3:=hx327_3
          have hw327_2:=hx327_2
          have hw327_1:=hx327_1
          have hw327_0:=hx327_0
          cases e327
          replace hx327_0:=(cb_ HB.out hx327_0:_)
          replace hx327_1:=(cb_ HB.out hx327_1:_)
          replace hx327_2:=(cb_ HB.out hx327_2:_)
          replace hx327_3:=(cb_ HB.out hx327_3:_)
          replace hx327_4:=(cb_ HB.out hx327_4:_)
          have HR327_3:=Aside0.mk hi327_3
          have HC327_3:=Aside0.mk hl327_3
          clear hi327_3 hl327_3
          replace p327:=eq_true p327
          replace q327:=eq_true q327
          refine start_ (n:=12) (S:=fun w'=>w'.cell? ⟨gb324,0,none⟩=some (.string a0_0)∧w'.cell? ⟨gb324,1,none⟩=some (.string a0_1)∧w'.cell? ⟨gb324,2,none⟩=some (.int .i64 a0_2)∧w'.cell? ⟨gb324,3,none⟩=some (.slice (some ad326) l0_3.length c0_3)∧w'.cell? ⟨gb324,4,none⟩=some (.int .i64 a0_4)∧w'.cell? ⟨gb325,0,none⟩=some (.string a1_0)∧w'.cell? ⟨gb325,1,none⟩=some (.string a1_1)∧w'.cell? ⟨gb325,2,none⟩=some (.int .i64 a1_2)∧w'.cell? ⟨gb325,3,none⟩=some (.slice (some ad327) l1_3.length c1_3)∧w'.cell? ⟨gb325,4,none⟩=some (.int .i64 a1_4)∧w'.cell? (ad326.add ((x5_2).toNat * 5))=some (.string ((rd_T24 l0_3 x5_2).f0))∧w'.cell? ⟨(ad326.add ((x5_2).toNat * 5)).block,(ad326.add ((x5_2).toNat * 5)).off+1,none⟩=some (.string ((rd_T24 l0_3 x5_2).f1))∧w'.cell? ⟨(ad326.add ((x5_2).toNat * 5)).block,(ad326.add ((x5_2).toNat * 5)).off+2,none⟩=some (.int .i64 ((rd_T24 l0_3 x5_2).f2))∧w'.cell? ⟨(ad326.add ((x5_2).toNat * 5)).block,(ad326.add ((x5_2).toNat * 5)).off+3,none⟩=some (.slice A326_3 ((rd_T24 l0_3 x5_2).f3).length c326_3)∧w'.cell? ⟨(ad326.add ((x5_2).toNat * 5)).block,(ad326.add ((x5_2).toNat * 5)).off+4,none⟩=some (.int .i64 ((rd_T24 l0_3 x5_2).f4))∧w'.cell? (ad327.add ((x5_2).toNat * 5))=some (.string ((rd_T24 l1_3 x5_2).f0))∧w'.cell? ⟨(ad327.add ((x5_2).toNat * 5)).block,(ad327.add ((x5_2).toNat * 5)).off+1,none⟩=some (.string ((rd_T24 l1_3 x5_2).f1))∧w'.cell? ⟨(ad327.add ((x5_2).toNat * 5)).block,(ad327.add ((x5_2).toNat * 5)).off+2,none⟩=some (.int .i64 ((rd_T24 l1_3 x5_2).f2))∧w'.cell? ⟨(ad327.add ((x5_2).toNat * 5)).block,(ad327.add ((x5_2).toNat * 5)).off+3,none⟩=some (.slice A327_3 ((rd_T24 l1_3 x5_2).f3).length c327_3)∧w'.cell? ⟨(ad327.add ((x5_2).toNat * 5)).block,(ad327.add ((x5_2).toNat * 5)).off+4,none⟩=some (.int .i64 ((rd_T24 l1_3 x5_2).f4))) (ds:=[]) (flg 12 0) (by kernel_rfl) rfl (by kernel_rfl) ⟨zc_ BK324.out 0,zc_ BK324.out 1,zc_ BK324.out 2,zc_ BK324.out 3,zc_ BK324.out 4,zc_ BK325.out 0,zc_ BK325.out 1,zc_ BK325.out 2,zc_ BK325.out 3,zc_ BK325.out 4,((cb_ HB.out hw326_0:_)),((cb_ HB.out hw326_1:_)),((cb_ HB.out hw326_2:_)),((cb_ HB.out hw326_3:_)),((cb_ HB.out hw326_4:_)),((cb_ HB.out hw327_0:_)),((cb_ HB.out hw327_1:_)),((cb_ HB.out hw327_2:_)),((cb_ HB.out hw327_3:_)),((cb_ HB.out hw327_4:_))⟩ (fun hHeld=>?_);refine with_tabW helmsmanref12_SameExpr.tab6 helmsmanref12_SameExpr.bits6 (fun HT_ HW_=>?_)
          generalize wr.drew=w29 at BK324 BK325 HB HR326_3 HR327_3 hx326_0 hx326_1 hx326_2 hx326_3 hx326_4 hx327_0 hx327_1 hx327_2 hx327_3 hx327_4 hHeld ⊢
          refine pur_ 0 41 (flg 12 1) rfl rfl (any_of HT_.out (by kernel_rfl)) (fun _ _ _ h=>h) ?_
          refine pur_ 2 43 (flg 12 5) rfl rfl (any_of HT_.out (by kernel_rfl)) (fun _ _ _ h=>h) ?_
          refine pur_ 5 46 (flg 12 37) rfl rfl (any_of HT_.out (by kernel_rfl)) (fun _ _ _ h=>h) ?_
          refine pur_ 7 48 (flg 12 165) rfl rfl (any_of HT_.out (by kernel_rfl)) (fun _ _ _ h=>h) ?_
          refine tak_ 1 42 (flg 12 167) rfl rfl (take_ofW HT_.out HW_.out (by kernel_rfl)) (fun _ _ _ h=>h) hHeld ?_
          refine pur_ 3 44 (flg 12 175) rfl rfl (any_of HT_.out (by kernel_rfl)) (fun _ _ _ h=>h) ?_
          refine tak_ 4 45 (flg 12 191) rfl rfl (take_ofW HT_.out HW_.out (by kernel_rfl)) (fun _ _ _ h=>h) hHeld ?_
          refine tak_ 6 47 (flg 12 255) rfl rfl (take_ofW HT_.out HW_.out (by kernel_rfl)) (fun _ _ _ h=>h) hHeld ?_
          refine pur_ 8 49 (flg 12 511) rfl rfl (any_of HT_.out (by kernel_rfl)) (fun _ _ _ h=>h) ?_
          refine tak_ 9 50 (flg 12 1023) rfl rfl (take_ofW HT_.out HW_.out (by kernel_rfl)) (fun _ _ _ h=>h) hHeld ?_
          refine one_ (i:=10) (N:=some 51) (flg 12 2047) rfl rfl (one_of HT_.out (by kernel_rfl)) (by decide) (fun K hK=>?_)
          refine goes_ Tryd.func27 (by kernel_rfl) rfl #[.agg #[.string ((rd_T24 l0_3 x5_2).f0),.string ((rd_T24 l0_3 x5_2).f1),.int .i64 ((rd_T24 l0_3 x5_2).f2),.slice A326_3 ((rd_T24 l0_3 x5_2).f3).length c326_3,.int .i64 ((rd_T24 l0_3 x5_2).f4)],.agg #[.string ((rd_T24 l1_3 x5_2).f0),.string ((rd_T24 l1_3 x5_2).f1),.int .i64 ((rd_T24 l1_3 x5_2).f2),.slice A327_3 ((rd_T24 l1_3 x5_2).f3).length c327_3,.int .i64 ((rd_T24 l1_3 x5_2).f4)]] (by rfl) rfl rfl ar_ ?_
          with_reducible refine (ih k2 (by have:=HJ2.out;have:=HK2.out;omega) ((rd_T24 l0_3 x5_2).f0) ((rd_T24 l0_3 x5_2).f1) ((rd_T24 l0_3 x5_2).f2) _ _ ((rd_T24 l0_3 x5_2).f3) ((rd_T24 l0_3 x5_2).f4) ((rd_T24 l1_3 x5_2).f0) ((rd_T24 l1_3 x5_2).f1) ((rd_T24 l1_3 x5_2).f2) _ _ ((rd_T24 l1_3 x5_2).f3) ((rd_T24 l1_3 x5_2).f4) true _ ?side1 ?side2 ?side3 ?side4 A25.out).mono ?_
          (case side1=>exact kc_ HR326_3.out HB.out)
          (case side2=>exact HC326_3.out)
          (case side3=>exact kc_ HR327_3.out HB.out)
          (case side4=>exact HC327_3.out)
          rintro e w30 ⟨rfl,hb⟩
          refine ⟨_,rfl,?_⟩
          have n0_:=Aside0.mk (bb_ BK324.out hb)
          have n1_:=Aside0.mk (bb_ BK325.out hb)
          have n2_:=Aside0.mk (below_step (bl_ HB.out) hb)
          clear BK324
          clear BK325
          clear HB
          have BK324:=n0_
          have BK325:=n1_
          have HB:=n2_
          clear n0_ n1_ n2_
          (try clear hb)
          (try clear hb2)
          (try clear hk)
          (try clear hi)
          refine hK.out _ _ ⟨zc_ BK324.out 0,zc_ BK324.out 1,zc_ BK324.out 2,zc_ BK324.out 3,zc_ BK324.out 4,zc_ BK325.out 0,zc_ BK325.out 1,zc_ BK325.out 2,zc_ BK325.out 3,zc_ BK325.out 4,((cb_ HB.out hw326_0:_)),((cb_ HB.out hw326_1:_)),((cb_ HB.out hw326_2:_)),((cb_ HB.out hw326_3:_)),((cb_ HB.out hw326_4:_)),((cb_ HB.out hw327_0:_)),((cb_ HB.out hw327_1:_)),((cb_ HB.out hw327_2:_)),((cb_ HB.out hw327_3:_)),((cb_ HB.out hw327_4:_))⟩ (fun hHeld=>?_)
          clear hK K
          refine norm_ (a':=?_) ?_ ?_
          rotate_left
          ·show Act.put _ (some 51) _=_
           simp only [Act.put,List.setIfInBounds_toArray,List.set_cons_zero,List.set_cons_succ,i64_w,i32_w]
           rfl
          refine pur_ 11 52 (flg 12 4095) rfl rfl (any_of HT_.out (by kernel_rfl)) (fun _ _ _ h=>h) ?_
          refine done_ (done_of HT_.out (by kernel_rfl)) ?_
          try go_wp2
          go_roundg k2
          case measure=>have:=HJ2.out;have:=HK2.out;omega
          case rel=>exact ⟨(wrap64 (x5_2+1)),rf_,H',⟨by have:=HJ2.out;have:=HK2.out;omega⟩,⟨kb_ BK324.out⟩,⟨kb_ BK325.out⟩,⟨bl_ HB.out⟩⟩
         ·replace c26:=Bool.eq_false_iff.mpr c26
          subst c26
          have H1:(some false)=some r:=by rw [if_neg (show ¬ (false=true) by decide)] at H;exact H
          clear H
          have H:=H1
          clear H1
          obtain rfl:=Option.some.inj H
          have hnb31:=NB324_325.out
          have hnc31:=NB325_324.out
          have hcz32_0:wr.cell? ⟨gb324,0,none⟩=some (.string a0_0):=zc_ BK324.out 0
          have hcz32_1:wr.cell? ⟨gb324,1,none⟩=some (.string a0_1):=zc_ BK324.out 1
          have hcz32_2:wr.cell? ⟨gb324,2,none⟩=some (.int .i64 a0_2):=zc_ BK324.out 2
          have hcz32_3:wr.cell? ⟨gb324,3,none⟩=some (.slice A0_3 l0_3.length c0_3):=zc_ BK324.out 3
          have hcz32_4:wr.cell? ⟨gb324,4,none⟩=some (.int .i64 a0_4):=zc_ BK324.out 4
          have hfz32_0:=blk_frozen BK324.out 0
          have hfz32_1:=blk_frozen BK324.out 1
          have hfz32_2:=blk_frozen BK324.out 2
          have hfz32_3:=blk_frozen BK324.out 3
          have hfz32_4:=blk_frozen BK324.out 4
          try go_wp2
          have n0_:=Aside0.mk (blk_drew BK324.out)
          have n1_:=Aside0.mk (blk_drew BK325.out)
          have n2_:=Aside0.mk (below_drew1 HB.out)
          clear BK324
          clear BK325
          clear HB
          have BK324:=n0_
          have BK325:=n1_
          have HB:=n2_
          clear n0_ n1_ n2_
          have p326:0≤(x5_2:Int):=of_decide_eq_true as_
          have q326:x5_2 < (l0_3.length:Int):=of_decide_eq_true as_
          obtain ⟨ad326,A326_3,c326_3,e326,hx326_0,hx326_1,hx326_2,hx326_3,hx326_4,hl326_3,hi326_3⟩:=at_T24 HR0_3.out x5_2 p326 q326
          have hw326_4:=hx326_4
          have hw326_3:=hx326_3
          have hw326_2:=hx326_2
          have hw326_1:=hx326_1
          have hw326_0:=hx326_0
          cases e326
          replace hx326_0:=(cb_ HB.out hx326_0:_)
          replace hx326_1:=(cb_ HB.out hx326_1:_)
          replace hx326_2:=(cb_ HB.out hx326_2:_)
          replace hx326_3:=(cb_ HB.out hx326_3:_)
          replace hx326_4:=(cb_ HB.out hx326_4:_)
          have HR326_3:=Aside0.mk hi326_3
          have HC326_3:=Aside0.mk hl326_3
          clear hi326_3 hl326_3
          replace p326:=eq_true p326
          replace q326:=eq_true q326
          have p327:0≤(x5_2:Int):=of_decide_eq_true as_
          have q327:x5_2 < (l1_3.length:Int):=of_decide_eq_true as_
          obtain ⟨ad327,A327_3,c327_3,e327,hx327_0,hx327_1,hx327_2,hx327_3,hx327_4,hl327_3,hi327_3⟩:=at_T24 HR1_3.out x5_2 p327 q327
          have hw327_4:=hx327_4
          have hw327_3:=hx327_3
          have hw327_2:=hx327_2
          have hw327_1:=hx327_1
          have hw327_0:=hx327_0
          cases e327
          replace hx327_0:=(cb_ HB.out hx327_0:_)
          replace hx327_1:=(cb_ HB.out hx327_1:_)
          replace hx327_2:=(cb_ HB.out hx327_2:_)
          replace hx327_3:=(cb_ HB.out hx327_3:_)
          replace hx327_4:=(cb_ HB.out hx327_4:_)
          have HR327_3:=Aside0.mk hi327_3
          have HC327_3:=Aside0.mk hl327_3
          clear hi327_3 hl327_3
          replace p327:=eq_true p327
          replace q327:=eq_true q327
          refine start_ (n:=12) (S:=fun w'=>w'.cell? ⟨gb324,0,none⟩=some (.string a0_0)∧w'.cell? ⟨gb324,1,none⟩=some (.string a0_1)∧w'.cell? ⟨gb324,2,none⟩=some (.int .i64 a0_2)∧w'.cell? ⟨gb324,3,none⟩=some (.slice (some ad326) l0_3.length c0_3)∧w'.cell? ⟨gb324,4,none⟩=some (.int .i64 a0_4)∧w'.cell? ⟨gb325,0,none⟩=some (.string a1_0)∧w'.cell? ⟨gb325,1,none⟩=some (.string a1_1)∧w'.cell? ⟨gb325,2,none⟩=some (.int .i64 a1_2)∧w'.cell? ⟨gb325,3,none⟩=some (.slice (some ad327) l1_3.length c1_3)∧w'.cell? ⟨gb325,4,none⟩=some (.int .i64 a1_4)∧w'.cell? (ad326.add ((x5_2).toNat * 5))=some (.string ((rd_T24 l0_3 x5_2).f0))∧w'.cell? ⟨(ad326.add ((x5_2).toNat * 5)).block,(ad326.add ((x5_2).toNat * 5)).off+1,none⟩=some (.string ((rd_T24 l0_3 x5_2).f1))∧w'.cell? ⟨(ad326.add ((x5_2).toNat * 5)).block,(ad326.add ((x5_2).toNat * 5)).off+2,none⟩=some (.int .i64 ((rd_T24 l0_3 x5_2).f2))∧w'.cell? ⟨(ad326.add ((x5_2).toNat * 5)).block,(ad326.add ((x5_2).toNat * 5)).off+3,none⟩=some (.slice A326_3 ((rd_T24 l0_3 x5_2).f3).length c326_3)∧w'.cell? ⟨(ad326.add ((x5_2).toNat * 5)).block,(ad326.add ((x5_2).toNat * 5)).off+4,none⟩=some (.int .i64 ((rd_T24 l0_3 x5_2).f4))∧w'.cell? (ad327.add ((x5_2).toNat * 5))=some (.string ((rd_T24 l1_3 x5_2).f0))∧w'.cell? ⟨(ad327.add ((x5_2).toNat * 5)).block,(ad327.add ((x5_2).toNat * 5)).off+1,none⟩=some (.string ((rd_T24 l1_3 x5_2).f1))∧w'.cell? ⟨(ad327.add ((x5_2).toNat * 5)).block,(ad327.add ((x5_2).toNat * 5)).off+2,none⟩=some (.int .i64 ((rd_T24 l1_3 x5_2).f2))∧w'.cell? ⟨(ad327.add ((x5_2).toNat * 5)).block,(ad327.add ((x5_2).toNat * 5)).off+3,none⟩=some (.slice A327_3 ((rd_T24 l1_3 x5_2).f3).length c327_3)∧w'.cell? ⟨(ad327.add ((x5_2).toNat * 5)).block,(ad327.add ((x5_2).toNat * 5)).off+4,none⟩=some (.int .i64 ((rd_T24 l1_3 x5_2).f4))) (ds:=[]) (flg 12 0) (by kernel_rfl) rfl (by kernel_rfl) ⟨zc_ BK324.out 0,zc_ BK324.out 1,zc_ BK324.out 2,zc_ BK324.out 3,zc_ BK324.out 4,zc_ BK325.out 0,zc_ BK325.out 1,zc_ BK325.out 2,zc_ BK325.out 3,zc_ BK325.out 4,((cb_ HB.out hw326_0:_)),((cb_ HB.out hw326_1:_)),((cb_ HB.out hw326_2:_)),((cb_ HB.out hw326_3:_)),((cb_ HB.out hw326_4:_)),((cb_ HB.out hw327_0:_)),((cb_ HB.out hw327_1:_)),((cb_ HB.out hw327_2:_)),((cb_ HB.out hw327_3:_)),((cb_ HB.out hw327_4:_))⟩ (fun hHeld=>?_);refine with_tabW helmsmanref12_SameExpr.tab6 helmsmanref12_SameExpr.bits6 (fun HT_ HW_=>?_)
          generalize wr.drew=w33 at BK324 BK325 HB HR326_3 HR327_3 hx326_0 hx326_1 hx326_2 hx326_3 hx326_4 hx327_0 hx327_1 hx327_2 hx327_3 hx327_4 hHeld ⊢
          refine pur_ 0 41 (flg 12 1) rfl rfl (any_of HT_.out (by kernel_rfl)) (fun _ _ _ h=>h) ?_
          refine pur_ 2 43 (flg 12 5) rfl rfl (any_of HT_.out (by kernel_rfl)) (fun _ _ _ h=>h) ?_
          refine pur_ 5 46 (flg 12 37) rfl rfl (any_of HT_.out (by kernel_rfl)) (fun _ _ _ h=>h) ?_
          refine pur_ 7 48 (flg 12 165) rfl rfl (any_of HT_.out (by kernel_rfl)) (fun _ _ _ h=>h) ?_
          refine tak_ 1 42 (flg 12 167) rfl rfl (take_ofW HT_.out HW_.out (by kernel_rfl)) (fun _ _ _ h=>h) hHeld ?_
          refine pur_ 3 44 (flg 12 175) rfl rfl (any_of HT_.out (by kernel_rfl)) (fun _ _ _ h=>h) ?_
          refine tak_ 4 45 (flg 12 191) rfl rfl (take_ofW HT_.out HW_.out (by kernel_rfl)) (fun _ _ _ h=>h) hHeld ?_
          refine tak_ 6 47 (flg 12 255) rfl rfl (take_ofW HT_.out HW_.out (by kernel_rfl)) (fun _ _ _ h=>h) hHeld ?_
          refine pur_ 8 49 (flg 12 511) rfl rfl (any_of HT_.out (by kernel_rfl)) (fun _ _ _ h=>h) ?_
          refine tak_ 9 50 (flg 12 1023) rfl rfl (take_ofW HT_.out HW_.out (by kernel_rfl)) (fun _ _ _ h=>h) hHeld ?_
          refine one_ (i:=10) (N:=some 51) (flg 12 2047) rfl rfl (one_of HT_.out (by kernel_rfl)) (by decide) (fun K hK=>?_)
          refine goes_ Tryd.func27 (by kernel_rfl) rfl #[.agg #[.string ((rd_T24 l0_3 x5_2).f0),.string ((rd_T24 l0_3 x5_2).f1),.int .i64 ((rd_T24 l0_3 x5_2).f2),.slice A326_3 ((rd_T24 l0_3 x5_2).f3).length c326_3,.int .i64 ((rd_T24 l0_3 x5_2).f4)],.agg #[.string ((rd_T24 l1_3 x5_2).f0),.string ((rd_T24 l1_3 x5_2).f1),.int .i64 ((rd_T24 l1_3 x5_2).f2),.slice A327_3 ((rd_T24 l1_3 x5_2).f3).length c327_3,.int .i64 ((rd_T24 l1_3 x5_2).f4)]] (by rfl) rfl rfl ar_ ?_
          with_reducible refine (ih k2 (by have:=HJ2.out;have:=HK2.out;omega) ((rd_T24 l0_3 x5_2).f0) ((rd_T24 l0_3 x5_2).f1) ((rd_T24 l0_3 x5_2).f2) _ _ ((rd_T24 l0_3 x5_2).f3) ((rd_T24 l0_3 x5_2).f4) ((rd_T24 l1_3 x5_2).f0) ((rd_T24 l1_3 x5_2).f1) ((rd_T24 l1_3 x5_2).f2) _ _ ((rd_T24 l1_3 x5_2).f3) ((rd_T24 l1_3 x5_2).f4) false _ ?side1 ?side2 ?side3 ?side4 A25.out).mono ?_
          (case side1=>exact kc_ HR326_3.out HB.out)
          (case side2=>exact HC326_3.out)
          (case side3=>exact kc_ HR327_3.out HB.out)
          (case side4=>exact HC327_3.out)
          rintro e w34 ⟨rfl,hb⟩
          refine ⟨_,rfl,?_⟩
          have n0_:=Aside0.mk (bb_ BK324.out hb)
          have n1_:=Aside0.mk (bb_ BK325.out hb)
          have n2_:=Aside0.mk (below_step (bl_ HB.out) hb)
          clear BK324
          clear BK325
          clear HB
          have BK324:=n0_
          have BK325:=n1_
          have HB:=n2_
          clear n0_ n1_ n2_
          (try clear hb)
          (try clear hb2)
          (try clear hk)
          (try clear hi)
          refine hK.out _ _ ⟨zc_ BK324.out 0,zc_ BK324.out 1,zc_ BK324.out 2,zc_ BK324.out 3,zc_ BK324.out 4,zc_ BK325.out 0,zc_ BK325.out 1,zc_ BK325.out 2,zc_ BK325.out 3,zc_ BK325.out 4,((cb_ HB.out hw326_0:_)),((cb_ HB.out hw326_1:_)),((cb_ HB.out hw326_2:_)),((cb_ HB.out hw326_3:_)),((cb_ HB.out hw326_4:_)),((cb_ HB.out hw327_0:_)),((cb_ HB.out hw327_1:_)),((cb_ HB.out hw327_2:_)),((cb_ HB.out hw327_3:_)),((cb_ HB.out hw327_4:_))⟩ (fun hHeld=>?_)
          clear hK K
          refine norm_ (a':=?_) ?_ ?_
          rotate_left
          ·show Act.put _ (some 51) _=_
           simp only [Act.put,List.setIfInBounds_toArray,List.set_cons_zero,List.set_cons_succ,i64_w,i32_w]
           rfl
          refine pur_ 11 52 (flg 12 4095) rfl rfl (any_of HT_.out (by kernel_rfl)) (fun _ _ _ h=>h) ?_
          refine done_ (done_of HT_.out (by kernel_rfl)) ?_
          try go_wp2
          go_ret
          exact ⟨rt_,bl_ HB.out⟩
        ·rw [if_neg c24] at H
         exact absurd H (by simp)
       ·rw [if_neg c23] at H
        exact absurd H (by simp)
      ·rw [if_neg c22] at H
       have c22b0:decide (x5_2 < (l0_3.length:Int))=false:=decide_eq_false c22
       clear c22
       obtain rfl:=Option.some.inj H
       have hnb35:=NB324_325.out
       have hnc35:=NB325_324.out
       have hcz36_0:wr.cell? ⟨gb324,0,none⟩=some (.string a0_0):=zc_ BK324.out 0
       have hcz36_1:wr.cell? ⟨gb324,1,none⟩=some (.string a0_1):=zc_ BK324.out 1
       have hcz36_2:wr.cell? ⟨gb324,2,none⟩=some (.int .i64 a0_2):=zc_ BK324.out 2
       have hcz36_3:wr.cell? ⟨gb324,3,none⟩=some (.slice A0_3 l0_3.length c0_3):=zc_ BK324.out 3
       have hcz36_4:wr.cell? ⟨gb324,4,none⟩=some (.int .i64 a0_4):=zc_ BK324.out 4
       have hfz36_0:=blk_frozen BK324.out 0
       have hfz36_1:=blk_frozen BK324.out 1
       have hfz36_2:=blk_frozen BK324.out 2
       have hfz36_3:=blk_frozen BK324.out 3
       have hfz36_4:=blk_frozen BK324.out 4
       go_wp2
       go_ret
       exact ⟨rt_,bl_ HB.out⟩
end Go.Proofs.YtnnbbeloifhofaaDoor.P
end
section
namespace Go.Proofs.YtnnbbeloifhofaaDoor.P
open Go.RowKit Go.Proofs.YtnnbbeloifhofaaDoorW.PrintWords Go.Proofs.YtnnbbeloifhofaaDoorW.PrintLast Go.Proofs.YtnnbbeloifhofaaDoorW.PrintMore
attribute [local go_sem] max2_int min2_int max_two min_two max_three min_three max_four min_four
set_option linter.unusedVariables false
set_option linter.unusedSimpArgs false
mutual
def helmsmanref12_SameStmts.l0:Nat→List (S29)→List (S29)→Int→Option (Bool)
 | 0,_,_,_=>none
 | k+1,x0,x1,x5=>if x5 < (x0.length:Int) then (if 0≤x5 then (if x5 < (x1.length:Int) then (if ((rd_T29 x0 x5).f0).toList=((rd_T29 x1 x5).f0).toList then (if ((rd_T29 x0 x5).f1).toList=((rd_T29 x1 x5).f1).toList then (if (((rd_T29 x0 x5).f2).length:Int)=(((rd_T29 x1 x5).f2).length:Int) then ((helmsmanref12_SameStmts.f k ((rd_T29 x0 x5).f3) ((rd_T29 x1 x5).f3)).bind fun t333=>(if t333=true then ((helmsmanref12_SameStmts.f k ((rd_T29 x0 x5).f4) ((rd_T29 x1 x5).f4)).bind fun t334=>(helmsmanref12_SameStmts.j1 k x0 x1 x5 (!t334) ((rd_T29 x0 x5).f0) ((rd_T29 x0 x5).f1) ((rd_T29 x0 x5).f2) ((rd_T29 x0 x5).f3) ((rd_T29 x0 x5).f4) ((rd_T29 x0 x5).f5) ((rd_T29 x1 x5).f0) ((rd_T29 x1 x5).f1) ((rd_T29 x1 x5).f2) ((rd_T29 x1 x5).f3) ((rd_T29 x1 x5).f4) ((rd_T29 x1 x5).f5))) else (helmsmanref12_SameStmts.j1 k x0 x1 x5 true ((rd_T29 x0 x5).f0) ((rd_T29 x0 x5).f1) ((rd_T29 x0 x5).f2) ((rd_T29 x0 x5).f3) ((rd_T29 x0 x5).f4) ((rd_T29 x0 x5).f5) ((rd_T29 x1 x5).f0) ((rd_T29 x1 x5).f1) ((rd_T29 x1 x5).f2) ((rd_T29 x1 x5).f3) ((rd_T29 x1 x5).f4) ((rd_T29 x1 x5).f5)))) else (helmsmanref12_SameStmts.j1 k x0 x1 x5 true ((rd_T29 x0 x5).f0) ((rd_T29 x0 x5).f1) ((rd_T29 x0 x5).f2) ((rd_T29 x0 x5).f3) ((rd_T29 x0 x5).f4) ((rd_T29 x0 x5).f5) ((rd_T29 x1 x5).f0) ((rd_T29 x1 x5).f1) ((rd_T29 x1 x5).f2) ((rd_T29 x1 x5).f3) ((rd_T29 x1 x5).f4) ((rd_T29 x1 x5).f5))) else (helmsmanref12_SameStmts.j1 k x0 x1 x5 true ((rd_T29 x0 x5).f0) ((rd_T29 x0 x5).f1) ((rd_T29 x0 x5).f2) ((rd_T29 x0 x5).f3) ((rd_T29 x0 x5).f4) ((rd_T29 x0 x5).f5) ((rd_T29 x1 x5).f0) ((rd_T29 x1 x5).f1) ((rd_T29 x1 x5).f2) ((rd_T29 x1 x5).f3) ((rd_T29 x1 x5).f4) ((rd_T29 x1 x5).f5))) else (helmsmanref12_SameStmts.j1 k x0 x1 x5 true ((rd_T29 x0 x5).f0) ((rd_T29 x0 x5).f1) ((rd_T29 x0 x5).f2) ((rd_T29 x0 x5).f3) ((rd_T29 x0 x5).f4) ((rd_T29 x0 x5).f5) ((rd_T29 x1 x5).f0) ((rd_T29 x1 x5).f1) ((rd_T29 x1 x5).f2) ((rd_T29 x1 x5).f3) ((rd_T29 x1 x5).f4) ((rd_T29 x1 x5).f5))) else (none)) else (none)) else (some true)
def helmsmanref12_SameStmts.j1:Nat→List (S29)→List (S29)→Int→Bool→ByteArray→ByteArray→List (S24)→List (S29)→List (S29)→Int→ByteArray→ByteArray→List (S24)→List (S29)→List (S29)→Int→Option (Bool)
 | 0,_,_,_,_,_,_,_,_,_,_,_,_,_,_,_,_=>none
 | k+1,x0,x1,x5,x64,x331000,x331001,x331002,x331003,x331004,x331005,x333000,x333001,x333002,x333003,x333004,x333005=>if x64=true then (some false) else (helmsmanref12_SameStmts.l1 k x0 x1 x5 0 x331000 x331001 x331002 x331003 x331004 x331005 x333000 x333001 x333002 x333003 x333004 x333005)
def helmsmanref12_SameStmts.l1:Nat→List (S29)→List (S29)→Int→Int→ByteArray→ByteArray→List (S24)→List (S29)→List (S29)→Int→ByteArray→ByteArray→List (S24)→List (S29)→List (S29)→Int→Option (Bool)
 | 0,_,_,_,_,_,_,_,_,_,_,_,_,_,_,_,_=>none
 | k+1,x0,x1,x5,x8,x331000,x331001,x331002,x331003,x331004,x331005,x333000,x333001,x333002,x333003,x333004,x333005=>if x8 < (x331002.length:Int) then (if 0≤x8 then (if x8 < (x333002.length:Int) then ((helmsmanref12_SameExpr.f k ((rd_T24 x331002 x8).f0) ((rd_T24 x331002 x8).f1) ((rd_T24 x331002 x8).f2) ((rd_T24 x331002 x8).f3) ((rd_T24 x331002 x8).f4) ((rd_T24 x333002 x8).f0) ((rd_T24 x333002 x8).f1) ((rd_T24 x333002 x8).f2) ((rd_T24 x333002 x8).f3) ((rd_T24 x333002 x8).f4)).bind fun t337=>(if t337=true then (helmsmanref12_SameStmts.l1 k x0 x1 x5 (wrap64 (x8+1)) x331000 x331001 x331002 x331003 x331004 x331005 x333000 x333001 x333002 x333003 x333004 x333005) else (some false))) else (none)) else (none)) else (helmsmanref12_SameStmts.l0 k x0 x1 (wrap64 (x5+1)))
def helmsmanref12_SameStmts.f:Nat→List (S29)→List (S29)→Option (Bool)
 | 0,_,_=>none
 | k+1,l0,l1=>if (l0.length:Int)=(l1.length:Int) then (helmsmanref12_SameStmts.l0 k l0 l1 0) else (some false)
end
def helmsmanref12_SameStmts.T13:Bool × List (List Nat × List Nat):=(true,[([],[]),([0],[0]),([],[]),([1,2],[1,2]),([3],[3]),([],[]),([5],[5]),([],[]),([6,7],[6,7]),([8],[8]),([4,9],[4,9]),([10],[10])])
def helmsmanref12_SameStmts.B13:List Nat:=[0,1,0,7,15,0,32,0,224,480,1023,2047]
theorem helmsmanref12_SameStmts.tab13:rtab .any (opsOf Tryd.f25 13)=helmsmanref12_SameStmts.T13:=by kernel_rfl
theorem helmsmanref12_SameStmts.bits13:waitsOk helmsmanref12_SameStmts.T13.2 helmsmanref12_SameStmts.B13=true:=by kernel_rfl
set_option maxHeartbeats 8000000 in
set_option maxRecDepth 100000 in
theorem helmsmanref12_SameStmts.calls (k:Nat) : ∀ (A0:Option Addr) (c0:Nat) (l0:List (S29)) (A1:Option Addr) (c1:Nat) (l1:List (S29)) (r:Bool) (w:World) (hr0:Kd.C k29 w A0 l0.length l0) (hc0:l0.length≤c0) (hr1:Kd.C k29 w A1 l1.length l1) (hc1:l1.length≤c1) (h:helmsmanref12_SameStmts.f k l0 l1=some r),
  Calls Tryd.prog 25 #[.slice A0 l0.length c0,.slice A1 l1.length c1] w fun e w'=>e=.returned (.bool r)∧Below w.heap.size w w':=by
 induction k using Nat.strongRecOn with
 | _ k ih=>
 intro A0 c0 l0 A1 c1 l1 r w hr0 hc0 hr1 hc1 h
 cases k with
 | zero=>exact absurd h (by simp [helmsmanref12_SameStmts.f])
 | succ k=>
 simp only [helmsmanref12_SameStmts.f] at h
 have hu29:=Tryd.underlying29
 have hu24:=Tryd.underlying24
 have HR0:=Aside0.mk hr0
 have HC0:=Aside0.mk hc0
 clear hr0 hc0
 have HR1:=Aside0.mk hr1
 have HC1:=Aside0.mk hc1
 clear hr1 hc1
 have HB:=Aside0.mk (Below.refl w.heap.size w)
 have H:(if (l0.length:Int)=(l1.length:Int) then (helmsmanref12_SameStmts.l0 k l0 l1 0) else (some false))=some r:=h
 clear h
 by_cases c3:(l0.length:Int)=(l1.length:Int)
 ·rw [if_pos c3] at H
  have c3b0:((l0.length:Int) == (l1.length:Int))=true:=beq_iff_eq.mpr c3
  have c3b1:((l0.length:Int) != (l1.length:Int))=false:=bne_eq_false_iff_eq.mpr c3
  have c3b2:(l0.length == l1.length)=true:=by first|simpa using c3|(simp at c3 ⊢;omega)
  clear c3
  have H':=Aside0.mk H
  clear H
  go_enter Tryd.func25,Tryd.ntmps25
  go_wp2
  (try simp only [Act.put,List.setIfInBounds_toArray,List.set_cons_succ,List.set_cons_zero])
  go_loopg [5] k (fun kq v5 w'=>∃ (x5_1:Int),v5=.int .i64 x5_1∧Aside0 (helmsmanref12_SameStmts.l0 kq l0 l1 x5_1=some r)∧Aside0 (kq≤k)∧Aside0 (Below w.heap.size w w'))
  case atStart=>exact ⟨(0),rf_,H',⟨Nat.le_refl _⟩,⟨bl_ HB.out⟩⟩
  case round=>
   clear H'
   (try clear c1);(try clear c2);(try clear p2);(try clear c3);(try clear c3b0);(try clear c3b1);(try clear c3b2)
   obtain ⟨x5_1,rfl,HA,HK1,HB⟩:=hrel
   cases gk with
   | zero=>exact absurd HA.out (by simp [helmsmanref12_SameStmts.l0])
   | succ k1=>
    have H:=HA.out
    clear HA
    simp only [helmsmanref12_SameStmts.l0] at H
    by_cases c4:x5_1 < (l0.length:Int)
    ·rw [if_pos c4] at H
     have c4b0:decide (x5_1 < (l0.length:Int))=true:=decide_eq_true c4
     clear c4
     by_cases c5:0≤x5_1
     ·rw [if_pos c5] at H
      have c5b0:decide (0≤x5_1)=true:=decide_eq_true c5
      clear c5
      by_cases c6:x5_1 < (l1.length:Int)
      ·rw [if_pos c6] at H
       have c6b0:decide (x5_1 < (l1.length:Int))=true:=decide_eq_true c6
       clear c6
       have HC7:=Aside0.mk H
       clear H
       have p329:0≤(x5_1:Int):=of_decide_eq_true as_
       have q329:x5_1 < (l0.length:Int):=of_decide_eq_true as_
       obtain ⟨ad329,A329_2,c329_2,A329_3,c329_3,A329_4,c329_4,e329,hx329_0,hx329_1,hx329_2,hx329_3,hx329_4,hx329_5,hl329_2,hi329_2,hl329_3,hi329_3,hl329_4,hi329_4⟩:=at_T29 HR0.out x5_1 p329 q329
       cases e329
       replace hx329_0:=(cb_ HB.out hx329_0:_)
       replace hx329_1:=(cb_ HB.out hx329_1:_)
       replace hx329_2:=(cb_ HB.out hx329_2:_)
       replace hx329_3:=(cb_ HB.out hx329_3:_)
       replace hx329_4:=(cb_ HB.out hx329_4:_)
       replace hx329_5:=(cb_ HB.out hx329_5:_)
       have HR329_2:=Aside0.mk hi329_2
       have HC329_2:=Aside0.mk hl329_2
       clear hi329_2 hl329_2
       have HR329_3:=Aside0.mk hi329_3
       have HC329_3:=Aside0.mk hl329_3
       clear hi329_3 hl329_3
       have HR329_4:=Aside0.mk hi329_4
       have HC329_4:=Aside0.mk hl329_4
       clear hi329_4 hl329_4
       replace p329:=eq_true p329
       replace q329:=eq_true q329
       go_upto_region 8 with (first|((with_reducible refine gate_dst (N:=6) rfl ?_);(try (refine gate_guard (by rfl) ?_;dsimp only));refine box_event ?hg (N:=6) ?hd (cs:=#[.string (⟨#[]⟩:ByteArray),.string (⟨#[]⟩:ByteArray),.slice none 0 0,.slice none 0 0,.slice none 0 0,.int .i64 0]) (t:=29) ?hr ?_;(case hd=>rfl);(case hg=>rfl);(case hr=>first|(go_simp;done)|(go_simp;rfl));intro gb330 hg w8 hbox hb;have n0_:=Aside0.mk (below_step (bl_ HB.out) hb);have n1_:=Aside0.mk (hbox);have n2_:=Aside0.mk ((gs_ hg (bl_ HB.out):w.heap.size≤gb330));have n3_:=Aside0.mk ((gs_ hg (bl_ HB.out):w.heap.size≤gb330));clear HB;have HB:=n0_;have BK330:=n1_;have GW330:=n2_;have GE330:=n3_;clear n0_ n1_ n2_ n3_;clear hb hbox hg;have hcz9_0:w8.cell? ⟨gb330,0,none⟩=some (.string (⟨#[]⟩:ByteArray)):=zc_ BK330.out 0;have hcz9_1:w8.cell? ⟨gb330,1,none⟩=some (.string (⟨#[]⟩:ByteArray)):=zc_ BK330.out 1;have hcz9_2:w8.cell? ⟨gb330,2,none⟩=some (.slice none 0 0):=zc_ BK330.out 2;have hcz9_3:w8.cell? ⟨gb330,3,none⟩=some (.slice none 0 0):=zc_ BK330.out 3;have hcz9_4:w8.cell? ⟨gb330,4,none⟩=some (.slice none 0 0):=zc_ BK330.out 4;have hcz9_5:w8.cell? ⟨gb330,5,none⟩=some (.int .i64 0):=zc_ BK330.out 5;have hfz9_0:=blk_frozen BK330.out 0;have hfz9_1:=blk_frozen BK330.out 1;have hfz9_2:=blk_frozen BK330.out 2;have hfz9_3:=blk_frozen BK330.out 3;have hfz9_4:=blk_frozen BK330.out 4;have hfz9_5:=blk_frozen BK330.out 5;have p331:0≤(x5_1:Int):=of_decide_eq_true as_;have q331:x5_1 < (l1.length:Int):=of_decide_eq_true as_;obtain ⟨ad331,A331_2,c331_2,A331_3,c331_3,A331_4,c331_4,e331,hx331_0,hx331_1,hx331_2,hx331_3,hx331_4,hx331_5,hl331_2,hi331_2,hl331_3,hi331_3,hl331_4,hi331_4⟩:=at_T29 HR1.out x5_1 p331 q331;cases e331;have hn331_0:ad331.block≠gb330:=Nat.ne_of_lt (Nat.lt_of_lt_of_le (by have:=World.block_lt_of_cell? _ _ hx331_0;first|rwa [add_block] at this|exact this) GW330.out);have hn331_1:ad331.block≠gb330:=Nat.ne_of_lt (Nat.lt_of_lt_of_le (by have:=World.block_lt_of_cell? _ _ hx331_0;first|rwa [add_block] at this|exact this) GW330.out);have hn331_2:ad331.block≠gb330:=Nat.ne_of_lt (Nat.lt_of_lt_of_le (by have:=World.block_lt_of_cell? _ _ hx331_0;first|rwa [add_block] at this|exact this) GW330.out);have hn331_3:ad331.block≠gb330:=Nat.ne_of_lt (Nat.lt_of_lt_of_le (by have:=World.block_lt_of_cell? _ _ hx331_0;first|rwa [add_block] at this|exact this) GW330.out);have hn331_4:ad331.block≠gb330:=Nat.ne_of_lt (Nat.lt_of_lt_of_le (by have:=World.block_lt_of_cell? _ _ hx331_0;first|rwa [add_block] at this|exact this) GW330.out);have hn331_5:ad331.block≠gb330:=Nat.ne_of_lt (Nat.lt_of_lt_of_le (by have:=World.block_lt_of_cell? _ _ hx331_0;first|rwa [add_block] at this|exact this) GW330.out);replace hx331_0:=(cb_ HB.out hx331_0:_);replace hx331_1:=(cb_ HB.out hx331_1:_);replace hx331_2:=(cb_ HB.out hx331_2:_);replace hx331_3:=(cb_ HB.out hx331_3:_);replace hx331_4:=(cb_ HB.out hx331_4:_);replace hx331_5:=(cb_ HB.out hx331_5:_);have HR331_2:=Aside0.mk hi331_2;have HC331_2:=Aside0.mk hl331_2;clear hi331_2 hl331_2;have HR331_3:=Aside0.mk hi331_3;have HC331_3:=Aside0.mk hl331_3;clear hi331_3 hl331_3;have HR331_4:=Aside0.mk hi331_4;have HC331_4:=Aside0.mk hl331_4;clear hi331_4 hl331_4;replace hx331_0:=(cell_far (p:=⟨gb330,0,none⟩) (ab_ hn331_0) (.string ((rd_T29 l0 x5_1).f0))).trans hx331_0;replace hx331_1:=(cell_far (p:=⟨gb330,0,none⟩) (ab_ hn331_0) (.string ((rd_T29 l0 x5_1).f0))).trans hx331_1;replace hx331_2:=(cell_far (p:=⟨gb330,0,none⟩) (ab_ hn331_0) (.string ((rd_T29 l0 x5_1).f0))).trans hx331_2;replace hx331_3:=(cell_far (p:=⟨gb330,0,none⟩) (ab_ hn331_0) (.string ((rd_T29 l0 x5_1).f0))).trans hx331_3;replace hx331_4:=(cell_far (p:=⟨gb330,0,none⟩) (ab_ hn331_0) (.string ((rd_T29 l0 x5_1).f0))).trans hx331_4;replace hx331_5:=(cell_far (p:=⟨gb330,0,none⟩) (ab_ hn331_0) (.string ((rd_T29 l0 x5_1).f0))).trans hx331_5;replace hx331_0:=(cell_far (p:=⟨gb330,1,none⟩) (ab_ hn331_1) (.string ((rd_T29 l0 x5_1).f1))).trans hx331_0;replace hx331_1:=(cell_far (p:=⟨gb330,1,none⟩) (ab_ hn331_1) (.string ((rd_T29 l0 x5_1).f1))).trans hx331_1;replace hx331_2:=(cell_far (p:=⟨gb330,1,none⟩) (ab_ hn331_1) (.string ((rd_T29 l0 x5_1).f1))).trans hx331_2;replace hx331_3:=(cell_far (p:=⟨gb330,1,none⟩) (ab_ hn331_1) (.string ((rd_T29 l0 x5_1).f1))).trans hx331_3;replace hx331_4:=(cell_far (p:=⟨gb330,1,none⟩) (ab_ hn331_1) (.string ((rd_T29 l0 x5_1).f1))).trans hx331_4;replace hx331_5:=(cell_far (p:=⟨gb330,1,none⟩) (ab_ hn331_1) (.string ((rd_T29 l0 x5_1).f1))).trans hx331_5;replace hx331_0:=(cell_far (p:=⟨gb330,2,none⟩) (ab_ hn331_2) (.slice A329_2 ((rd_T29 l0 x5_1).f2).length c329_2)).trans hx331_0;replace hx331_1:=(cell_far (p:=⟨gb330,2,none⟩) (ab_ hn331_2) (.slice A329_2 ((rd_T29 l0 x5_1).f2).length c329_2)).trans hx331_1;replace hx331_2:=(cell_far (p:=⟨gb330,2,none⟩) (ab_ hn331_2) (.slice A329_2 ((rd_T29 l0 x5_1).f2).length c329_2)).trans hx331_2;replace hx331_3:=(cell_far (p:=⟨gb330,2,none⟩) (ab_ hn331_2) (.slice A329_2 ((rd_T29 l0 x5_1).f2).length c329_2)).trans hx331_3;replace hx331_4:=(cell_far (p:=⟨gb330,2,none⟩) (ab_ hn331_2) (.slice A329_2 ((rd_T29 l0 x5_1).f2).length c329_2)).trans hx331_4;replace hx331_5:=(cell_far (p:=⟨gb330,2,none⟩) (ab_ hn331_2) (.slice A329_2 ((rd_T29 l0 x5_1).f2).length c329_2)).trans hx331_5;replace hx331_0:=(cell_far (p:=⟨gb330,3,none⟩) (ab_ hn331_3) (.slice A329_3 ((rd_T29 l0 x5_1).f3).length c329_3)).trans hx331_0;replace hx331_1:=(cell_far (p:=⟨gb330,3,none⟩) (ab_ hn331_3) (.slice A329_3 ((rd_T29 l0 x5_1).f3).length c329_3)).trans hx331_1;replace hx331_2:=(cell_far (p:=⟨gb330,3,none⟩) (ab_ hn331_3) (.slice A329_3 ((rd_T29 l0 x5_1).f3).length c329_3)).trans hx331_2;replace hx331_3:=(cell_far (p:=⟨gb330,3,none⟩) (ab_ hn331_3) (.slice A329_3 ((rd_T29 l0 x5_1).f3).length c329_3)).trans hx331_3;replace hx331_4:=(cell_far (p:=⟨gb330,3,none⟩) (ab_ hn331_3) (.slice A329_3 ((rd_T29 l0 x5_1).f3).length c329_3)).trans hx331_4;replace hx331_5:=(cell_far (p:=⟨gb330,3,none⟩) (ab_ hn331_3) (.slice A329_3 ((rd_T29 l0 x5_1).f3).length c329_3)).trans hx331_5;replace hx331_0:=(cell_far (p:=⟨gb330,4,none⟩) (ab_ hn331_4) (.slice A329_4 ((rd_T29 l0 x5_1).f4).length c329_4)).trans hx331_0;replace hx331_1:=(cell_far (p:=⟨gb330,4,none⟩) (ab_ hn331_4) (.slice A329_4 ((rd_T29 l0 x5_1).f4).length c329_4)).trans hx331_1;replace hx331_2:=(cell_far (p:=⟨gb330,4,none⟩) (ab_ hn331_4) (.slice A329_4 ((rd_T29 l0 x5_1).f4).length c329_4)).trans hx331_2;replace hx331_3:=(cell_far (p:=⟨gb330,4,none⟩) (ab_ hn331_4) (.slice A329_4 ((rd_T29 l0 x5_1).f4).length c329_4)).trans hx331_3;replace hx331_4:=(cell_far (p:=⟨gb330,4,none⟩) (ab_ hn331_4) (.slice A329_4 ((rd_T29 l0 x5_1).f4).length c329_4)).trans hx331_4;replace hx331_5:=(cell_far (p:=⟨gb330,4,none⟩) (ab_ hn331_4) (.slice A329_4 ((rd_T29 l0 x5_1).f4).length c329_4)).trans hx331_5;replace hx331_0:=(cell_far (p:=⟨gb330,5,none⟩) (ab_ hn331_5) (.int .i64 ((rd_T29 l0 x5_1).f5))).trans hx331_0;replace hx331_1:=(cell_far (p:=⟨gb330,5,none⟩) (ab_ hn331_5) (.int .i64 ((rd_T29 l0 x5_1).f5))).trans hx331_1;replace hx331_2:=(cell_far (p:=⟨gb330,5,none⟩) (ab_ hn331_5) (.int .i64 ((rd_T29 l0 x5_1).f5))).trans hx331_2;replace hx331_3:=(cell_far (p:=⟨gb330,5,none⟩) (ab_ hn331_5) (.int .i64 ((rd_T29 l0 x5_1).f5))).trans hx331_3;replace hx331_4:=(cell_far (p:=⟨gb330,5,none⟩) (ab_ hn331_5) (.int .i64 ((rd_T29 l0 x5_1).f5))).trans hx331_4;replace hx331_5:=(cell_far (p:=⟨gb330,5,none⟩) (ab_ hn331_5) (.int .i64 ((rd_T29 l0 x5_1).f5))).trans hx331_5;clear hn331_0;clear hn331_1;clear hn331_2;clear hn331_3;clear hn331_4;clear hn331_5;replace p331:=eq_true p331;replace q331:=eq_true q331)|((with_reducible refine gate_dst (N:=7) rfl ?_);(try (refine gate_guard (by rfl) ?_;dsimp only));refine box_event ?hg (N:=7) ?hd (cs:=#[.string (⟨#[]⟩:ByteArray),.string (⟨#[]⟩:ByteArray),.slice none 0 0,.slice none 0 0,.slice none 0 0,.int .i64 0]) (t:=29) ?hr ?_;(case hd=>rfl);(case hg=>rfl);(case hr=>first|(go_simp;done)|(go_simp;rfl));intro gb332 hg w10 hbox hb;have n0_:=Aside0.mk (blk_below (g:=gb330) (o:=.cells #[.string ((rd_T29 l0 x5_1).f0),.string ((rd_T29 l0 x5_1).f1),.slice A329_2 ((rd_T29 l0 x5_1).f2).length c329_2,.slice A329_3 ((rd_T29 l0 x5_1).f3).length c329_3,.slice A329_4 ((rd_T29 l0 x5_1).f4).length c329_4,.int .i64 ((rd_T29 l0 x5_1).f5)] 29 (0,0)) (kbc_ BK330.out) hb);have n1_:=Aside0.mk (below_step (bl_ HB.out) hb);have n2_:=Aside0.mk (hbox);have n3_:=Aside0.mk ((gs_ hg (bl_ HB.out):w.heap.size≤gb332));have n4_:=Aside0.mk ((gs_ hg (bl_ HB.out):w.heap.size≤gb332));have n5_:=Aside0.mk ((by rw [hg];exact Nat.ne_of_lt (blk_lt (g:=gb330) (o:=.cells #[.string ((rd_T29 l0 x5_1).f0),.string ((rd_T29 l0 x5_1).f1),.slice A329_2 ((rd_T29 l0 x5_1).f2).length c329_2,.slice A329_3 ((rd_T29 l0 x5_1).f3).length c329_3,.slice A329_4 ((rd_T29 l0 x5_1).f4).length c329_4,.int .i64 ((rd_T29 l0 x5_1).f5)] 29 (0,0)) (kbc_ BK330.out)):gb330≠gb332));have n6_:=Aside0.mk ((by rw [hg];exact Nat.ne_of_gt (blk_lt (g:=gb330) (o:=.cells #[.string ((rd_T29 l0 x5_1).f0),.string ((rd_T29 l0 x5_1).f1),.slice A329_2 ((rd_T29 l0 x5_1).f2).length c329_2,.slice A329_3 ((rd_T29 l0 x5_1).f3).length c329_3,.slice A329_4 ((rd_T29 l0 x5_1).f4).length c329_4,.int .i64 ((rd_T29 l0 x5_1).f5)] 29 (0,0)) (kbc_ BK330.out)):gb332≠gb330));clear BK330;clear HB;have BK330:=n0_;have HB:=n1_;have BK332:=n2_;have GW332:=n3_;have GE332:=n4_;have NB330_332:=n5_;have NB332_330:=n6_;clear n0_ n1_ n2_ n3_ n4_ n5_ n6_;clear hb hbox hg;have hnb11:=NB332_330.out;have hnc11:=NB330_332.out;have hcz12_0:w10.cell? ⟨gb332,0,none⟩=some (.string (⟨#[]⟩:ByteArray)):=zc_ BK332.out 0;have hcz12_1:w10.cell? ⟨gb332,1,none⟩=some (.string (⟨#[]⟩:ByteArray)):=zc_ BK332.out 1;have hcz12_2:w10.cell? ⟨gb332,2,none⟩=some (.slice none 0 0):=zc_ BK332.out 2;have hcz12_3:w10.cell? ⟨gb332,3,none⟩=some (.slice none 0 0):=zc_ BK332.out 3;have hcz12_4:w10.cell? ⟨gb332,4,none⟩=some (.slice none 0 0):=zc_ BK332.out 4;have hcz12_5:w10.cell? ⟨gb332,5,none⟩=some (.int .i64 0):=zc_ BK332.out 5;have hfz12_0:=blk_frozen BK332.out 0;have hfz12_1:=blk_frozen BK332.out 1;have hfz12_2:=blk_frozen BK332.out 2;have hfz12_3:=blk_frozen BK332.out 3;have hfz12_4:=blk_frozen BK332.out 4;have hfz12_5:=blk_frozen BK332.out 5))
       (try simp only [Act.put,List.setIfInBounds_toArray,List.set_cons_zero,List.set_cons_succ])
       go_cut [64] (fun v64 wc=>∃ (kq:Nat) (x64_6:Bool),v64=.bool x64_6∧Aside0 (helmsmanref12_SameStmts.j1 kq l0 l1 x5_1 x64_6 ((rd_T29 l0 x5_1).f0) ((rd_T29 l0 x5_1).f1) ((rd_T29 l0 x5_1).f2) ((rd_T29 l0 x5_1).f3) ((rd_T29 l0 x5_1).f4) ((rd_T29 l0 x5_1).f5) ((rd_T29 l1 x5_1).f0) ((rd_T29 l1 x5_1).f1) ((rd_T29 l1 x5_1).f2) ((rd_T29 l1 x5_1).f3) ((rd_T29 l1 x5_1).f4) ((rd_T29 l1 x5_1).f5)=some r)∧Aside0 (kq≤k1)∧Aside0 (wc.heap[gb330]?=some (.cells #[.string ((rd_T29 l0 x5_1).f0),.string ((rd_T29 l0 x5_1).f1),(.slice A329_2 ((rd_T29 l0 x5_1).f2).length c329_2),(.slice A329_3 ((rd_T29 l0 x5_1).f3).length c329_3),(.slice A329_4 ((rd_T29 l0 x5_1).f4).length c329_4),.int .i64 ((rd_T29 l0 x5_1).f5)] 29 (0,0)))∧Aside0 (wc.heap[gb332]?=some (.cells #[.string ((rd_T29 l1 x5_1).f0),.string ((rd_T29 l1 x5_1).f1),(.slice A331_2 ((rd_T29 l1 x5_1).f2).length c331_2),(.slice A331_3 ((rd_T29 l1 x5_1).f3).length c331_3),(.slice A331_4 ((rd_T29 l1 x5_1).f4).length c331_4),.int .i64 ((rd_T29 l1 x5_1).f5)] 29 (0,0)))∧Aside0 (Below w.heap.size w wc))
       case first=>
        have H:=HC7.out
        clear HC7
        by_cases c13:((rd_T29 l0 x5_1).f0).toList=((rd_T29 l1 x5_1).f0).toList
        ·rw [if_pos c13] at H
         have c13b0:(((rd_T29 l0 x5_1).f0).toList == ((rd_T29 l1 x5_1).f0).toList)=true:=beq_iff_eq.mpr c13
         have c13b1:(((rd_T29 l0 x5_1).f0).toList != ((rd_T29 l1 x5_1).f0).toList)=false:=bne_eq_false_iff_eq.mpr c13
         clear c13
         (first|rw [c13b0]|(simp only [i64_w,i32_w];rw [c13b0])|skip)
         by_cases c14:((rd_T29 l0 x5_1).f1).toList=((rd_T29 l1 x5_1).f1).toList
         ·rw [if_pos c14] at H
          have c14b0:(((rd_T29 l0 x5_1).f1).toList == ((rd_T29 l1 x5_1).f1).toList)=true:=beq_iff_eq.mpr c14
          have c14b1:(((rd_T29 l0 x5_1).f1).toList != ((rd_T29 l1 x5_1).f1).toList)=false:=bne_eq_false_iff_eq.mpr c14
          clear c14
          by_cases c15:(((rd_T29 l0 x5_1).f2).length:Int)=(((rd_T29 l1 x5_1).f2).length:Int)
          ·rw [if_pos c15] at H
           have c15b0:((((rd_T29 l0 x5_1).f2).length:Int) == (((rd_T29 l1 x5_1).f2).length:Int))=true:=beq_iff_eq.mpr c15
           have c15b1:((((rd_T29 l0 x5_1).f2).length:Int) != (((rd_T29 l1 x5_1).f2).length:Int))=false:=bne_eq_false_iff_eq.mpr c15
           have c15b2:(((rd_T29 l0 x5_1).f2).length == ((rd_T29 l1 x5_1).f2).length)=true:=by first|simpa using c15|(simp at c15 ⊢;omega)
           clear c15
           replace H:=Option.bind_eq_some_iff.mp H
           obtain ⟨t333,A160,H⟩:=H
           replace H:(if t333=true then ((helmsmanref12_SameStmts.f k1 ((rd_T29 l0 x5_1).f4) ((rd_T29 l1 x5_1).f4)).bind fun t334=>(helmsmanref12_SameStmts.j1 k1 l0 l1 x5_1 (!t334) ((rd_T29 l0 x5_1).f0) ((rd_T29 l0 x5_1).f1) ((rd_T29 l0 x5_1).f2) ((rd_T29 l0 x5_1).f3) ((rd_T29 l0 x5_1).f4) ((rd_T29 l0 x5_1).f5) ((rd_T29 l1 x5_1).f0) ((rd_T29 l1 x5_1).f1) ((rd_T29 l1 x5_1).f2) ((rd_T29 l1 x5_1).f3) ((rd_T29 l1 x5_1).f4) ((rd_T29 l1 x5_1).f5))) else (helmsmanref12_SameStmts.j1 k1 l0 l1 x5_1 true ((rd_T29 l0 x5_1).f0) ((rd_T29 l0 x5_1).f1) ((rd_T29 l0 x5_1).f2) ((rd_T29 l0 x5_1).f3) ((rd_T29 l0 x5_1).f4) ((rd_T29 l0 x5_1).f5) ((rd_T29 l1 x5_1).f0) ((rd_T29 l1 x5_1).f1) ((rd_T29 l1 x5_1).f2) ((rd_T29 l1 x5_1).f3) ((rd_T29 l1 x5_1).f4) ((rd_T29 l1 x5_1).f5)))=some r:=H
           have A16:=Aside0.mk A160
           clear A160
           by_cases c17:t333=true
           ·subst c17
            have H1:((helmsmanref12_SameStmts.f k1 ((rd_T29 l0 x5_1).f4) ((rd_T29 l1 x5_1).f4)).bind fun t334=>(helmsmanref12_SameStmts.j1 k1 l0 l1 x5_1 (!t334) ((rd_T29 l0 x5_1).f0) ((rd_T29 l0 x5_1).f1) ((rd_T29 l0 x5_1).f2) ((rd_T29 l0 x5_1).f3) ((rd_T29 l0 x5_1).f4) ((rd_T29 l0 x5_1).f5) ((rd_T29 l1 x5_1).f0) ((rd_T29 l1 x5_1).f1) ((rd_T29 l1 x5_1).f2) ((rd_T29 l1 x5_1).f3) ((rd_T29 l1 x5_1).f4) ((rd_T29 l1 x5_1).f5)))=some r:=by rw [if_pos rfl] at H;exact H
            clear H
            have H:=H1
            clear H1
            replace H:=Option.bind_eq_some_iff.mp H
            obtain ⟨t334,A180,H⟩:=H
            replace H:(helmsmanref12_SameStmts.j1 k1 l0 l1 x5_1 (!t334) ((rd_T29 l0 x5_1).f0) ((rd_T29 l0 x5_1).f1) ((rd_T29 l0 x5_1).f2) ((rd_T29 l0 x5_1).f3) ((rd_T29 l0 x5_1).f4) ((rd_T29 l0 x5_1).f5) ((rd_T29 l1 x5_1).f0) ((rd_T29 l1 x5_1).f1) ((rd_T29 l1 x5_1).f2) ((rd_T29 l1 x5_1).f3) ((rd_T29 l1 x5_1).f4) ((rd_T29 l1 x5_1).f5))=some r:=H
            have A18:=Aside0.mk A180
            clear A180
            have H':=Aside0.mk H
            clear H
            have hnb19:=NB330_332.out
            have hnc19:=NB332_330.out
            have hcz20_0:w10.cell? ⟨gb330,0,none⟩=some (.string ((rd_T29 l0 x5_1).f0)):=zc_ BK330.out 0
            have hcz20_1:w10.cell? ⟨gb330,1,none⟩=some (.string ((rd_T29 l0 x5_1).f1)):=zc_ BK330.out 1
            have hcz20_2:w10.cell? ⟨gb330,2,none⟩=some (.slice A329_2 ((rd_T29 l0 x5_1).f2).length c329_2):=zc_ BK330.out 2
            have hcz20_3:w10.cell? ⟨gb330,3,none⟩=some (.slice A329_3 ((rd_T29 l0 x5_1).f3).length c329_3):=zc_ BK330.out 3
            have hcz20_4:w10.cell? ⟨gb330,4,none⟩=some (.slice A329_4 ((rd_T29 l0 x5_1).f4).length c329_4):=zc_ BK330.out 4
            have hcz20_5:w10.cell? ⟨gb330,5,none⟩=some (.int .i64 ((rd_T29 l0 x5_1).f5)):=zc_ BK330.out 5
            have hfz20_0:=blk_frozen BK330.out 0
            have hfz20_1:=blk_frozen BK330.out 1
            have hfz20_2:=blk_frozen BK330.out 2
            have hfz20_3:=blk_frozen BK330.out 3
            have hfz20_4:=blk_frozen BK330.out 4
            have hfz20_5:=blk_frozen BK330.out 5
            have hcz21_0:w10.cell? ⟨gb332,0,none⟩=some (.string (⟨#[]⟩:ByteArray)):=zc_ BK332.out 0
            have hcz21_1:w10.cell? ⟨gb332,1,none⟩=some (.string (⟨#[]⟩:ByteArray)):=zc_ BK332.out 1
            have hcz21_2:w10.cell? ⟨gb332,2,none⟩=some (.slice none 0 0):=zc_ BK332.out 2
            have hcz21_3:w10.cell? ⟨gb332,3,none⟩=some (.slice none 0 0):=zc_ BK332.out 3
            have hcz21_4:w10.cell? ⟨gb332,4,none⟩=some (.slice none 0 0):=zc_ BK332.out 4
            have hcz21_5:w10.cell? ⟨gb332,5,none⟩=some (.int .i64 0):=zc_ BK332.out 5
            have hfz21_0:=blk_frozen BK332.out 0
            have hfz21_1:=blk_frozen BK332.out 1
            have hfz21_2:=blk_frozen BK332.out 2
            have hfz21_3:=blk_frozen BK332.out 3
            have hfz21_4:=blk_frozen BK332.out 4
            have hfz21_5:=blk_frozen BK332.out 5
            go_wp2_with (first|(go_at_call 25;(with_reducible refine (ih k1 (by have:=HK1.out;omega) _ _ ((rd_T29 l0 x5_1).f3) _ _ ((rd_T29 l1 x5_1).f3) true _ ?side1 ?side2 ?side3 ?side4 A16.out).mono ?_);(case side1=>exact Kd.C_below HR329_3.out (bl_ HB.out));(case side2=>exact HC329_3.out);(case side3=>exact Kd.C_below HR331_3.out (bl_ HB.out));(case side4=>exact HC331_3.out);rintro e w22 ⟨rfl,hb⟩;have n0_:=Aside0.mk (blk_below (g:=gb330) (o:=.cells #[.string ((rd_T29 l0 x5_1).f0),.string ((rd_T29 l0 x5_1).f1),.slice A329_2 ((rd_T29 l0 x5_1).f2).length c329_2,.slice A329_3 ((rd_T29 l0 x5_1).f3).length c329_3,.slice A329_4 ((rd_T29 l0 x5_1).f4).length c329_4,.int .i64 ((rd_T29 l0 x5_1).f5)] 29 (0,0)) (kbc_ BK330.out) hb);have n1_:=Aside0.mk (blk_below (g:=gb332) (o:=.cells #[.string ((rd_T29 l1 x5_1).f0),.string ((rd_T29 l1 x5_1).f1),.slice A331_2 ((rd_T29 l1 x5_1).f2).length c331_2,.slice A331_3 ((rd_T29 l1 x5_1).f3).length c331_3,.slice A331_4 ((rd_T29 l1 x5_1).f4).length c331_4,.int .i64 ((rd_T29 l1 x5_1).f5)] 29 (0,0)) (kbc_ BK332.out) hb);have n2_:=Aside0.mk (below_step (bl_ HB.out) hb);clear BK330;clear BK332;clear HB;have BK330:=n0_;have BK332:=n1_;have HB:=n2_;clear n0_ n1_ n2_;(try clear hb);(try clear hb2);(try clear hk);(try clear hi);have hcz23_0:w22.cell? ⟨gb330,0,none⟩=some (.string ((rd_T29 l0 x5_1).f0)):=zc_ BK330.out 0;have hcz23_1:w22.cell? ⟨gb330,1,none⟩=some (.string ((rd_T29 l0 x5_1).f1)):=zc_ BK330.out 1;have hcz23_2:w22.cell? ⟨gb330,2,none⟩=some (.slice A329_2 ((rd_T29 l0 x5_1).f2).length c329_2):=zc_ BK330.out 2;have hcz23_3:w22.cell? ⟨gb330,3,none⟩=some (.slice A329_3 ((rd_T29 l0 x5_1).f3).length c329_3):=zc_ BK330.out 3;have hcz23_4:w22.cell? ⟨gb330,4,none⟩=some (.slice A329_4 ((rd_T29 l0 x5_1).f4).length c329_4):=zc_ BK330.out 4;have hcz23_5:w22.cell? ⟨gb330,5,none⟩=some (.int .i64 ((rd_T29 l0 x5_1).f5)):=zc_ BK330.out 5;have hfz23_0:=blk_frozen BK330.out 0;have hfz23_1:=blk_frozen BK330.out 1;have hfz23_2:=blk_frozen BK330.out 2;have hfz23_3:=blk_frozen BK330.out 3;have hfz23_4:=blk_frozen BK330.out 4;have hfz23_5:=blk_frozen BK330.out 5;have hcz24_0:w22.cell? ⟨gb332,0,none⟩=some (.string ((rd_T29 l1 x5_1).f0)):=zc_ BK332.out 0;have hcz24_1:w22.cell? ⟨gb332,1,none⟩=some (.string ((rd_T29 l1 x5_1).f1)):=zc_ BK332.out 1;have hcz24_2:w22.cell? ⟨gb332,2,none⟩=some (.slice A331_2 ((rd_T29 l1 x5_1).f2).length c331_2):=zc_ BK332.out 2;have hcz24_3:w22.cell? ⟨gb332,3,none⟩=some (.slice A331_3 ((rd_T29 l1 x5_1).f3).length c331_3):=zc_ BK332.out 3;have hcz24_4:w22.cell? ⟨gb332,4,none⟩=some (.slice A331_4 ((rd_T29 l1 x5_1).f4).length c331_4):=zc_ BK332.out 4;have hcz24_5:w22.cell? ⟨gb332,5,none⟩=some (.int .i64 ((rd_T29 l1 x5_1).f5)):=zc_ BK332.out 5;have hfz24_0:=blk_frozen BK332.out 0;have hfz24_1:=blk_frozen BK332.out 1;have hfz24_2:=blk_frozen BK332.out 2;have hfz24_3:=blk_frozen BK332.out 3;have hfz24_4:=blk_frozen BK332.out 4;have hfz24_5:=blk_frozen BK332.out 5)|(go_at_call 25;(with_reducible refine (ih k1 (by have:=HK1.out;omega) _ _ ((rd_T29 l0 x5_1).f4) _ _ ((rd_T29 l1 x5_1).f4) t334 _ ?side1 ?side2 ?side3 ?side4 A18.out).mono ?_);(case side1=>exact kc_ HR329_4.out HB.out);(case side2=>exact HC329_4.out);(case side3=>exact kc_ HR331_4.out HB.out);(case side4=>exact HC331_4.out);rintro e w25 ⟨rfl,hb⟩;have n0_:=Aside0.mk (bb_ BK330.out hb);have n1_:=Aside0.mk (bb_ BK332.out hb);have n2_:=Aside0.mk (below_step (bl_ HB.out) hb);clear BK330;clear BK332;clear HB;have BK330:=n0_;have BK332:=n1_;have HB:=n2_;clear n0_ n1_ n2_;(try clear hb);(try clear hb2);(try clear hk);(try clear hi)))
            go_meet
            case rel=>exact ⟨_,(!t334),rf_,H',⟨by have:=HK1.out;first|omega|exact Nat.le_refl _⟩,⟨kb_ BK330.out⟩,⟨kb_ BK332.out⟩,⟨bl_ HB.out⟩⟩
           ·replace c17:=Bool.eq_false_iff.mpr c17
            subst c17
            have H1:(helmsmanref12_SameStmts.j1 k1 l0 l1 x5_1 true ((rd_T29 l0 x5_1).f0) ((rd_T29 l0 x5_1).f1) ((rd_T29 l0 x5_1).f2) ((rd_T29 l0 x5_1).f3) ((rd_T29 l0 x5_1).f4) ((rd_T29 l0 x5_1).f5) ((rd_T29 l1 x5_1).f0) ((rd_T29 l1 x5_1).f1) ((rd_T29 l1 x5_1).f2) ((rd_T29 l1 x5_1).f3) ((rd_T29 l1 x5_1).f4) ((rd_T29 l1 x5_1).f5))=some r:=by rw [if_neg (show ¬ (false=true) by decide)] at H;exact H
            clear H
            have H:=H1
            clear H1
            have H':=Aside0.mk H
            clear H
            have hnb26:=NB330_332.out
            have hnc26:=NB332_330.out
            have hcz27_0:w10.cell? ⟨gb330,0,none⟩=some (.string ((rd_T29 l0 x5_1).f0)):=zc_ BK330.out 0
            have hcz27_1:w10.cell? ⟨gb330,1,none⟩=some (.string ((rd_T29 l0 x5_1).f1)):=zc_ BK330.out 1
            have hcz27_2:w10.cell? ⟨gb330,2,none⟩=some (.slice A329_2 ((rd_T29 l0 x5_1).f2).length c329_2):=zc_ BK330.out 2
            have hcz27_3:w10.cell? ⟨gb330,3,none⟩=some (.slice A329_3 ((rd_T29 l0 x5_1).f3).length c329_3):=zc_ BK330.out 3
            have hcz27_4:w10.cell? ⟨gb330,4,none⟩=some (.slice A329_4 ((rd_T29 l0 x5_1).f4).length c329_4):=zc_ BK330.out 4
            have hcz27_5:w10.cell? ⟨gb330,5,none⟩=some (.int .i64 ((rd_T29 l0 x5_1).f5)):=zc_ BK330.out 5
            have hfz27_0:=blk_frozen BK330.out 0
            have hfz27_1:=blk_frozen BK330.out 1
            have hfz27_2:=blk_frozen BK330.out 2
            have hfz27_3:=blk_frozen BK330.out 3
            have hfz27_4:=blk_frozen BK330.out 4
            have hfz27_5:=blk_frozen BK330.out 5
            have hcz28_0:w10.cell? ⟨gb332,0,none⟩=some (.string (⟨#[]⟩:ByteArray)):=zc_ BK332.out 0
            have hcz28_1:w10.cell? ⟨gb332,1,none⟩=some (.string (⟨#[]⟩:ByteArray)):=zc_ BK332.out 1
            have hcz28_2:w10.cell? ⟨gb332,2,none⟩=some (.slice none 0 0):=zc_ BK332.out 2
            have hcz28_3:w10.cell? ⟨gb332,3,none⟩=some (.slice none 0 0):=zc_ BK332.out 3
            have hcz28_4:w10.cell? ⟨gb332,4,none⟩=some (.slice none 0 0):=zc_ BK332.out 4
            have hcz28_5:w10.cell? ⟨gb332,5,none⟩=some (.int .i64 0):=zc_ BK332.out 5
            have hfz28_0:=blk_frozen BK332.out 0
            have hfz28_1:=blk_frozen BK332.out 1
            have hfz28_2:=blk_frozen BK332.out 2
            have hfz28_3:=blk_frozen BK332.out 3
            have hfz28_4:=blk_frozen BK332.out 4
            have hfz28_5:=blk_frozen BK332.out 5
            go_wp2_with (first|(go_at_call 25;(with_reducible refine (ih k1 (by have:=HK1.out;omega) _ _ ((rd_T29 l0 x5_1).f3) _ _ ((rd_T29 l1 x5_1).f3) false _ ?side1 ?side2 ?side3 ?side4 A16.out).mono ?_);(case side1=>exact Kd.C_below HR329_3.out (bl_ HB.out));(case side2=>exact HC329_3.out);(case side3=>exact Kd.C_below HR331_3.out (bl_ HB.out));(case side4=>exact HC331_3.out);rintro e w29 ⟨rfl,hb⟩;have n0_:=Aside0.mk (blk_below (g:=gb330) (o:=.cells #[.string ((rd_T29 l0 x5_1).f0),.string ((rd_T29 l0 x5_1).f1),.slice A329_2 ((rd_T29 l0 x5_1).f2).length c329_2,.slice A329_3 ((rd_T29 l0 x5_1).f3).length c329_3,.slice A329_4 ((rd_T29 l0 x5_1).f4).length c329_4,.int .i64 ((rd_T29 l0 x5_1).f5)] 29 (0,0)) (kbc_ BK330.out) hb);have n1_:=Aside0.mk (blk_below (g:=gb332) (o:=.cells #[.string ((rd_T29 l1 x5_1).f0),.string ((rd_T29 l1 x5_1).f1),.slice A331_2 ((rd_T29 l1 x5_1).f2).length c331_2,.slice A331_3 ((rd_T29 l1 x5_1).f3).length c331_3,.slice A331_4 ((rd_T29 l1 x5_1).f4).length c331_4,.int .i64 ((rd_T29 l1 x5_1).f5)] 29 (0,0)) (kbc_ BK332.out) hb);have n2_:=Aside0.mk (below_step (bl_ HB.out) hb);clear BK330;clear BK332;clear HB;have BK330:=n0_;have BK332:=n1_;have HB:=n2_;clear n0_ n1_ n2_;(try clear hb);(try clear hb2);(try clear hk);(try clear hi)))
            go_meet
            case rel=>exact ⟨_,(true),rf_,H',⟨by have:=HK1.out;first|omega|exact Nat.le_refl _⟩,⟨kb_ BK330.out⟩,⟨kb_ BK332.out⟩,⟨bl_ HB.out⟩⟩
          ·rw [if_neg c15] at H
           have c15b0:((((rd_T29 l0 x5_1).f2).length:Int) == (((rd_T29 l1 x5_1).f2).length:Int))=false:=beq_eq_false_iff_ne.mpr c15
           have c15b1:((((rd_T29 l0 x5_1).f2).length:Int) != (((rd_T29 l1 x5_1).f2).length:Int))=true:=bne_iff_ne.mpr c15
           have c15b2:(((rd_T29 l0 x5_1).f2).length == ((rd_T29 l1 x5_1).f2).length)=false:=by first|simpa using c15|(simp at c15 ⊢;omega)
           have H':=Aside0.mk H
           clear H
           have hnb30:=NB330_332.out
           have hnc30:=NB332_330.out
           have hcz31_0:w10.cell? ⟨gb330,0,none⟩=some (.string ((rd_T29 l0 x5_1).f0)):=zc_ BK330.out 0
           have hcz31_1:w10.cell? ⟨gb330,1,none⟩=some (.string ((rd_T29 l0 x5_1).f1)):=zc_ BK330.out 1
           have hcz31_2:w10.cell? ⟨gb330,2,none⟩=some (.slice A329_2 ((rd_T29 l0 x5_1).f2).length c329_2):=zc_ BK330.out 2
           have hcz31_3:w10.cell? ⟨gb330,3,none⟩=some (.slice A329_3 ((rd_T29 l0 x5_1).f3).length c329_3):=zc_ BK330.out 3
           have hcz31_4:w10.cell? ⟨gb330,4,none⟩=some (.slice A329_4 ((rd_T29 l0 x5_1).f4).length c329_4):=zc_ BK330.out 4
           have hcz31_5:w10.cell? ⟨gb330,5,none⟩=some (.int .i64 ((rd_T29 l0 x5_1).f5)):=zc_ BK330.out 5
           have hfz31_0:=blk_frozen BK330.out 0
           have hfz31_1:=blk_frozen BK330.out 1
           have hfz31_2:=blk_frozen BK330.out 2
           have hfz31_3:=blk_frozen BK330.out 3
           have hfz31_4:=blk_frozen BK330.out 4
           have hfz31_5:=blk_frozen BK330.out 5
           have hcz32_0:w10.cell? ⟨gb332,0,none⟩=some (.string (⟨#[]⟩:ByteArray)):=zc_ BK332.out 0
           have hcz32_1:w10.cell? ⟨gb332,1,none⟩=some (.string (⟨#[]⟩:ByteArray)):=zc_ BK332.out 1
           have hcz32_2:w10.cell? ⟨gb332,2,none⟩=some (.slice none 0 0):=zc_ BK332.out 2
           have hcz32_3:w10.cell? ⟨gb332,3,none⟩=some (.slice none 0 0):=zc_ BK332.out 3
           have hcz32_4:w10.cell? ⟨gb332,4,none⟩=some (.slice none 0 0):=zc_ BK332.out 4
           have hcz32_5:w10.cell? ⟨gb332,5,none⟩=some (.int .i64 0):=zc_ BK332.out 5
           have hfz32_0:=blk_frozen BK332.out 0
           have hfz32_1:=blk_frozen BK332.out 1
           have hfz32_2:=blk_frozen BK332.out 2
           have hfz32_3:=blk_frozen BK332.out 3
           have hfz32_4:=blk_frozen BK332.out 4
           have hfz32_5:=blk_frozen BK332.out 5
           go_wp2
           go_meet
           case rel=>exact ⟨_,(true),rf_,H',⟨by have:=HK1.out;first|omega|exact Nat.le_refl _⟩,⟨kbc_ BK330.out⟩,⟨kbc_ BK332.out⟩,⟨bl_ HB.out⟩⟩
         ·rw [if_neg c14] at H
          have c14b0:(((rd_T29 l0 x5_1).f1).toList == ((rd_T29 l1 x5_1).f1).toList)=false:=beq_eq_false_iff_ne.mpr c14
          have c14b1:(((rd_T29 l0 x5_1).f1).toList != ((rd_T29 l1 x5_1).f1).toList)=true:=bne_iff_ne.mpr c14
          have H':=Aside0.mk H
          clear H
          have hnb33:=NB330_332.out
          have hnc33:=NB332_330.out
          have hcz34_0:w10.cell? ⟨gb330,0,none⟩=some (.string ((rd_T29 l0 x5_1).f0)):=zc_ BK330.out 0
          have hcz34_1:w10.cell? ⟨gb330,1,none⟩=some (.string ((rd_T29 l0 x5_1).f1)):=zc_ BK330.out 1
          have hcz34_2:w10.cell? ⟨gb330,2,none⟩=some (.slice A329_2 ((rd_T29 l0 x5_1).f2).length c329_2):=zc_ BK330.out 2
          have hcz34_3:w10.cell? ⟨gb330,3,none⟩=some (.slice A329_3 ((rd_T29 l0 x5_1).f3).length c329_3):=zc_ BK330.out 3
          have hcz34_4:w10.cell? ⟨gb330,4,none⟩=some (.slice A329_4 ((rd_T29 l0 x5_1).f4).length c329_4):=zc_ BK330.out 4
          have hcz34_5:w10.cell? ⟨gb330,5,none⟩=some (.int .i64 ((rd_T29 l0 x5_1).f5)):=zc_ BK330.out 5
          have hfz34_0:=blk_frozen BK330.out 0
          have hfz34_1:=blk_frozen BK330.out 1
          have hfz34_2:=blk_frozen BK330.out 2
          have hfz34_3:=blk_frozen BK330.out 3
          have hfz34_4:=blk_frozen BK330.out 4
          have hfz34_5:=blk_frozen BK330.out 5
          have hcz35_0:w10.cell? ⟨gb332,0,none⟩=some (.string (⟨#[]⟩:ByteArray)):=zc_ BK332.out 0
          have hcz35_1:w10.cell? ⟨gb332,1,none⟩=some (.string (⟨#[]⟩:ByteArray)):=zc_ BK332.out 1
          have hcz35_2:w10.cell? ⟨gb332,2,none⟩=some (.slice none 0 0):=zc_ BK332.out 2
          have hcz35_3:w10.cell? ⟨gb332,3,none⟩=some (.slice none 0 0):=zc_ BK332.out 3
          have hcz35_4:w10.cell? ⟨gb332,4,none⟩=some (.slice none 0 0):=zc_ BK332.out 4
          have hcz35_5:w10.cell? ⟨gb332,5,none⟩=some (.int .i64 0):=zc_ BK332.out 5
          have hfz35_0:=blk_frozen BK332.out 0
          have hfz35_1:=blk_frozen BK332.out 1
          have hfz35_2:=blk_frozen BK332.out 2
          have hfz35_3:=blk_frozen BK332.out 3
          have hfz35_4:=blk_frozen BK332.out 4
          have hfz35_5:=blk_frozen BK332.out 5
          go_wp2
          go_meet
          case rel=>exact ⟨_,(true),rf_,H',⟨by have:=HK1.out;first|omega|exact Nat.le_refl _⟩,⟨kbc_ BK330.out⟩,⟨kbc_ BK332.out⟩,⟨bl_ HB.out⟩⟩
        ·rw [if_neg c13] at H
         have c13b0:(((rd_T29 l0 x5_1).f0).toList == ((rd_T29 l1 x5_1).f0).toList)=false:=beq_eq_false_iff_ne.mpr c13
         have c13b1:(((rd_T29 l0 x5_1).f0).toList != ((rd_T29 l1 x5_1).f0).toList)=true:=bne_iff_ne.mpr c13
         (first|rw [c13b0]|(simp only [i64_w,i32_w];rw [c13b0])|skip)
         have H':=Aside0.mk H
         clear H
         have hnb36:=NB330_332.out
         have hnc36:=NB332_330.out
         have hcz37_0:w10.cell? ⟨gb330,0,none⟩=some (.string ((rd_T29 l0 x5_1).f0)):=zc_ BK330.out 0
         have hcz37_1:w10.cell? ⟨gb330,1,none⟩=some (.string ((rd_T29 l0 x5_1).f1)):=zc_ BK330.out 1
         have hcz37_2:w10.cell? ⟨gb330,2,none⟩=some (.slice A329_2 ((rd_T29 l0 x5_1).f2).length c329_2):=zc_ BK330.out 2
         have hcz37_3:w10.cell? ⟨gb330,3,none⟩=some (.slice A329_3 ((rd_T29 l0 x5_1).f3).length c329_3):=zc_ BK330.out 3
         have hcz37_4:w10.cell? ⟨gb330,4,none⟩=some (.slice A329_4 ((rd_T29 l0 x5_1).f4).length c329_4):=zc_ BK330.out 4
         have hcz37_5:w10.cell? ⟨gb330,5,none⟩=some (.int .i64 ((rd_T29 l0 x5_1).f5)):=zc_ BK330.out 5
         have hfz37_0:=blk_frozen BK330.out 0
         have hfz37_1:=blk_frozen BK330.out 1
         have hfz37_2:=blk_frozen BK330.out 2
         have hfz37_3:=blk_frozen BK330.out 3
         have hfz37_4:=blk_frozen BK330.out 4
         have hfz37_5:=blk_frozen BK330.out 5
         have hcz38_0:w10.cell? ⟨gb332,0,none⟩=some (.string (⟨#[]⟩:ByteArray)):=zc_ BK332.out 0
         have hcz38_1:w10.cell? ⟨gb332,1,none⟩=some (.string (⟨#[]⟩:ByteArray)):=zc_ BK332.out 1
         have hcz38_2:w10.cell? ⟨gb332,2,none⟩=some (.slice none 0 0):=zc_ BK332.out 2
         have hcz38_3:w10.cell? ⟨gb332,3,none⟩=some (.slice none 0 0):=zc_ BK332.out 3
         have hcz38_4:w10.cell? ⟨gb332,4,none⟩=some (.slice none 0 0):=zc_ BK332.out 4
         have hcz38_5:w10.cell? ⟨gb332,5,none⟩=some (.int .i64 0):=zc_ BK332.out 5
         have hfz38_0:=blk_frozen BK332.out 0
         have hfz38_1:=blk_frozen BK332.out 1
         have hfz38_2:=blk_frozen BK332.out 2
         have hfz38_3:=blk_frozen BK332.out 3
         have hfz38_4:=blk_frozen BK332.out 4
         have hfz38_5:=blk_frozen BK332.out 5
         go_wp2
         go_meet
         case rel=>exact ⟨_,(true),rf_,H',⟨by have:=HK1.out;first|omega|exact Nat.le_refl _⟩,⟨kbc_ BK330.out⟩,⟨kbc_ BK332.out⟩,⟨bl_ HB.out⟩⟩
       case rest=>
        clear HC7
        (try clear c1);(try clear c2);(try clear p2);(try clear c3);(try clear c3b0);(try clear c3b1);(try clear c3b2);(try clear p3);(try clear q3);(try clear hx3);(try clear c4);(try clear c4b0);(try clear c5);(try clear c5b0);(try clear c6);(try clear c6b0);(try clear c11);(try clear c13);(try clear c13b0);(try clear c13b1);(try clear c14);(try clear c14b0);(try clear c14b1);(try clear c15);(try clear c15b0);(try clear c15b1);(try clear c15b2);(try clear c17);(try clear c19);(try clear c25);(try clear c26);(try clear c30);(try clear c32);(try clear p32);(try clear q32);(try clear hx32);(try clear c33);(try clear p33);(try clear q33);(try clear hx33);(try clear c36);(try clear hcz12_0);(try clear hcz12_1);(try clear hcz12_2);(try clear hcz12_3);(try clear hcz12_4);(try clear hcz12_5);(try clear hcz20_0);(try clear hcz20_1);(try clear hcz20_2);(try clear hcz20_3);(try clear hcz20_4);(try clear hcz20_5);(try clear hcz21_0);(try clear hcz21_1);(try clear hcz21_2);(try clear hcz21_3);(try clear hcz21_4);(try clear hcz21_5);(try clear hcz23_0);(try clear hcz23_1);(try clear hcz23_2);(try clear hcz23_3);(try clear hcz23_4);(try clear hcz23_5);(try clear hcz24_0);(try clear hcz24_1);(try clear hcz24_2);(try clear hcz24_3);(try clear hcz24_4);(try clear hcz24_5);(try clear hcz27_0);(try clear hcz27_1);(try clear hcz27_2);(try clear hcz27_3);(try clear hcz27_4);(try clear hcz27_5);(try clear hcz28_0);(try clear hcz28_1);(try clear hcz28_2);(try clear hcz28_3);(try clear hcz28_4);(try clear hcz28_5);(try clear hcz31_0);(try clear hcz31_1);(try clear hcz31_2);(try clear hcz31_3);(try clear hcz31_4);(try clear hcz31_5);(try clear hcz32_0);(try clear hcz32_1);(try clear hcz32_2);(try clear hcz32_3);(try clear hcz32_4);(try clear hcz32_5);(try clear hcz34_0);(try clear hcz34_1);(try clear hcz34_2);(try clear hcz34_3);(try clear hcz34_4);(try clear hcz34_5);(try clear hcz35_0);(try clear hcz35_1);(try clear hcz35_2);(try clear hcz35_3);(try clear hcz35_4);(try clear hcz35_5);(try clear hcz37_0);(try clear hcz37_1);(try clear hcz37_2);(try clear hcz37_3);(try clear hcz37_4);(try clear hcz37_5);(try clear hcz38_0);(try clear hcz38_1);(try clear hcz38_2);(try clear hcz38_3);(try clear hcz38_4);(try clear hcz38_5);(try clear hcz9_0);(try clear hcz9_1);(try clear hcz9_2);(try clear hcz9_3);(try clear hcz9_4);(try clear hcz9_5);(try clear hfz12_0);(try clear hfz12_1);(try clear hfz12_2);(try clear hfz12_3);(try clear hfz12_4);(try clear hfz12_5);(try clear hfz20_0);(try clear hfz20_1);(try clear hfz20_2);(try clear hfz20_3);(try clear hfz20_4);(try clear hfz20_5);(try clear hfz21_0);(try clear hfz21_1);(try clear hfz21_2);(try clear hfz21_3);(try clear hfz21_4);(try clear hfz21_5);(try clear hfz23_0);(try clear hfz23_1);(try clear hfz23_2);(try clear hfz23_3);(try clear hfz23_4);(try clear hfz23_5);(try clear hfz24_0);(try clear hfz24_1);(try clear hfz24_2);(try clear hfz24_3);(try clear hfz24_4);(try clear hfz24_5);(try clear hfz27_0);(try clear hfz27_1);(try clear hfz27_2);(try clear hfz27_3);(try clear hfz27_4);(try clear hfz27_5);(try clear hfz28_0);(try clear hfz28_1);(try clear hfz28_2);(try clear hfz28_3);(try clear hfz28_4);(try clear hfz28_5);(try clear hfz31_0);(try clear hfz31_1);(try clear hfz31_2);(try clear hfz31_3);(try clear hfz31_4);(try clear hfz31_5);(try clear hfz32_0);(try clear hfz32_1);(try clear hfz32_2);(try clear hfz32_3);(try clear hfz32_4);(try clear hfz32_5);(try clear hfz34_0);(try clear hfz34_1);(try clear hfz34_2);(try clear hfz34_3);(try clear hfz34_4);(try clear hfz34_5);(try clear hfz35_0);(try clear hfz35_1);(try clear hfz35_2);(try clear hfz35_3);(try clear hfz35_4);(try clear hfz35_5);(try clear hfz37_0);(try clear hfz37_1);(try clear hfz37_2);(try clear hfz37_3);(try clear hfz37_4);(try clear hfz37_5);(try clear hfz38_0);(try clear hfz38_1);(try clear hfz38_2);(try clear hfz38_3);(try clear hfz38_4);(try clear hfz38_5);(try clear hfz9_0);(try clear hfz9_1);(try clear hfz9_2);(try clear hfz9_3);(try clear hfz9_4);(try clear hfz9_5);(try clear hx329_0);(try clear hx329_1);(try clear hx329_2);(try clear hx329_3);(try clear hx329_4);(try clear hx329_5);(try clear hx331_0);(try clear hx331_1);(try clear hx331_2);(try clear hx331_3);(try clear hx331_4);(try clear hx331_5);(try clear p2);(try clear p329);(try clear p331);(try clear q329);(try clear q331)
        obtain ⟨kq,x64_6,rfl,HA,HJ6,BK330,BK332,HB⟩:=hcut
        cases kq with
        | zero=>exact absurd HA.out (by simp [helmsmanref12_SameStmts.j1])
        | succ kj6=>
         have H:=HA.out
         clear HA
         simp only [helmsmanref12_SameStmts.j1] at H
         by_cases c39:x64_6=true
         ·subst c39
          have H1:(some false)=some r:=by rw [if_pos rfl] at H;exact H
          clear H
          have H:=H1
          clear H1
          obtain rfl:=Option.some.inj H
          go_wp2
          go_ret
          exact ⟨rt_,bl_ HB.out⟩
         ·replace c39:=Bool.eq_false_iff.mpr c39
          subst c39
          have H1:(helmsmanref12_SameStmts.l1 kj6 l0 l1 x5_1 0 ((rd_T29 l0 x5_1).f0) ((rd_T29 l0 x5_1).f1) ((rd_T29 l0 x5_1).f2) ((rd_T29 l0 x5_1).f3) ((rd_T29 l0 x5_1).f4) ((rd_T29 l0 x5_1).f5) ((rd_T29 l1 x5_1).f0) ((rd_T29 l1 x5_1).f1) ((rd_T29 l1 x5_1).f2) ((rd_T29 l1 x5_1).f3) ((rd_T29 l1 x5_1).f4) ((rd_T29 l1 x5_1).f5))=some r:=by rw [if_neg (show ¬ (false=true) by decide)] at H;exact H
          clear H
          have H:=H1
          clear H1
          have H':=Aside0.mk H
          clear H
          go_wp2
          (try simp only [Act.put,List.setIfInBounds_toArray,List.set_cons_succ,List.set_cons_zero])
          go_loopg [8] kj6 (fun kq v8 w'=>∃ (x8_3:Int),v8=.int .i64 x8_3∧Aside0 (helmsmanref12_SameStmts.l1 kq l0 l1 x5_1 x8_3 ((rd_T29 l0 x5_1).f0) ((rd_T29 l0 x5_1).f1) ((rd_T29 l0 x5_1).f2) ((rd_T29 l0 x5_1).f3) ((rd_T29 l0 x5_1).f4) ((rd_T29 l0 x5_1).f5) ((rd_T29 l1 x5_1).f0) ((rd_T29 l1 x5_1).f1) ((rd_T29 l1 x5_1).f2) ((rd_T29 l1 x5_1).f3) ((rd_T29 l1 x5_1).f4) ((rd_T29 l1 x5_1).f5)=some r)∧Aside0 (kq≤kj6)∧Aside0 (w'.heap[gb330]?=some (.cells #[.string ((rd_T29 l0 x5_1).f0),.string ((rd_T29 l0 x5_1).f1),(.slice A329_2 ((rd_T29 l0 x5_1).f2).length c329_2),(.slice A329_3 ((rd_T29 l0 x5_1).f3).length c329_3),(.slice A329_4 ((rd_T29 l0 x5_1).f4).length c329_4),.int .i64 ((rd_T29 l0 x5_1).f5)] 29 (0,0)))∧Aside0 (w'.heap[gb332]?=some (.cells #[.string ((rd_T29 l1 x5_1).f0),.string ((rd_T29 l1 x5_1).f1),(.slice A331_2 ((rd_T29 l1 x5_1).f2).length c331_2),(.slice A331_3 ((rd_T29 l1 x5_1).f3).length c331_3),(.slice A331_4 ((rd_T29 l1 x5_1).f4).length c331_4),.int .i64 ((rd_T29 l1 x5_1).f5)] 29 (0,0)))∧Aside0 (Below w.heap.size w w'))
          case atStart=>exact ⟨(0),rf_,H',⟨Nat.le_refl _⟩,⟨kb_ BK330.out⟩,⟨kb_ BK332.out⟩,⟨bl_ HB.out⟩⟩
          case round=>
           clear H'
           (try clear c1);(try clear c2);(try clear p2);(try clear c3);(try clear c3b0);(try clear c3b1);(try clear c3b2);(try clear p3);(try clear q3);(try clear hx3);(try clear c4);(try clear c4b0);(try clear c5);(try clear c5b0);(try clear c6);(try clear c6b0);(try clear c11);(try clear c13);(try clear c13b0);(try clear c13b1);(try clear c14);(try clear c14b0);(try clear c14b1);(try clear c15);(try clear c15b0);(try clear c15b1);(try clear c15b2);(try clear c17);(try clear c19);(try clear c25);(try clear c26);(try clear c30);(try clear c32);(try clear p32);(try clear q32);(try clear hx32);(try clear c33);(try clear p33);(try clear q33);(try clear hx33);(try clear c36);(try clear c39);(try clear hcz12_0);(try clear hcz12_1);(try clear hcz12_2);(try clear hcz12_3);(try clear hcz12_4);(try clear hcz12_5);(try clear hcz20_0);(try clear hcz20_1);(try clear hcz20_2);(try clear hcz20_3);(try clear hcz20_4);(try clear hcz20_5);(try clear hcz21_0);(try clear hcz21_1);(try clear hcz21_2);(try clear hcz21_3);(try clear hcz21_4);(try clear hcz21_5);(try clear hcz23_0);(try clear hcz23_1);(try clear hcz23_2);(try clear hcz23_3);(try clear hcz23_4);(try clear hcz23_5);(try clear hcz24_0);(try clear hcz24_1);(try clear hcz24_2);(try clear hcz24_3);(try clear hcz24_4);(try clear hcz24_5);(try clear hcz27_0);(try clear hcz27_1);(try clear hcz27_2);(try clear hcz27_3);(try clear hcz27_4);(try clear hcz27_5);(try clear hcz28_0);(try clear hcz28_1);(try clear hcz28_2);(try clear hcz28_3);(try clear hcz28_4);(try clear hcz28_5);(try clear hcz31_0);(try clear hcz31_1);(try clear hcz31_2);(try clear hcz31_3);(try clear hcz31_4);(try clear hcz31_5);(try clear hcz32_0);(try clear hcz32_1);(try clear hcz32_2);(try clear hcz32_3);(try clear hcz32_4);(try clear hcz32_5);(try clear hcz34_0);(try clear hcz34_1);(try clear hcz34_2);(try clear hcz34_3);(try clear hcz34_4);(try clear hcz34_5);(try clear hcz35_0);(try clear hcz35_1);(try clear hcz35_2);(try clear hcz35_3);(try clear hcz35_4);(try clear hcz35_5);(try clear hcz37_0);(try clear hcz37_1);(try clear hcz37_2);(try clear hcz37_3);(try clear hcz37_4);(try clear hcz37_5);(try clear hcz38_0);(try clear hcz38_1);(try clear hcz38_2);(try clear hcz38_3);(try clear hcz38_4);(try clear hcz38_5);(try clear hcz9_0);(try clear hcz9_1);(try clear hcz9_2);(try clear hcz9_3);(try clear hcz9_4);(try clear hcz9_5);(try clear hfz12_0);(try clear hfz12_1);(try clear hfz12_2);(try clear hfz12_3);(try clear hfz12_4);(try clear hfz12_5);(try clear hfz20_0);(try clear hfz20_1);(try clear hfz20_2);(try clear hfz20_3);(try clear hfz20_4);(try clear hfz20_5);(try clear hfz21_0);(try clear hfz21_1);(try clear hfz21_2);(try clear hfz21_3);(try clear hfz21_4);(try clear hfz21_5);(try clear hfz23_0);(try clear hfz23_1);(try clear hfz23_2);(try clear hfz23_3);(try clear hfz23_4);(try clear hfz23_5);(try clear hfz24_0);(try clear hfz24_1);(try clear hfz24_2);(try clear hfz24_3);(try clear hfz24_4);(try clear hfz24_5);(try clear hfz27_0);(try clear hfz27_1);(try clear hfz27_2);(try clear hfz27_3);(try clear hfz27_4);(try clear hfz27_5);(try clear hfz28_0);(try clear hfz28_1);(try clear hfz28_2);(try clear hfz28_3);(try clear hfz28_4);(try clear hfz28_5);(try clear hfz31_0);(try clear hfz31_1);(try clear hfz31_2);(try clear hfz31_3);(try clear hfz31_4);(try clear hfz31_5);(try clear hfz32_0);(try clear hfz32_1);(try clear hfz32_2);(try clear hfz32_3);(try clear hfz32_4);(try clear hfz32_5);(try clear hfz34_0);(try clear hfz34_1);(try clear hfz34_2);(try clear hfz34_3);(try clear hfz34_4);(try clear hfz34_5);(try clear hfz35_0);(try clear hfz35_1);(try clear hfz35_2);(try clear hfz35_3);(try clear hfz35_4);(try clear hfz35_5);(try clear hfz37_0);(try clear hfz37_1);(try clear hfz37_2);(try clear hfz37_3);(try clear hfz37_4);(try clear hfz37_5);(try clear hfz38_0);(try clear hfz38_1);(try clear hfz38_2);(try clear hfz38_3);(try clear hfz38_4);(try clear hfz38_5);(try clear hfz9_0);(try clear hfz9_1);(try clear hfz9_2);(try clear hfz9_3);(try clear hfz9_4);(try clear hfz9_5);(try clear hx329_0);(try clear hx329_1);(try clear hx329_2);(try clear hx329_3);(try clear hx329_4);(try clear hx329_5);(try clear hx331_0);(try clear hx331_1);(try clear hx331_2);(try clear hx331_3);(try clear hx331_4);(try clear hx331_5);(try clear p2);(try clear p3);(try clear p32);(try clear p329);(try clear p33);(try clear p331);(try clear q3);(try clear q32);(try clear q329);(try clear q33);(try clear q331)
           obtain ⟨x8_3,rfl,HA,HK3,BK330,BK332,HB⟩:=hrel
           cases gk with
           | zero=>exact absurd HA.out (by simp [helmsmanref12_SameStmts.l1])
           | succ k3=>
            have H:=HA.out
            clear HA
            simp only [helmsmanref12_SameStmts.l1] at H
            by_cases c40:x8_3 < (((rd_T29 l0 x5_1).f2).length:Int)
            ·rw [if_pos c40] at H
             have c40b0:decide (x8_3 < (((rd_T29 l0 x5_1).f2).length:Int))=true:=decide_eq_true c40
             clear c40
             by_cases c41:0≤x8_3
             ·rw [if_pos c41] at H
              have c41b0:decide (0≤x8_3)=true:=decide_eq_true c41
              clear c41
              by_cases c42:x8_3 < (((rd_T29 l1 x5_1).f2).length:Int)
              ·rw [if_pos c42] at H
               have c42b0:decide (x8_3 < (((rd_T29 l1 x5_1).f2).length:Int))=true:=decide_eq_true c42
               clear c42
               replace H:=Option.bind_eq_some_iff.mp H
               obtain ⟨t337,A430,H⟩:=H
               replace H:(if t337=true then (helmsmanref12_SameStmts.l1 k3 l0 l1 x5_1 (wrap64 (x8_3+1)) ((rd_T29 l0 x5_1).f0) ((rd_T29 l0 x5_1).f1) ((rd_T29 l0 x5_1).f2) ((rd_T29 l0 x5_1).f3) ((rd_T29 l0 x5_1).f4) ((rd_T29 l0 x5_1).f5) ((rd_T29 l1 x5_1).f0) ((rd_T29 l1 x5_1).f1) ((rd_T29 l1 x5_1).f2) ((rd_T29 l1 x5_1).f3) ((rd_T29 l1 x5_1).f4) ((rd_T29 l1 x5_1).f5)) else (some false))=some r:=H
               have A43:=Aside0.mk A430
               clear A430
               by_cases c44:t337=true
               ·subst c44
                have H1:(helmsmanref12_SameStmts.l1 k3 l0 l1 x5_1 (wrap64 (x8_3+1)) ((rd_T29 l0 x5_1).f0) ((rd_T29 l0 x5_1).f1) ((rd_T29 l0 x5_1).f2) ((rd_T29 l0 x5_1).f3) ((rd_T29 l0 x5_1).f4) ((rd_T29 l0 x5_1).f5) ((rd_T29 l1 x5_1).f0) ((rd_T29 l1 x5_1).f1) ((rd_T29 l1 x5_1).f2) ((rd_T29 l1 x5_1).f3) ((rd_T29 l1 x5_1).f4) ((rd_T29 l1 x5_1).f5))=some r:=by rw [if_pos rfl] at H;exact H
                clear H
                have H:=H1
                clear H1
                have H':=Aside0.mk H
                clear H
                have hnb45:=NB330_332.out
                have hnc45:=NB332_330.out
                have hcz46_0:wr.cell? ⟨gb330,0,none⟩=some (.string ((rd_T29 l0 x5_1).f0)):=zc_ BK330.out 0
                have hcz46_1:wr.cell? ⟨gb330,1,none⟩=some (.string ((rd_T29 l0 x5_1).f1)):=zc_ BK330.out 1
                have hcz46_2:wr.cell? ⟨gb330,2,none⟩=some (.slice A329_2 ((rd_T29 l0 x5_1).f2).length c329_2):=zc_ BK330.out 2
                have hcz46_3:wr.cell? ⟨gb330,3,none⟩=some (.slice A329_3 ((rd_T29 l0 x5_1).f3).length c329_3):=zc_ BK330.out 3
                have hcz46_4:wr.cell? ⟨gb330,4,none⟩=some (.slice A329_4 ((rd_T29 l0 x5_1).f4).length c329_4):=zc_ BK330.out 4
                have hcz46_5:wr.cell? ⟨gb330,5,none⟩=some (.int .i64 ((rd_T29 l0 x5_1).f5)):=zc_ BK330.out 5
                have hfz46_0:=blk_frozen BK330.out 0
                have hfz46_1:=blk_frozen BK330.out 1
                have hfz46_2:=blk_frozen BK330.out 2
                have hfz46_3:=blk_frozen BK330.out 3
                have hfz46_4:=blk_frozen BK330.out 4
                have hfz46_5:=blk_frozen BK330.out 5
                try go_wp2
                have n0_:=Aside0.mk (blk_drew BK330.out)
                have n1_:=Aside0.mk (blk_drew BK332.out)
                have n2_:=Aside0.mk (below_drew1 HB.out)
                clear BK330
                clear BK332
                clear HB
                have BK330:=n0_
                have BK332:=n1_
                have HB:=n2_
                clear n0_ n1_ n2_
                have p335:0≤(x8_3:Int):=of_decide_eq_true as_
                have q335:x8_3 < (((rd_T29 l0 x5_1).f2).length:Int):=of_decide_eq_true as_
                obtain ⟨ad335,A335_3,c335_3,e335,hx335_0,hx335_1,hx335_2,hx335_3,hx335_4,hl335_3,hi335_3⟩:=at_T24 HR329_2.out x8_3 p335 q335
                have hw335_4:=hx335_4
                have hw335_3:=hx335_3
                have hw335_2:=hx335_2
                have hw335_1:=hx335_1
                have hw335_0:=hx335_0
                cases e335
                replace hx335_0:=(cb_ HB.out hx335_0:_)
                replace hx335_1:=(cb_ HB.out hx335_1:_)
                replace hx335_2:=(cb_ HB.out hx335_2:_)
                replace hx335_3:=(cb_ HB.out hx335_3:_)
                replace hx335_4:=(cb_ HB.out hx335_4:_)
                have HR335_3:=Aside0.mk hi335_3
                have HC335_3:=Aside0.mk hl335_3
                clear hi335_3 hl335_3
                replace p335:=eq_true p335
                replace q335:=eq_true q335
                have p336:0≤(x8_3:Int):=of_decide_eq_true as_
                have q336:x8_3 < (((rd_T29 l1 x5_1).f2).length:Int):=of_decide_eq_true as_
                obtain ⟨ad336,A336_3,c336_3,e336,hx336_0,hx336_1,hx336_2,hx336_3,hx336_4,hl336_3,hi336_3⟩:=at_T24 HR331_2.out x8_3 p336 q336
                have hw336_4:=hx336_4
                have hw336_3:=hx336_3
                have hw336_2:=hx336_2
                have hw336_1:=hx336_1
                have hw336_0:=hx336_0
                cases e336
                replace hx336_0:=(cb_ HB.out hx336_0:_)
                replace hx336_1:=(cb_ HB.out hx336_1:_)
                replace hx336_2:=(cb_ HB.out hx336_2:_)
                replace hx336_3:=(cb_ HB.out hx336_3:_)
                replace hx336_4:=(cb_ HB.out hx336_4:_)
                have HR336_3:=Aside0.mk hi336_3
                have HC336_3:=Aside0.mk hl336_3
                clear hi336_3 hl336_3
                replace p336:=eq_true p336
                replace q336:=eq_true q336
                refine start_ (n:=12) (S:=fun w'=>w'.cell? ⟨gb330,0,none⟩=some (.string ((rd_T29 l0 x5_1).f0))∧w'.cell? ⟨gb330,1,none⟩=some (.string ((rd_T29 l0 x5_1).f1))∧w'.cell? ⟨gb330,2,none⟩=some (.slice (some ad335) ((rd_T29 l0 x5_1).f2).length c329_2)∧w'.cell? ⟨gb330,3,none⟩=some (.slice A329_3 ((rd_T29 l0 x5_1).f3).length c329_3)∧w'.cell? ⟨gb330,4,none⟩=some (.slice A329_4 ((rd_T29 l0 x5_1).f4).length c329_4)∧w'.cell? ⟨gb330,5,none⟩=some (.int .i64 ((rd_T29 l0 x5_1).f5))∧w'.cell? ⟨gb332,0,none⟩=some (.string ((rd_T29 l1 x5_1).f0))∧w'.cell? ⟨gb332,1,none⟩=some (.string ((rd_T29 l1 x5_1).f1))∧w'.cell? ⟨gb332,2,none⟩=some (.slice (some ad336) ((rd_T29 l1 x5_1).f2).length c331_2)∧w'.cell? ⟨gb332,3,none⟩=some (.slice A331_3 ((rd_T29 l1 x5_1).f3).length c331_3)∧w'.cell? ⟨gb332,4,none⟩=some (.slice A331_4 ((rd_T29 l1 x5_1).f4).length c331_4)∧w'.cell? ⟨gb332,5,none⟩=some (.int .i64 ((rd_T29 l1 x5_1).f5))∧w'.cell? (ad335.add ((x8_3).toNat * 5))=some (.string ((rd_T24 ((rd_T29 l0 x5_1).f2) x8_3).f0))∧w'.cell? ⟨(ad335.add ((x8_3).toNat * 5)).block,(ad335.add ((x8_3).toNat * 5)).off+1,none⟩=some (.string ((rd_T24 ((rd_T29 l0 x5_1).f2) x8_3).f1))∧w'.cell? ⟨(ad335.add ((x8_3).toNat * 5)).block,(ad335.add ((x8_3).toNat * 5)).off+2,none⟩=some (.int .i64 ((rd_T24 ((rd_T29 l0 x5_1).f2) x8_3).f2))∧w'.cell? ⟨(ad335.add ((x8_3).toNat * 5)).block,(ad335.add ((x8_3).toNat * 5)).off+3,none⟩=some (.slice A335_3 ((rd_T24 ((rd_T29 l0 x5_1).f2) x8_3).f3).length c335_3)∧w'.cell? ⟨(ad335.add ((x8_3).toNat * 5)).block,(ad335.add ((x8_3).toNat * 5)).off+4,none⟩=some (.int .i64 ((rd_T24 ((rd_T29 l0 x5_1).f2) x8_3).f4))∧w'.cell? (ad336.add ((x8_3).toNat * 5))=some (.string ((rd_T24 ((rd_T29 l1 x5_1).f2) x8_3).f0))∧w'.cell? ⟨(ad336.add ((x8_3).toNat * 5)).block,(ad336.add ((x8_3).toNat * 5)).off+1,none⟩=some (.string ((rd_T24 ((rd_T29 l1 x5_1).f2) x8_3).f1))∧w'.cell? ⟨(ad336.add ((x8_3).toNat * 5)).block,(ad336.add ((x8_3).toNat * 5)).off+2,none⟩=some (.int .i64 ((rd_T24 ((rd_T29 l1 x5_1).f2) x8_3).f2))∧w'.cell? ⟨(ad336.add ((x8_3).toNat * 5)).block,(ad336.add ((x8_3).toNat * 5)).off+3,none⟩=some (.slice A336_3 ((rd_T24 ((rd_T29 l1 x5_1).f2) x8_3).f3).length c336_3)∧w'.cell? ⟨(ad336.add ((x8_3).toNat * 5)).block,(ad336.add ((x8_3).toNat * 5)).off+4,none⟩=some (.int .i64 ((rd_T24 ((rd_T29 l1 x5_1).f2) x8_3).f4))) (ds:=[]) (flg 12 0) (by kernel_rfl) rfl (by kernel_rfl) ⟨zc_ BK330.out 0,zc_ BK330.out 1,zc_ BK330.out 2,zc_ BK330.out 3,zc_ BK330.out 4,zc_ BK330.out 5,zc_ BK332.out 0,zc_ BK332.out 1,zc_ BK332.out 2,zc_ BK332.out 3,zc_ BK332.out 4,zc_ BK332.out 5,((cb_ HB.out hw335_0:_)),((cb_ HB.out hw335_1:_)),((cb_ HB.out hw335_2:_)),((cb_ HB.out hw335_3:_)),((cb_ HB.out hw335_4:_)),((cb_ HB.out hw336_0:_)),((cb_ HB.out hw336_1:_)),((cb_ HB.out hw336_2:_)),((cb_ HB.out hw336_3:_)),((cb_ HB.out hw336_4:_))⟩ (fun hHeld=>?_);refine with_tabW helmsmanref12_SameStmts.tab13 helmsmanref12_SameStmts.bits13 (fun HT_ HW_=>?_)
                generalize wr.drew=w47 at BK330 BK332 HB HR335_3 HR336_3 hx335_0 hx335_1 hx335_2 hx335_3 hx335_4 hx336_0 hx336_1 hx336_2 hx336_3 hx336_4 hHeld ⊢
                refine pur_ 0 72 (flg 12 1) rfl rfl (any_of HT_.out (by kernel_rfl)) (fun _ _ _ h=>h) ?_
                refine pur_ 2 74 (flg 12 5) rfl rfl (any_of HT_.out (by kernel_rfl)) (fun _ _ _ h=>h) ?_
                refine pur_ 5 77 (flg 12 37) rfl rfl (any_of HT_.out (by kernel_rfl)) (fun _ _ _ h=>h) ?_
                refine pur_ 7 79 (flg 12 165) rfl rfl (any_of HT_.out (by kernel_rfl)) (fun _ _ _ h=>h) ?_
                refine tak_ 1 73 (flg 12 167) rfl rfl (take_ofW HT_.out HW_.out (by kernel_rfl)) (fun _ _ _ h=>h) hHeld ?_
                refine pur_ 3 75 (flg 12 175) rfl rfl (any_of HT_.out (by kernel_rfl)) (fun _ _ _ h=>h) ?_
                refine tak_ 4 76 (flg 12 191) rfl rfl (take_ofW HT_.out HW_.out (by kernel_rfl)) (fun _ _ _ h=>h) hHeld ?_
                refine tak_ 6 78 (flg 12 255) rfl rfl (take_ofW HT_.out HW_.out (by kernel_rfl)) (fun _ _ _ h=>h) hHeld ?_
                refine pur_ 8 80 (flg 12 511) rfl rfl (any_of HT_.out (by kernel_rfl)) (fun _ _ _ h=>h) ?_
                refine tak_ 9 81 (flg 12 1023) rfl rfl (take_ofW HT_.out HW_.out (by kernel_rfl)) (fun _ _ _ h=>h) hHeld ?_
                refine one_ (i:=10) (N:=some 82) (flg 12 2047) rfl rfl (one_of HT_.out (by kernel_rfl)) (by decide) (fun K hK=>?_)
                refine goes_ Tryd.func27 (by kernel_rfl) rfl #[.agg #[.string ((rd_T24 ((rd_T29 l0 x5_1).f2) x8_3).f0),.string ((rd_T24 ((rd_T29 l0 x5_1).f2) x8_3).f1),.int .i64 ((rd_T24 ((rd_T29 l0 x5_1).f2) x8_3).f2),.slice A335_3 ((rd_T24 ((rd_T29 l0 x5_1).f2) x8_3).f3).length c335_3,.int .i64 ((rd_T24 ((rd_T29 l0 x5_1).f2) x8_3).f4)],.agg #[.string ((rd_T24 ((rd_T29 l1 x5_1).f2) x8_3).f0),.string ((rd_T24 ((rd_T29 l1 x5_1).f2) x8_3).f1),.int .i64 ((rd_T24 ((rd_T29 l1 x5_1).f2) x8_3).f2),.slice A336_3 ((rd_T24 ((rd_T29 l1 x5_1).f2) x8_3).f3).length c336_3,.int .i64 ((rd_T24 ((rd_T29 l1 x5_1).f2) x8_3).f4)]] (by rfl) rfl rfl ar_ ?_
                with_reducible refine (helmsmanref12_SameExpr.calls k3 ((rd_T24 ((rd_T29 l0 x5_1).f2) x8_3).f0) ((rd_T24 ((rd_T29 l0 x5_1).f2) x8_3).f1) ((rd_T24 ((rd_T29 l0 x5_1).f2) x8_3).f2) _ _ ((rd_T24 ((rd_T29 l0 x5_1).f2) x8_3).f3) ((rd_T24 ((rd_T29 l0 x5_1).f2) x8_3).f4) ((rd_T24 ((rd_T29 l1 x5_1).f2) x8_3).f0) ((rd_T24 ((rd_T29 l1 x5_1).f2) x8_3).f1) ((rd_T24 ((rd_T29 l1 x5_1).f2) x8_3).f2) _ _ ((rd_T24 ((rd_T29 l1 x5_1).f2) x8_3).f3) ((rd_T24 ((rd_T29 l1 x5_1).f2) x8_3).f4) true _ ?side1 ?side2 ?side3 ?side4 A43.out).mono ?_
                (case side1=>exact kc_ HR335_3.out HB.out)
                (case side2=>exact HC335_3.out)
                (case side3=>exact kc_ HR336_3.out HB.out)
                (case side4=>exact HC336_3.out)
                rintro e w48 ⟨rfl,hb⟩
                refine ⟨_,rfl,?_⟩
                have n0_:=Aside0.mk (bb_ BK330.out hb)
                have n1_:=Aside0.mk (bb_ BK332.out hb)
                have n2_:=Aside0.mk (below_step (bl_ HB.out) hb)
                clear BK330
                clear BK332
                clear HB
                have BK330:=n0_
                have BK332:=n1_
                have HB:=n2_
                clear n0_ n1_ n2_
                (try clear hb)
                (try clear hb2)
                (try clear hk)
                (try clear hi)
                refine hK.out _ _ ⟨zc_ BK330.out 0,zc_ BK330.out 1,zc_ BK330.out 2,zc_ BK330.out 3,zc_ BK330.out 4,zc_ BK330.out 5,zc_ BK332.out 0,zc_ BK332.out 1,zc_ BK332.out 2,zc_ BK332.out 3,zc_ BK332.out 4,zc_ BK332.out 5,((cb_ HB.out hw335_0:_)),((cb_ HB.out hw335_1:_)),((cb_ HB.out hw335_2:_)),((cb_ HB.out hw335_3:_)),((cb_ HB.out hw335_4:_)),((cb_ HB.out hw336_0:_)),((cb_ HB.out hw336_1:_)),((cb_ HB.out hw336_2:_)),((cb_ HB.out hw336_3:_)),((cb_ HB.out hw336_4:_))⟩ (fun hHeld=>?_)
                clear hK K
                refine norm_ (a':=?_) ?_ ?_
                rotate_left
                ·show Act.put _ (some 82) _=_
                 simp only [Act.put,List.setIfInBounds_toArray,List.set_cons_zero,List.set_cons_succ,i64_w,i32_w]
                 rfl
                refine pur_ 11 83 (flg 12 4095) rfl rfl (any_of HT_.out (by kernel_rfl)) (fun _ _ _ h=>h) ?_
                refine done_ (done_of HT_.out (by kernel_rfl)) ?_
                try go_wp2
                go_roundg k3
                case measure=>have:=HK1.out;have:=HJ6.out;have:=HK3.out;omega
                case rel=>exact ⟨(wrap64 (x8_3+1)),rf_,H',⟨by have:=HK1.out;have:=HJ6.out;have:=HK3.out;omega⟩,⟨kb_ BK330.out⟩,⟨kb_ BK332.out⟩,⟨bl_ HB.out⟩⟩
               ·replace c44:=Bool.eq_false_iff.mpr c44
                subst c44
                have H1:(some false)=some r:=by rw [if_neg (show ¬ (false=true) by decide)] at H;exact H
                clear H
                have H:=H1
                clear H1
                obtain rfl:=Option.some.inj H
                have hnb49:=NB330_332.out
                have hnc49:=NB332_330.out
                have hcz50_0:wr.cell? ⟨gb330,0,none⟩=some (.string ((rd_T29 l0 x5_1).f0)):=zc_ BK330.out 0
                have hcz50_1:wr.cell? ⟨gb330,1,none⟩=some (.string ((rd_T29 l0 x5_1).f1)):=zc_ BK330.out 1
                have hcz50_2:wr.cell? ⟨gb330,2,none⟩=some (.slice A329_2 ((rd_T29 l0 x5_1).f2).length c329_2):=zc_ BK330.out 2
                have hcz50_3:wr.cell? ⟨gb330,3,none⟩=some (.slice A329_3 ((rd_T29 l0 x5_1).f3).length c329_3):=zc_ BK330.out 3
                have hcz50_4:wr.cell? ⟨gb330,4,none⟩=some (.slice A329_4 ((rd_T29 l0 x5_1).f4).length c329_4):=zc_ BK330.out 4
                have hcz50_5:wr.cell? ⟨gb330,5,none⟩=some (.int .i64 ((rd_T29 l0 x5_1).f5)):=zc_ BK330.out 5
                have hfz50_0:=blk_frozen BK330.out 0
                have hfz50_1:=blk_frozen BK330.out 1
                have hfz50_2:=blk_frozen BK330.out 2
                have hfz50_3:=blk_frozen BK330.out 3
                have hfz50_4:=blk_frozen BK330.out 4
                have hfz50_5:=blk_frozen BK330.out 5
                try go_wp2
                have n0_:=Aside0.mk (blk_drew BK330.out)
                have n1_:=Aside0.mk (blk_drew BK332.out)
                have n2_:=Aside0.mk (below_drew1 HB.out)
                clear BK330
                clear BK332
                clear HB
                have BK330:=n0_
                have BK332:=n1_
                have HB:=n2_
                clear n0_ n1_ n2_
                have p335:0≤(x8_3:Int):=of_decide_eq_true as_
                have q335:x8_3 < (((rd_T29 l0 x5_1).f2).length:Int):=of_decide_eq_true as_
                obtain ⟨ad335,A335_3,c335_3,e335,hx335_0,hx335_1,hx335_2,hx335_3,hx335_4,hl335_3,hi335_3⟩:=at_T24 HR329_2.out x8_3 p335 q335
                have hw335_4:=hx335_4
                have hw335_3:=hx335_3
                have hw335_2:=hx335_2
                have hw335_1:=hx335_1
                have hw335_0:=hx335_0
                cases e335
                replace hx335_0:=(cb_ HB.out hx335_0:_)
                replace hx335_1:=(cb_ HB.out hx335_1:_)
                replace hx335_2:=(cb_ HB.out hx335_2:_)
                replace hx335_3:=(cb_ HB.out hx335_3:_)
                replace hx335_4:=(cb_ HB.out hx335_4:_)
                have HR335_3:=Aside0.mk hi335_3
                have HC335_3:=Aside0.mk hl335_3
                clear hi335_3 hl335_3
                replace p335:=eq_true p335
                replace q335:=eq_true q335
                have p336:0≤(x8_3:Int):=of_decide_eq_true as_
                have q336:x8_3 < (((rd_T29 l1 x5_1).f2).length:Int):=of_decide_eq_true as_
                obtain ⟨ad336,A336_3,c336_3,e336,hx336_0,hx336_1,hx336_2,hx336_3,hx336_4,hl336_3,hi336_3⟩:=at_T24 HR331_2.out x8_3 p336 q336
                have hw336_4:=hx336_4
                have hw336_3:=hx336_3
                have hw336_2:=hx336_2
                have hw336_1:=hx336_1
                have hw336_0:=hx336_0
                cases e336
                replace hx336_0:=(cb_ HB.out hx336_0:_)
                replace hx336_1:=(cb_ HB.out hx336_1:_)
                replace hx336_2:=(cb_ HB.out hx336_2:_)
                replace hx336_3:=(cb_ HB.out hx336_3:_)
                replace hx336_4:=(cb_ HB.out hx336_4:_)
                have HR336_3:=Aside0.mk hi336_3
                have HC336_3:=Aside0.mk hl336_3
                clear hi336_3 hl336_3
                replace p336:=eq_true p336
                replace q336:=eq_true q336
                refine start_ (n:=12) (S:=fun w'=>w'.cell? ⟨gb330,0,none⟩=some (.string ((rd_T29 l0 x5_1).f0))∧w'.cell? ⟨gb330,1,none⟩=some (.string ((rd_T29 l0 x5_1).f1))∧w'.cell? ⟨gb330,2,none⟩=some (.slice (some ad335) ((rd_T29 l0 x5_1).f2).length c329_2)∧w'.cell? ⟨gb330,3,none⟩=some (.slice A329_3 ((rd_T29 l0 x5_1).f3).length c329_3)∧w'.cell? ⟨gb330,4,none⟩=some (.slice A329_4 ((rd_T29 l0 x5_1).f4).length c329_4)∧w'.cell? ⟨gb330,5,none⟩=some (.int .i64 ((rd_T29 l0 x5_1).f5))∧w'.cell? ⟨gb332,0,none⟩=some (.string ((rd_T29 l1 x5_1).f0))∧w'.cell? ⟨gb332,1,none⟩=some (.string ((rd_T29 l1 x5_1).f1))∧w'.cell? ⟨gb332,2,none⟩=some (.slice (some ad336) ((rd_T29 l1 x5_1).f2).length c331_2)∧w'.cell? ⟨gb332,3,none⟩=some (.slice A331_3 ((rd_T29 l1 x5_1).f3).length c331_3)∧w'.cell? ⟨gb332,4,none⟩=some (.slice A331_4 ((rd_T29 l1 x5_1).f4).length c331_4)∧w'.cell? ⟨gb332,5,none⟩=some (.int .i64 ((rd_T29 l1 x5_1).f5))∧w'.cell? (ad335.add ((x8_3).toNat * 5))=some (.string ((rd_T24 ((rd_T29 l0 x5_1).f2) x8_3).f0))∧w'.cell? ⟨(ad335.add ((x8_3).toNat * 5)).block,(ad335.add ((x8_3).toNat * 5)).off+1,none⟩=some (.string ((rd_T24 ((rd_T29 l0 x5_1).f2) x8_3).f1))∧w'.cell? ⟨(ad335.add ((x8_3).toNat * 5)).block,(ad335.add ((x8_3).toNat * 5)).off+2,none⟩=some (.int .i64 ((rd_T24 ((rd_T29 l0 x5_1).f2) x8_3).f2))∧w'.cell? ⟨(ad335.add ((x8_3).toNat * 5)).block,(ad335.add ((x8_3).toNat * 5)).off+3,none⟩=some (.slice A335_3 ((rd_T24 ((rd_T29 l0 x5_1).f2) x8_3).f3).length c335_3)∧w'.cell? ⟨(ad335.add ((x8_3).toNat * 5)).block,(ad335.add ((x8_3).toNat * 5)).off+4,none⟩=some (.int .i64 ((rd_T24 ((rd_T29 l0 x5_1).f2) x8_3).f4))∧w'.cell? (ad336.add ((x8_3).toNat * 5))=some (.string ((rd_T24 ((rd_T29 l1 x5_1).f2) x8_3).f0))∧w'.cell? ⟨(ad336.add ((x8_3).toNat * 5)).block,(ad336.add ((x8_3).toNat * 5)).off+1,none⟩=some (.string ((rd_T24 ((rd_T29 l1 x5_1).f2) x8_3).f1))∧w'.cell? ⟨(ad336.add ((x8_3).toNat * 5)).block,(ad336.add ((x8_3).toNat * 5)).off+2,none⟩=some (.int .i64 ((rd_T24 ((rd_T29 l1 x5_1).f2) x8_3).f2))∧w'.cell? ⟨(ad336.add ((x8_3).toNat * 5)).block,(ad336.add ((x8_3).toNat * 5)).off+3,none⟩=some (.slice A336_3 ((rd_T24 ((rd_T29 l1 x5_1).f2) x8_3).f3).length c336_3)∧w'.cell? ⟨(ad336.add ((x8_3).toNat * 5)).block,(ad336.add ((x8_3).toNat * 5)).off+4,none⟩=some (.int .i64 ((rd_T24 ((rd_T29 l1 x5_1).f2) x8_3).f4))) (ds:=[]) (flg 12 0) (by kernel_rfl) rfl (by kernel_rfl) ⟨zc_ BK330.out 0,zc_ BK330.out 1,zc_ BK330.out 2,zc_ BK330.out 3,zc_ BK330.out 4,zc_ BK330.out 5,zc_ BK332.out 0,zc_ BK332.out 1,zc_ BK332.out 2,zc_ BK332.out 3,zc_ BK332.out 4,zc_ BK332.out 5,((cb_ HB.out hw335_0:_)),((cb_ HB.out hw335_1:_)),((cb_ HB.out hw335_2:_)),((cb_ HB.out hw335_3:_)),((cb_ HB.out hw335_4:_)),((cb_ HB.out hw336_0:_)),((cb_ HB.out hw336_1:_)),((cb_ HB.out hw336_2:_)),((cb_ HB.out hw336_3:_)),((cb_ HB.out hw336_4:_))⟩ (fun hHeld=>?_);refine with_tabW helmsmanref12_SameStmts.tab13 helmsmanref12_SameStmts.bits13 (fun HT_ HW_=>?_)
                generalize wr.drew=w51 at BK330 BK332 HB HR335_3 HR336_3 hx335_0 hx335_1 hx335_2 hx335_3 hx335_4 hx336_0 hx336_1 hx336_2 hx336_3 hx336_4 hHeld ⊢
                refine pur_ 0 72 (flg 12 1) rfl rfl (any_of HT_.out (by kernel_rfl)) (fun _ _ _ h=>h) ?_
                refine pur_ 2 74 (flg 12 5) rfl rfl (any_of HT_.out (by kernel_rfl)) (fun _ _ _ h=>h) ?_
                refine pur_ 5 77 (flg 12 37) rfl rfl (any_of HT_.out (by kernel_rfl)) (fun _ _ _ h=>h) ?_
                refine pur_ 7 79 (flg 12 165) rfl rfl (any_of HT_.out (by kernel_rfl)) (fun _ _ _ h=>h) ?_
                refine tak_ 1 73 (flg 12 167) rfl rfl (take_ofW HT_.out HW_.out (by kernel_rfl)) (fun _ _ _ h=>h) hHeld ?_
                refine pur_ 3 75 (flg 12 175) rfl rfl (any_of HT_.out (by kernel_rfl)) (fun _ _ _ h=>h) ?_
                refine tak_ 4 76 (flg 12 191) rfl rfl (take_ofW HT_.out HW_.out (by kernel_rfl)) (fun _ _ _ h=>h) hHeld ?_
                refine tak_ 6 78 (flg 12 255) rfl rfl (take_ofW HT_.out HW_.out (by kernel_rfl)) (fun _ _ _ h=>h) hHeld ?_
                refine pur_ 8 80 (flg 12 511) rfl rfl (any_of HT_.out (by kernel_rfl)) (fun _ _ _ h=>h) ?_
                refine tak_ 9 81 (flg 12 1023) rfl rfl (take_ofW HT_.out HW_.out (by kernel_rfl)) (fun _ _ _ h=>h) hHeld ?_
                refine one_ (i:=10) (N:=some 82) (flg 12 2047) rfl rfl (one_of HT_.out (by kernel_rfl)) (by decide) (fun K hK=>?_)
                refine goes_ Tryd.func27 (by kernel_rfl) rfl #[.agg #[.string ((rd_T24 ((rd_T29 l0 x5_1).f2) x8_3).f0),.string ((rd_T24 ((rd_T29 l0 x5_1).f2) x8_3).f1),.int .i64 ((rd_T24 ((rd_T29 l0 x5_1).f2) x8_3).f2),.slice A335_3 ((rd_T24 ((rd_T29 l0 x5_1).f2) x8_3).f3).length c335_3,.int .i64 ((rd_T24 ((rd_T29 l0 x5_1).f2) x8_3).f4)],.agg #[.string ((rd_T24 ((rd_T29 l1 x5_1).f2) x8_3).f0),.string ((rd_T24 ((rd_T29 l1 x5_1).f2) x8_3).f1),.int .i64 ((rd_T24 ((rd_T29 l1 x5_1).f2) x8_3).f2),.slice A336_3 ((rd_T24 ((rd_T29 l1 x5_1).f2) x8_3).f3).length c336_3,.int .i64 ((rd_T24 ((rd_T29 l1 x5_1).f2) x8_3).f4)]] (by rfl) rfl rfl ar_ ?_
                with_reducible refine (helmsmanref12_SameExpr.calls k3 ((rd_T24 ((rd_T29 l0 x5_1).f2) x8_3).f0) ((rd_T24 ((rd_T29 l0 x5_1).f2) x8_3).f1) ((rd_T24 ((rd_T29 l0 x5_1).f2) x8_3).f2) _ _ ((rd_T24 ((rd_T29 l0 x5_1).f2) x8_3).f3) ((rd_T24 ((rd_T29 l0 x5_1).f2) x8_3).f4) ((rd_T24 ((rd_T29 l1 x5_1).f2) x8_3).f0) ((rd_T24 ((rd_T29 l1 x5_1).f2) x8_3).f1) ((rd_T24 ((rd_T29 l1 x5_1).f2) x8_3).f2) _ _ ((rd_T24 ((rd_T29 l1 x5_1).f2) x8_3).f3) ((rd_T24 ((rd_T29 l1 x5_1).f2) x8_3).f4) false _ ?side1 ?side2 ?side3 ?side4 A43.out).mono ?_
                (case side1=>exact kc_ HR335_3.out HB.out)
                (case side2=>exact HC335_3.out)
                (case side3=>exact kc_ HR336_3.out HB.out)
                (case side4=>exact HC336_3.out)
                rintro e w52 ⟨rfl,hb⟩
                refine ⟨_,rfl,?_⟩
                have n0_:=Aside0.mk (bb_ BK330.out hb)
                have n1_:=Aside0.mk (bb_ BK332.out hb)
                have n2_:=Aside0.mk (below_step (bl_ HB.out) hb)
                clear BK330
                clear BK332
                clear HB
                have BK330:=n0_
                have BK332:=n1_
                have HB:=n2_
                clear n0_ n1_ n2_
                (try clear hb)
                (try clear hb2)
                (try clear hk)
                (try clear hi)
                refine hK.out _ _ ⟨zc_ BK330.out 0,zc_ BK330.out 1,zc_ BK330.out 2,zc_ BK330.out 3,zc_ BK330.out 4,zc_ BK330.out 5,zc_ BK332.out 0,zc_ BK332.out 1,zc_ BK332.out 2,zc_ BK332.out 3,zc_ BK332.out 4,zc_ BK332.out 5,((cb_ HB.out hw335_0:_)),((cb_ HB.out hw335_1:_)),((cb_ HB.out hw335_2:_)),((cb_ HB.out hw335_3:_)),((cb_ HB.out hw335_4:_)),((cb_ HB.out hw336_0:_)),((cb_ HB.out hw336_1:_)),((cb_ HB.out hw336_2:_)),((cb_ HB.out hw336_3:_)),((cb_ HB.out hw336_4:_))⟩ (fun hHeld=>?_)
                clear hK K
                refine norm_ (a':=?_) ?_ ?_
                rotate_left
                ·show Act.put _ (some 82) _=_
                 simp only [Act.put,List.setIfInBounds_toArray,List.set_cons_zero,List.set_cons_succ,i64_w,i32_w]
                 rfl
                refine pur_ 11 83 (flg 12 4095) rfl rfl (any_of HT_.out (by kernel_rfl)) (fun _ _ _ h=>h) ?_
                refine done_ (done_of HT_.out (by kernel_rfl)) ?_
                try go_wp2
                go_ret
                exact ⟨rt_,bl_ HB.out⟩
              ·rw [if_neg c42] at H
               exact absurd H (by simp)
             ·rw [if_neg c41] at H
              exact absurd H (by simp)
            ·rw [if_neg c40] at H
             have c40b0:decide (x8_3 < (((rd_T29 l0 x5_1).f2).length:Int))=false:=decide_eq_false c40
             clear c40
             have H':=Aside0.mk H
             clear H
             have hnb53:=NB330_332.out
             have hnc53:=NB332_330.out
             have hcz54_0:wr.cell? ⟨gb330,0,none⟩=some (.string ((rd_T29 l0 x5_1).f0)):=zc_ BK330.out 0
             have hcz54_1:wr.cell? ⟨gb330,1,none⟩=some (.string ((rd_T29 l0 x5_1).f1)):=zc_ BK330.out 1
             have hcz54_2:wr.cell? ⟨gb330,2,none⟩=some (.slice A329_2 ((rd_T29 l0 x5_1).f2).length c329_2):=zc_ BK330.out 2
             have hcz54_3:wr.cell? ⟨gb330,3,none⟩=some (.slice A329_3 ((rd_T29 l0 x5_1).f3).length c329_3):=zc_ BK330.out 3
             have hcz54_4:wr.cell? ⟨gb330,4,none⟩=some (.slice A329_4 ((rd_T29 l0 x5_1).f4).length c329_4):=zc_ BK330.out 4
             have hcz54_5:wr.cell? ⟨gb330,5,none⟩=some (.int .i64 ((rd_T29 l0 x5_1).f5)):=zc_ BK330.out 5
             have hfz54_0:=blk_frozen BK330.out 0
             have hfz54_1:=blk_frozen BK330.out 1
             have hfz54_2:=blk_frozen BK330.out 2
             have hfz54_3:=blk_frozen BK330.out 3
             have hfz54_4:=blk_frozen BK330.out 4
             have hfz54_5:=blk_frozen BK330.out 5
             go_wp2
             go_roundg k3
             case measure=>have:=HK1.out;have:=HJ6.out;have:=HK3.out;omega
             case rel=>exact ⟨(wrap64 (x5_1+1)),rf_,H',⟨by have:=HK1.out;have:=HJ6.out;have:=HK3.out;omega⟩,⟨bl_ HB.out⟩⟩
      ·rw [if_neg c6] at H
       exact absurd H (by simp)
     ·rw [if_neg c5] at H
      exact absurd H (by simp)
    ·rw [if_neg c4] at H
     have c4b0:decide (x5_1 < (l0.length:Int))=false:=decide_eq_false c4
     clear c4
     obtain rfl:=Option.some.inj H
     go_wp2
     go_ret
     exact ⟨rt_,bl_ HB.out⟩
 ·rw [if_neg c3] at H
  have c3b0:((l0.length:Int) == (l1.length:Int))=false:=beq_eq_false_iff_ne.mpr c3
  have c3b1:((l0.length:Int) != (l1.length:Int))=true:=bne_iff_ne.mpr c3
  have c3b2:(l0.length == l1.length)=false:=by first|simpa using c3|(simp at c3 ⊢;omega)
  obtain rfl:=Option.some.inj H
  go_enter Tryd.func25,Tryd.ntmps25
  go_wp2
  go_ret
  exact ⟨rt_,bl_ HB.out⟩
end Go.Proofs.YtnnbbeloifhofaaDoor.P
end
section
namespace Go.Proofs.YtnnbbeloifhofaaDoor.P
open Go.RowKit Go.Proofs.YtnnbbeloifhofaaDoorW.PrintWords Go.Proofs.YtnnbbeloifhofaaDoorW.PrintLast Go.Proofs.YtnnbbeloifhofaaDoorW.PrintMore
attribute [local go_sem] max2_int min2_int max_two min_two max_three min_three max_four min_four
set_option linter.unusedVariables false
set_option linter.unusedSimpArgs false
def slices_Equal_string_string.l0:Nat→List ByteArray→List ByteArray→Int→Int→Option (Bool)
 | 0,_,_,_,_=>none
 | k+1,x0,x1,x12,x13=>if x13 < x12 then (if 0≤x13 then (if x13 < (x0.length:Int) then (if x13 < (x1.length:Int) then (if (rdOf ByteArray.empty x0 x13).toList=(rdOf ByteArray.empty x1 x13).toList then (slices_Equal_string_string.l0 k x0 x1 x12 (wrap64 (x13+1))) else (some false)) else (none)) else (none)) else (none)) else (some true)
def slices_Equal_string_string.f (k:Nat) (l0:List ByteArray) (l1:List ByteArray):Option (Bool):=if (l0.length:Int)=(l1.length:Int) then (slices_Equal_string_string.l0 k l0 l1 (l0.length:Int) 0) else (some false)
set_option maxHeartbeats 8000000 in
set_option maxRecDepth 100000 in
theorem slices_Equal_string_string.calls (k:Nat) (A0:Option Addr) (c0:Nat) (l0:List ByteArray) (A1:Option Addr) (c1:Nat) (l1:List ByteArray) (r:Bool) (w:World) (hr0:Kd.C Kd.string w A0 l0.length l0) (hc0:l0.length≤c0) (hr1:Kd.C Kd.string w A1 l1.length l1) (hc1:l1.length≤c1) (h:slices_Equal_string_string.f k l0 l1=some r) :
  Calls Tryd.prog 45 #[.slice A0 l0.length c0,.slice A1 l1.length c1] w fun e w'=>e=.returned (.bool r)∧Drawn0 w w':=by
 have HR0:=Aside0.mk hr0
 have HC0:=Aside0.mk hc0
 clear hr0 hc0
 have HR1:=Aside0.mk hr1
 have HC1:=Aside0.mk hc1
 clear hr1 hc1
 have H:(if (l0.length:Int)=(l1.length:Int) then (slices_Equal_string_string.l0 k l0 l1 (l0.length:Int) 0) else (some false))=some r:=h
 clear h
 by_cases c3:(l0.length:Int)=(l1.length:Int)
 ·rw [if_pos c3] at H
  have c3b0:((l0.length:Int) == (l1.length:Int))=true:=beq_iff_eq.mpr c3
  have c3b1:((l0.length:Int) != (l1.length:Int))=false:=bne_eq_false_iff_eq.mpr c3
  have c3b2:(l0.length == l1.length)=true:=by first|simpa using c3|(simp at c3 ⊢;omega)
  clear c3
  have H':=Aside0.mk H
  clear H
  go_enter Tryd.func45,Tryd.ntmps45
  go_wp2
  repeat (go_quiet (fail);try go_wp2)
  (try simp only [Act.put,List.setIfInBounds_toArray,List.set_cons_succ,List.set_cons_zero])
  go_loopg [13] k (fun kq v13 w'=>∃ (x13_1:Int),v13=.int .i64 x13_1∧Aside0 (slices_Equal_string_string.l0 kq l0 l1 (l0.length:Int) x13_1=some r)∧Aside0 (kq≤k)∧Drawn0 w w')
  case atStart=>exact ⟨(0),rf_,H',⟨Nat.le_refl _⟩,by repeat (first|exact Drawn0.refl _|apply Drawn0.step)⟩
  case round=>
   clear H'
   (try clear c1);(try clear p2);(try clear c3);(try clear c3b0);(try clear c3b1);(try clear c3b2)
   obtain ⟨x13_1,rfl,HA,HK1,⟨m1,rfl⟩⟩:=hrel
   cases gk with
   | zero=>exact absurd HA.out (by simp [slices_Equal_string_string.l0])
   | succ k1=>
    have H:=HA.out
    clear HA
    simp only [slices_Equal_string_string.l0] at H
    by_cases c4:x13_1 < (l0.length:Int)
    ·rw [if_pos c4] at H
     have c4b0:decide (x13_1 < (l0.length:Int))=true:=decide_eq_true c4
     clear c4
     by_cases c5:0≤x13_1
     ·rw [if_pos c5] at H
      have c5b0:decide (0≤x13_1)=true:=decide_eq_true c5
      clear c5
      by_cases c6:x13_1 < (l0.length:Int)
      ·rw [if_pos c6] at H
       have c6b0:decide (x13_1 < (l0.length:Int))=true:=decide_eq_true c6
       clear c6
       by_cases c7:x13_1 < (l1.length:Int)
       ·rw [if_pos c7] at H
        have c7b0:decide (x13_1 < (l1.length:Int))=true:=decide_eq_true c7
        clear c7
        by_cases c8:(rdOf ByteArray.empty l0 x13_1).toList=(rdOf ByteArray.empty l1 x13_1).toList
        ·rw [if_pos c8] at H
         have c8b0:((rdOf ByteArray.empty l0 x13_1).toList == (rdOf ByteArray.empty l1 x13_1).toList)=true:=beq_iff_eq.mpr c8
         have c8b1:((rdOf ByteArray.empty l0 x13_1).toList != (rdOf ByteArray.empty l1 x13_1).toList)=false:=bne_eq_false_iff_eq.mpr c8
         clear c8
         have H':=Aside0.mk H
         clear H
         have p346:0≤(x13_1:Int):=of_decide_eq_true as_
         have q346:x13_1 < (l0.length:Int):=of_decide_eq_true as_
         obtain ⟨ad346,e346,hx346_0⟩:=Kd.at_string HR0.out x13_1 p346 q346
         cases e346
         replace p346:=eq_true p346
         replace q346:=eq_true q346
         have p347:0≤(x13_1:Int):=of_decide_eq_true as_
         have q347:x13_1 < (l1.length:Int):=of_decide_eq_true as_
         obtain ⟨ad347,e347,hx347_0⟩:=Kd.at_string HR1.out x13_1 p347 q347
         cases e347
         replace p347:=eq_true p347
         replace q347:=eq_true q347
         go_wp2
         repeat (go_quiet (fail);try go_wp2)
         go_roundg k1
         case measure=>have:=HK1.out;omega
         case rel=>exact ⟨(wrap64 (x13_1+1)),rf_,H',⟨by have:=HK1.out;omega⟩,by repeat (first|exact Drawn0.refl _|apply Drawn0.step)⟩
        ·rw [if_neg c8] at H
         have c8b0:((rdOf ByteArray.empty l0 x13_1).toList == (rdOf ByteArray.empty l1 x13_1).toList)=false:=beq_eq_false_iff_ne.mpr c8
         have c8b1:((rdOf ByteArray.empty l0 x13_1).toList != (rdOf ByteArray.empty l1 x13_1).toList)=true:=bne_iff_ne.mpr c8
         obtain rfl:=Option.some.inj H
         have p346:0≤(x13_1:Int):=of_decide_eq_true as_
         have q346:x13_1 < (l0.length:Int):=of_decide_eq_true as_
         obtain ⟨ad346,e346,hx346_0⟩:=Kd.at_string HR0.out x13_1 p346 q346
         cases e346
         replace p346:=eq_true p346
         replace q346:=eq_true q346
         have p347:0≤(x13_1:Int):=of_decide_eq_true as_
         have q347:x13_1 < (l1.length:Int):=of_decide_eq_true as_
         obtain ⟨ad347,e347,hx347_0⟩:=Kd.at_string HR1.out x13_1 p347 q347
         cases e347
         replace p347:=eq_true p347
         replace q347:=eq_true q347
         go_wp2
         repeat (go_quiet (fail);try go_wp2)
         go_ret
         exact ⟨by first|rfl|(simp;done)|(simp [*];done),by repeat (first|exact Drawn0.refl _|apply Drawn0.step)⟩
       ·rw [if_neg c7] at H
        exact absurd H (by simp)
      ·rw [if_neg c6] at H
       exact absurd H (by simp)
     ·rw [if_neg c5] at H
      exact absurd H (by simp)
    ·rw [if_neg c4] at H
     have c4b0:decide (x13_1 < (l0.length:Int))=false:=decide_eq_false c4
     clear c4
     obtain rfl:=Option.some.inj H
     go_wp2
     repeat (go_quiet (fail);try go_wp2)
     go_ret
     exact ⟨by first|rfl|(simp;done)|(simp [*];done),by repeat (first|exact Drawn0.refl _|apply Drawn0.step)⟩
 ·rw [if_neg c3] at H
  have c3b0:((l0.length:Int) == (l1.length:Int))=false:=beq_eq_false_iff_ne.mpr c3
  have c3b1:((l0.length:Int) != (l1.length:Int))=true:=bne_iff_ne.mpr c3
  have c3b2:(l0.length == l1.length)=false:=by first|simpa using c3|(simp at c3 ⊢;omega)
  obtain rfl:=Option.some.inj H
  go_enter Tryd.func45,Tryd.ntmps45
  go_wp2
  repeat (go_quiet (fail);try go_wp2)
  go_ret
  exact ⟨by first|rfl|(simp;done)|(simp [*];done),by repeat (first|exact Drawn0.refl _|apply Drawn0.step)⟩
end Go.Proofs.YtnnbbeloifhofaaDoor.P
end
section
namespace Go.Proofs.YtnnbbeloifhofaaDoor.P
open Go.RowKit Go.Proofs.YtnnbbeloifhofaaDoorW.PrintWords Go.Proofs.YtnnbbeloifhofaaDoorW.PrintLast Go.Proofs.YtnnbbeloifhofaaDoorW.PrintMore
attribute [local go_sem] max2_int min2_int max_two min_two max_three min_three max_four min_four
set_option linter.unusedVariables false
set_option linter.unusedSimpArgs false
def tree_Same_1.f (k:Nat) (a0_0:ByteArray) (l0_1:List ByteArray) (a1_0:ByteArray) (l1_1:List ByteArray):Option (Bool):=if a0_0.toList=a1_0.toList then ((slices_Equal_string_string.f k l0_1 l1_1).bind fun t350=>(some t350)) else (some false)
set_option maxHeartbeats 8000000 in
set_option maxRecDepth 100000 in
theorem tree_Same_1.calls (k:Nat) (a0_0:ByteArray) (A0_1:Option Addr) (c0_1:Nat) (l0_1:List ByteArray) (a1_0:ByteArray) (A1_1:Option Addr) (c1_1:Nat) (l1_1:List ByteArray) (r:Bool) (w:World) (hr0_1:Kd.C Kd.string w A0_1 l0_1.length l0_1) (hc0_1:l0_1.length≤c0_1) (hr1_1:Kd.C Kd.string w A1_1 l1_1.length l1_1) (hc1_1:l1_1.length≤c1_1) (h:tree_Same_1.f k a0_0 l0_1 a1_0 l1_1=some r) :
  Calls Tryd.prog 44 #[.agg #[.string a0_0,.slice A0_1 l0_1.length c0_1],.agg #[.string a1_0,.slice A1_1 l1_1.length c1_1]] w fun e w'=>e=.returned (.bool r)∧Below w.heap.size w w':=by
 have hu79:=Tryd.underlying79
 have HR0_1:=Aside0.mk hr0_1
 have HC0_1:=Aside0.mk hc0_1
 clear hr0_1 hc0_1
 have HR1_1:=Aside0.mk hr1_1
 have HC1_1:=Aside0.mk hc1_1
 clear hr1_1 hc1_1
 have HB:=Aside0.mk (Below.refl w.heap.size w)
 have H:(if a0_0.toList=a1_0.toList then ((slices_Equal_string_string.f k l0_1 l1_1).bind fun t350=>(some t350)) else (some false))=some r:=h
 clear h
 by_cases c3:a0_0.toList=a1_0.toList
 ·rw [if_pos c3] at H
  have c3b0:(a0_0.toList == a1_0.toList)=true:=beq_iff_eq.mpr c3
  have c3b1:(a0_0.toList != a1_0.toList)=false:=bne_eq_false_iff_eq.mpr c3
  clear c3
  replace H:=Option.bind_eq_some_iff.mp H
  obtain ⟨t350,A40,H⟩:=H
  replace H:(some t350)=some r:=H
  have A4:=Aside0.mk A40
  clear A40
  obtain rfl:=Option.some.inj H
  go_enter Tryd.func44,Tryd.ntmps44
  go_wp2_with (first|((with_reducible refine gate_dst (N:=2) rfl ?_);refine box_event ?hg (N:=2) ?hd (cs:=#[.string a0_0,.slice A0_1 l0_1.length c0_1]) (t:=79) ?hr ?_;(case hd=>rfl);(case hg=>rfl);(case hr=>first|(go_simp;done)|(go_simp;rfl));intro gb348 hg w5 hbox hb;have n0_:=Aside0.mk (below_step (bl_ HB.out) hb);have n1_:=Aside0.mk (hbox);have n2_:=Aside0.mk ((gs_ hg (bl_ HB.out):w.heap.size≤gb348));have n3_:=Aside0.mk ((gs_ hg (bl_ HB.out):w.heap.size≤gb348));clear HB;have HB:=n0_;have BK348:=n1_;have GW348:=n2_;have GE348:=n3_;clear n0_ n1_ n2_ n3_;clear hb hbox hg)|((with_reducible refine gate_dst (N:=3) rfl ?_);refine box_event ?hg (N:=3) ?hd (cs:=#[.string a1_0,.slice A1_1 l1_1.length c1_1]) (t:=79) ?hr ?_;(case hd=>rfl);(case hg=>rfl);(case hr=>first|(go_simp;done)|(go_simp;rfl));intro gb349 hg w6 hbox hb;have n0_:=Aside0.mk (bb_ BK348.out hb);have n1_:=Aside0.mk (below_step (bl_ HB.out) hb);have n2_:=Aside0.mk (hbox);have n3_:=Aside0.mk ((gs_ hg (bl_ HB.out):w.heap.size≤gb349));have n4_:=Aside0.mk ((gs_ hg (bl_ HB.out):w.heap.size≤gb349));have n5_:=Aside0.mk ((nl_ hg BK348.out:gb348≠gb349));have n6_:=Aside0.mk ((nr_ hg BK348.out:gb349≠gb348));clear BK348;clear HB;have BK348:=n0_;have HB:=n1_;have BK349:=n2_;have GW349:=n3_;have GE349:=n4_;have NB348_349:=n5_;have NB349_348:=n6_;clear n0_ n1_ n2_ n3_ n4_ n5_ n6_;clear hb hbox hg;have hnb7:=NB348_349.out;have hnc7:=NB349_348.out;have hcz8_0:w6.cell? ⟨gb348,0,none⟩=some (.string a0_0):=zc_ BK348.out 0;have hcz8_1:w6.cell? ⟨gb348,1,none⟩=some (.slice A0_1 l0_1.length c0_1):=zc_ BK348.out 1;have hfz8_0:=blk_frozen BK348.out 0;have hfz8_1:=blk_frozen BK348.out 1;have hcz9_0:w6.cell? ⟨gb349,0,none⟩=some (.string a1_0):=zc_ BK349.out 0;have hcz9_1:w6.cell? ⟨gb349,1,none⟩=some (.slice A1_1 l1_1.length c1_1):=zc_ BK349.out 1;have hfz9_0:=blk_frozen BK349.out 0;have hfz9_1:=blk_frozen BK349.out 1)|(go_at_call 45;(with_reducible refine (slices_Equal_string_string.calls k _ _ l0_1 _ _ l1_1 t350 _ ?side1 ?side2 ?side3 ?side4 A4.out).mono ?_);(case side1=>exact kc_ HR0_1.out HB.out);(case side2=>exact HC0_1.out);(case side3=>exact kc_ HR1_1.out HB.out);(case side4=>exact HC1_1.out);rintro e w' ⟨rfl,⟨nd,rfl⟩⟩))
  go_ret
  exact ⟨rt_,bl_ HB.out⟩
 ·rw [if_neg c3] at H
  have c3b0:(a0_0.toList == a1_0.toList)=false:=beq_eq_false_iff_ne.mpr c3
  have c3b1:(a0_0.toList != a1_0.toList)=true:=bne_iff_ne.mpr c3
  obtain rfl:=Option.some.inj H
  go_enter Tryd.func44,Tryd.ntmps44
  go_wp2_with (first|((with_reducible refine gate_dst (N:=2) rfl ?_);refine box_event ?hg (N:=2) ?hd (cs:=#[.string a0_0,.slice A0_1 l0_1.length c0_1]) (t:=79) ?hr ?_;(case hd=>rfl);(case hg=>rfl);(case hr=>first|(go_simp;done)|(go_simp;rfl));intro gb348 hg w10 hbox hb;have n0_:=Aside0.mk (below_step (bl_ HB.out) hb);have n1_:=Aside0.mk (hbox);have n2_:=Aside0.mk ((gs_ hg (bl_ HB.out):w.heap.size≤gb348));have n3_:=Aside0.mk ((gs_ hg (bl_ HB.out):w.heap.size≤gb348));clear HB;have HB:=n0_;have BK348:=n1_;have GW348:=n2_;have GE348:=n3_;clear n0_ n1_ n2_ n3_;clear hb hbox hg)|((with_reducible refine gate_dst (N:=3) rfl ?_);refine box_event ?hg (N:=3) ?hd (cs:=#[.string a1_0,.slice A1_1 l1_1.length c1_1]) (t:=79) ?hr ?_;(case hd=>rfl);(case hg=>rfl);(case hr=>first|(go_simp;done)|(go_simp;rfl));intro gb349 hg w11 hbox hb;have n0_:=Aside0.mk (bb_ BK348.out hb);have n1_:=Aside0.mk (below_step (bl_ HB.out) hb);have n2_:=Aside0.mk (hbox);have n3_:=Aside0.mk ((gs_ hg (bl_ HB.out):w.heap.size≤gb349));have n4_:=Aside0.mk ((gs_ hg (bl_ HB.out):w.heap.size≤gb349));have n5_:=Aside0.mk ((nl_ hg BK348.out:gb348≠gb349));have n6_:=Aside0.mk ((nr_ hg BK348.out:gb349≠gb348));clear BK348;clear HB;have BK348:=n0_;have HB:=n1_;have BK349:=n2_;have GW349:=n3_;have GE349:=n4_;have NB348_349:=n5_;have NB349_348:=n6_;clear n0_ n1_ n2_ n3_ n4_ n5_ n6_;clear hb hbox hg;have hnb12:=NB348_349.out;have hnc12:=NB349_348.out;have hcz13_0:w11.cell? ⟨gb348,0,none⟩=some (.string a0_0):=zc_ BK348.out 0;have hcz13_1:w11.cell? ⟨gb348,1,none⟩=some (.slice A0_1 l0_1.length c0_1):=zc_ BK348.out 1;have hfz13_0:=blk_frozen BK348.out 0;have hfz13_1:=blk_frozen BK348.out 1;have hcz14_0:w11.cell? ⟨gb349,0,none⟩=some (.string a1_0):=zc_ BK349.out 0;have hcz14_1:w11.cell? ⟨gb349,1,none⟩=some (.slice A1_1 l1_1.length c1_1):=zc_ BK349.out 1;have hfz14_0:=blk_frozen BK349.out 0;have hfz14_1:=blk_frozen BK349.out 1))
  go_ret
  exact ⟨rt_,bl_ HB.out⟩
end Go.Proofs.YtnnbbeloifhofaaDoor.P
end
section
namespace Go.Proofs.YtnnbbeloifhofaaDoor.P
open Go.RowKit Go.Proofs.YtnnbbeloifhofaaDoorW.PrintWords Go.Proofs.YtnnbbeloifhofaaDoorW.PrintLast Go.Proofs.YtnnbbeloifhofaaDoorW.PrintMore
attribute [local go_sem] max2_int min2_int max_two min_two max_three min_three max_four min_four
set_option linter.unusedVariables false
set_option linter.unusedSimpArgs false
def tree_Enum_at_tree_Same_1.l0:Nat→List (S79)→List (S79)→Int→Int→Option (Bool)
 | 0,_,_,_,_=>none
 | k+1,x1,x15,x16,x17=>if x17 < x16 then (if 0≤x17 then (if x17 < (x15.length:Int) then (if x17 < (x1.length:Int) then ((tree_Same_1.f k ((rd_T79 x15 x17).f0) ((rd_T79 x15 x17).f1) ((rd_T79 x1 x17).f0) ((rd_T79 x1 x17).f1)).bind fun t355=>(if t355=true then (tree_Enum_at_tree_Same_1.l0 k x1 x15 x16 (wrap64 (x17+1))) else (some false))) else (none)) else (none)) else (none)) else (some true)
def tree_Enum_at_tree_Same_1.f (k:Nat) (l0:List (S79)) (l1:List (S79))  : Option (Bool):=if (l0.length:Int)=(l1.length:Int) then (tree_Enum_at_tree_Same_1.l0 k l1 l0 (l0.length:Int) 0) else (some false)
set_option maxHeartbeats 8000000 in
set_option maxRecDepth 100000 in
theorem tree_Enum_at_tree_Same_1.calls (k:Nat) (A0:Option Addr) (c0:Nat) (l0:List (S79)) (A1:Option Addr) (c1:Nat) (l1:List (S79))  (r:Bool) (w:World) (hr0:Kd.C k79 w A0 l0.length l0) (hc0:l0.length≤c0) (hr1:Kd.C k79 w A1 l1.length l1) (hc1:l1.length≤c1) (h:tree_Enum_at_tree_Same_1.f k l0 l1=some r) :
  Calls Tryd.prog 49 #[.slice A0 l0.length c0,.slice A1 l1.length c1,.func (.func 44) #[] #[]] w fun e w'=>e=.returned (.bool r)∧Below w.heap.size w w':=by
 have hu79:=Tryd.underlying79
 have HR0:=Aside0.mk hr0
 have HC0:=Aside0.mk hc0
 clear hr0 hc0
 have HR1:=Aside0.mk hr1
 have HC1:=Aside0.mk hc1
 clear hr1 hc1
 have HB:=Aside0.mk (Below.refl w.heap.size w)
 have H:(if (l0.length:Int)=(l1.length:Int) then (tree_Enum_at_tree_Same_1.l0 k l1 l0 (l0.length:Int) 0) else (some false))=some r:=h
 clear h
 by_cases c4:(l0.length:Int)=(l1.length:Int)
 ·rw [if_pos c4] at H
  have c4b0:((l0.length:Int) == (l1.length:Int))=true:=beq_iff_eq.mpr c4
  have c4b1:((l0.length:Int) != (l1.length:Int))=false:=bne_eq_false_iff_eq.mpr c4
  have c4b2:(l0.length == l1.length)=true:=by first|simpa using c4|(simp at c4 ⊢;omega)
  clear c4
  have H':=Aside0.mk H
  clear H
  go_enter Tryd.func49,Tryd.ntmps49
  go_wp2
  (try simp only [Act.put,List.setIfInBounds_toArray,List.set_cons_succ,List.set_cons_zero])
  go_loopg [17] k (fun kq v17 w'=>∃ (x17_1:Int),v17=.int .i64 x17_1∧Aside0 (tree_Enum_at_tree_Same_1.l0 kq l1 l0 (l0.length:Int) x17_1=some r)∧Aside0 (kq≤k)∧Aside0 (Below w.heap.size w w'))
  case atStart=>exact ⟨(0),rf_,H',⟨Nat.le_refl _⟩,⟨bl_ HB.out⟩⟩
  case round=>
   clear H'
   (try clear c1);(try clear p2);(try clear c4);(try clear c4b0);(try clear c4b1);(try clear c4b2)
   obtain ⟨x17_1,rfl,HA,HK1,HB⟩:=hrel
   cases gk with
   | zero=>exact absurd HA.out (by simp [tree_Enum_at_tree_Same_1.l0])
   | succ k1=>
    have H:=HA.out
    clear HA
    simp only [tree_Enum_at_tree_Same_1.l0] at H
    by_cases c5:x17_1 < (l0.length:Int)
    ·rw [if_pos c5] at H
     have c5b0:decide (x17_1 < (l0.length:Int))=true:=decide_eq_true c5
     clear c5
     by_cases c6:0≤x17_1
     ·rw [if_pos c6] at H
      have c6b0:decide (0≤x17_1)=true:=decide_eq_true c6
      clear c6
      by_cases c7:x17_1 < (l0.length:Int)
      ·rw [if_pos c7] at H
       have c7b0:decide (x17_1 < (l0.length:Int))=true:=decide_eq_true c7
       clear c7
       by_cases c8:x17_1 < (l1.length:Int)
       ·rw [if_pos c8] at H
        have c8b0:decide (x17_1 < (l1.length:Int))=true:=decide_eq_true c8
        clear c8
        replace H:=Option.bind_eq_some_iff.mp H
        obtain ⟨t355,A90,H⟩:=H
        replace H:(if t355=true then (tree_Enum_at_tree_Same_1.l0 k1 l1 l0 (l0.length:Int) (wrap64 (x17_1+1))) else (some false))=some r:=H
        have A9:=Aside0.mk A90
        clear A90
        by_cases c10:t355=true
        ·subst c10
         have H1:(tree_Enum_at_tree_Same_1.l0 k1 l1 l0 (l0.length:Int) (wrap64 (x17_1+1)))=some r:=by rw [if_pos rfl] at H;exact H
         clear H
         have H:=H1
         clear H1
         have H':=Aside0.mk H
         clear H
         have p351:0≤(x17_1:Int):=of_decide_eq_true as_
         have q351:x17_1 < (l0.length:Int):=of_decide_eq_true as_
         obtain ⟨ad351,A351_1,c351_1,e351,hx351_0,hx351_1,hl351_1,hi351_1⟩:=at_T79 HR0.out x17_1 p351 q351
         cases e351
         replace hx351_0:=(cb_ HB.out hx351_0:_)
         replace hx351_1:=(cb_ HB.out hx351_1:_)
         have HR351_1:=Aside0.mk hi351_1
         have HC351_1:=Aside0.mk hl351_1
         clear hi351_1 hl351_1
         replace p351:=eq_true p351
         replace q351:=eq_true q351
         go_wp2_with (first|((with_reducible refine gate_dst (N:=8) rfl ?_);refine box_event ?hg (N:=8) ?hd (cs:=#[.string (⟨#[]⟩:ByteArray),.slice none 0 0]) (t:=79) ?hr ?_;(case hd=>rfl);(case hg=>rfl);(case hr=>first|(go_simp;done)|(go_simp;rfl));intro gb352 hg w11 hbox hb;have n0_:=Aside0.mk (below_step (bl_ HB.out) hb);have n1_:=Aside0.mk (hbox);have n2_:=Aside0.mk ((gs_ hg (bl_ HB.out):w.heap.size≤gb352));have n3_:=Aside0.mk ((gs_ hg (bl_ HB.out):w.heap.size≤gb352));clear HB;have HB:=n0_;have BK352:=n1_;have GW352:=n2_;have GE352:=n3_;clear n0_ n1_ n2_ n3_;clear hb hbox hg;have hcz12_0:w11.cell? ⟨gb352,0,none⟩=some (.string (⟨#[]⟩:ByteArray)):=zc_ BK352.out 0;have hcz12_1:w11.cell? ⟨gb352,1,none⟩=some (.slice none 0 0):=zc_ BK352.out 1;have hfz12_0:=blk_frozen BK352.out 0;have hfz12_1:=blk_frozen BK352.out 1;have p353:0≤(x17_1:Int):=of_decide_eq_true as_;have q353:x17_1 < (l1.length:Int):=of_decide_eq_true as_;obtain ⟨ad353,A353_1,c353_1,e353,hx353_0,hx353_1,hl353_1,hi353_1⟩:=at_T79 HR1.out x17_1 p353 q353;cases e353;have hn353_0:ad353.block≠gb352:=Nat.ne_of_lt (Nat.lt_of_lt_of_le (by have:=World.block_lt_of_cell? _ _ hx353_0;first|rwa [add_block] at this|exact this) GW352.out);have hn353_1:ad353.block≠gb352:=Nat.ne_of_lt (Nat.lt_of_lt_of_le (by have:=World.block_lt_of_cell? _ _ hx353_0;first|rwa [add_block] at this|exact this) GW352.out);replace hx353_0:=(cb_ HB.out hx353_0:_);replace hx353_1:=(cb_ HB.out hx353_1:_);have HR353_1:=Aside0.mk hi353_1;have HC353_1:=Aside0.mk hl353_1;clear hi353_1 hl353_1;replace hx353_0:=(cell_far (p:=⟨gb352,0,none⟩) (ab_ hn353_0) (.string ((rd_T79 l0 x17_1).f0))).trans hx353_0;replace hx353_1:=(cell_far (p:=⟨gb352,0,none⟩) (ab_ hn353_0) (.string ((rd_T79 l0 x17_1).f0))).trans hx353_1;replace hx353_0:=(cell_far (p:=⟨gb352,1,none⟩) (ab_ hn353_1) (.slice A351_1 ((rd_T79 l0 x17_1).f1).length c351_1)).trans hx353_0;replace hx353_1:=(cell_far (p:=⟨gb352,1,none⟩) (ab_ hn353_1) (.slice A351_1 ((rd_T79 l0 x17_1).f1).length c351_1)).trans hx353_1;clear hn353_0;clear hn353_1;replace p353:=eq_true p353;replace q353:=eq_true q353)|((with_reducible refine gate_dst (N:=9) rfl ?_);refine box_event ?hg (N:=9) ?hd (cs:=#[.string (⟨#[]⟩:ByteArray),.slice none 0 0]) (t:=79) ?hr ?_;(case hd=>rfl);(case hg=>rfl);(case hr=>first|(go_simp;done)|(go_simp;rfl));intro gb354 hg w13 hbox hb;have n0_:=Aside0.mk (blk_below (g:=gb352) (o:=.cells #[.string ((rd_T79 l0 x17_1).f0),.slice A351_1 ((rd_T79 l0 x17_1).f1).length c351_1] 79 (0,0)) (kbc_ BK352.out) hb);have n1_:=Aside0.mk (below_step (bl_ HB.out) hb);have n2_:=Aside0.mk (hbox);have n3_:=Aside0.mk ((gs_ hg (bl_ HB.out):w.heap.size≤gb354));have n4_:=Aside0.mk ((gs_ hg (bl_ HB.out):w.heap.size≤gb354));have n5_:=Aside0.mk ((by rw [hg];exact Nat.ne_of_lt (blk_lt (g:=gb352) (o:=.cells #[.string ((rd_T79 l0 x17_1).f0),.slice A351_1 ((rd_T79 l0 x17_1).f1).length c351_1] 79 (0,0)) (kbc_ BK352.out)):gb352≠gb354));have n6_:=Aside0.mk ((by rw [hg];exact Nat.ne_of_gt (blk_lt (g:=gb352) (o:=.cells #[.string ((rd_T79 l0 x17_1).f0),.slice A351_1 ((rd_T79 l0 x17_1).f1).length c351_1] 79 (0,0)) (kbc_ BK352.out)):gb354≠gb352));clear BK352;clear HB;have BK352:=n0_;have HB:=n1_;have BK354:=n2_;have GW354:=n3_;have GE354:=n4_;have NB352_354:=n5_;have NB354_352:=n6_;clear n0_ n1_ n2_ n3_ n4_ n5_ n6_;clear hb hbox hg;have hnb14:=NB354_352.out;have hnc14:=NB352_354.out;have hcz15_0:w13.cell? ⟨gb354,0,none⟩=some (.string (⟨#[]⟩:ByteArray)):=zc_ BK354.out 0;have hcz15_1:w13.cell? ⟨gb354,1,none⟩=some (.slice none 0 0):=zc_ BK354.out 1;have hfz15_0:=blk_frozen BK354.out 0;have hfz15_1:=blk_frozen BK354.out 1;have hcz16_0:w13.cell? ⟨gb352,0,none⟩=some (.string ((rd_T79 l0 x17_1).f0)):=zc_ BK352.out 0;have hcz16_1:w13.cell? ⟨gb352,1,none⟩=some (.slice A351_1 ((rd_T79 l0 x17_1).f1).length c351_1):=zc_ BK352.out 1;have hfz16_0:=blk_frozen BK352.out 0;have hfz16_1:=blk_frozen BK352.out 1)|((with_reducible refine (tree_Same_1.calls k1 ((rd_T79 l0 x17_1).f0) _ _ ((rd_T79 l0 x17_1).f1) ((rd_T79 l1 x17_1).f0) _ _ ((rd_T79 l1 x17_1).f1) true _ ?side1 ?side2 ?side3 ?side4 A9.out).mono ?_);(case side1=>exact Kd.C_below HR351_1.out (bl_ HB.out));(case side2=>exact HC351_1.out);(case side3=>exact Kd.C_below HR353_1.out (bl_ HB.out));(case side4=>exact HC353_1.out);rintro e w17 ⟨rfl,hb⟩;have n0_:=Aside0.mk (blk_below (g:=gb352) (o:=.cells #[.string ((rd_T79 l0 x17_1).f0),.slice A351_1 ((rd_T79 l0 x17_1).f1).length c351_1] 79 (0,0)) (kbc_ BK352.out) hb);have n1_:=Aside0.mk (blk_below (g:=gb354) (o:=.cells #[.string ((rd_T79 l1 x17_1).f0),.slice A353_1 ((rd_T79 l1 x17_1).f1).length c353_1] 79 (0,0)) (kbc_ BK354.out) hb);have n2_:=Aside0.mk (below_step (bl_ HB.out) hb);clear BK352;clear BK354;clear HB;have BK352:=n0_;have BK354:=n1_;have HB:=n2_;clear n0_ n1_ n2_;(try clear hb);(try clear hb2);(try clear hk);(try clear hi)))
         go_roundg k1
         case measure=>have:=HK1.out;omega
         case rel=>exact ⟨(wrap64 (x17_1+1)),rf_,H',⟨by have:=HK1.out;omega⟩,⟨bl_ HB.out⟩⟩
        ·replace c10:=Bool.eq_false_iff.mpr c10
         subst c10
         have H1:(some false)=some r:=by rw [if_neg (show ¬ (false=true) by decide)] at H;exact H
         clear H
         have H:=H1
         clear H1
         obtain rfl:=Option.some.inj H
         have p351:0≤(x17_1:Int):=of_decide_eq_true as_
         have q351:x17_1 < (l0.length:Int):=of_decide_eq_true as_
         obtain ⟨ad351,A351_1,c351_1,e351,hx351_0,hx351_1,hl351_1,hi351_1⟩:=at_T79 HR0.out x17_1 p351 q351
         cases e351
         replace hx351_0:=(cb_ HB.out hx351_0:_)
         replace hx351_1:=(cb_ HB.out hx351_1:_)
         have HR351_1:=Aside0.mk hi351_1
         have HC351_1:=Aside0.mk hl351_1
         clear hi351_1 hl351_1
         replace p351:=eq_true p351
         replace q351:=eq_true q351
         go_wp2_with (first|((with_reducible refine gate_dst (N:=8) rfl ?_);refine box_event ?hg (N:=8) ?hd (cs:=#[.string (⟨#[]⟩:ByteArray),.slice none 0 0]) (t:=79) ?hr ?_;(case hd=>rfl);(case hg=>rfl);(case hr=>first|(go_simp;done)|(go_simp;rfl));intro gb352 hg w18 hbox hb;have n0_:=Aside0.mk (below_step (bl_ HB.out) hb);have n1_:=Aside0.mk (hbox);have n2_:=Aside0.mk ((gs_ hg (bl_ HB.out):w.heap.size≤gb352));have n3_:=Aside0.mk ((gs_ hg (bl_ HB.out):w.heap.size≤gb352));clear HB;have HB:=n0_;have BK352:=n1_;have GW352:=n2_;have GE352:=n3_;clear n0_ n1_ n2_ n3_;clear hb hbox hg;have hcz19_0:w18.cell? ⟨gb352,0,none⟩=some (.string (⟨#[]⟩:ByteArray)):=zc_ BK352.out 0;have hcz19_1:w18.cell? ⟨gb352,1,none⟩=some (.slice none 0 0):=zc_ BK352.out 1;have hfz19_0:=blk_frozen BK352.out 0;have hfz19_1:=blk_frozen BK352.out 1;have p353:0≤(x17_1:Int):=of_decide_eq_true as_;have q353:x17_1 < (l1.length:Int):=of_decide_eq_true as_;obtain ⟨ad353,A353_1,c353_1,e353,hx353_0,hx353_1,hl353_1,hi353_1⟩:=at_T79 HR1.out x17_1 p353 q353;cases e353;have hn353_0:ad353.block≠gb352:=Nat.ne_of_lt (Nat.lt_of_lt_of_le (by have:=World.block_lt_of_cell? _ _ hx353_0;first|rwa [add_block] at this|exact this) GW352.out);have hn353_1:ad353.block≠gb352:=Nat.ne_of_lt (Nat.lt_of_lt_of_le (by have:=World.block_lt_of_cell? _ _ hx353_0;first|rwa [add_block] at this|exact this) GW352.out);replace hx353_0:=(cb_ HB.out hx353_0:_);replace hx353_1:=(cb_ HB.out hx353_1:_);have HR353_1:=Aside0.mk hi353_1;have HC353_1:=Aside0.mk hl353_1;clear hi353_1 hl353_1;replace hx353_0:=(cell_far (p:=⟨gb352,0,none⟩) (ab_ hn353_0) (.string ((rd_T79 l0 x17_1).f0))).trans hx353_0;replace hx353_1:=(cell_far (p:=⟨gb352,0,none⟩) (ab_ hn353_0) (.string ((rd_T79 l0 x17_1).f0))).trans hx353_1;replace hx353_0:=(cell_far (p:=⟨gb352,1,none⟩) (ab_ hn353_1) (.slice A351_1 ((rd_T79 l0 x17_1).f1).length c351_1)).trans hx353_0;replace hx353_1:=(cell_far (p:=⟨gb352,1,none⟩) (ab_ hn353_1) (.slice A351_1 ((rd_T79 l0 x17_1).f1).length c351_1)).trans hx353_1;clear hn353_0;clear hn353_1;replace p353:=eq_true p353;replace q353:=eq_true q353)|((with_reducible refine gate_dst (N:=9) rfl ?_);refine box_event ?hg (N:=9) ?hd (cs:=#[.string (⟨#[]⟩:ByteArray),.slice none 0 0]) (t:=79) ?hr ?_;(case hd=>rfl);(case hg=>rfl);(case hr=>first|(go_simp;done)|(go_simp;rfl));intro gb354 hg w20 hbox hb;have n0_:=Aside0.mk (blk_below (g:=gb352) (o:=.cells #[.string ((rd_T79 l0 x17_1).f0),.slice A351_1 ((rd_T79 l0 x17_1).f1).length c351_1] 79 (0,0)) (kbc_ BK352.out) hb);have n1_:=Aside0.mk (below_step (bl_ HB.out) hb);have n2_:=Aside0.mk (hbox);have n3_:=Aside0.mk ((gs_ hg (bl_ HB.out):w.heap.size≤gb354));have n4_:=Aside0.mk ((gs_ hg (bl_ HB.out):w.heap.size≤gb354));have n5_:=Aside0.mk ((by rw [hg];exact Nat.ne_of_lt (blk_lt (g:=gb352) (o:=.cells #[.string ((rd_T79 l0 x17_1).f0),.slice A351_1 ((rd_T79 l0 x17_1).f1).length c351_1] 79 (0,0)) (kbc_ BK352.out)):gb352≠gb354));have n6_:=Aside0.mk ((by rw [hg];exact Nat.ne_of_gt (blk_lt (g:=gb352) (o:=.cells #[.string ((rd_T79 l0 x17_1).f0),.slice A351_1 ((rd_T79 l0 x17_1).f1).length c351_1] 79 (0,0)) (kbc_ BK352.out)):gb354≠gb352));clear BK352;clear HB;have BK352:=n0_;have HB:=n1_;have BK354:=n2_;have GW354:=n3_;have GE354:=n4_;have NB352_354:=n5_;have NB354_352:=n6_;clear n0_ n1_ n2_ n3_ n4_ n5_ n6_;clear hb hbox hg;have hnb21:=NB354_352.out;have hnc21:=NB352_354.out;have hcz22_0:w20.cell? ⟨gb354,0,none⟩=some (.string (⟨#[]⟩:ByteArray)):=zc_ BK354.out 0;have hcz22_1:w20.cell? ⟨gb354,1,none⟩=some (.slice none 0 0):=zc_ BK354.out 1;have hfz22_0:=blk_frozen BK354.out 0;have hfz22_1:=blk_frozen BK354.out 1;have hcz23_0:w20.cell? ⟨gb352,0,none⟩=some (.string ((rd_T79 l0 x17_1).f0)):=zc_ BK352.out 0;have hcz23_1:w20.cell? ⟨gb352,1,none⟩=some (.slice A351_1 ((rd_T79 l0 x17_1).f1).length c351_1):=zc_ BK352.out 1;have hfz23_0:=blk_frozen BK352.out 0;have hfz23_1:=blk_frozen BK352.out 1)|((with_reducible refine (tree_Same_1.calls k1 ((rd_T79 l0 x17_1).f0) _ _ ((rd_T79 l0 x17_1).f1) ((rd_T79 l1 x17_1).f0) _ _ ((rd_T79 l1 x17_1).f1) false _ ?side1 ?side2 ?side3 ?side4 A9.out).mono ?_);(case side1=>exact Kd.C_below HR351_1.out (bl_ HB.out));(case side2=>exact HC351_1.out);(case side3=>exact Kd.C_below HR353_1.out (bl_ HB.out));(case side4=>exact HC353_1.out);rintro e w24 ⟨rfl,hb⟩;have n0_:=Aside0.mk (blk_below (g:=gb352) (o:=.cells #[.string ((rd_T79 l0 x17_1).f0),.slice A351_1 ((rd_T79 l0 x17_1).f1).length c351_1] 79 (0,0)) (kbc_ BK352.out) hb);have n1_:=Aside0.mk (blk_below (g:=gb354) (o:=.cells #[.string ((rd_T79 l1 x17_1).f0),.slice A353_1 ((rd_T79 l1 x17_1).f1).length c353_1] 79 (0,0)) (kbc_ BK354.out) hb);have n2_:=Aside0.mk (below_step (bl_ HB.out) hb);clear BK352;clear BK354;clear HB;have BK352:=n0_;have BK354:=n1_;have HB:=n2_;clear n0_ n1_ n2_;(try clear hb);(try clear hb2);(try clear hk);(try clear hi)))
         go_ret
         exact ⟨rt_,bl_ HB.out⟩
       ·rw [if_neg c8] at H
        exact absurd H (by simp)
      ·rw [if_neg c7] at H
       exact absurd H (by simp)
     ·rw [if_neg c6] at H
      exact absurd H (by simp)
    ·rw [if_neg c5] at H
     have c5b0:decide (x17_1 < (l0.length:Int))=false:=decide_eq_false c5
     clear c5
     obtain rfl:=Option.some.inj H
     go_wp2
     go_ret
     exact ⟨rt_,bl_ HB.out⟩
 ·rw [if_neg c4] at H
  have c4b0:((l0.length:Int) == (l1.length:Int))=false:=beq_eq_false_iff_ne.mpr c4
  have c4b1:((l0.length:Int) != (l1.length:Int))=true:=bne_iff_ne.mpr c4
  have c4b2:(l0.length == l1.length)=false:=by first|simpa using c4|(simp at c4 ⊢;omega)
  obtain rfl:=Option.some.inj H
  go_enter Tryd.func49,Tryd.ntmps49
  go_wp2
  go_ret
  exact ⟨rt_,bl_ HB.out⟩
end Go.Proofs.YtnnbbeloifhofaaDoor.P
end
section
namespace Go.Proofs.YtnnbbeloifhofaaDoor.P
open Go.RowKit Go.Proofs.YtnnbbeloifhofaaDoorW.PrintWords Go.Proofs.YtnnbbeloifhofaaDoorW.PrintLast Go.Proofs.YtnnbbeloifhofaaDoorW.PrintMore
attribute [local go_sem] max2_int min2_int max_two min_two max_three min_three max_four min_four
set_option linter.unusedVariables false
set_option linter.unusedSimpArgs false
theorem eqA80 (d:Nat) (w:World) (x0 y0:ByteArray) (x1 y1:ByteArray) (x2 y2:Int) :
    (Op.equalIn (d+2) 80 (.agg #[.string x0,.string x1,.int .i64 x2]) (.agg #[.string y0,.string y1,.int .i64 y2])).run Tryd.prog w=.ok (x0.toList == y0.toList && (x1.toList == y1.toList && (x2 == y2))) w:=by
  refine eqA_of Tryd.underlying80 (by kernel_rfl) ?_
  refine eqf_cons (by rfl) (by go_simp;rfl) (by go_simp;rfl) (by go_simp) ?_
  refine eqf_cons (by rfl) (by go_simp;rfl) (by go_simp;rfl) (by go_simp) ?_
  exact eqf_last (by rfl) (by go_simp;rfl) (by go_simp;rfl) (by go_simp)
end Go.Proofs.YtnnbbeloifhofaaDoor.P
end
section
namespace Go.Proofs.YtnnbbeloifhofaaDoor.P
open Go.RowKit Go.Proofs.YtnnbbeloifhofaaDoorW.PrintWords Go.Proofs.YtnnbbeloifhofaaDoorW.PrintLast Go.Proofs.YtnnbbeloifhofaaDoorW.PrintMore
attribute [local go_sem] max2_int min2_int max_two min_two max_three min_three max_four min_four
set_option linter.unusedVariables false
set_option linter.unusedSimpArgs false
attribute [local go_sem high] eqA80
def tree_Var.l0:Nat→List (S80)→List (S80)→Int→Int→Option (Bool)
 | 0,_,_,_,_=>none
 | k+1,x0,x1,x12,x13=>if x13 < x12 then (if 0≤x13 then (if x13 < (x0.length:Int) then (if x13 < (x1.length:Int) then (if (!((((rd_T80 x0 x13).f0).toList) == (((rd_T80 x1 x13).f0).toList)) || (!((((rd_T80 x0 x13).f1).toList) == (((rd_T80 x1 x13).f1).toList)) || (!(((rd_T80 x0 x13).f2) == ((rd_T80 x1 x13).f2)))))=true then (some false) else (tree_Var.l0 k x0 x1 x12 (wrap64 (x13+1)))) else (none)) else (none)) else (none)) else (some true)
def tree_Var.f (k:Nat) (l0:List (S80)) (l1:List (S80)):Option (Bool):=if (l0.length:Int)=(l1.length:Int) then (tree_Var.l0 k l0 l1 (l0.length:Int) 0) else (some false)
set_option maxHeartbeats 8000000 in
set_option maxRecDepth 100000 in
theorem tree_Var.calls (k:Nat) (A0:Option Addr) (c0:Nat) (l0:List (S80)) (A1:Option Addr) (c1:Nat) (l1:List (S80)) (r:Bool) (w:World) (hr0:Kd.C k80 w A0 l0.length l0) (hc0:l0.length≤c0) (hr1:Kd.C k80 w A1 l1.length l1) (hc1:l1.length≤c1) (h:tree_Var.f k l0 l1=some r) :
  Calls Tryd.prog 50 #[.slice A0 l0.length c0,.slice A1 l1.length c1] w fun e w'=>e=.returned (.bool r)∧Drawn0 w w':=by
 have hu80:=Tryd.underlying80
 have HR0:=Aside0.mk hr0
 have HC0:=Aside0.mk hc0
 clear hr0 hc0
 have HR1:=Aside0.mk hr1
 have HC1:=Aside0.mk hc1
 clear hr1 hc1
 have H:(if (l0.length:Int)=(l1.length:Int) then (tree_Var.l0 k l0 l1 (l0.length:Int) 0) else (some false))=some r:=h
 clear h
 by_cases c3:(l0.length:Int)=(l1.length:Int)
 ·rw [if_pos c3] at H
  have c3b0:((l0.length:Int) == (l1.length:Int))=true:=beq_iff_eq.mpr c3
  have c3b1:((l0.length:Int) != (l1.length:Int))=false:=bne_eq_false_iff_eq.mpr c3
  have c3b2:(l0.length == l1.length)=true:=by first|simpa using c3|(simp at c3 ⊢;omega)
  clear c3
  have H':=Aside0.mk H
  clear H
  go_enter Tryd.func50,Tryd.ntmps50
  go_wp2
  repeat (go_quiet (fail);try go_wp2)
  (try simp only [Act.put,List.setIfInBounds_toArray,List.set_cons_succ,List.set_cons_zero])
  go_loopg [13] k (fun kq v13 w'=>∃ (x13_1:Int),v13=.int .i64 x13_1∧Aside0 (tree_Var.l0 kq l0 l1 (l0.length:Int) x13_1=some r)∧Aside0 (kq≤k)∧Drawn0 w w')
  case atStart=>exact ⟨(0),rf_,H',⟨Nat.le_refl _⟩,by repeat (first|exact Drawn0.refl _|apply Drawn0.step)⟩
  case round=>
   clear H'
   (try clear c1);(try clear p2);(try clear c3);(try clear c3b0);(try clear c3b1);(try clear c3b2)
   obtain ⟨x13_1,rfl,HA,HK1,⟨m1,rfl⟩⟩:=hrel
   cases gk with
   | zero=>exact absurd HA.out (by simp [tree_Var.l0])
   | succ k1=>
    have H:=HA.out
    clear HA
    simp only [tree_Var.l0] at H
    by_cases c4:x13_1 < (l0.length:Int)
    ·rw [if_pos c4] at H
     have c4b0:decide (x13_1 < (l0.length:Int))=true:=decide_eq_true c4
     clear c4
     by_cases c5:0≤x13_1
     ·rw [if_pos c5] at H
      have c5b0:decide (0≤x13_1)=true:=decide_eq_true c5
      clear c5
      by_cases c6:x13_1 < (l0.length:Int)
      ·rw [if_pos c6] at H
       have c6b0:decide (x13_1 < (l0.length:Int))=true:=decide_eq_true c6
       clear c6
       by_cases c7:x13_1 < (l1.length:Int)
       ·rw [if_pos c7] at H
        have c7b0:decide (x13_1 < (l1.length:Int))=true:=decide_eq_true c7
        clear c7
        by_cases c8:(!((((rd_T80 l0 x13_1).f0).toList) == (((rd_T80 l1 x13_1).f0).toList)) || (!((((rd_T80 l0 x13_1).f1).toList) == (((rd_T80 l1 x13_1).f1).toList)) || (!(((rd_T80 l0 x13_1).f2) == ((rd_T80 l1 x13_1).f2)))))=true
        ·rw [if_pos c8] at H
         have c8b0:(!((((rd_T80 l0 x13_1).f0).toList) == (((rd_T80 l1 x13_1).f0).toList)) || (!((((rd_T80 l0 x13_1).f1).toList) == (((rd_T80 l1 x13_1).f1).toList)) || (!(((rd_T80 l0 x13_1).f2) == ((rd_T80 l1 x13_1).f2)))))=true:=c8
         clear c8
         obtain rfl:=Option.some.inj H
         have p356:0≤(x13_1:Int):=of_decide_eq_true as_
         have q356:x13_1 < (l0.length:Int):=of_decide_eq_true as_
         obtain ⟨ad356,e356,hx356_0,hx356_1,hx356_2⟩:=at_T80 HR0.out x13_1 p356 q356
         cases e356
         replace p356:=eq_true p356
         replace q356:=eq_true q356
         have p357:0≤(x13_1:Int):=of_decide_eq_true as_
         have q357:x13_1 < (l1.length:Int):=of_decide_eq_true as_
         obtain ⟨ad357,e357,hx357_0,hx357_1,hx357_2⟩:=at_T80 HR1.out x13_1 p357 q357
         cases e357
         replace p357:=eq_true p357
         replace q357:=eq_true q357
         go_wp2
         repeat (go_quiet (fail);try go_wp2)
         go_ret
         exact ⟨by first|rfl|(simp;done)|(simp [*];done),by repeat (first|exact Drawn0.refl _|apply Drawn0.step)⟩
        ·rw [if_neg c8] at H
         have c8b0:(!((((rd_T80 l0 x13_1).f0).toList) == (((rd_T80 l1 x13_1).f0).toList)) || (!((((rd_T80 l0 x13_1).f1).toList) == (((rd_T80 l1 x13_1).f1).toList)) || (!(((rd_T80 l0 x13_1).f2) == ((rd_T80 l1 x13_1).f2)))))=false:=by simpa using c8
         clear c8
         have H':=Aside0.mk H
         clear H
         have p356:0≤(x13_1:Int):=of_decide_eq_true as_
         have q356:x13_1 < (l0.length:Int):=of_decide_eq_true as_
         obtain ⟨ad356,e356,hx356_0,hx356_1,hx356_2⟩:=at_T80 HR0.out x13_1 p356 q356
         cases e356
         replace p356:=eq_true p356
         replace q356:=eq_true q356
         have p357:0≤(x13_1:Int):=of_decide_eq_true as_
         have q357:x13_1 < (l1.length:Int):=of_decide_eq_true as_
         obtain ⟨ad357,e357,hx357_0,hx357_1,hx357_2⟩:=at_T80 HR1.out x13_1 p357 q357
         cases e357
         replace p357:=eq_true p357
         replace q357:=eq_true q357
         go_wp2
         repeat (go_quiet (fail);try go_wp2)
         go_roundg k1
         case measure=>have:=HK1.out;omega
         case rel=>exact ⟨(wrap64 (x13_1+1)),rf_,H',⟨by have:=HK1.out;omega⟩,by repeat (first|exact Drawn0.refl _|apply Drawn0.step)⟩
       ·rw [if_neg c7] at H
        exact absurd H (by simp)
      ·rw [if_neg c6] at H
       exact absurd H (by simp)
     ·rw [if_neg c5] at H
      exact absurd H (by simp)
    ·rw [if_neg c4] at H
     have c4b0:decide (x13_1 < (l0.length:Int))=false:=decide_eq_false c4
     clear c4
     obtain rfl:=Option.some.inj H
     go_wp2
     repeat (go_quiet (fail);try go_wp2)
     go_ret
     exact ⟨by first|rfl|(simp;done)|(simp [*];done),by repeat (first|exact Drawn0.refl _|apply Drawn0.step)⟩
 ·rw [if_neg c3] at H
  have c3b0:((l0.length:Int) == (l1.length:Int))=false:=beq_eq_false_iff_ne.mpr c3
  have c3b1:((l0.length:Int) != (l1.length:Int))=true:=bne_iff_ne.mpr c3
  have c3b2:(l0.length == l1.length)=false:=by first|simpa using c3|(simp at c3 ⊢;omega)
  obtain rfl:=Option.some.inj H
  go_enter Tryd.func50,Tryd.ntmps50
  go_wp2
  repeat (go_quiet (fail);try go_wp2)
  go_ret
  exact ⟨by first|rfl|(simp;done)|(simp [*];done),by repeat (first|exact Drawn0.refl _|apply Drawn0.step)⟩
end Go.Proofs.YtnnbbeloifhofaaDoor.P
end
section
namespace Go.Proofs.YtnnbbeloifhofaaDoor.P
open Go.RowKit Go.Proofs.YtnnbbeloifhofaaDoorW.PrintWords Go.Proofs.YtnnbbeloifhofaaDoorW.PrintLast Go.Proofs.YtnnbbeloifhofaaDoorW.PrintMore
attribute [local go_sem] max2_int min2_int max_two min_two max_three min_three max_four min_four
set_option linter.unusedVariables false
set_option linter.unusedSimpArgs false
mutual
def tree_SameExpr.f:Nat→ByteArray→ByteArray→Int→List (S33)→Int→ByteArray→ByteArray→Int→List (S33)→Int→Option (Bool)
 | 0,_,_,_,_,_,_,_,_,_,_=>none
 | k+1,a0_0,a0_1,a0_2,l0_3,a0_4,a1_0,a1_1,a1_2,l1_3,a1_4=>if a0_0.toList=a1_0.toList then (if a0_1.toList=a1_1.toList then (if a0_2=a1_2 then ((tree_Expr_at_tree_SameExpr.f k l0_3 l1_3).bind fun t340=>(some t340)) else (some false)) else (some false)) else (some false)
def tree_Expr_at_tree_SameExpr.l0:Nat→List (S33)→List (S33)→Int→Int→Option (Bool)
 | 0,_,_,_,_=>none
 | k+1,x1,x15,x16,x17=>if x17 < x16 then (if 0≤x17 then (if x17 < (x15.length:Int) then (if x17 < (x1.length:Int) then ((tree_SameExpr.f k ((rd_T33 x15 x17).f0) ((rd_T33 x15 x17).f1) ((rd_T33 x15 x17).f2) ((rd_T33 x15 x17).f3) ((rd_T33 x15 x17).f4) ((rd_T33 x1 x17).f0) ((rd_T33 x1 x17).f1) ((rd_T33 x1 x17).f2) ((rd_T33 x1 x17).f3) ((rd_T33 x1 x17).f4)).bind fun t345=>(if t345=true then (tree_Expr_at_tree_SameExpr.l0 k x1 x15 x16 (wrap64 (x17+1))) else (some false))) else (none)) else (none)) else (none)) else (some true)
def tree_Expr_at_tree_SameExpr.f:Nat→List (S33)→List (S33)→Option (Bool)
 | 0,_,_=>none
 | k+1,l0,l1=>if (l0.length:Int)=(l1.length:Int) then (tree_Expr_at_tree_SameExpr.l0 k l1 l0 (l0.length:Int) 0) else (some false)
end
abbrev tree_SameExpr.Stmt (k:Nat):Prop:=∀ (a0_0:ByteArray) (a0_1:ByteArray) (a0_2:Int) (A0_3:Option Addr) (c0_3:Nat) (l0_3:List (S33)) (a0_4:Int) (a1_0:ByteArray) (a1_1:ByteArray) (a1_2:Int) (A1_3:Option Addr) (c1_3:Nat) (l1_3:List (S33)) (a1_4:Int) (r:Bool) (w:World) (hr0_3:Kd.C k33 w A0_3 l0_3.length l0_3) (hc0_3:l0_3.length≤c0_3) (hr1_3:Kd.C k33 w A1_3 l1_3.length l1_3) (hc1_3:l1_3.length≤c1_3) (h:tree_SameExpr.f k a0_0 a0_1 a0_2 l0_3 a0_4 a1_0 a1_1 a1_2 l1_3 a1_4=some r),
  Calls Tryd.prog 26 #[.agg #[.string a0_0,.string a0_1,.int .i64 a0_2,.slice A0_3 l0_3.length c0_3,.int .i64 a0_4],.agg #[.string a1_0,.string a1_1,.int .i64 a1_2,.slice A1_3 l1_3.length c1_3,.int .i64 a1_4]] w fun e w'=>e=.returned (.bool r)∧Below w.heap.size w w'
abbrev tree_Expr_at_tree_SameExpr.Stmt (k:Nat):Prop:=∀ (A0:Option Addr) (c0:Nat) (l0:List (S33)) (A1:Option Addr) (c1:Nat) (l1:List (S33))  (r:Bool) (w:World) (hr0:Kd.C k33 w A0 l0.length l0) (hc0:l0.length≤c0) (hr1:Kd.C k33 w A1 l1.length l1) (hc1:l1.length≤c1) (h:tree_Expr_at_tree_SameExpr.f k l0 l1=some r),
  Calls Tryd.prog 43 #[.slice A0 l0.length c0,.slice A1 l1.length c1,.func (.func 26) #[] #[]] w fun e w'=>e=.returned (.bool r)∧Below w.heap.size w w'
end Go.Proofs.YtnnbbeloifhofaaDoor.P
end
section
namespace Go.Proofs.YtnnbbeloifhofaaDoor.P
open Go.RowKit Go.Proofs.YtnnbbeloifhofaaDoorW.PrintWords Go.Proofs.YtnnbbeloifhofaaDoorW.PrintLast Go.Proofs.YtnnbbeloifhofaaDoorW.PrintMore
attribute [local go_sem] max2_int min2_int max_two min_two max_three min_three max_four min_four
set_option linter.unusedVariables false
set_option linter.unusedSimpArgs false
mutual
def tree_Stmt_at_tree_sameStmt.l0:Nat→List (S76)→List (S76)→Int→Int→Option (Bool)
 | 0,_,_,_,_=>none
 | k+1,x1,x15,x16,x17=>if x17 < x16 then (if 0≤x17 then (if x17 < (x15.length:Int) then (if x17 < (x1.length:Int) then ((tree_sameStmt.f k ((rd_T76 x15 x17).f0) ((rd_T76 x15 x17).f1) ((rd_T76 x15 x17).f2) ((rd_T76 x15 x17).f3) ((rd_T76 x15 x17).f4) ((rd_T76 x15 x17).f5) ((rd_T76 x1 x17).f0) ((rd_T76 x1 x17).f1) ((rd_T76 x1 x17).f2) ((rd_T76 x1 x17).f3) ((rd_T76 x1 x17).f4) ((rd_T76 x1 x17).f5)).bind fun t362=>(if t362=true then (tree_Stmt_at_tree_sameStmt.l0 k x1 x15 x16 (wrap64 (x17+1))) else (some false))) else (none)) else (none)) else (none)) else (some true)
def tree_Stmt_at_tree_sameStmt.f:Nat→List (S76)→List (S76)→Option (Bool)
 | 0,_,_=>none
 | k+1,l0,l1=>if (l0.length:Int)=(l1.length:Int) then (tree_Stmt_at_tree_sameStmt.l0 k l1 l0 (l0.length:Int) 0) else (some false)
def tree_sameStmt.f:Nat→ByteArray→ByteArray→List (S33)→List (S76)→List (S76)→Int→ByteArray→ByteArray→List (S33)→List (S76)→List (S76)→Int→Option (Bool)
 | 0,_,_,_,_,_,_,_,_,_,_,_,_=>none
 | k+1,a0_0,a0_1,l0_2,l0_3,l0_4,a0_5,a1_0,a1_1,l1_2,l1_3,l1_4,a1_5=>if a0_0.toList=a1_0.toList then (if a0_1.toList=a1_1.toList then ((tree_Expr_at_tree_SameExpr.f k l0_2 l1_2).bind fun t365=>(if t365=true then ((tree_Stmt_at_tree_sameStmt.f k l0_3 l1_3).bind fun t366=>(if t366=true then ((tree_Stmt_at_tree_sameStmt.f k l0_4 l1_4).bind fun t367=>(some t367)) else (some false))) else (some false))) else (some false)) else (some false)
end
abbrev tree_Stmt_at_tree_sameStmt.Stmt (k:Nat):Prop:=∀ (A0:Option Addr) (c0:Nat) (l0:List (S76)) (A1:Option Addr) (c1:Nat) (l1:List (S76))  (r:Bool) (w:World) (hr0:Kd.C k76 w A0 l0.length l0) (hc0:l0.length≤c0) (hr1:Kd.C k76 w A1 l1.length l1) (hc1:l1.length≤c1) (h:tree_Stmt_at_tree_sameStmt.f k l0 l1=some r),
  Calls Tryd.prog 47 #[.slice A0 l0.length c0,.slice A1 l1.length c1,.func (.func 48) #[] #[]] w fun e w'=>e=.returned (.bool r)∧Below w.heap.size w w'
abbrev tree_sameStmt.Stmt (k:Nat):Prop:=∀ (a0_0:ByteArray) (a0_1:ByteArray) (A0_2:Option Addr) (c0_2:Nat) (l0_2:List (S33)) (A0_3:Option Addr) (c0_3:Nat) (l0_3:List (S76)) (A0_4:Option Addr) (c0_4:Nat) (l0_4:List (S76)) (a0_5:Int) (a1_0:ByteArray) (a1_1:ByteArray) (A1_2:Option Addr) (c1_2:Nat) (l1_2:List (S33)) (A1_3:Option Addr) (c1_3:Nat) (l1_3:List (S76)) (A1_4:Option Addr) (c1_4:Nat) (l1_4:List (S76)) (a1_5:Int) (r:Bool) (w:World) (hr0_2:Kd.C k33 w A0_2 l0_2.length l0_2) (hc0_2:l0_2.length≤c0_2) (hr0_3:Kd.C k76 w A0_3 l0_3.length l0_3) (hc0_3:l0_3.length≤c0_3) (hr0_4:Kd.C k76 w A0_4 l0_4.length l0_4) (hc0_4:l0_4.length≤c0_4) (hr1_2:Kd.C k33 w A1_2 l1_2.length l1_2) (hc1_2:l1_2.length≤c1_2) (hr1_3:Kd.C k76 w A1_3 l1_3.length l1_3) (hc1_3:l1_3.length≤c1_3) (hr1_4:Kd.C k76 w A1_4 l1_4.length l1_4) (hc1_4:l1_4.length≤c1_4) (h:tree_sameStmt.f k a0_0 a0_1 l0_2 l0_3 l0_4 a0_5 a1_0 a1_1 l1_2 l1_3 l1_4 a1_5=some r),
  Calls Tryd.prog 48 #[.agg #[.string a0_0,.string a0_1,.slice A0_2 l0_2.length c0_2,.slice A0_3 l0_3.length c0_3,.slice A0_4 l0_4.length c0_4,.int .i64 a0_5],.agg #[.string a1_0,.string a1_1,.slice A1_2 l1_2.length c1_2,.slice A1_3 l1_3.length c1_3,.slice A1_4 l1_4.length c1_4,.int .i64 a1_5]] w fun e w'=>e=.returned (.bool r)∧Below w.heap.size w w'
end Go.Proofs.YtnnbbeloifhofaaDoor.P
end
section
namespace Go.Proofs.YtnnbbeloifhofaaDoor.P
open Go.RowKit Go.Proofs.YtnnbbeloifhofaaDoorW.PrintWords Go.Proofs.YtnnbbeloifhofaaDoorW.PrintLast Go.Proofs.YtnnbbeloifhofaaDoorW.PrintMore
attribute [local go_sem] max2_int min2_int max_two min_two max_three min_three max_four min_four
set_option linter.unusedVariables false
set_option linter.unusedSimpArgs false
set_option maxHeartbeats 8000000 in
set_option maxRecDepth 100000 in
theorem tree_Stmt_at_tree_sameStmt.step (k:Nat) (ih47 : ∀ m_,m_ < k→tree_Stmt_at_tree_sameStmt.Stmt m_) (ih48 : ∀ m_,m_ < k→tree_sameStmt.Stmt m_):tree_Stmt_at_tree_sameStmt.Stmt k:=by
 intro A0 c0 l0 A1 c1 l1 r w hr0 hc0 hr1 hc1 h
 cases k with
 | zero=>exact absurd h (by simp [tree_Stmt_at_tree_sameStmt.f])
 | succ k=>
 simp only [tree_Stmt_at_tree_sameStmt.f] at h
 have hu76:=Tryd.underlying76
 have HR0:=Aside0.mk hr0
 have HC0:=Aside0.mk hc0
 clear hr0 hc0
 have HR1:=Aside0.mk hr1
 have HC1:=Aside0.mk hc1
 clear hr1 hc1
 have HB:=Aside0.mk (Below.refl w.heap.size w)
 have H:(if (l0.length:Int)=(l1.length:Int) then (tree_Stmt_at_tree_sameStmt.l0 k l1 l0 (l0.length:Int) 0) else (some false))=some r:=h
 clear h
 by_cases c4:(l0.length:Int)=(l1.length:Int)
 ·rw [if_pos c4] at H
  have c4b0:((l0.length:Int) == (l1.length:Int))=true:=beq_iff_eq.mpr c4
  have c4b1:((l0.length:Int) != (l1.length:Int))=false:=bne_eq_false_iff_eq.mpr c4
  have c4b2:(l0.length == l1.length)=true:=by first|simpa using c4|(simp at c4 ⊢;omega)
  clear c4
  have H':=Aside0.mk H
  clear H
  go_enter Tryd.func47,Tryd.ntmps47
  go_wp2
  (try simp only [Act.put,List.setIfInBounds_toArray,List.set_cons_succ,List.set_cons_zero])
  go_loopg [17] k (fun kq v17 w'=>∃ (x17_1:Int),v17=.int .i64 x17_1∧Aside0 (tree_Stmt_at_tree_sameStmt.l0 kq l1 l0 (l0.length:Int) x17_1=some r)∧Aside0 (kq≤k)∧Aside0 (Below w.heap.size w w'))
  case atStart=>exact ⟨(0),rf_,H',⟨Nat.le_refl _⟩,⟨bl_ HB.out⟩⟩
  case round=>
   clear H'
   (try clear c1);(try clear p2);(try clear c4);(try clear c4b0);(try clear c4b1);(try clear c4b2)
   obtain ⟨x17_1,rfl,HA,HK1,HB⟩:=hrel
   cases gk with
   | zero=>exact absurd HA.out (by simp [tree_Stmt_at_tree_sameStmt.l0])
   | succ k1=>
    have H:=HA.out
    clear HA
    simp only [tree_Stmt_at_tree_sameStmt.l0] at H
    by_cases c5:x17_1 < (l0.length:Int)
    ·rw [if_pos c5] at H
     have c5b0:decide (x17_1 < (l0.length:Int))=true:=decide_eq_true c5
     clear c5
     by_cases c6:0≤x17_1
     ·rw [if_pos c6] at H
      have c6b0:decide (0≤x17_1)=true:=decide_eq_true c6
      clear c6
      by_cases c7:x17_1 < (l0.length:Int)
      ·rw [if_pos c7] at H
       have c7b0:decide (x17_1 < (l0.length:Int))=true:=decide_eq_true c7
       clear c7
       by_cases c8:x17_1 < (l1.length:Int)
       ·rw [if_pos c8] at H
        have c8b0:decide (x17_1 < (l1.length:Int))=true:=decide_eq_true c8
        clear c8
        replace H:=Option.bind_eq_some_iff.mp H
        obtain ⟨t362,A90,H⟩:=H
        replace H:(if t362=true then (tree_Stmt_at_tree_sameStmt.l0 k1 l1 l0 (l0.length:Int) (wrap64 (x17_1+1))) else (some false))=some r:=H
        have A9:=Aside0.mk A90
        clear A90
        by_cases c10:t362=true
        ·subst c10
         have H1:(tree_Stmt_at_tree_sameStmt.l0 k1 l1 l0 (l0.length:Int) (wrap64 (x17_1+1)))=some r:=by rw [if_pos rfl] at H;exact H
         clear H
         have H:=H1
         clear H1
         have H':=Aside0.mk H
         clear H
         have p358:0≤(x17_1:Int):=of_decide_eq_true as_
         have q358:x17_1 < (l0.length:Int):=of_decide_eq_true as_
         obtain ⟨ad358,A358_2,c358_2,A358_3,c358_3,A358_4,c358_4,e358,hx358_0,hx358_1,hx358_2,hx358_3,hx358_4,hx358_5,hl358_2,hi358_2,hl358_3,hi358_3,hl358_4,hi358_4⟩:=at_T76 HR0.out x17_1 p358 q358
         cases e358
         replace hx358_0:=(cb_ HB.out hx358_0:_)
         replace hx358_1:=(cb_ HB.out hx358_1:_)
         replace hx358_2:=(cb_ HB.out hx358_2:_)
         replace hx358_3:=(cb_ HB.out hx358_3:_)
         replace hx358_4:=(cb_ HB.out hx358_4:_)
         replace hx358_5:=(cb_ HB.out hx358_5:_)
         have HR358_2:=Aside0.mk hi358_2
         have HC358_2:=Aside0.mk hl358_2
         clear hi358_2 hl358_2
         have HR358_3:=Aside0.mk hi358_3
         have HC358_3:=Aside0.mk hl358_3
         clear hi358_3 hl358_3
         have HR358_4:=Aside0.mk hi358_4
         have HC358_4:=Aside0.mk hl358_4
         clear hi358_4 hl358_4
         replace p358:=eq_true p358
         replace q358:=eq_true q358
         go_wp2_with (first|((with_reducible refine gate_dst (N:=8) rfl ?_);refine box_event ?hg (N:=8) ?hd (cs:=#[.string (⟨#[]⟩:ByteArray),.string (⟨#[]⟩:ByteArray),.slice none 0 0,.slice none 0 0,.slice none 0 0,.int .i64 0]) (t:=76) ?hr ?_;(case hd=>rfl);(case hg=>rfl);(case hr=>first|(go_simp;done)|(go_simp;rfl));intro gb359 hg w11 hbox hb;have n0_:=Aside0.mk (below_step (bl_ HB.out) hb);have n1_:=Aside0.mk (hbox);have n2_:=Aside0.mk ((gs_ hg (bl_ HB.out):w.heap.size≤gb359));have n3_:=Aside0.mk ((gs_ hg (bl_ HB.out):w.heap.size≤gb359));clear HB;have HB:=n0_;have BK359:=n1_;have GW359:=n2_;have GE359:=n3_;clear n0_ n1_ n2_ n3_;clear hb hbox hg;have hcz12_0:w11.cell? ⟨gb359,0,none⟩=some (.string (⟨#[]⟩:ByteArray)):=zc_ BK359.out 0;have hcz12_1:w11.cell? ⟨gb359,1,none⟩=some (.string (⟨#[]⟩:ByteArray)):=zc_ BK359.out 1;have hcz12_2:w11.cell? ⟨gb359,2,none⟩=some (.slice none 0 0):=zc_ BK359.out 2;have hcz12_3:w11.cell? ⟨gb359,3,none⟩=some (.slice none 0 0):=zc_ BK359.out 3;have hcz12_4:w11.cell? ⟨gb359,4,none⟩=some (.slice none 0 0):=zc_ BK359.out 4;have hcz12_5:w11.cell? ⟨gb359,5,none⟩=some (.int .i64 0):=zc_ BK359.out 5;have hfz12_0:=blk_frozen BK359.out 0;have hfz12_1:=blk_frozen BK359.out 1;have hfz12_2:=blk_frozen BK359.out 2;have hfz12_3:=blk_frozen BK359.out 3;have hfz12_4:=blk_frozen BK359.out 4;have hfz12_5:=blk_frozen BK359.out 5;have p360:0≤(x17_1:Int):=of_decide_eq_true as_;have q360:x17_1 < (l1.length:Int):=of_decide_eq_true as_;obtain ⟨ad360,A360_2,c360_2,A360_3,c360_3,A360_4,c360_4,e360,hx360_0,hx360_1,hx360_2,hx360_3,hx360_4,hx360_5,hl360_2,hi360_2,hl360_3,hi360_3,hl360_4,hi360_4⟩:=at_T76 HR1.out x17_1 p360 q360;cases e360;have hn360_0:ad360.block≠gb359:=Nat.ne_of_lt (Nat.lt_of_lt_of_le (by have:=World.block_lt_of_cell? _ _ hx360_0;first|rwa [add_block] at this|exact this) GW359.out);have hn360_1:ad360.block≠gb359:=Nat.ne_of_lt (Nat.lt_of_lt_of_le (by have:=World.block_lt_of_cell? _ _ hx360_0;first|rwa [add_block] at this|exact this) GW359.out);have hn360_2:ad360.block≠gb359:=Nat.ne_of_lt (Nat.lt_of_lt_of_le (by have:=World.block_lt_of_cell? _ _ hx360_0;first|rwa [add_block] at this|exact this) GW359.out);have hn360_3:ad360.block≠gb359:=Nat.ne_of_lt (Nat.lt_of_lt_of_le (by have:=World.block_lt_of_cell? _ _ hx360_0;first|rwa [add_block] at this|exact this) GW359.out);have hn360_4:ad360.block≠gb359:=Nat.ne_of_lt (Nat.lt_of_lt_of_le (by have:=World.block_lt_of_cell? _ _ hx360_0;first|rwa [add_block] at this|exact this) GW359.out);have hn360_5:ad360.block≠gb359:=Nat.ne_of_lt (Nat.lt_of_lt_of_le (by have:=World.block_lt_of_cell? _ _ hx360_0;first|rwa [add_block] at this|exact this) GW359.out);replace hx360_0:=(cb_ HB.out hx360_0:_);replace hx360_1:=(cb_ HB.out hx360_1:_);replace hx360_2:=(cb_ HB.out hx360_2:_);replace hx360_3:=(cb_ HB.out hx360_3:_);replace hx360_4:=(cb_ HB.out hx360_4:_);replace hx360_5:=(cb_ HB.out hx360_5:_);have HR360_2:=Aside0.mk hi360_2;have HC360_2:=Aside0.mk hl360_2;clear hi360_2 hl360_2;have HR360_3:=Aside0.mk hi360_3;have HC360_3:=Aside0.mk hl360_3;clear hi360_3 hl360_3;have HR360_4:=Aside0.mk hi360_4;have HC360_4:=Aside0.mk hl360_4;clear hi360_4 hl360_4;replace hx360_0:=(cell_far (p:=⟨gb359,0,none⟩) (ab_ hn360_0) (.string ((rd_T76 l0 x17_1).f0))).trans hx360_0;replace hx360_1:=(cell_far (p:=⟨gb359,0,none⟩) (ab_ hn360_0) (.string ((rd_T76 l0 x17_1).f0))).trans hx360_1;replace hx360_2:=(cell_far (p:=⟨gb359,0,none⟩) (ab_ hn360_0) (.string ((rd_T76 l0 x17_1).f0))).trans hx360_2;replace hx360_3:=(cell_far (p:=⟨gb359,0,none⟩) (ab_ hn360_0) (.string ((rd_T76 l0 x17_1).f0))).trans hx360_3;replace hx360_4:=(cell_far (p:=⟨gb359,0,none⟩) (ab_ hn360_0) (.string ((rd_T76 l0 x17_1).f0))).trans hx360_4;replace hx360_5:=(cell_far (p:=⟨gb359,0,none⟩) (ab_ hn360_0) (.string ((rd_T76 l0 x17_1).f0))).trans hx360_5;replace hx360_0:=(cell_far (p:=⟨gb359,1,none⟩) (ab_ hn360_1) (.string ((rd_T76 l0 x17_1).f1))).trans hx360_0;replace hx360_1:=(cell_far (p:=⟨gb359,1,none⟩) (ab_ hn360_1) (.string ((rd_T76 l0 x17_1).f1))).trans hx360_1;replace hx360_2:=(cell_far (p:=⟨gb359,1,none⟩) (ab_ hn360_1) (.string ((rd_T76 l0 x17_1).f1))).trans hx360_2;replace hx360_3:=(cell_far (p:=⟨gb359,1,none⟩) (ab_ hn360_1) (.string ((rd_T76 l0 x17_1).f1))).trans hx360_3;replace hx360_4:=(cell_far (p:=⟨gb359,1,none⟩) (ab_ hn360_1) (.string ((rd_T76 l0 x17_1).f1))).trans hx360_4;replace hx360_5:=(cell_far (p:=⟨gb359,1,none⟩) (ab_ hn360_1) (.string ((rd_T76 l0 x17_1).f1))).trans hx360_5;replace hx360_0:=(cell_far (p:=⟨gb359,2,none⟩) (ab_ hn360_2) (.slice A358_2 ((rd_T76 l0 x17_1).f2).length c358_2)).trans hx360_0;replace hx360_1:=(cell_far (p:=⟨gb359,2,none⟩) (ab_ hn360_2) (.slice A358_2 ((rd_T76 l0 x17_1).f2).length c358_2)).trans hx360_1;replace hx360_2:=(cell_far (p:=⟨gb359,2,none⟩) (ab_ hn360_2) (.slice A358_2 ((rd_T76 l0 x17_1).f2).length c358_2)).trans hx360_2;replace hx360_3:=(cell_far (p:=⟨gb359,2,none⟩) (ab_ hn360_2) (.slice A358_2 ((rd_T76 l0 x17_1).f2).length c358_2)).trans hx360_3;replace hx360_4:=(cell_far (p:=⟨gb359,2,none⟩) (ab_ hn360_2) (.slice A358_2 ((rd_T76 l0 x17_1).f2).length c358_2)).trans hx360_4;replace hx360_5:=(cell_far (p:=⟨gb359,2,none⟩) (ab_ hn360_2) (.slice A358_2 ((rd_T76 l0 x17_1).f2).length c358_2)).trans hx360_5;replace hx360_0:=(cell_far (p:=⟨gb359,3,none⟩) (ab_ hn360_3) (.slice A358_3 ((rd_T76 l0 x17_1).f3).length c358_3)).trans hx360_0;replace hx360_1:=(cell_far (p:=⟨gb359,3,none⟩) (ab_ hn360_3) (.slice A358_3 ((rd_T76 l0 x17_1).f3).length c358_3)).trans hx360_1;replace hx360_2:=(cell_far (p:=⟨gb359,3,none⟩) (ab_ hn360_3) (.slice A358_3 ((rd_T76 l0 x17_1).f3).length c358_3)).trans hx360_2;replace hx360_3:=(cell_far (p:=⟨gb359,3,none⟩) (ab_ hn360_3) (.slice A358_3 ((rd_T76 l0 x17_1).f3).length c358_3)).trans hx360_3;replace hx360_4:=(cell_far (p:=⟨gb359,3,none⟩) (ab_ hn360_3) (.slice A358_3 ((rd_T76 l0 x17_1).f3).length c358_3)).trans hx360_4;replace hx360_5:=(cell_far (p:=⟨gb359,3,none⟩) (ab_ hn360_3) (.slice A358_3 ((rd_T76 l0 x17_1).f3).length c358_3)).trans hx360_5;replace hx360_0:=(cell_far (p:=⟨gb359,4,none⟩) (ab_ hn360_4) (.slice A358_4 ((rd_T76 l0 x17_1).f4).length c358_4)).trans hx360_0;replace hx360_1:=(cell_far (p:=⟨gb359,4,none⟩) (ab_ hn360_4) (.slice A358_4 ((rd_T76 l0 x17_1).f4).length c358_4)).trans hx360_1;replace hx360_2:=(cell_far (p:=⟨gb359,4,none⟩) (ab_ hn360_4) (.slice A358_4 ((rd_T76 l0 x17_1).f4).length c358_4)).trans hx360_2;replace hx360_3:=(cell_far (p:=⟨gb359,4,none⟩) (ab_ hn360_4) (.slice A358_4 ((rd_T76 l0 x17_1).f4).length c358_4)).trans hx360_3;replace hx360_4:=(cell_far (p:=⟨gb359,4,none⟩) (ab_ hn360_4) (.slice A358_4 ((rd_T76 l0 x17_1).f4).length c358_4)).trans hx360_4;replace hx360_5:=(cell_far (p:=⟨gb359,4,none⟩) (ab_ hn360_4) (.slice A358_4 ((rd_T76 l0 x17_1).f4).length c358_4)).trans hx360_5;replace hx360_0:=(cell_far (p:=⟨gb359,5,none⟩) (ab_ hn360_5) (.int .i64 ((rd_T76 l0 x17_1).f5))).trans hx360_0;replace hx360_1:=(cell_far (p:=⟨gb359,5,none⟩) (ab_ hn360_5) (.int .i64 ((rd_T76 l0 x17_1).f5))).trans hx360_1;replace hx360_2:=(cell_far (p:=⟨gb359,5,none⟩) (ab_ hn360_5) (.int .i64 ((rd_T76 l0 x17_1).f5))).trans hx360_2;replace hx360_3:=(cell_far (p:=⟨gb359,5,none⟩) (ab_ hn360_5) (.int .i64 ((rd_T76 l0 x17_1).f5))).trans hx360_3;replace hx360_4:=(cell_far (p:=⟨gb359,5,none⟩) (ab_ hn360_5) (.int .i64 ((rd_T76 l0 x17_1).f5))).trans hx360_4;replace hx360_5:=(cell_far (p:=⟨gb359,5,none⟩) (ab_ hn360_5) (.int .i64 ((rd_T76 l0 x17_1).f5))).trans hx360_5;clear hn360_0;clear hn360_1;clear hn360_2;clear hn360_3;clear hn360_4;clear hn360_5;replace p360:=eq_true p360;replace q360:=eq_true q360)|((with_reducible refine gate_dst (N:=9) rfl ?_);refine box_event ?hg (N:=9) ?hd (cs:=#[.string (⟨#[]⟩:ByteArray),.string (⟨#[]⟩:ByteArray),.slice none 0 0,.slice none 0 0,.slice none 0 0,.int .i64 0]) (t:=76) ?hr ?_;(case hd=>rfl);(case hg=>rfl);(case hr=>first|(go_simp;done)|(go_simp;rfl));intro gb361 hg w13 hbox hb;have n0_:=Aside0.mk (blk_below (g:=gb359) (o:=.cells #[.string ((rd_T76 l0 x17_1).f0),.string ((rd_T76 l0 x17_1).f1),.slice A358_2 ((rd_T76 l0 x17_1).f2).length c358_2,.slice A358_3 ((rd_T76 l0 x17_1).f3).length c358_3,.slice A358_4 ((rd_T76 l0 x17_1).f4).length c358_4,.int .i64 ((rd_T76 l0 x17_1).f5)] 76 (0,0)) (kbc_ BK359.out) hb);have n1_:=Aside0.mk (below_step (bl_ HB.out) hb);have n2_:=Aside0.mk (hbox);have n3_:=Aside0.mk ((gs_ hg (bl_ HB.out):w.heap.size≤gb361));have n4_:=Aside0.mk ((gs_ hg (bl_ HB.out):w.heap.size≤gb361));have n5_:=Aside0.mk ((by rw [hg];exact Nat.ne_of_lt (blk_lt (g:=gb359) (o:=.cells #[.string ((rd_T76 l0 x17_1).f0),.string ((rd_T76 l0 x17_1).f1),.slice A358_2 ((rd_T76 l0 x17_1).f2).length c358_2,.slice A358_3 ((rd_T76 l0 x17_1).f3).length c358_3,.slice A358_4 ((rd_T76 l0 x17_1).f4).length c358_4,.int .i64 ((rd_T76 l0 x17_1).f5)] 76 (0,0)) (kbc_ BK359.out)):gb359≠gb361));have n6_:=Aside0.mk ((by rw [hg];exact Nat.ne_of_gt (blk_lt (g:=gb359) (o:=.cells #[.string ((rd_T76 l0 x17_1).f0),.string ((rd_T76 l0 x17_1).f1),.slice A358_2 ((rd_T76 l0 x17_1).f2).length c358_2,.slice A358_3 ((rd_T76 l0 x17_1).f3).length c358_3,.slice A358_4 ((rd_T76 l0 x17_1).f4).length c358_4,.int .i64 ((rd_T76 l0 x17_1).f5)] 76 (0,0)) (kbc_ BK359.out)):gb361≠gb359));clear BK359;clear HB;have BK359:=n0_;have HB:=n1_;have BK361:=n2_;have GW361:=n3_;have GE361:=n4_;have NB359_361:=n5_;have NB361_359:=n6_;clear n0_ n1_ n2_ n3_ n4_ n5_ n6_;clear hb hbox hg;have hnb14:=NB361_359.out;have hnc14:=NB359_361.out;have hcz15_0:w13.cell? ⟨gb361,0,none⟩=some (.string (⟨#[]⟩:ByteArray)):=zc_ BK361.out 0;have hcz15_1:w13.cell? ⟨gb361,1,none⟩=some (.string (⟨#[]⟩:ByteArray)):=zc_ BK361.out 1;have hcz15_2:w13.cell? ⟨gb361,2,none⟩=some (.slice none 0 0):=zc_ BK361.out 2;have hcz15_3:w13.cell? ⟨gb361,3,none⟩=some (.slice none 0 0):=zc_ BK361.out 3;have hcz15_4:w13.cell? ⟨gb361,4,none⟩=some (.slice none 0 0):=zc_ BK361.out 4;have hcz15_5:w13.cell? ⟨gb361,5,none⟩=some (.int .i64 0):=zc_ BK361.out 5;have hfz15_0:=blk_frozen BK361.out 0;have hfz15_1:=blk_frozen BK361.out 1;have hfz15_2:=blk_frozen BK361.out 2;have hfz15_3:=blk_frozen BK361.out 3;have hfz15_4:=blk_frozen BK361.out 4;have hfz15_5:=blk_frozen BK361.out 5;have hcz16_0:w13.cell? ⟨gb359,0,none⟩=some (.string ((rd_T76 l0 x17_1).f0)):=zc_ BK359.out 0;have hcz16_1:w13.cell? ⟨gb359,1,none⟩=some (.string ((rd_T76 l0 x17_1).f1)):=zc_ BK359.out 1;have hcz16_2:w13.cell? ⟨gb359,2,none⟩=some (.slice A358_2 ((rd_T76 l0 x17_1).f2).length c358_2):=zc_ BK359.out 2;have hcz16_3:w13.cell? ⟨gb359,3,none⟩=some (.slice A358_3 ((rd_T76 l0 x17_1).f3).length c358_3):=zc_ BK359.out 3;have hcz16_4:w13.cell? ⟨gb359,4,none⟩=some (.slice A358_4 ((rd_T76 l0 x17_1).f4).length c358_4):=zc_ BK359.out 4;have hcz16_5:w13.cell? ⟨gb359,5,none⟩=some (.int .i64 ((rd_T76 l0 x17_1).f5)):=zc_ BK359.out 5;have hfz16_0:=blk_frozen BK359.out 0;have hfz16_1:=blk_frozen BK359.out 1;have hfz16_2:=blk_frozen BK359.out 2;have hfz16_3:=blk_frozen BK359.out 3;have hfz16_4:=blk_frozen BK359.out 4;have hfz16_5:=blk_frozen BK359.out 5)|((with_reducible refine (ih48 k1 (by have:=HK1.out;omega) ((rd_T76 l0 x17_1).f0) ((rd_T76 l0 x17_1).f1) _ _ ((rd_T76 l0 x17_1).f2) _ _ ((rd_T76 l0 x17_1).f3) _ _ ((rd_T76 l0 x17_1).f4) ((rd_T76 l0 x17_1).f5) ((rd_T76 l1 x17_1).f0) ((rd_T76 l1 x17_1).f1) _ _ ((rd_T76 l1 x17_1).f2) _ _ ((rd_T76 l1 x17_1).f3) _ _ ((rd_T76 l1 x17_1).f4) ((rd_T76 l1 x17_1).f5) true _ ?side1 ?side2 ?side3 ?side4 ?side5 ?side6 ?side7 ?side8 ?side9 ?side10 ?side11 ?side12 A9.out).mono ?_);(case side1=>exact Kd.C_below HR358_2.out (bl_ HB.out));(case side2=>exact HC358_2.out);(case side3=>exact Kd.C_below HR358_3.out (bl_ HB.out));(case side4=>exact HC358_3.out);(case side5=>exact Kd.C_below HR358_4.out (bl_ HB.out));(case side6=>exact HC358_4.out);(case side7=>exact Kd.C_below HR360_2.out (bl_ HB.out));(case side8=>exact HC360_2.out);(case side9=>exact Kd.C_below HR360_3.out (bl_ HB.out));(case side10=>exact HC360_3.out);(case side11=>exact Kd.C_below HR360_4.out (bl_ HB.out));(case side12=>exact HC360_4.out);rintro e w17 ⟨rfl,hb⟩;have n0_:=Aside0.mk (blk_below (g:=gb359) (o:=.cells #[.string ((rd_T76 l0 x17_1).f0),.string ((rd_T76 l0 x17_1).f1),.slice A358_2 ((rd_T76 l0 x17_1).f2).length c358_2,.slice A358_3 ((rd_T76 l0 x17_1).f3).length c358_3,.slice A358_4 ((rd_T76 l0 x17_1).f4).length c358_4,.int .i64 ((rd_T76 l0 x17_1).f5)] 76 (0,0)) (kbc_ BK359.out) hb);have n1_:=Aside0.mk (blk_below (g:=gb361) (o:=.cells #[.string ((rd_T76 l1 x17_1).f0),.string ((rd_T76 l1 x17_1).f1),.slice A360_2 ((rd_T76 l1 x17_1).f2).length c360_2,.slice A360_3 ((rd_T76 l1 x17_1).f3).length c360_3,.slice A360_4 ((rd_T76 l1 x17_1).f4).length c360_4,.int .i64 ((rd_T76 l1 x17_1).f5)] 76 (0,0)) (kbc_ BK361.out) hb);have n2_:=Aside0.mk (below_step (bl_ HB.out) hb);clear BK359;clear BK361;clear HB;have BK359:=n0_;have BK361:=n1_;have HB:=n2_;clear n0_ n1_ n2_;(try clear hb);(try clear hb2);(try clear hk);(try clear hi)))
         go_roundg k1
         case measure=>have:=HK1.out;omega
         case rel=>exact ⟨(wrap64 (x17_1+1)),rf_,H',⟨by have:=HK1.out;omega⟩,⟨bl_ HB.out⟩⟩
        ·replace c10:=Bool.eq_false_iff.mpr c10
         subst c10
         have H1:(some false)=some r:=by rw [if_neg (show ¬ (false=true) by decide)] at H;exact H
         clear H
         have H:=H1
         clear H1
         obtain rfl:=Option.some.inj H
         have p358:0≤(x17_1:Int):=of_decide_eq_true as_
         have q358:x17_1 < (l0.length:Int):=of_decide_eq_true as_
         obtain ⟨ad358,A358_2,c358_2,A358_3,c358_3,A358_4,c358_4,e358,hx358_0,hx358_1,hx358_2,hx358_3,hx358_4,hx358_5,hl358_2,hi358_2,hl358_3,hi358_3,hl358_4,hi358_4⟩:=at_T76 HR0.out x17_1 p358 q358
         cases e358
         replace hx358_0:=(cb_ HB.out hx358_0:_)
         replace hx358_1:=(cb_ HB.out hx358_1:_)
         replace hx358_2:=(cb_ HB.out hx358_2:_)
         replace hx358_3:=(cb_ HB.out hx358_3:_)
         replace hx358_4:=(cb_ HB.out hx358_4:_)
         replace hx358_5:=(cb_ HB.out hx358_5:_)
         have HR358_2:=Aside0.mk hi358_2
         have HC358_2:=Aside0.mk hl358_2
         clear hi358_2 hl358_2
         have HR358_3:=Aside0.mk hi358_3
         have HC358_3:=Aside0.mk hl358_3
         clear hi358_3 hl358_3
         have HR358_4:=Aside0.mk hi358_4
         have HC358_4:=Aside0.mk hl358_4
         clear hi358_4 hl358_4
         replace p358:=eq_true p358
         replace q358:=eq_true q358
         go_wp2_with (first|((with_reducible refine gate_dst (N:=8) rfl ?_);refine box_event ?hg (N:=8) ?hd (cs:=#[.string (⟨#[]⟩:ByteArray),.string (⟨#[]⟩:ByteArray),.slice none 0 0,.slice none 0 0,.slice none 0 0,.int .i64 0]) (t:=76) ?hr ?_;(case hd=>rfl);(case hg=>rfl);(case hr=>first|(go_simp;done)|(go_simp;rfl));intro gb359 hg w18 hbox hb;have n0_:=Aside0.mk (below_step (bl_ HB.out) hb);have n1_:=Aside0.mk (hbox);have n2_:=Aside0.mk ((gs_ hg (bl_ HB.out):w.heap.size≤gb359));have n3_:=Aside0.mk ((gs_ hg (bl_ HB.out):w.heap.size≤gb359));clear HB;have HB:=n0_;have BK359:=n1_;have GW359:=n2_;have GE359:=n3_;clear n0_ n1_ n2_ n3_;clear hb hbox hg;have hcz19_0:w18.cell? ⟨gb359,0,none⟩=some (.string (⟨#[]⟩:ByteArray)):=zc_ BK359.out 0;have hcz19_1:w18.cell? ⟨gb359,1,none⟩=some (.string (⟨#[]⟩:ByteArray)):=zc_ BK359.out 1;have hcz19_2:w18.cell? ⟨gb359,2,none⟩=some (.slice none 0 0):=zc_ BK359.out 2;have hcz19_3:w18.cell? ⟨gb359,3,none⟩=some (.slice none 0 0):=zc_ BK359.out 3;have hcz19_4:w18.cell? ⟨gb359,4,none⟩=some (.slice none 0 0):=zc_ BK359.out 4;have hcz19_5:w18.cell? ⟨gb359,5,none⟩=some (.int .i64 0):=zc_ BK359.out 5;have hfz19_0:=blk_frozen BK359.out 0;have hfz19_1:=blk_frozen BK359.out 1;have hfz19_2:=blk_frozen BK359.out 2;have hfz19_3:=blk_frozen BK359.out 3;have hfz19_4:=blk_frozen BK359.out 4;have hfz19_5:=blk_frozen BK359.out 5;have p360:0≤(x17_1:Int):=of_decide_eq_true as_;have q360:x17_1 < (l1.length:Int):=of_decide_eq_true as_;obtain ⟨ad360,A360_2,c360_2,A360_3,c360_3,A360_4,c360_4,e360,hx360_0,hx360_1,hx360_2,hx360_3,hx360_4,hx360_5,hl360_2,hi360_2,hl360_3,hi360_3,hl360_4,hi360_4⟩:=at_T76 HR1.out x17_1 p360 q360;cases e360;have hn360_0:ad360.block≠gb359:=Nat.ne_of_lt (Nat.lt_of_lt_of_le (by have:=World.block_lt_of_cell? _ _ hx360_0;first|rwa [add_block] at this|exact this) GW359.out);have hn360_1:ad360.block≠gb359:=Nat.ne_of_lt (Nat.lt_of_lt_of_le (by have:=World.block_lt_of_cell? _ _ hx360_0;first|rwa [add_block] at this|exact this) GW359.out);have hn360_2:ad360.block≠gb359:=Nat.ne_of_lt (Nat.lt_of_lt_of_le (by have:=World.block_lt_of_cell? _ _ hx360_0;first|rwa [add_block] at this|exact this) GW359.out);have hn360_3:ad360.block≠gb359:=Nat.ne_of_lt (Nat.lt_of_lt_of_le (by have:=World.block_lt_of_cell? _ _ hx360_0;first|rwa [add_block] at this|exact this) GW359.out);have hn360_4:ad360.block≠gb359:=Nat.ne_of_lt (Nat.lt_of_lt_of_le (by have:=World.block_lt_of_cell? _ _ hx360_0;first|rwa [add_block] at this|exact this) GW359.out);have hn360_5:ad360.block≠gb359:=Nat.ne_of_lt (Nat.lt_of_lt_of_le (by have:=World.block_lt_of_cell? _ _ hx360_0;first|rwa [add_block] at this|exact this) GW359.out);replace hx360_0:=(cb_ HB.out hx360_0:_);replace hx360_1:=(cb_ HB.out hx360_1:_);replace hx360_2:=(cb_ HB.out hx360_2:_);replace hx360_3:=(cb_ HB.out hx360_3:_);replace hx360_4:=(cb_ HB.out hx360_4:_);replace hx360_5:=(cb_ HB.out hx360_5:_);have HR360_2:=Aside0.mk hi360_2;have HC360_2:=Aside0.mk hl360_2;clear hi360_2 hl360_2;have HR360_3:=Aside0.mk hi360_3;have HC360_3:=Aside0.mk hl360_3;clear hi360_3 hl360_3;have HR360_4:=Aside0.mk hi360_4;have HC360_4:=Aside0.mk hl360_4;clear hi360_4 hl360_4;replace hx360_0:=(cell_far (p:=⟨gb359,0,none⟩) (ab_ hn360_0) (.string ((rd_T76 l0 x17_1).f0))).trans hx360_0;replace hx360_1:=(cell_far (p:=⟨gb359,0,none⟩) (ab_ hn360_0) (.string ((rd_T76 l0 x17_1).f0))).trans hx360_1;replace hx360_2:=(cell_far (p:=⟨gb359,0,none⟩) (ab_ hn360_0) (.string ((rd_T76 l0 x17_1).f0))).trans hx360_2;replace hx360_3:=(cell_far (p:=⟨gb359,0,none⟩) (ab_ hn360_0) (.string ((rd_T76 l0 x17_1).f0))).trans hx360_3;replace hx360_4:=(cell_far (p:=⟨gb359,0,none⟩) (ab_ hn360_0) (.string ((rd_T76 l0 x17_1).f0))).trans hx360_4;replace hx360_5:=(cell_far (p:=⟨gb359,0,none⟩) (ab_ hn360_0) (.string ((rd_T76 l0 x17_1).f0))).trans hx360_5;replace hx360_0:=(cell_far (p:=⟨gb359,1,none⟩) (ab_ hn360_1) (.string ((rd_T76 l0 x17_1).f1))).trans hx360_0;replace hx360_1:=(cell_far (p:=⟨gb359,1,none⟩) (ab_ hn360_1) (.string ((rd_T76 l0 x17_1).f1))).trans hx360_1;replace hx360_2:=(cell_far (p:=⟨gb359,1,none⟩) (ab_ hn360_1) (.string ((rd_T76 l0 x17_1).f1))).trans hx360_2;replace hx360_3:=(cell_far (p:=⟨gb359,1,none⟩) (ab_ hn360_1) (.string ((rd_T76 l0 x17_1).f1))).trans hx360_3;replace hx360_4:=(cell_far (p:=⟨gb359,1,none⟩) (ab_ hn360_1) (.string ((rd_T76 l0 x17_1).f1))).trans hx360_4;replace hx360_5:=(cell_far (p:=⟨gb359,1,none⟩) (ab_ hn360_1) (.string ((rd_T76 l0 x17_1).f1))).trans hx360_5;replace hx360_0:=(cell_far (p:=⟨gb359,2,none⟩) (ab_ hn360_2) (.slice A358_2 ((rd_T76 l0 x17_1).f2).length c358_2)).trans hx360_0;replace hx360_1:=(cell_far (p:=⟨gb359,2,none⟩) (ab_ hn360_2) (.slice A358_2 ((rd_T76 l0 x17_1).f2).length c358_2)).trans hx360_1;replace hx360_2:=(cell_far (p:=⟨gb359,2,none⟩) (ab_ hn360_2) (.slice A358_2 ((rd_T76 l0 x17_1).f2).length c358_2)).trans hx360_2;replace hx360_3:=(cell_far (p:=⟨gb359,2,none⟩) (ab_ hn360_2) (.slice A358_2 ((rd_T76 l0 x17_1).f2).length c358_2)).trans hx360_3;replace hx360_4:=(cell_far (p:=⟨gb359,2,none⟩) (ab_ hn360_2) (.slice A358_2 ((rd_T76 l0 x17_1).f2).length c358_2)).trans hx360_4;replace hx360_5:=(cell_far (p:=⟨gb359,2,none⟩) (ab_ hn360_2) (.slice A358_2 ((rd_T76 l0 x17_1).f2).length c358_2)).trans hx360_5;replace hx360_0:=(cell_far (p:=⟨gb359,3,none⟩) (ab_ hn360_3) (.slice A358_3 ((rd_T76 l0 x17_1).f3).length c358_3)).trans hx360_0;replace hx360_1:=(cell_far (p:=⟨gb359,3,none⟩) (ab_ hn360_3) (.slice A358_3 ((rd_T76 l0 x17_1).f3).length c358_3)).trans hx360_1;replace hx360_2:=(cell_far (p:=⟨gb359,3,none⟩) (ab_ hn360_3) (.slice A358_3 ((rd_T76 l0 x17_1).f3).length c358_3)).trans hx360_2;replace hx360_3:=(cell_far (p:=⟨gb359,3,none⟩) (ab_ hn360_3) (.slice A358_3 ((rd_T76 l0 x17_1).f3).length c358_3)).trans hx360_3;replace hx360_4:=(cell_far (p:=⟨gb359,3,none⟩) (ab_ hn360_3) (.slice A358_3 ((rd_T76 l0 x17_1).f3).length c358_3)).trans hx360_4;replace hx360_5:=(cell_far (p:=⟨gb359,3,none⟩) (ab_ hn360_3) (.slice A358_3 ((rd_T76 l0 x17_1).f3).length c358_3)).trans hx360_5;replace hx360_0:=(cell_far (p:=⟨gb359,4,none⟩) (ab_ hn360_4) (.slice A358_4 ((rd_T76 l0 x17_1).f4).length c358_4)).trans hx360_0;replace hx360_1:=(cell_far (p:=⟨gb359,4,none⟩) (ab_ hn360_4) (.slice A358_4 ((rd_T76 l0 x17_1).f4).length c358_4)).trans hx360_1;replace hx360_2:=(cell_far (p:=⟨gb359,4,none⟩) (ab_ hn360_4) (.slice A358_4 ((rd_T76 l0 x17_1).f4).length c358_4)).trans hx360_2;replace hx360_3:=(cell_far (p:=⟨gb359,4,none⟩) (ab_ hn360_4) (.slice A358_4 ((rd_T76 l0 x17_1).f4).length c358_4)).trans hx360_3;replace hx360_4:=(cell_far (p:=⟨gb359,4,none⟩) (ab_ hn360_4) (.slice A358_4 ((rd_T76 l0 x17_1).f4).length c358_4)).trans hx360_4;replace hx360_5:=(cell_far (p:=⟨gb359,4,none⟩) (ab_ hn360_4) (.slice A358_4 ((rd_T76 l0 x17_1).f4).length c358_4)).trans hx360_5;replace hx360_0:=(cell_far (p:=⟨gb359,5,none⟩) (ab_ hn360_5) (.int .i64 ((rd_T76 l0 x17_1).f5))).trans hx360_0;replace hx360_1:=(cell_far (p:=⟨gb359,5,none⟩) (ab_ hn360_5) (.int .i64 ((rd_T76 l0 x17_1).f5))).trans hx360_1;replace hx360_2:=(cell_far (p:=⟨gb359,5,none⟩) (ab_ hn360_5) (.int .i64 ((rd_T76 l0 x17_1).f5))).trans hx360_2;replace hx360_3:=(cell_far (p:=⟨gb359,5,none⟩) (ab_ hn360_5) (.int .i64 ((rd_T76 l0 x17_1).f5))).trans hx360_3;replace hx360_4:=(cell_far (p:=⟨gb359,5,none⟩) (ab_ hn360_5) (.int .i64 ((rd_T76 l0 x17_1).f5))).trans hx360_4;replace hx360_5:=(cell_far (p:=⟨gb359,5,none⟩) (ab_ hn360_5) (.int .i64 ((rd_T76 l0 x17_1).f5))).trans hx360_5;clear hn360_0;clear hn360_1;clear hn360_2;clear hn360_3;clear hn360_4;clear hn360_5;replace p360:=eq_true p360;replace q360:=eq_true q360)|((with_reducible refine gate_dst (N:=9) rfl ?_);refine box_event ?hg (N:=9) ?hd (cs:=#[.string (⟨#[]⟩:ByteArray),.string (⟨#[]⟩:ByteArray),.slice none 0 0,.slice none 0 0,.slice none 0 0,.int .i64 0]) (t:=76) ?hr ?_;(case hd=>rfl);(case hg=>rfl);(case hr=>first|(go_simp;done)|(go_simp;rfl));intro gb361 hg w20 hbox hb;have n0_:=Aside0.mk (blk_below (g:=gb359) (o:=.cells #[.string ((rd_T76 l0 x17_1).f0),.string ((rd_T76 l0 x17_1).f1),.slice A358_2 ((rd_T76 l0 x17_1).f2).length c358_2,.slice A358_3 ((rd_T76 l0 x17_1).f3).length c358_3,.slice A358_4 ((rd_T76 l0 x17_1).f4).length c358_4,.int .i64 ((rd_T76 l0 x17_1).f5)] 76 (0,0)) (kbc_ BK359.out) hb);have n1_:=Aside0.mk (below_step (bl_ HB.out) hb);have n2_:=Aside0.mk (hbox);have n3_:=Aside0.mk ((gs_ hg (bl_ HB.out):w.heap.size≤gb361));have n4_:=Aside0.mk ((gs_ hg (bl_ HB.out):w.heap.size≤gb361));have n5_:=Aside0.mk ((by rw [hg];exact Nat.ne_of_lt (blk_lt (g:=gb359) (o:=.cells #[.string ((rd_T76 l0 x17_1).f0),.string ((rd_T76 l0 x17_1).f1),.slice A358_2 ((rd_T76 l0 x17_1).f2).length c358_2,.slice A358_3 ((rd_T76 l0 x17_1).f3).length c358_3,.slice A358_4 ((rd_T76 l0 x17_1).f4).length c358_4,.int .i64 ((rd_T76 l0 x17_1).f5)] 76 (0,0)) (kbc_ BK359.out)):gb359≠gb361));have n6_:=Aside0.mk ((by rw [hg];exact Nat.ne_of_gt (blk_lt (g:=gb359) (o:=.cells #[.string ((rd_T76 l0 x17_1).f0),.string ((rd_T76 l0 x17_1).f1),.slice A358_2 ((rd_T76 l0 x17_1).f2).length c358_2,.slice A358_3 ((rd_T76 l0 x17_1).f3).length c358_3,.slice A358_4 ((rd_T76 l0 x17_1).f4).length c358_4,.int .i64 ((rd_T76 l0 x17_1).f5)] 76 (0,0)) (kbc_ BK359.out)):gb361≠gb359));clear BK359;clear HB;have BK359:=n0_;have HB:=n1_;have BK361:=n2_;have GW361:=n3_;have GE361:=n4_;have NB359_361:=n5_;have NB361_359:=n6_;clear n0_ n1_ n2_ n3_ n4_ n5_ n6_;clear hb hbox hg;have hnb21:=NB361_359.out;have hnc21:=NB359_361.out;have hcz22_0:w20.cell? ⟨gb361,0,none⟩=some (.string (⟨#[]⟩:ByteArray)):=zc_ BK361.out 0;have hcz22_1:w20.cell? ⟨gb361,1,none⟩=some (.string (⟨#[]⟩:ByteArray)):=zc_ BK361.out 1;have hcz22_2:w20.cell? ⟨gb361,2,none⟩=some (.slice none 0 0):=zc_ BK361.out 2;have hcz22_3:w20.cell? ⟨gb361,3,none⟩=some (.slice none 0 0):=zc_ BK361.out 3;have hcz22_4:w20.cell? ⟨gb361,4,none⟩=some (.slice none 0 0):=zc_ BK361.out 4;have hcz22_5:w20.cell? ⟨gb361,5,none⟩=some (.int .i64 0):=zc_ BK361.out 5;have hfz22_0:=blk_frozen BK361.out 0;have hfz22_1:=blk_frozen BK361.out 1;have hfz22_2:=blk_frozen BK361.out 2;have hfz22_3:=blk_frozen BK361.out 3;have hfz22_4:=blk_frozen BK361.out 4;have hfz22_5:=blk_frozen BK361.out 5;have hcz23_0:w20.cell? ⟨gb359,0,none⟩=some (.string ((rd_T76 l0 x17_1).f0)):=zc_ BK359.out 0;have hcz23_1:w20.cell? ⟨gb359,1,none⟩=some (.string ((rd_T76 l0 x17_1).f1)):=zc_ BK359.out 1;have hcz23_2:w20.cell? ⟨gb359,2,none⟩=some (.slice A358_2 ((rd_T76 l0 x17_1).f2).length c358_2):=zc_ BK359.out 2;have hcz23_3:w20.cell? ⟨gb359,3,none⟩=some (.slice A358_3 ((rd_T76 l0 x17_1).f3).length c358_3):=zc_ BK359.out 3;have hcz23_4:w20.cell? ⟨gb359,4,none⟩=some (.slice A358_4 ((rd_T76 l0 x17_1).f4).length c358_4):=zc_ BK359.out 4;have hcz23_5:w20.cell? ⟨gb359,5,none⟩=some (.int .i64 ((rd_T76 l0 x17_1).f5)):=zc_ BK359.out 5;have hfz23_0:=blk_frozen BK359.out 0;have hfz23_1:=blk_frozen BK359.out 1;have hfz23_2:=blk_frozen BK359.out 2;have hfz23_3:=blk_frozen BK359.out 3;have hfz23_4:=blk_frozen BK359.out 4;have hfz23_5:=blk_frozen BK359.out 5)|((with_reducible refine (ih48 k1 (by have:=HK1.out;omega) ((rd_T76 l0 x17_1).f0) ((rd_T76 l0 x17_1).f1) _ _ ((rd_T76 l0 x17_1).f2) _ _ ((rd_T76 l0 x17_1).f3) _ _ ((rd_T76 l0 x17_1).f4) ((rd_T76 l0 x17_1).f5) ((rd_T76 l1 x17_1).f0) ((rd_T76 l1 x17_1).f1) _ _ ((rd_T76 l1 x17_1).f2) _ _ ((rd_T76 l1 x17_1).f3) _ _ ((rd_T76 l1 x17_1).f4) ((rd_T76 l1 x17_1).f5) false _ ?side1 ?side2 ?side3 ?side4 ?side5 ?side6 ?side7 ?side8 ?side9 ?side10 ?side11 ?side12 A9.out).mono ?_);(case side1=>exact Kd.C_below HR358_2.out (bl_ HB.out));(case side2=>exact HC358_2.out);(case side3=>exact Kd.C_below HR358_3.out (bl_ HB.out));(case side4=>exact HC358_3.out);(case side5=>exact Kd.C_below HR358_4.out (bl_ HB.out));(case side6=>exact HC358_4.out);(case side7=>exact Kd.C_below HR360_2.out (bl_ HB.out));(case side8=>exact HC360_2.out);(case side9=>exact Kd.C_below HR360_3.out (bl_ HB.out));(case side10=>exact HC360_3.out);(case side11=>exact Kd.C_below HR360_4.out (bl_ HB.out));(case side12=>exact HC360_4.out);rintro e w24 ⟨rfl,hb⟩;have n0_:=Aside0.mk (blk_below (g:=gb359) (o:=.cells #[.string ((rd_T76 l0 x17_1).f0),.string ((rd_T76 l0 x17_1).f1),.slice A358_2 ((rd_T76 l0 x17_1).f2).length c358_2,.slice A358_3 ((rd_T76 l0 x17_1).f3).length c358_3,.slice A358_4 ((rd_T76 l0 x17_1).f4).length c358_4,.int .i64 ((rd_T76 l0 x17_1).f5)] 76 (0,0)) (kbc_ BK359.out) hb);have n1_:=Aside0.mk (blk_below (g:=gb361) (o:=.cells #[.string ((rd_T76 l1 x17_1).f0),.string ((rd_T76 l1 x17_1).f1),.slice A360_2 ((rd_T76 l1 x17_1).f2).length c360_2,.slice A360_3 ((rd_T76 l1 x17_1).f3).length c360_3,.slice A360_4 ((rd_T76 l1 x17_1).f4).length c360_4,.int .i64 ((rd_T76 l1 x17_1).f5)] 76 (0,0)) (kbc_ BK361.out) hb);have n2_:=Aside0.mk (below_step (bl_ HB.out) hb);clear BK359;clear BK361;clear HB;have BK359:=n0_;have BK361:=n1_;have HB:=n2_;clear n0_ n1_ n2_;(try clear hb);(try clear hb2);(try clear hk);(try clear hi)))
         go_ret
         exact ⟨rt_,bl_ HB.out⟩
       ·rw [if_neg c8] at H
        exact absurd H (by simp)
      ·rw [if_neg c7] at H
       exact absurd H (by simp)
     ·rw [if_neg c6] at H
      exact absurd H (by simp)
    ·rw [if_neg c5] at H
     have c5b0:decide (x17_1 < (l0.length:Int))=false:=decide_eq_false c5
     clear c5
     obtain rfl:=Option.some.inj H
     go_wp2
     go_ret
     exact ⟨rt_,bl_ HB.out⟩
 ·rw [if_neg c4] at H
  have c4b0:((l0.length:Int) == (l1.length:Int))=false:=beq_eq_false_iff_ne.mpr c4
  have c4b1:((l0.length:Int) != (l1.length:Int))=true:=bne_iff_ne.mpr c4
  have c4b2:(l0.length == l1.length)=false:=by first|simpa using c4|(simp at c4 ⊢;omega)
  obtain rfl:=Option.some.inj H
  go_enter Tryd.func47,Tryd.ntmps47
  go_wp2
  go_ret
  exact ⟨rt_,bl_ HB.out⟩
end Go.Proofs.YtnnbbeloifhofaaDoor.P
end
section
namespace Go.Proofs.YtnnbbeloifhofaaDoor.P
open Go.RowKit Go.Proofs.YtnnbbeloifhofaaDoorW.PrintWords Go.Proofs.YtnnbbeloifhofaaDoorW.PrintLast Go.Proofs.YtnnbbeloifhofaaDoorW.PrintMore
attribute [local go_sem] max2_int min2_int max_two min_two max_three min_three max_four min_four
set_option linter.unusedVariables false
set_option linter.unusedSimpArgs false
set_option maxHeartbeats 8000000 in
set_option maxRecDepth 100000 in
theorem tree_SameExpr.step (k:Nat) (ih26 : ∀ m_,m_ < k→tree_SameExpr.Stmt m_) (ih43 : ∀ m_,m_ < k→tree_Expr_at_tree_SameExpr.Stmt m_):tree_SameExpr.Stmt k:=by
 intro a0_0 a0_1 a0_2 A0_3 c0_3 l0_3 a0_4 a1_0 a1_1 a1_2 A1_3 c1_3 l1_3 a1_4 r w hr0_3 hc0_3 hr1_3 hc1_3 h
 cases k with
 | zero=>exact absurd h (by simp [tree_SameExpr.f])
 | succ k=>
 simp only [tree_SameExpr.f] at h
 have hu33:=Tryd.underlying33
 have HR0_3:=Aside0.mk hr0_3
 have HC0_3:=Aside0.mk hc0_3
 clear hr0_3 hc0_3
 have HR1_3:=Aside0.mk hr1_3
 have HC1_3:=Aside0.mk hc1_3
 clear hr1_3 hc1_3
 have HB:=Aside0.mk (Below.refl w.heap.size w)
 have H:(if a0_0.toList=a1_0.toList then (if a0_1.toList=a1_1.toList then (if a0_2=a1_2 then ((tree_Expr_at_tree_SameExpr.f k l0_3 l1_3).bind fun t340=>(some t340)) else (some false)) else (some false)) else (some false))=some r:=h
 clear h
 by_cases c3:a0_0.toList=a1_0.toList
 ·rw [if_pos c3] at H
  have c3b0:(a0_0.toList == a1_0.toList)=true:=beq_iff_eq.mpr c3
  have c3b1:(a0_0.toList != a1_0.toList)=false:=bne_eq_false_iff_eq.mpr c3
  clear c3
  by_cases c4:a0_1.toList=a1_1.toList
  ·rw [if_pos c4] at H
   have c4b0:(a0_1.toList == a1_1.toList)=true:=beq_iff_eq.mpr c4
   have c4b1:(a0_1.toList != a1_1.toList)=false:=bne_eq_false_iff_eq.mpr c4
   clear c4
   by_cases c5:a0_2=a1_2
   ·rw [if_pos c5] at H
    have c5b0:(a0_2 == a1_2)=true:=beq_iff_eq.mpr c5
    have c5b1:(a0_2 != a1_2)=false:=bne_eq_false_iff_eq.mpr c5
    clear c5
    replace H:=Option.bind_eq_some_iff.mp H
    obtain ⟨t340,A60,H⟩:=H
    replace H:(some t340)=some r:=H
    have A6:=Aside0.mk A60
    clear A60
    obtain rfl:=Option.some.inj H
    go_enter Tryd.func26,Tryd.ntmps26
    go_wp2_with (first|((with_reducible refine gate_dst (N:=2) rfl ?_);refine box_event ?hg (N:=2) ?hd (cs:=#[.string a0_0,.string a0_1,.int .i64 a0_2,.slice A0_3 l0_3.length c0_3,.int .i64 a0_4]) (t:=33) ?hr ?_;(case hd=>rfl);(case hg=>rfl);(case hr=>first|(go_simp;done)|(go_simp;rfl));intro gb338 hg w7 hbox hb;have n0_:=Aside0.mk (below_step (bl_ HB.out) hb);have n1_:=Aside0.mk (hbox);have n2_:=Aside0.mk ((gs_ hg (bl_ HB.out):w.heap.size≤gb338));have n3_:=Aside0.mk ((gs_ hg (bl_ HB.out):w.heap.size≤gb338));clear HB;have HB:=n0_;have BK338:=n1_;have GW338:=n2_;have GE338:=n3_;clear n0_ n1_ n2_ n3_;clear hb hbox hg)|((with_reducible refine gate_dst (N:=3) rfl ?_);refine box_event ?hg (N:=3) ?hd (cs:=#[.string a1_0,.string a1_1,.int .i64 a1_2,.slice A1_3 l1_3.length c1_3,.int .i64 a1_4]) (t:=33) ?hr ?_;(case hd=>rfl);(case hg=>rfl);(case hr=>first|(go_simp;done)|(go_simp;rfl));intro gb339 hg w8 hbox hb;have n0_:=Aside0.mk (bb_ BK338.out hb);have n1_:=Aside0.mk (below_step (bl_ HB.out) hb);have n2_:=Aside0.mk (hbox);have n3_:=Aside0.mk ((gs_ hg (bl_ HB.out):w.heap.size≤gb339));have n4_:=Aside0.mk ((gs_ hg (bl_ HB.out):w.heap.size≤gb339));have n5_:=Aside0.mk ((nl_ hg BK338.out:gb338≠gb339));have n6_:=Aside0.mk ((nr_ hg BK338.out:gb339≠gb338));clear BK338;clear HB;have BK338:=n0_;have HB:=n1_;have BK339:=n2_;have GW339:=n3_;have GE339:=n4_;have NB338_339:=n5_;have NB339_338:=n6_;clear n0_ n1_ n2_ n3_ n4_ n5_ n6_;clear hb hbox hg;have hnb9:=NB338_339.out;have hnc9:=NB339_338.out;have hcz10_0:w8.cell? ⟨gb338,0,none⟩=some (.string a0_0):=zc_ BK338.out 0;have hcz10_1:w8.cell? ⟨gb338,1,none⟩=some (.string a0_1):=zc_ BK338.out 1;have hcz10_2:w8.cell? ⟨gb338,2,none⟩=some (.int .i64 a0_2):=zc_ BK338.out 2;have hcz10_3:w8.cell? ⟨gb338,3,none⟩=some (.slice A0_3 l0_3.length c0_3):=zc_ BK338.out 3;have hcz10_4:w8.cell? ⟨gb338,4,none⟩=some (.int .i64 a0_4):=zc_ BK338.out 4;have hfz10_0:=blk_frozen BK338.out 0;have hfz10_1:=blk_frozen BK338.out 1;have hfz10_2:=blk_frozen BK338.out 2;have hfz10_3:=blk_frozen BK338.out 3;have hfz10_4:=blk_frozen BK338.out 4;have hcz11_0:w8.cell? ⟨gb339,0,none⟩=some (.string a1_0):=zc_ BK339.out 0;have hcz11_1:w8.cell? ⟨gb339,1,none⟩=some (.string a1_1):=zc_ BK339.out 1;have hcz11_2:w8.cell? ⟨gb339,2,none⟩=some (.int .i64 a1_2):=zc_ BK339.out 2;have hcz11_3:w8.cell? ⟨gb339,3,none⟩=some (.slice A1_3 l1_3.length c1_3):=zc_ BK339.out 3;have hcz11_4:w8.cell? ⟨gb339,4,none⟩=some (.int .i64 a1_4):=zc_ BK339.out 4;have hfz11_0:=blk_frozen BK339.out 0;have hfz11_1:=blk_frozen BK339.out 1;have hfz11_2:=blk_frozen BK339.out 2;have hfz11_3:=blk_frozen BK339.out 3;have hfz11_4:=blk_frozen BK339.out 4)|(go_at_call 43;(with_reducible refine (ih43 k (by omega) _ _ l0_3 _ _ l1_3 t340 _ ?side1 ?side2 ?side3 ?side4 A6.out).mono ?_);(case side1=>exact kc_ HR0_3.out HB.out);(case side2=>exact HC0_3.out);(case side3=>exact kc_ HR1_3.out HB.out);(case side4=>exact HC1_3.out);rintro e w12 ⟨rfl,hb⟩;have n0_:=Aside0.mk (bb_ BK338.out hb);have n1_:=Aside0.mk (bb_ BK339.out hb);have n2_:=Aside0.mk (below_step (bl_ HB.out) hb);clear BK338;clear BK339;clear HB;have BK338:=n0_;have BK339:=n1_;have HB:=n2_;clear n0_ n1_ n2_;(try clear hb);(try clear hb2);(try clear hk);(try clear hi)))
    go_ret
    exact ⟨rt_,bl_ HB.out⟩
   ·rw [if_neg c5] at H
    have c5b0:(a0_2 == a1_2)=false:=beq_eq_false_iff_ne.mpr c5
    have c5b1:(a0_2 != a1_2)=true:=bne_iff_ne.mpr c5
    obtain rfl:=Option.some.inj H
    go_enter Tryd.func26,Tryd.ntmps26
    go_wp2_with (first|((with_reducible refine gate_dst (N:=2) rfl ?_);refine box_event ?hg (N:=2) ?hd (cs:=#[.string a0_0,.string a0_1,.int .i64 a0_2,.slice A0_3 l0_3.length c0_3,.int .i64 a0_4]) (t:=33) ?hr ?_;(case hd=>rfl);(case hg=>rfl);(case hr=>first|(go_simp;done)|(go_simp;rfl));intro gb338 hg w13 hbox hb;have n0_:=Aside0.mk (below_step (bl_ HB.out) hb);have n1_:=Aside0.mk (hbox);have n2_:=Aside0.mk ((gs_ hg (bl_ HB.out):w.heap.size≤gb338));have n3_:=Aside0.mk ((gs_ hg (bl_ HB.out):w.heap.size≤gb338));clear HB;have HB:=n0_;have BK338:=n1_;have GW338:=n2_;have GE338:=n3_;clear n0_ n1_ n2_ n3_;clear hb hbox hg)|((with_reducible refine gate_dst (N:=3) rfl ?_);refine box_event ?hg (N:=3) ?hd (cs:=#[.string a1_0,.string a1_1,.int .i64 a1_2,.slice A1_3 l1_3.length c1_3,.int .i64 a1_4]) (t:=33) ?hr ?_;(case hd=>rfl);(case hg=>rfl);(case hr=>first|(go_simp;done)|(go_simp;rfl));intro gb339 hg w14 hbox hb;have n0_:=Aside0.mk (bb_ BK338.out hb);have n1_:=Aside0.mk (below_step (bl_ HB.out) hb);have n2_:=Aside0.mk (hbox);have n3_:=Aside0.mk ((gs_ hg (bl_ HB.out):w.heap.size≤gb339));have n4_:=Aside0.mk ((gs_ hg (bl_ HB.out):w.heap.size≤gb339));have n5_:=Aside0.mk ((nl_ hg BK338.out:gb338≠gb339));have n6_:=Aside0.mk ((nr_ hg BK338.out:gb339≠gb338));clear BK338;clear HB;have BK338:=n0_;have HB:=n1_;have BK339:=n2_;have GW339:=n3_;have GE339:=n4_;have NB338_339:=n5_;have NB339_338:=n6_;clear n0_ n1_ n2_ n3_ n4_ n5_ n6_;clear hb hbox hg;have hnb15:=NB338_339.out;have hnc15:=NB339_338.out;have hcz16_0:w14.cell? ⟨gb338,0,none⟩=some (.string a0_0):=zc_ BK338.out 0;have hcz16_1:w14.cell? ⟨gb338,1,none⟩=some (.string a0_1):=zc_ BK338.out 1;have hcz16_2:w14.cell? ⟨gb338,2,none⟩=some (.int .i64 a0_2):=zc_ BK338.out 2;have hcz16_3:w14.cell? ⟨gb338,3,none⟩=some (.slice A0_3 l0_3.length c0_3):=zc_ BK338.out 3;have hcz16_4:w14.cell? ⟨gb338,4,none⟩=some (.int .i64 a0_4):=zc_ BK338.out 4;have hfz16_0:=blk_frozen BK338.out 0;have hfz16_1:=blk_frozen BK338.out 1;have hfz16_2:=blk_frozen BK338.out 2;have hfz16_3:=blk_frozen BK338.out 3;have hfz16_4:=blk_frozen BK338.out 4;have hcz17_0:w14.cell? ⟨gb339,0,none⟩=some (.string a1_0):=zc_ BK339.out 0;have hcz17_1:w14.cell? ⟨gb339,1,none⟩=some (.string a1_1):=zc_ BK339.out 1;have hcz17_2:w14.cell? ⟨gb339,2,none⟩=some (.int .i64 a1_2):=zc_ BK339.out 2;have hcz17_3:w14.cell? ⟨gb339,3,none⟩=some (.slice A1_3 l1_3.length c1_3):=zc_ BK339.out 3;have hcz17_4:w14.cell? ⟨gb339,4,none⟩=some (.int .i64 a1_4):=zc_ BK339.out 4;have hfz17_0:=blk_frozen BK339.out 0;have hfz17_1:=blk_frozen BK339.out 1;have hfz17_2:=blk_frozen BK339.out 2;have hfz17_3:=blk_frozen BK339.out 3;have hfz17_4:=blk_frozen BK339.out 4))
    go_ret
    exact ⟨rt_,bl_ HB.out⟩
  ·rw [if_neg c4] at H
   have c4b0:(a0_1.toList == a1_1.toList)=false:=beq_eq_false_iff_ne.mpr c4
   have c4b1:(a0_1.toList != a1_1.toList)=true:=bne_iff_ne.mpr c4
   obtain rfl:=Option.some.inj H
   go_enter Tryd.func26,Tryd.ntmps26
   go_wp2_with (first|((with_reducible refine gate_dst (N:=2) rfl ?_);refine box_event ?hg (N:=2) ?hd (cs:=#[.string a0_0,.string a0_1,.int .i64 a0_2,.slice A0_3 l0_3.length c0_3,.int .i64 a0_4]) (t:=33) ?hr ?_;(case hd=>rfl);(case hg=>rfl);(case hr=>first|(go_simp;done)|(go_simp;rfl));intro gb338 hg w18 hbox hb;have n0_:=Aside0.mk (below_step (bl_ HB.out) hb);have n1_:=Aside0.mk (hbox);have n2_:=Aside0.mk ((gs_ hg (bl_ HB.out):w.heap.size≤gb338));have n3_:=Aside0.mk ((gs_ hg (bl_ HB.out):w.heap.size≤gb338));clear HB;have HB:=n0_;have BK338:=n1_;have GW338:=n2_;have GE338:=n3_;clear n0_ n1_ n2_ n3_;clear hb hbox hg)|((with_reducible refine gate_dst (N:=3) rfl ?_);refine box_event ?hg (N:=3) ?hd (cs:=#[.string a1_0,.string a1_1,.int .i64 a1_2,.slice A1_3 l1_3.length c1_3,.int .i64 a1_4]) (t:=33) ?hr ?_;(case hd=>rfl);(case hg=>rfl);(case hr=>first|(go_simp;done)|(go_simp;rfl));intro gb339 hg w19 hbox hb;have n0_:=Aside0.mk (bb_ BK338.out hb);have n1_:=Aside0.mk (below_step (bl_ HB.out) hb);have n2_:=Aside0.mk (hbox);have n3_:=Aside0.mk ((gs_ hg (bl_ HB.out):w.heap.size≤gb339));have n4_:=Aside0.mk ((gs_ hg (bl_ HB.out):w.heap.size≤gb339));have n5_:=Aside0.mk ((nl_ hg BK338.out:gb338≠gb339));have n6_:=Aside0.mk ((nr_ hg BK338.out:gb339≠gb338));clear BK338;clear HB;have BK338:=n0_;have HB:=n1_;have BK339:=n2_;have GW339:=n3_;have GE339:=n4_;have NB338_339:=n5_;have NB339_338:=n6_;clear n0_ n1_ n2_ n3_ n4_ n5_ n6_;clear hb hbox hg;have hnb20:=NB338_339.out;have hnc20:=NB339_338.out;have hcz21_0:w19.cell? ⟨gb338,0,none⟩=some (.string a0_0):=zc_ BK338.out 0;have hcz21_1:w19.cell? ⟨gb338,1,none⟩=some (.string a0_1):=zc_ BK338.out 1;have hcz21_2:w19.cell? ⟨gb338,2,none⟩=some (.int .i64 a0_2):=zc_ BK338.out 2;have hcz21_3:w19.cell? ⟨gb338,3,none⟩=some (.slice A0_3 l0_3.length c0_3):=zc_ BK338.out 3;have hcz21_4:w19.cell? ⟨gb338,4,none⟩=some (.int .i64 a0_4):=zc_ BK338.out 4;have hfz21_0:=blk_frozen BK338.out 0;have hfz21_1:=blk_frozen BK338.out 1;have hfz21_2:=blk_frozen BK338.out 2;have hfz21_3:=blk_frozen BK338.out 3;have hfz21_4:=blk_frozen BK338.out 4;have hcz22_0:w19.cell? ⟨gb339,0,none⟩=some (.string a1_0):=zc_ BK339.out 0;have hcz22_1:w19.cell? ⟨gb339,1,none⟩=some (.string a1_1):=zc_ BK339.out 1;have hcz22_2:w19.cell? ⟨gb339,2,none⟩=some (.int .i64 a1_2):=zc_ BK339.out 2;have hcz22_3:w19.cell? ⟨gb339,3,none⟩=some (.slice A1_3 l1_3.length c1_3):=zc_ BK339.out 3;have hcz22_4:w19.cell? ⟨gb339,4,none⟩=some (.int .i64 a1_4):=zc_ BK339.out 4;have hfz22_0:=blk_frozen BK339.out 0;have hfz22_1:=blk_frozen BK339.out 1;have hfz22_2:=blk_frozen BK339.out 2;have hfz22_3:=blk_frozen BK339.out 3;have hfz22_4:=blk_frozen BK339.out 4))
   go_ret
   exact ⟨rt_,bl_ HB.out⟩
 ·rw [if_neg c3] at H
  have c3b0:(a0_0.toList == a1_0.toList)=false:=beq_eq_false_iff_ne.mpr c3
  have c3b1:(a0_0.toList != a1_0.toList)=true:=bne_iff_ne.mpr c3
  obtain rfl:=Option.some.inj H
  go_enter Tryd.func26,Tryd.ntmps26
  go_wp2_with (first|((with_reducible refine gate_dst (N:=2) rfl ?_);refine box_event ?hg (N:=2) ?hd (cs:=#[.string a0_0,.string a0_1,.int .i64 a0_2,.slice A0_3 l0_3.length c0_3,.int .i64 a0_4]) (t:=33) ?hr ?_;(case hd=>rfl);(case hg=>rfl);(case hr=>first|(go_simp;done)|(go_simp;rfl));intro gb338 hg w23 hbox hb;have n0_:=Aside0.mk (below_step (bl_ HB.out) hb);have n1_:=Aside0.mk (hbox);have n2_:=Aside0.mk ((gs_ hg (bl_ HB.out):w.heap.size≤gb338));have n3_:=Aside0.mk ((gs_ hg (bl_ HB.out):w.heap.size≤gb338));clear HB;have HB:=n0_;have BK338:=n1_;have GW338:=n2_;have GE338:=n3_;clear n0_ n1_ n2_ n3_;clear hb hbox hg)|((with_reducible refine gate_dst (N:=3) rfl ?_);refine box_event ?hg (N:=3) ?hd (cs:=#[.string a1_0,.string a1_1,.int .i64 a1_2,.slice A1_3 l1_3.length c1_3,.int .i64 a1_4]) (t:=33) ?hr ?_;(case hd=>rfl);(case hg=>rfl);(case hr=>first|(go_simp;done)|(go_simp;rfl));intro gb339 hg w24 hbox hb;have n0_:=Aside0.mk (bb_ BK338.out hb);have n1_:=Aside0.mk (below_step (bl_ HB.out) hb);have n2_:=Aside0.mk (hbox);have n3_:=Aside0.mk ((gs_ hg (bl_ HB.out):w.heap.size≤gb339));have n4_:=Aside0.mk ((gs_ hg (bl_ HB.out):w.heap.size≤gb339));have n5_:=Aside0.mk ((nl_ hg BK338.out:gb338≠gb339));have n6_:=Aside0.mk ((nr_ hg BK338.out:gb339≠gb338));clear BK338;clear HB;have BK338:=n0_;have HB:=n1_;have BK339:=n2_;have GW339:=n3_;have GE339:=n4_;have NB338_339:=n5_;have NB339_338:=n6_;clear n0_ n1_ n2_ n3_ n4_ n5_ n6_;clear hb hbox hg;have hnb25:=NB338_339.out;have hnc25:=NB339_338.out;have hcz26_0:w24.cell? ⟨gb338,0,none⟩=some (.string a0_0):=zc_ BK338.out 0;have hcz26_1:w24.cell? ⟨gb338,1,none⟩=some (.string a0_1):=zc_ BK338.out 1;have hcz26_2:w24.cell? ⟨gb338,2,none⟩=some (.int .i64 a0_2):=zc_ BK338.out 2;have hcz26_3:w24.cell? ⟨gb338,3,none⟩=some (.slice A0_3 l0_3.length c0_3):=zc_ BK338.out 3;have hcz26_4:w24.cell? ⟨gb338,4,none⟩=some (.int .i64 a0_4):=zc_ BK338.out 4;have hfz26_0:=blk_frozen BK338.out 0;have hfz26_1:=blk_frozen BK338.out 1;have hfz26_2:=blk_frozen BK338.out 2;have hfz26_3:=blk_frozen BK338.out 3;have hfz26_4:=blk_frozen BK338.out 4;have hcz27_0:w24.cell? ⟨gb339,0,none⟩=some (.string a1_0):=zc_ BK339.out 0;have hcz27_1:w24.cell? ⟨gb339,1,none⟩=some (.string a1_1):=zc_ BK339.out 1;have hcz27_2:w24.cell? ⟨gb339,2,none⟩=some (.int .i64 a1_2):=zc_ BK339.out 2;have hcz27_3:w24.cell? ⟨gb339,3,none⟩=some (.slice A1_3 l1_3.length c1_3):=zc_ BK339.out 3;have hcz27_4:w24.cell? ⟨gb339,4,none⟩=some (.int .i64 a1_4):=zc_ BK339.out 4;have hfz27_0:=blk_frozen BK339.out 0;have hfz27_1:=blk_frozen BK339.out 1;have hfz27_2:=blk_frozen BK339.out 2;have hfz27_3:=blk_frozen BK339.out 3;have hfz27_4:=blk_frozen BK339.out 4))
  go_ret
  exact ⟨rt_,bl_ HB.out⟩
end Go.Proofs.YtnnbbeloifhofaaDoor.P
end
section
namespace Go.Proofs.YtnnbbeloifhofaaDoor.P
open Go.RowKit Go.Proofs.YtnnbbeloifhofaaDoorW.PrintWords Go.Proofs.YtnnbbeloifhofaaDoorW.PrintLast Go.Proofs.YtnnbbeloifhofaaDoorW.PrintMore
attribute [local go_sem] max2_int min2_int max_two min_two max_three min_three max_four min_four
set_option linter.unusedVariables false
set_option linter.unusedSimpArgs false
set_option maxHeartbeats 8000000 in
set_option maxRecDepth 100000 in
theorem tree_Expr_at_tree_SameExpr.step (k:Nat) (ih26 : ∀ m_,m_ < k→tree_SameExpr.Stmt m_) (ih43 : ∀ m_,m_ < k→tree_Expr_at_tree_SameExpr.Stmt m_):tree_Expr_at_tree_SameExpr.Stmt k:=by
 intro A0 c0 l0 A1 c1 l1 r w hr0 hc0 hr1 hc1 h
 cases k with
 | zero=>exact absurd h (by simp [tree_Expr_at_tree_SameExpr.f])
 | succ k=>
 simp only [tree_Expr_at_tree_SameExpr.f] at h
 have hu33:=Tryd.underlying33
 have HR0:=Aside0.mk hr0
 have HC0:=Aside0.mk hc0
 clear hr0 hc0
 have HR1:=Aside0.mk hr1
 have HC1:=Aside0.mk hc1
 clear hr1 hc1
 have HB:=Aside0.mk (Below.refl w.heap.size w)
 have H:(if (l0.length:Int)=(l1.length:Int) then (tree_Expr_at_tree_SameExpr.l0 k l1 l0 (l0.length:Int) 0) else (some false))=some r:=h
 clear h
 by_cases c4:(l0.length:Int)=(l1.length:Int)
 ·rw [if_pos c4] at H
  have c4b0:((l0.length:Int) == (l1.length:Int))=true:=beq_iff_eq.mpr c4
  have c4b1:((l0.length:Int) != (l1.length:Int))=false:=bne_eq_false_iff_eq.mpr c4
  have c4b2:(l0.length == l1.length)=true:=by first|simpa using c4|(simp at c4 ⊢;omega)
  clear c4
  have H':=Aside0.mk H
  clear H
  go_enter Tryd.func43,Tryd.ntmps43
  go_wp2
  (try simp only [Act.put,List.setIfInBounds_toArray,List.set_cons_succ,List.set_cons_zero])
  go_loopg [17] k (fun kq v17 w'=>∃ (x17_1:Int),v17=.int .i64 x17_1∧Aside0 (tree_Expr_at_tree_SameExpr.l0 kq l1 l0 (l0.length:Int) x17_1=some r)∧Aside0 (kq≤k)∧Aside0 (Below w.heap.size w w'))
  case atStart=>exact ⟨(0),rf_,H',⟨Nat.le_refl _⟩,⟨bl_ HB.out⟩⟩
  case round=>
   clear H'
   (try clear c1);(try clear p2);(try clear c4);(try clear c4b0);(try clear c4b1);(try clear c4b2)
   obtain ⟨x17_1,rfl,HA,HK1,HB⟩:=hrel
   cases gk with
   | zero=>exact absurd HA.out (by simp [tree_Expr_at_tree_SameExpr.l0])
   | succ k1=>
    have H:=HA.out
    clear HA
    simp only [tree_Expr_at_tree_SameExpr.l0] at H
    by_cases c5:x17_1 < (l0.length:Int)
    ·rw [if_pos c5] at H
     have c5b0:decide (x17_1 < (l0.length:Int))=true:=decide_eq_true c5
     clear c5
     by_cases c6:0≤x17_1
     ·rw [if_pos c6] at H
      have c6b0:decide (0≤x17_1)=true:=decide_eq_true c6
      clear c6
      by_cases c7:x17_1 < (l0.length:Int)
      ·rw [if_pos c7] at H
       have c7b0:decide (x17_1 < (l0.length:Int))=true:=decide_eq_true c7
       clear c7
       by_cases c8:x17_1 < (l1.length:Int)
       ·rw [if_pos c8] at H
        have c8b0:decide (x17_1 < (l1.length:Int))=true:=decide_eq_true c8
        clear c8
        replace H:=Option.bind_eq_some_iff.mp H
        obtain ⟨t345,A90,H⟩:=H
        replace H:(if t345=true then (tree_Expr_at_tree_SameExpr.l0 k1 l1 l0 (l0.length:Int) (wrap64 (x17_1+1))) else (some false))=some r:=H
        have A9:=Aside0.mk A90
        clear A90
        by_cases c10:t345=true
        ·subst c10
         have H1:(tree_Expr_at_tree_SameExpr.l0 k1 l1 l0 (l0.length:Int) (wrap64 (x17_1+1)))=some r:=by rw [if_pos rfl] at H;exact H
         clear H
         have H:=H1
         clear H1
         have H':=Aside0.mk H
         clear H
         have p341:0≤(x17_1:Int):=of_decide_eq_true as_
         have q341:x17_1 < (l0.length:Int):=of_decide_eq_true as_
         obtain ⟨ad341,A341_3,c341_3,e341,hx341_0,hx341_1,hx341_2,hx341_3,hx341_4,hl341_3,hi341_3⟩:=at_T33 HR0.out x17_1 p341 q341
         cases e341
         replace hx341_0:=(cb_ HB.out hx341_0:_)
         replace hx341_1:=(cb_ HB.out hx341_1:_)
         replace hx341_2:=(cb_ HB.out hx341_2:_)
         replace hx341_3:=(cb_ HB.out hx341_3:_)
         replace hx341_4:=(cb_ HB.out hx341_4:_)
         have HR341_3:=Aside0.mk hi341_3
         have HC341_3:=Aside0.mk hl341_3
         clear hi341_3 hl341_3
         replace p341:=eq_true p341
         replace q341:=eq_true q341
         go_wp2_with (first|((with_reducible refine gate_dst (N:=8) rfl ?_);refine box_event ?hg (N:=8) ?hd (cs:=#[.string (⟨#[]⟩:ByteArray),.string (⟨#[]⟩:ByteArray),.int .i64 0,.slice none 0 0,.int .i64 0]) (t:=33) ?hr ?_;(case hd=>rfl);(case hg=>rfl);(case hr=>first|(go_simp;done)|(go_simp;rfl));intro gb342 hg w11 hbox hb;have n0_:=Aside0.mk (below_step (bl_ HB.out) hb);have n1_:=Aside0.mk (hbox);have n2_:=Aside0.mk ((gs_ hg (bl_ HB.out):w.heap.size≤gb342));have n3_:=Aside0.mk ((gs_ hg (bl_ HB.out):w.heap.size≤gb342));clear HB;have HB:=n0_;have BK342:=n1_;have GW342:=n2_;have GE342:=n3_;clear n0_ n1_ n2_ n3_;clear hb hbox hg;have hcz12_0:w11.cell? ⟨gb342,0,none⟩=some (.string (⟨#[]⟩:ByteArray)):=zc_ BK342.out 0;have hcz12_1:w11.cell? ⟨gb342,1,none⟩=some (.string (⟨#[]⟩:ByteArray)):=zc_ BK342.out 1;have hcz12_2:w11.cell? ⟨gb342,2,none⟩=some (.int .i64 0):=zc_ BK342.out 2;have hcz12_3:w11.cell? ⟨gb342,3,none⟩=some (.slice none 0 0):=zc_ BK342.out 3;have hcz12_4:w11.cell? ⟨gb342,4,none⟩=some (.int .i64 0):=zc_ BK342.out 4;have hfz12_0:=blk_frozen BK342.out 0;have hfz12_1:=blk_frozen BK342.out 1;have hfz12_2:=blk_frozen BK342.out 2;have hfz12_3:=blk_frozen BK342.out 3;have hfz12_4:=blk_frozen BK342.out 4;have p343:0≤(x17_1:Int):=of_decide_eq_true as_;have q343:x17_1 < (l1.length:Int):=of_decide_eq_true as_;obtain ⟨ad343,A343_3,c343_3,e343,hx343_0,hx343_1,hx343_2,hx343_3,hx343_4,hl343_3,hi343_3⟩:=at_T33 HR1.out x17_1 p343 q343;cases e343;have hn343_0:ad343.block≠gb342:=Nat.ne_of_lt (Nat.lt_of_lt_of_le (by have:=World.block_lt_of_cell? _ _ hx343_0;first|rwa [add_block] at this|exact this) GW342.out);have hn343_1:ad343.block≠gb342:=Nat.ne_of_lt (Nat.lt_of_lt_of_le (by have:=World.block_lt_of_cell? _ _ hx343_0;first|rwa [add_block] at this|exact this) GW342.out);have hn343_2:ad343.block≠gb342:=Nat.ne_of_lt (Nat.lt_of_lt_of_le (by have:=World.block_lt_of_cell? _ _ hx343_0;first|rwa [add_block] at this|exact this) GW342.out);have hn343_3:ad343.block≠gb342:=Nat.ne_of_lt (Nat.lt_of_lt_of_le (by have:=World.block_lt_of_cell? _ _ hx343_0;first|rwa [add_block] at this|exact this) GW342.out);have hn343_4:ad343.block≠gb342:=Nat.ne_of_lt (Nat.lt_of_lt_of_le (by have:=World.block_lt_of_cell? _ _ hx343_0;first|rwa [add_block] at this|exact this) GW342.out);replace hx343_0:=(cb_ HB.out hx343_0:_);replace hx343_1:=(cb_ HB.out hx343_1:_);replace hx343_2:=(cb_ HB.out hx343_2:_);replace hx343_3:=(cb_ HB.out hx343_3:_);replace hx343_4:=(cb_ HB.out hx343_4:_);have HR343_3:=Aside0.mk hi343_3;have HC343_3:=Aside0.mk hl343_3;clear hi343_3 hl343_3;replace hx343_0:=(cell_far (p:=⟨gb342,0,none⟩) (ab_ hn343_0) (.string ((rd_T33 l0 x17_1).f0))).trans hx343_0;replace hx343_1:=(cell_far (p:=⟨gb342,0,none⟩) (ab_ hn343_0) (.string ((rd_T33 l0 x17_1).f0))).trans hx343_1;replace hx343_2:=(cell_far (p:=⟨gb342,0,none⟩) (ab_ hn343_0) (.string ((rd_T33 l0 x17_1).f0))).trans hx343_2;replace hx343_3:=(cell_far (p:=⟨gb342,0,none⟩) (ab_ hn343_0) (.string ((rd_T33 l0 x17_1).f0))).trans hx343_3;replace hx343_4:=(cell_far (p:=⟨gb342,0,none⟩) (ab_ hn343_0) (.string ((rd_T33 l0 x17_1).f0))).trans hx343_4;replace hx343_0:=(cell_far (p:=⟨gb342,1,none⟩) (ab_ hn343_1) (.string ((rd_T33 l0 x17_1).f1))).trans hx343_0;replace hx343_1:=(cell_far (p:=⟨gb342,1,none⟩) (ab_ hn343_1) (.string ((rd_T33 l0 x17_1).f1))).trans hx343_1;replace hx343_2:=(cell_far (p:=⟨gb342,1,none⟩) (ab_ hn343_1) (.string ((rd_T33 l0 x17_1).f1))).trans hx343_2;replace hx343_3:=(cell_far (p:=⟨gb342,1,none⟩) (ab_ hn343_1) (.string ((rd_T33 l0 x17_1).f1))).trans hx343_3;replace hx343_4:=(cell_far (p:=⟨gb342,1,none⟩) (ab_ hn343_1) (.string ((rd_T33 l0 x17_1).f1))).trans hx343_4;replace hx343_0:=(cell_far (p:=⟨gb342,2,none⟩) (ab_ hn343_2) (.int .i64 ((rd_T33 l0 x17_1).f2))).trans hx343_0;replace hx343_1:=(cell_far (p:=⟨gb342,2,none⟩) (ab_ hn343_2) (.int .i64 ((rd_T33 l0 x17_1).f2))).trans hx343_1;replace hx343_2:=(cell_far (p:=⟨gb342,2,none⟩) (ab_ hn343_2) (.int .i64 ((rd_T33 l0 x17_1).f2))).trans hx343_2;replace hx343_3:=(cell_far (p:=⟨gb342,2,none⟩) (ab_ hn343_2) (.int .i64 ((rd_T33 l0 x17_1).f2))).trans hx343_3;replace hx343_4:=(cell_far (p:=⟨gb342,2,none⟩) (ab_ hn343_2) (.int .i64 ((rd_T33 l0 x17_1).f2))).trans hx343_4;replace hx343_0:=(cell_far (p:=⟨gb342,3,none⟩) (ab_ hn343_3) (.slice A341_3 ((rd_T33 l0 x17_1).f3).length c341_3)).trans hx343_0;replace hx343_1:=(cell_far (p:=⟨gb342,3,none⟩) (ab_ hn343_3) (.slice A341_3 ((rd_T33 l0 x17_1).f3).length c341_3)).trans hx343_1;replace hx343_2:=(cell_far (p:=⟨gb342,3,none⟩) (ab_ hn343_3) (.slice A341_3 ((rd_T33 l0 x17_1).f3).length c341_3)).trans hx343_2;replace hx343_3:=(cell_far (p:=⟨gb342,3,none⟩) (ab_ hn343_3) (.slice A341_3 ((rd_T33 l0 x17_1).f3).length c341_3)).trans hx343_3;replace hx343_4:=(cell_far (p:=⟨gb342,3,none⟩) (ab_ hn343_3) (.slice A341_3 ((rd_T33 l0 x17_1).f3).length c341_3)).trans hx343_4;replace hx343_0:=(cell_far (p:=⟨gb342,4,none⟩) (ab_ hn343_4) (.int .i64 ((rd_T33 l0 x17_1).f4))).trans hx343_0;replace hx343_1:=(cell_far (p:=⟨gb342,4,none⟩) (ab_ hn343_4) (.int .i64 ((rd_T33 l0 x17_1).f4))).trans hx343_1;replace hx343_2:=(cell_far (p:=⟨gb342,4,none⟩) (ab_ hn343_4) (.int .i64 ((rd_T33 l0 x17_1).f4))).trans hx343_2;replace hx343_3:=(cell_far (p:=⟨gb342,4,none⟩) (ab_ hn343_4) (.int .i64 ((rd_T33 l0 x17_1).f4))).trans hx343_3;replace hx343_4:=(cell_far (p:=⟨gb342,4,none⟩) (ab_ hn343_4) (.int .i64 ((rd_T33 l0 x17_1).f4))).trans hx343_4;clear hn343_0;clear hn343_1;clear hn343_2;clear hn343_3;clear hn343_4;replace p343:=eq_true p343;replace q343:=eq_true q343)|((with_reducible refine gate_dst (N:=9) rfl ?_);refine box_event ?hg (N:=9) ?hd (cs:=#[.string (⟨#[]⟩:ByteArray),.string (⟨#[]⟩:ByteArray),.int .i64 0,.slice none 0 0,.int .i64 0]) (t:=33) ?hr ?_;(case hd=>rfl);(case hg=>rfl);(case hr=>first|(go_simp;done)|(go_simp;rfl));intro gb344 hg w13 hbox hb;have n0_:=Aside0.mk (blk_below (g:=gb342) (o:=.cells #[.string ((rd_T33 l0 x17_1).f0),.string ((rd_T33 l0 x17_1).f1),.int .i64 ((rd_T33 l0 x17_1).f2),.slice A341_3 ((rd_T33 l0 x17_1).f3).length c341_3,.int .i64 ((rd_T33 l0 x17_1).f4)] 33 (0,0)) (kbc_ BK342.out) hb);have n1_:=Aside0.mk (below_step (bl_ HB.out) hb);have n2_:=Aside0.mk (hbox);have n3_:=Aside0.mk ((gs_ hg (bl_ HB.out):w.heap.size≤gb344));have n4_:=Aside0.mk ((gs_ hg (bl_ HB.out):w.heap.size≤gb344));have n5_:=Aside0.mk ((by rw [hg];exact Nat.ne_of_lt (blk_lt (g:=gb342) (o:=.cells #[.string ((rd_T33 l0 x17_1).f0),.string ((rd_T33 l0 x17_1).f1),.int .i64 ((rd_T33 l0 x17_1).f2),.slice A341_3 ((rd_T33 l0 x17_1).f3).length c341_3,.int .i64 ((rd_T33 l0 x17_1).f4)] 33 (0,0)) (kbc_ BK342.out)):gb342≠gb344));have n6_:=Aside0.mk ((by rw [hg];exact Nat.ne_of_gt (blk_lt (g:=gb342) (o:=.cells #[.string ((rd_T33 l0 x17_1).f0),.string ((rd_T33 l0 x17_1).f1),.int .i64 ((rd_T33 l0 x17_1).f2),.slice A341_3 ((rd_T33 l0 x17_1).f3).length c341_3,.int .i64 ((rd_T33 l0 x17_1).f4)] 33 (0,0)) (kbc_ BK342.out)):gb344≠gb342));clear BK342;clear HB;have BK342:=n0_;have HB:=n1_;have BK344:=n2_;have GW344:=n3_;have GE344:=n4_;have NB342_344:=n5_;have NB344_342:=n6_;clear n0_ n1_ n2_ n3_ n4_ n5_ n6_;clear hb hbox hg;have hnb14:=NB344_342.out;have hnc14:=NB342_344.out;have hcz15_0:w13.cell? ⟨gb344,0,none⟩=some (.string (⟨#[]⟩:ByteArray)):=zc_ BK344.out 0;have hcz15_1:w13.cell? ⟨gb344,1,none⟩=some (.string (⟨#[]⟩:ByteArray)):=zc_ BK344.out 1;have hcz15_2:w13.cell? ⟨gb344,2,none⟩=some (.int .i64 0):=zc_ BK344.out 2;have hcz15_3:w13.cell? ⟨gb344,3,none⟩=some (.slice none 0 0):=zc_ BK344.out 3;have hcz15_4:w13.cell? ⟨gb344,4,none⟩=some (.int .i64 0):=zc_ BK344.out 4;have hfz15_0:=blk_frozen BK344.out 0;have hfz15_1:=blk_frozen BK344.out 1;have hfz15_2:=blk_frozen BK344.out 2;have hfz15_3:=blk_frozen BK344.out 3;have hfz15_4:=blk_frozen BK344.out 4;have hcz16_0:w13.cell? ⟨gb342,0,none⟩=some (.string ((rd_T33 l0 x17_1).f0)):=zc_ BK342.out 0;have hcz16_1:w13.cell? ⟨gb342,1,none⟩=some (.string ((rd_T33 l0 x17_1).f1)):=zc_ BK342.out 1;have hcz16_2:w13.cell? ⟨gb342,2,none⟩=some (.int .i64 ((rd_T33 l0 x17_1).f2)):=zc_ BK342.out 2;have hcz16_3:w13.cell? ⟨gb342,3,none⟩=some (.slice A341_3 ((rd_T33 l0 x17_1).f3).length c341_3):=zc_ BK342.out 3;have hcz16_4:w13.cell? ⟨gb342,4,none⟩=some (.int .i64 ((rd_T33 l0 x17_1).f4)):=zc_ BK342.out 4;have hfz16_0:=blk_frozen BK342.out 0;have hfz16_1:=blk_frozen BK342.out 1;have hfz16_2:=blk_frozen BK342.out 2;have hfz16_3:=blk_frozen BK342.out 3;have hfz16_4:=blk_frozen BK342.out 4)|((with_reducible refine (ih26 k1 (by have:=HK1.out;omega) ((rd_T33 l0 x17_1).f0) ((rd_T33 l0 x17_1).f1) ((rd_T33 l0 x17_1).f2) _ _ ((rd_T33 l0 x17_1).f3) ((rd_T33 l0 x17_1).f4) ((rd_T33 l1 x17_1).f0) ((rd_T33 l1 x17_1).f1) ((rd_T33 l1 x17_1).f2) _ _ ((rd_T33 l1 x17_1).f3) ((rd_T33 l1 x17_1).f4) true _ ?side1 ?side2 ?side3 ?side4 A9.out).mono ?_);(case side1=>exact Kd.C_below HR341_3.out (bl_ HB.out));(case side2=>exact HC341_3.out);(case side3=>exact Kd.C_below HR343_3.out (bl_ HB.out));(case side4=>exact HC343_3.out);rintro e w17 ⟨rfl,hb⟩;have n0_:=Aside0.mk (blk_below (g:=gb342) (o:=.cells #[.string ((rd_T33 l0 x17_1).f0),.string ((rd_T33 l0 x17_1).f1),.int .i64 ((rd_T33 l0 x17_1).f2),.slice A341_3 ((rd_T33 l0 x17_1).f3).length c341_3,.int .i64 ((rd_T33 l0 x17_1).f4)] 33 (0,0)) (kbc_ BK342.out) hb);have n1_:=Aside0.mk (blk_below (g:=gb344) (o:=.cells #[.string ((rd_T33 l1 x17_1).f0),.string ((rd_T33 l1 x17_1).f1),.int .i64 ((rd_T33 l1 x17_1).f2),.slice A343_3 ((rd_T33 l1 x17_1).f3).length c343_3,.int .i64 ((rd_T33 l1 x17_1).f4)] 33 (0,0)) (kbc_ BK344.out) hb);have n2_:=Aside0.mk (below_step (bl_ HB.out) hb);clear BK342;clear BK344;clear HB;have BK342:=n0_;have BK344:=n1_;have HB:=n2_;clear n0_ n1_ n2_;(try clear hb);(try clear hb2);(try clear hk);(try clear hi)))
         go_roundg k1
         case measure=>have:=HK1.out;omega
         case rel=>exact ⟨(wrap64 (x17_1+1)),rf_,H',⟨by have:=HK1.out;omega⟩,⟨bl_ HB.out⟩⟩
        ·replace c10:=Bool.eq_false_iff.mpr c10
         subst c10
         have H1:(some false)=some r:=by rw [if_neg (show ¬ (false=true) by decide)] at H;exact H
         clear H
         have H:=H1
         clear H1
         obtain rfl:=Option.some.inj H
         have p341:0≤(x17_1:Int):=of_decide_eq_true as_
         have q341:x17_1 < (l0.length:Int):=of_decide_eq_true as_
         obtain ⟨ad341,A341_3,c341_3,e341,hx341_0,hx341_1,hx341_2,hx341_3,hx341_4,hl341_3,hi341_3⟩:=at_T33 HR0.out x17_1 p341 q341
         cases e341
         replace hx341_0:=(cb_ HB.out hx341_0:_)
         replace hx341_1:=(cb_ HB.out hx341_1:_)
         replace hx341_2:=(cb_ HB.out hx341_2:_)
         replace hx341_3:=(cb_ HB.out hx341_3:_)
         replace hx341_4:=(cb_ HB.out hx341_4:_)
         have HR341_3:=Aside0.mk hi341_3
         have HC341_3:=Aside0.mk hl341_3
         clear hi341_3 hl341_3
         replace p341:=eq_true p341
         replace q341:=eq_true q341
         go_wp2_with (first|((with_reducible refine gate_dst (N:=8) rfl ?_);refine box_event ?hg (N:=8) ?hd (cs:=#[.string (⟨#[]⟩:ByteArray),.string (⟨#[]⟩:ByteArray),.int .i64 0,.slice none 0 0,.int .i64 0]) (t:=33) ?hr ?_;(case hd=>rfl);(case hg=>rfl);(case hr=>first|(go_simp;done)|(go_simp;rfl));intro gb342 hg w18 hbox hb;have n0_:=Aside0.mk (below_step (bl_ HB.out) hb);have n1_:=Aside0.mk (hbox);have n2_:=Aside0.mk ((gs_ hg (bl_ HB.out):w.heap.size≤gb342));have n3_:=Aside0.mk ((gs_ hg (bl_ HB.out):w.heap.size≤gb342));clear HB;have HB:=n0_;have BK342:=n1_;have GW342:=n2_;have GE342:=n3_;clear n0_ n1_ n2_ n3_;clear hb hbox hg;have hcz19_0:w18.cell? ⟨gb342,0,none⟩=some (.string (⟨#[]⟩:ByteArray)):=zc_ BK342.out 0;have hcz19_1:w18.cell? ⟨gb342,1,none⟩=some (.string (⟨#[]⟩:ByteArray)):=zc_ BK342.out 1;have hcz19_2:w18.cell? ⟨gb342,2,none⟩=some (.int .i64 0):=zc_ BK342.out 2;have hcz19_3:w18.cell? ⟨gb342,3,none⟩=some (.slice none 0 0):=zc_ BK342.out 3;have hcz19_4:w18.cell? ⟨gb342,4,none⟩=some (.int .i64 0):=zc_ BK342.out 4;have hfz19_0:=blk_frozen BK342.out 0;have hfz19_1:=blk_frozen BK342.out 1;have hfz19_2:=blk_frozen BK342.out 2;have hfz19_3:=blk_frozen BK342.out 3;have hfz19_4:=blk_frozen BK342.out 4;have p343:0≤(x17_1:Int):=of_decide_eq_true as_;have q343:x17_1 < (l1.length:Int):=of_decide_eq_true as_;obtain ⟨ad343,A343_3,c343_3,e343,hx343_0,hx343_1,hx343_2,hx343_3,hx343_4,hl343_3,hi343_3⟩:=at_T33 HR1.out x17_1 p343 q343;cases e343;have hn343_0:ad343.block≠gb342:=Nat.ne_of_lt (Nat.lt_of_lt_of_le (by have:=World.block_lt_of_cell? _ _ hx343_0;first|rwa [add_block] at this|exact this) GW342.out);have hn343_1:ad343.block≠gb342:=Nat.ne_of_lt (Nat.lt_of_lt_of_le (by have:=World.block_lt_of_cell? _ _ hx343_0;first|rwa [add_block] at this|exact this) GW342.out);have hn343_2:ad343.block≠gb342:=Nat.ne_of_lt (Nat.lt_of_lt_of_le (by have:=World.block_lt_of_cell? _ _ hx343_0;first|rwa [add_block] at this|exact this) GW342.out);have hn343_3:ad343.block≠gb342:=Nat.ne_of_lt (Nat.lt_of_lt_of_le (by have:=World.block_lt_of_cell? _ _ hx343_0;first|rwa [add_block] at this|exact this) GW342.out);have hn343_4:ad343.block≠gb342:=Nat.ne_of_lt (Nat.lt_of_lt_of_le (by have:=World.block_lt_of_cell? _ _ hx343_0;first|rwa [add_block] at this|exact this) GW342.out);replace hx343_0:=(cb_ HB.out hx343_0:_);replace hx343_1:=(cb_ HB.out hx343_1:_);replace hx343_2:=(cb_ HB.out hx343_2:_);replace hx343_3:=(cb_ HB.out hx343_3:_);replace hx343_4:=(cb_ HB.out hx343_4:_);have HR343_3:=Aside0.mk hi343_3;have HC343_3:=Aside0.mk hl343_3;clear hi343_3 hl343_3;replace hx343_0:=(cell_far (p:=⟨gb342,0,none⟩) (ab_ hn343_0) (.string ((rd_T33 l0 x17_1).f0))).trans hx343_0;replace hx343_1:=(cell_far (p:=⟨gb342,0,none⟩) (ab_ hn343_0) (.string ((rd_T33 l0 x17_1).f0))).trans hx343_1;replace hx343_2:=(cell_far (p:=⟨gb342,0,none⟩) (ab_ hn343_0) (.string ((rd_T33 l0 x17_1).f0))).trans hx343_2;replace hx343_3:=(cell_far (p:=⟨gb342,0,none⟩) (ab_ hn343_0) (.string ((rd_T33 l0 x17_1).f0))).trans hx343_3;replace hx343_4:=(cell_far (p:=⟨gb342,0,none⟩) (ab_ hn343_0) (.string ((rd_T33 l0 x17_1).f0))).trans hx343_4;replace hx343_0:=(cell_far (p:=⟨gb342,1,none⟩) (ab_ hn343_1) (.string ((rd_T33 l0 x17_1).f1))).trans hx343_0;replace hx343_1:=(cell_far (p:=⟨gb342,1,none⟩) (ab_ hn343_1) (.string ((rd_T33 l0 x17_1).f1))).trans hx343_1;replace hx343_2:=(cell_far (p:=⟨gb342,1,none⟩) (ab_ hn343_1) (.string ((rd_T33 l0 x17_1).f1))).trans hx343_2;replace hx343_3:=(cell_far (p:=⟨gb342,1,none⟩) (ab_ hn343_1) (.string ((rd_T33 l0 x17_1).f1))).trans hx343_3;replace hx343_4:=(cell_far (p:=⟨gb342,1,none⟩) (ab_ hn343_1) (.string ((rd_T33 l0 x17_1).f1))).trans hx343_4;replace hx343_0:=(cell_far (p:=⟨gb342,2,none⟩) (ab_ hn343_2) (.int .i64 ((rd_T33 l0 x17_1).f2))).trans hx343_0;replace hx343_1:=(cell_far (p:=⟨gb342,2,none⟩) (ab_ hn343_2) (.int .i64 ((rd_T33 l0 x17_1).f2))).trans hx343_1;replace hx343_2:=(cell_far (p:=⟨gb342,2,none⟩) (ab_ hn343_2) (.int .i64 ((rd_T33 l0 x17_1).f2))).trans hx343_2;replace hx343_3:=(cell_far (p:=⟨gb342,2,none⟩) (ab_ hn343_2) (.int .i64 ((rd_T33 l0 x17_1).f2))).trans hx343_3;replace hx343_4:=(cell_far (p:=⟨gb342,2,none⟩) (ab_ hn343_2) (.int .i64 ((rd_T33 l0 x17_1).f2))).trans hx343_4;replace hx343_0:=(cell_far (p:=⟨gb342,3,none⟩) (ab_ hn343_3) (.slice A341_3 ((rd_T33 l0 x17_1).f3).length c341_3)).trans hx343_0;replace hx343_1:=(cell_far (p:=⟨gb342,3,none⟩) (ab_ hn343_3) (.slice A341_3 ((rd_T33 l0 x17_1).f3).length c341_3)).trans hx343_1;replace hx343_2:=(cell_far (p:=⟨gb342,3,none⟩) (ab_ hn343_3) (.slice A341_3 ((rd_T33 l0 x17_1).f3).length c341_3)).trans hx343_2;replace hx343_3:=(cell_far (p:=⟨gb342,3,none⟩) (ab_ hn343_3) (.slice A341_3 ((rd_T33 l0 x17_1).f3).length c341_3)).trans hx343_3;replace hx343_4:=(cell_far (p:=⟨gb342,3,none⟩) (ab_ hn343_3) (.slice A341_3 ((rd_T33 l0 x17_1).f3).length c341_3)).trans hx343_4;replace hx343_0:=(cell_far (p:=⟨gb342,4,none⟩) (ab_ hn343_4) (.int .i64 ((rd_T33 l0 x17_1).f4))).trans hx343_0;replace hx343_1:=(cell_far (p:=⟨gb342,4,none⟩) (ab_ hn343_4) (.int .i64 ((rd_T33 l0 x17_1).f4))).trans hx343_1;replace hx343_2:=(cell_far (p:=⟨gb342,4,none⟩) (ab_ hn343_4) (.int .i64 ((rd_T33 l0 x17_1).f4))).trans hx343_2;replace hx343_3:=(cell_far (p:=⟨gb342,4,none⟩) (ab_ hn343_4) (.int .i64 ((rd_T33 l0 x17_1).f4))).trans hx343_3;replace hx343_4:=(cell_far (p:=⟨gb342,4,none⟩) (ab_ hn343_4) (.int .i64 ((rd_T33 l0 x17_1).f4))).trans hx343_4;clear hn343_0;clear hn343_1;clear hn343_2;clear hn343_3;clear hn343_4;replace p343:=eq_true p343;replace q343:=eq_true q343)|((with_reducible refine gate_dst (N:=9) rfl ?_);refine box_event ?hg (N:=9) ?hd (cs:=#[.string (⟨#[]⟩:ByteArray),.string (⟨#[]⟩:ByteArray),.int .i64 0,.slice none 0 0,.int .i64 0]) (t:=33) ?hr ?_;(case hd=>rfl);(case hg=>rfl);(case hr=>first|(go_simp;done)|(go_simp;rfl));intro gb344 hg w20 hbox hb;have n0_:=Aside0.mk (blk_below (g:=gb342) (o:=.cells #[.string ((rd_T33 l0 x17_1).f0),.string ((rd_T33 l0 x17_1).f1),.int .i64 ((rd_T33 l0 x17_1).f2),.slice A341_3 ((rd_T33 l0 x17_1).f3).length c341_3,.int .i64 ((rd_T33 l0 x17_1).f4)] 33 (0,0)) (kbc_ BK342.out) hb);have n1_:=Aside0.mk (below_step (bl_ HB.out) hb);have n2_:=Aside0.mk (hbox);have n3_:=Aside0.mk ((gs_ hg (bl_ HB.out):w.heap.size≤gb344));have n4_:=Aside0.mk ((gs_ hg (bl_ HB.out):w.heap.size≤gb344));have n5_:=Aside0.mk ((by rw [hg];exact Nat.ne_of_lt (blk_lt (g:=gb342) (o:=.cells #[.string ((rd_T33 l0 x17_1).f0),.string ((rd_T33 l0 x17_1).f1),.int .i64 ((rd_T33 l0 x17_1).f2),.slice A341_3 ((rd_T33 l0 x17_1).f3).length c341_3,.int .i64 ((rd_T33 l0 x17_1).f4)] 33 (0,0)) (kbc_ BK342.out)):gb342≠gb344));have n6_:=Aside0.mk ((by rw [hg];exact Nat.ne_of_gt (blk_lt (g:=gb342) (o:=.cells #[.string ((rd_T33 l0 x17_1).f0),.string ((rd_T33 l0 x17_1).f1),.int .i64 ((rd_T33 l0 x17_1).f2),.slice A341_3 ((rd_T33 l0 x17_1).f3).length c341_3,.int .i64 ((rd_T33 l0 x17_1).f4)] 33 (0,0)) (kbc_ BK342.out)):gb344≠gb342));clear BK342;clear HB;have BK342:=n0_;have HB:=n1_;have BK344:=n2_;have GW344:=n3_;have GE344:=n4_;have NB342_344:=n5_;have NB344_342:=n6_;clear n0_ n1_ n2_ n3_ n4_ n5_ n6_;clear hb hbox hg;have hnb21:=NB344_342.out;have hnc21:=NB342_344.out;have hcz22_0:w20.cell? ⟨gb344,0,none⟩=some (.string (⟨#[]⟩:ByteArray)):=zc_ BK344.out 0;have hcz22_1:w20.cell? ⟨gb344,1,none⟩=some (.string (⟨#[]⟩:ByteArray)):=zc_ BK344.out 1;have hcz22_2:w20.cell? ⟨gb344,2,none⟩=some (.int .i64 0):=zc_ BK344.out 2;have hcz22_3:w20.cell? ⟨gb344,3,none⟩=some (.slice none 0 0):=zc_ BK344.out 3;have hcz22_4:w20.cell? ⟨gb344,4,none⟩=some (.int .i64 0):=zc_ BK344.out 4;have hfz22_0:=blk_frozen BK344.out 0;have hfz22_1:=blk_frozen BK344.out 1;have hfz22_2:=blk_frozen BK344.out 2;have hfz22_3:=blk_frozen BK344.out 3;have hfz22_4:=blk_frozen BK344.out 4;have hcz23_0:w20.cell? ⟨gb342,0,none⟩=some (.string ((rd_T33 l0 x17_1).f0)):=zc_ BK342.out 0;have hcz23_1:w20.cell? ⟨gb342,1,none⟩=some (.string ((rd_T33 l0 x17_1).f1)):=zc_ BK342.out 1;have hcz23_2:w20.cell? ⟨gb342,2,none⟩=some (.int .i64 ((rd_T33 l0 x17_1).f2)):=zc_ BK342.out 2;have hcz23_3:w20.cell? ⟨gb342,3,none⟩=some (.slice A341_3 ((rd_T33 l0 x17_1).f3).length c341_3):=zc_ BK342.out 3;have hcz23_4:w20.cell? ⟨gb342,4,none⟩=some (.int .i64 ((rd_T33 l0 x17_1).f4)):=zc_ BK342.out 4;have hfz23_0:=blk_frozen BK342.out 0;have hfz23_1:=blk_frozen BK342.out 1;have hfz23_2:=blk_frozen BK342.out 2;have hfz23_3:=blk_frozen BK342.out 3;have hfz23_4:=blk_frozen BK342.out 4)|((with_reducible refine (ih26 k1 (by have:=HK1.out;omega) ((rd_T33 l0 x17_1).f0) ((rd_T33 l0 x17_1).f1) ((rd_T33 l0 x17_1).f2) _ _ ((rd_T33 l0 x17_1).f3) ((rd_T33 l0 x17_1).f4) ((rd_T33 l1 x17_1).f0) ((rd_T33 l1 x17_1).f1) ((rd_T33 l1 x17_1).f2) _ _ ((rd_T33 l1 x17_1).f3) ((rd_T33 l1 x17_1).f4) false _ ?side1 ?side2 ?side3 ?side4 A9.out).mono ?_);(case side1=>exact Kd.C_below HR341_3.out (bl_ HB.out));(case side2=>exact HC341_3.out);(case side3=>exact Kd.C_below HR343_3.out (bl_ HB.out));(case side4=>exact HC343_3.out);rintro e w24 ⟨rfl,hb⟩;have n0_:=Aside0.mk (blk_below (g:=gb342) (o:=.cells #[.string ((rd_T33 l0 x17_1).f0),.string ((rd_T33 l0 x17_1).f1),.int .i64 ((rd_T33 l0 x17_1).f2),.slice A341_3 ((rd_T33 l0 x17_1).f3).length c341_3,.int .i64 ((rd_T33 l0 x17_1).f4)] 33 (0,0)) (kbc_ BK342.out) hb);have n1_:=Aside0.mk (blk_below (g:=gb344) (o:=.cells #[.string ((rd_T33 l1 x17_1).f0),.string ((rd_T33 l1 x17_1).f1),.int .i64 ((rd_T33 l1 x17_1).f2),.slice A343_3 ((rd_T33 l1 x17_1).f3).length c343_3,.int .i64 ((rd_T33 l1 x17_1).f4)] 33 (0,0)) (kbc_ BK344.out) hb);have n2_:=Aside0.mk (below_step (bl_ HB.out) hb);clear BK342;clear BK344;clear HB;have BK342:=n0_;have BK344:=n1_;have HB:=n2_;clear n0_ n1_ n2_;(try clear hb);(try clear hb2);(try clear hk);(try clear hi)))
         go_ret
         exact ⟨rt_,bl_ HB.out⟩
       ·rw [if_neg c8] at H
        exact absurd H (by simp)
      ·rw [if_neg c7] at H
       exact absurd H (by simp)
     ·rw [if_neg c6] at H
      exact absurd H (by simp)
    ·rw [if_neg c5] at H
     have c5b0:decide (x17_1 < (l0.length:Int))=false:=decide_eq_false c5
     clear c5
     obtain rfl:=Option.some.inj H
     go_wp2
     go_ret
     exact ⟨rt_,bl_ HB.out⟩
 ·rw [if_neg c4] at H
  have c4b0:((l0.length:Int) == (l1.length:Int))=false:=beq_eq_false_iff_ne.mpr c4
  have c4b1:((l0.length:Int) != (l1.length:Int))=true:=bne_iff_ne.mpr c4
  have c4b2:(l0.length == l1.length)=false:=by first|simpa using c4|(simp at c4 ⊢;omega)
  obtain rfl:=Option.some.inj H
  go_enter Tryd.func43,Tryd.ntmps43
  go_wp2
  go_ret
  exact ⟨rt_,bl_ HB.out⟩
end Go.Proofs.YtnnbbeloifhofaaDoor.P
end
section
namespace Go.Proofs.YtnnbbeloifhofaaDoor.P
open Go.RowKit Go.Proofs.YtnnbbeloifhofaaDoorW.PrintWords Go.Proofs.YtnnbbeloifhofaaDoorW.PrintLast Go.Proofs.YtnnbbeloifhofaaDoorW.PrintMore
attribute [local go_sem] max2_int min2_int max_two min_two max_three min_three max_four min_four
set_option linter.unusedVariables false
set_option linter.unusedSimpArgs false
theorem tree_SameExpr_ring.all (k:Nat):tree_SameExpr.Stmt k∧tree_Expr_at_tree_SameExpr.Stmt k:=by
  induction k using Nat.strongRecOn with
  | _ k ih=>
  exact ⟨tree_SameExpr.step k (fun m_ h_=>(ih m_ h_).1) (fun m_ h_=>(ih m_ h_).2),tree_Expr_at_tree_SameExpr.step k (fun m_ h_=>(ih m_ h_).1) (fun m_ h_=>(ih m_ h_).2)⟩
theorem tree_SameExpr.calls (k:Nat):tree_SameExpr.Stmt k:=(tree_SameExpr_ring.all k).1
theorem tree_Expr_at_tree_SameExpr.calls (k:Nat):tree_Expr_at_tree_SameExpr.Stmt k:=(tree_SameExpr_ring.all k).2
end Go.Proofs.YtnnbbeloifhofaaDoor.P
end
section
namespace Go.Proofs.YtnnbbeloifhofaaDoor.P
open Go.RowKit Go.Proofs.YtnnbbeloifhofaaDoorW.PrintWords Go.Proofs.YtnnbbeloifhofaaDoorW.PrintLast Go.Proofs.YtnnbbeloifhofaaDoorW.PrintMore
attribute [local go_sem] max2_int min2_int max_two min_two max_three min_three max_four min_four
set_option linter.unusedVariables false
set_option linter.unusedSimpArgs false
set_option maxHeartbeats 8000000 in
set_option maxRecDepth 100000 in
theorem tree_sameStmt.step (k:Nat) (ih47 : ∀ m_,m_ < k→tree_Stmt_at_tree_sameStmt.Stmt m_) (ih48 : ∀ m_,m_ < k→tree_sameStmt.Stmt m_):tree_sameStmt.Stmt k:=by
 intro a0_0 a0_1 A0_2 c0_2 l0_2 A0_3 c0_3 l0_3 A0_4 c0_4 l0_4 a0_5 a1_0 a1_1 A1_2 c1_2 l1_2 A1_3 c1_3 l1_3 A1_4 c1_4 l1_4 a1_5 r w hr0_2 hc0_2 hr0_3 hc0_3 hr0_4 hc0_4 hr1_2 hc1_2 hr1_3 hc1_3 hr1_4 hc1_4 h
 cases k with
 | zero=>exact absurd h (by simp [tree_sameStmt.f])
 | succ k=>
 simp only [tree_sameStmt.f] at h
 have hu76:=Tryd.underlying76
 have HR0_2:=Aside0.mk hr0_2
 have HC0_2:=Aside0.mk hc0_2
 clear hr0_2 hc0_2
 have HR0_3:=Aside0.mk hr0_3
 have HC0_3:=Aside0.mk hc0_3
 clear hr0_3 hc0_3
 have HR0_4:=Aside0.mk hr0_4
 have HC0_4:=Aside0.mk hc0_4
 clear hr0_4 hc0_4
 have HR1_2:=Aside0.mk hr1_2
 have HC1_2:=Aside0.mk hc1_2
 clear hr1_2 hc1_2
 have HR1_3:=Aside0.mk hr1_3
 have HC1_3:=Aside0.mk hc1_3
 clear hr1_3 hc1_3
 have HR1_4:=Aside0.mk hr1_4
 have HC1_4:=Aside0.mk hc1_4
 clear hr1_4 hc1_4
 have HB:=Aside0.mk (Below.refl w.heap.size w)
 have H:(if a0_0.toList=a1_0.toList then (if a0_1.toList=a1_1.toList then ((tree_Expr_at_tree_SameExpr.f k l0_2 l1_2).bind fun t365=>(if t365=true then ((tree_Stmt_at_tree_sameStmt.f k l0_3 l1_3).bind fun t366=>(if t366=true then ((tree_Stmt_at_tree_sameStmt.f k l0_4 l1_4).bind fun t367=>(some t367)) else (some false))) else (some false))) else (some false)) else (some false))=some r:=h
 clear h
 by_cases c3:a0_0.toList=a1_0.toList
 ·rw [if_pos c3] at H
  have c3b0:(a0_0.toList == a1_0.toList)=true:=beq_iff_eq.mpr c3
  have c3b1:(a0_0.toList != a1_0.toList)=false:=bne_eq_false_iff_eq.mpr c3
  clear c3
  by_cases c4:a0_1.toList=a1_1.toList
  ·rw [if_pos c4] at H
   have c4b0:(a0_1.toList == a1_1.toList)=true:=beq_iff_eq.mpr c4
   have c4b1:(a0_1.toList != a1_1.toList)=false:=bne_eq_false_iff_eq.mpr c4
   clear c4
   replace H:=Option.bind_eq_some_iff.mp H
   obtain ⟨t365,A50,H⟩:=H
   replace H:(if t365=true then ((tree_Stmt_at_tree_sameStmt.f k l0_3 l1_3).bind fun t366=>(if t366=true then ((tree_Stmt_at_tree_sameStmt.f k l0_4 l1_4).bind fun t367=>(some t367)) else (some false))) else (some false))=some r:=H
   have A5:=Aside0.mk A50
   clear A50
   by_cases c6:t365=true
   ·subst c6
    have H1:((tree_Stmt_at_tree_sameStmt.f k l0_3 l1_3).bind fun t366=>(if t366=true then ((tree_Stmt_at_tree_sameStmt.f k l0_4 l1_4).bind fun t367=>(some t367)) else (some false)))=some r:=by rw [if_pos rfl] at H;exact H
    clear H
    have H:=H1
    clear H1
    replace H:=Option.bind_eq_some_iff.mp H
    obtain ⟨t366,A70,H⟩:=H
    replace H:(if t366=true then ((tree_Stmt_at_tree_sameStmt.f k l0_4 l1_4).bind fun t367=>(some t367)) else (some false))=some r:=H
    have A7:=Aside0.mk A70
    clear A70
    by_cases c8:t366=true
    ·subst c8
     have H1:((tree_Stmt_at_tree_sameStmt.f k l0_4 l1_4).bind fun t367=>(some t367))=some r:=by rw [if_pos rfl] at H;exact H
     clear H
     have H:=H1
     clear H1
     replace H:=Option.bind_eq_some_iff.mp H
     obtain ⟨t367,A90,H⟩:=H
     replace H:(some t367)=some r:=H
     have A9:=Aside0.mk A90
     clear A90
     obtain rfl:=Option.some.inj H
     go_enter Tryd.func48,Tryd.ntmps48
     go_wp2_with (first|((with_reducible refine gate_dst (N:=2) rfl ?_);refine box_event ?hg (N:=2) ?hd (cs:=#[.string a0_0,.string a0_1,.slice A0_2 l0_2.length c0_2,.slice A0_3 l0_3.length c0_3,.slice A0_4 l0_4.length c0_4,.int .i64 a0_5]) (t:=76) ?hr ?_;(case hd=>rfl);(case hg=>rfl);(case hr=>first|(go_simp;done)|(go_simp;rfl));intro gb363 hg w10 hbox hb;have n0_:=Aside0.mk (below_step (bl_ HB.out) hb);have n1_:=Aside0.mk (hbox);have n2_:=Aside0.mk ((gs_ hg (bl_ HB.out):w.heap.size≤gb363));have n3_:=Aside0.mk ((gs_ hg (bl_ HB.out):w.heap.size≤gb363));clear HB;have HB:=n0_;have BK363:=n1_;have GW363:=n2_;have GE363:=n3_;clear n0_ n1_ n2_ n3_;clear hb hbox hg)|((with_reducible refine gate_dst (N:=3) rfl ?_);refine box_event ?hg (N:=3) ?hd (cs:=#[.string a1_0,.string a1_1,.slice A1_2 l1_2.length c1_2,.slice A1_3 l1_3.length c1_3,.slice A1_4 l1_4.length c1_4,.int .i64 a1_5]) (t:=76) ?hr ?_;(case hd=>rfl);(case hg=>rfl);(case hr=>first|(go_simp;done)|(go_simp;rfl));intro gb364 hg w11 hbox hb;have n0_:=Aside0.mk (bb_ BK363.out hb);have n1_:=Aside0.mk (below_step (bl_ HB.out) hb);have n2_:=Aside0.mk (hbox);have n3_:=Aside0.mk ((gs_ hg (bl_ HB.out):w.heap.size≤gb364));have n4_:=Aside0.mk ((gs_ hg (bl_ HB.out):w.heap.size≤gb364));have n5_:=Aside0.mk ((nl_ hg BK363.out:gb363≠gb364));have n6_:=Aside0.mk ((nr_ hg BK363.out:gb364≠gb363));clear BK363;clear HB;have BK363:=n0_;have HB:=n1_;have BK364:=n2_;have GW364:=n3_;have GE364:=n4_;have NB363_364:=n5_;have NB364_363:=n6_;clear n0_ n1_ n2_ n3_ n4_ n5_ n6_;clear hb hbox hg;have hnb12:=NB363_364.out;have hnc12:=NB364_363.out;have hcz13_0:w11.cell? ⟨gb363,0,none⟩=some (.string a0_0):=zc_ BK363.out 0;have hcz13_1:w11.cell? ⟨gb363,1,none⟩=some (.string a0_1):=zc_ BK363.out 1;have hcz13_2:w11.cell? ⟨gb363,2,none⟩=some (.slice A0_2 l0_2.length c0_2):=zc_ BK363.out 2;have hcz13_3:w11.cell? ⟨gb363,3,none⟩=some (.slice A0_3 l0_3.length c0_3):=zc_ BK363.out 3;have hcz13_4:w11.cell? ⟨gb363,4,none⟩=some (.slice A0_4 l0_4.length c0_4):=zc_ BK363.out 4;have hcz13_5:w11.cell? ⟨gb363,5,none⟩=some (.int .i64 a0_5):=zc_ BK363.out 5;have hfz13_0:=blk_frozen BK363.out 0;have hfz13_1:=blk_frozen BK363.out 1;have hfz13_2:=blk_frozen BK363.out 2;have hfz13_3:=blk_frozen BK363.out 3;have hfz13_4:=blk_frozen BK363.out 4;have hfz13_5:=blk_frozen BK363.out 5;have hcz14_0:w11.cell? ⟨gb364,0,none⟩=some (.string a1_0):=zc_ BK364.out 0;have hcz14_1:w11.cell? ⟨gb364,1,none⟩=some (.string a1_1):=zc_ BK364.out 1;have hcz14_2:w11.cell? ⟨gb364,2,none⟩=some (.slice A1_2 l1_2.length c1_2):=zc_ BK364.out 2;have hcz14_3:w11.cell? ⟨gb364,3,none⟩=some (.slice A1_3 l1_3.length c1_3):=zc_ BK364.out 3;have hcz14_4:w11.cell? ⟨gb364,4,none⟩=some (.slice A1_4 l1_4.length c1_4):=zc_ BK364.out 4;have hcz14_5:w11.cell? ⟨gb364,5,none⟩=some (.int .i64 a1_5):=zc_ BK364.out 5;have hfz14_0:=blk_frozen BK364.out 0;have hfz14_1:=blk_frozen BK364.out 1;have hfz14_2:=blk_frozen BK364.out 2;have hfz14_3:=blk_frozen BK364.out 3;have hfz14_4:=blk_frozen BK364.out 4;have hfz14_5:=blk_frozen BK364.out 5)|(go_at_call 43;(with_reducible refine (tree_Expr_at_tree_SameExpr.calls k _ _ l0_2 _ _ l1_2 true _ ?side1 ?side2 ?side3 ?side4 A5.out).mono ?_);(case side1=>exact kc_ HR0_2.out HB.out);(case side2=>exact HC0_2.out);(case side3=>exact kc_ HR1_2.out HB.out);(case side4=>exact HC1_2.out);rintro e w15 ⟨rfl,hb⟩;have n0_:=Aside0.mk (bb_ BK363.out hb);have n1_:=Aside0.mk (bb_ BK364.out hb);have n2_:=Aside0.mk (below_step (bl_ HB.out) hb);clear BK363;clear BK364;clear HB;have BK363:=n0_;have BK364:=n1_;have HB:=n2_;clear n0_ n1_ n2_;(try clear hb);(try clear hb2);(try clear hk);(try clear hi);have hcz16_0:w15.cell? ⟨gb363,0,none⟩=some (.string a0_0):=zc_ BK363.out 0;have hcz16_1:w15.cell? ⟨gb363,1,none⟩=some (.string a0_1):=zc_ BK363.out 1;have hcz16_2:w15.cell? ⟨gb363,2,none⟩=some (.slice A0_2 l0_2.length c0_2):=zc_ BK363.out 2;have hcz16_3:w15.cell? ⟨gb363,3,none⟩=some (.slice A0_3 l0_3.length c0_3):=zc_ BK363.out 3;have hcz16_4:w15.cell? ⟨gb363,4,none⟩=some (.slice A0_4 l0_4.length c0_4):=zc_ BK363.out 4;have hcz16_5:w15.cell? ⟨gb363,5,none⟩=some (.int .i64 a0_5):=zc_ BK363.out 5;have hfz16_0:=blk_frozen BK363.out 0;have hfz16_1:=blk_frozen BK363.out 1;have hfz16_2:=blk_frozen BK363.out 2;have hfz16_3:=blk_frozen BK363.out 3;have hfz16_4:=blk_frozen BK363.out 4;have hfz16_5:=blk_frozen BK363.out 5;have hcz17_0:w15.cell? ⟨gb364,0,none⟩=some (.string a1_0):=zc_ BK364.out 0;have hcz17_1:w15.cell? ⟨gb364,1,none⟩=some (.string a1_1):=zc_ BK364.out 1;have hcz17_2:w15.cell? ⟨gb364,2,none⟩=some (.slice A1_2 l1_2.length c1_2):=zc_ BK364.out 2;have hcz17_3:w15.cell? ⟨gb364,3,none⟩=some (.slice A1_3 l1_3.length c1_3):=zc_ BK364.out 3;have hcz17_4:w15.cell? ⟨gb364,4,none⟩=some (.slice A1_4 l1_4.length c1_4):=zc_ BK364.out 4;have hcz17_5:w15.cell? ⟨gb364,5,none⟩=some (.int .i64 a1_5):=zc_ BK364.out 5;have hfz17_0:=blk_frozen BK364.out 0;have hfz17_1:=blk_frozen BK364.out 1;have hfz17_2:=blk_frozen BK364.out 2;have hfz17_3:=blk_frozen BK364.out 3;have hfz17_4:=blk_frozen BK364.out 4;have hfz17_5:=blk_frozen BK364.out 5)|(go_at_call 47;(with_reducible refine (ih47 k (by omega) _ _ l0_3 _ _ l1_3 true _ ?side1 ?side2 ?side3 ?side4 A7.out).mono ?_);(case side1=>exact kc_ HR0_3.out HB.out);(case side2=>exact HC0_3.out);(case side3=>exact kc_ HR1_3.out HB.out);(case side4=>exact HC1_3.out);rintro e w18 ⟨rfl,hb⟩;have n0_:=Aside0.mk (bb_ BK363.out hb);have n1_:=Aside0.mk (bb_ BK364.out hb);have n2_:=Aside0.mk (below_step (bl_ HB.out) hb);clear BK363;clear BK364;clear HB;have BK363:=n0_;have BK364:=n1_;have HB:=n2_;clear n0_ n1_ n2_;(try clear hb);(try clear hb2);(try clear hk);(try clear hi);have hcz19_0:w18.cell? ⟨gb363,0,none⟩=some (.string a0_0):=zc_ BK363.out 0;have hcz19_1:w18.cell? ⟨gb363,1,none⟩=some (.string a0_1):=zc_ BK363.out 1;have hcz19_2:w18.cell? ⟨gb363,2,none⟩=some (.slice A0_2 l0_2.length c0_2):=zc_ BK363.out 2;have hcz19_3:w18.cell? ⟨gb363,3,none⟩=some (.slice A0_3 l0_3.length c0_3):=zc_ BK363.out 3;have hcz19_4:w18.cell? ⟨gb363,4,none⟩=some (.slice A0_4 l0_4.length c0_4):=zc_ BK363.out 4;have hcz19_5:w18.cell? ⟨gb363,5,none⟩=some (.int .i64 a0_5):=zc_ BK363.out 5;have hfz19_0:=blk_frozen BK363.out 0;have hfz19_1:=blk_frozen BK363.out 1;have hfz19_2:=blk_frozen BK363.out 2;have hfz19_3:=blk_frozen BK363.out 3;have hfz19_4:=blk_frozen BK363.out 4;have hfz19_5:=blk_frozen BK363.out 5;have hcz20_0:w18.cell? ⟨gb364,0,none⟩=some (.string a1_0):=zc_ BK364.out 0;have hcz20_1:w18.cell? ⟨gb364,1,none⟩=some (.string a1_1):=zc_ BK364.out 1;have hcz20_2:w18.cell? ⟨gb364,2,none⟩=some (.slice A1_2 l1_2.length c1_2):=zc_ BK364.out 2;have hcz20_3:w18.cell? ⟨gb364,3,none⟩=some (.slice A1_3 l1_3.length c1_3):=zc_ BK364.out 3;have hcz20_4:w18.cell? ⟨gb364,4,none⟩=some (.slice A1_4 l1_4.length c1_4):=zc_ BK364.out 4;have hcz20_5:w18.cell? ⟨gb364,5,none⟩=some (.int .i64 a1_5):=zc_ BK364.out 5;have hfz20_0:=blk_frozen BK364.out 0;have hfz20_1:=blk_frozen BK364.out 1;have hfz20_2:=blk_frozen BK364.out 2;have hfz20_3:=blk_frozen BK364.out 3;have hfz20_4:=blk_frozen BK364.out 4;have hfz20_5:=blk_frozen BK364.out 5)|(go_at_call 47;(with_reducible refine (ih47 k (by omega) _ _ l0_4 _ _ l1_4 t367 _ ?side1 ?side2 ?side3 ?side4 A9.out).mono ?_);(case side1=>exact kc_ HR0_4.out HB.out);(case side2=>exact HC0_4.out);(case side3=>exact kc_ HR1_4.out HB.out);(case side4=>exact HC1_4.out);rintro e w21 ⟨rfl,hb⟩;have n0_:=Aside0.mk (bb_ BK363.out hb);have n1_:=Aside0.mk (bb_ BK364.out hb);have n2_:=Aside0.mk (below_step (bl_ HB.out) hb);clear BK363;clear BK364;clear HB;have BK363:=n0_;have BK364:=n1_;have HB:=n2_;clear n0_ n1_ n2_;(try clear hb);(try clear hb2);(try clear hk);(try clear hi)))
     go_ret
     exact ⟨rt_,bl_ HB.out⟩
    ·replace c8:=Bool.eq_false_iff.mpr c8
     subst c8
     have H1:(some false)=some r:=by rw [if_neg (show ¬ (false=true) by decide)] at H;exact H
     clear H
     have H:=H1
     clear H1
     obtain rfl:=Option.some.inj H
     go_enter Tryd.func48,Tryd.ntmps48
     go_wp2_with (first|((with_reducible refine gate_dst (N:=2) rfl ?_);refine box_event ?hg (N:=2) ?hd (cs:=#[.string a0_0,.string a0_1,.slice A0_2 l0_2.length c0_2,.slice A0_3 l0_3.length c0_3,.slice A0_4 l0_4.length c0_4,.int .i64 a0_5]) (t:=76) ?hr ?_;(case hd=>rfl);(case hg=>rfl);(case hr=>first|(go_simp;done)|(go_simp;rfl));intro gb363 hg w22 hbox hb;have n0_:=Aside0.mk (below_step (bl_ HB.out) hb);have n1_:=Aside0.mk (hbox);have n2_:=Aside0.mk ((gs_ hg (bl_ HB.out):w.heap.size≤gb363));have n3_:=Aside0.mk ((gs_ hg (bl_ HB.out):w.heap.size≤gb363));clear HB;have HB:=n0_;have BK363:=n1_;have GW363:=n2_;have GE363:=n3_;clear n0_ n1_ n2_ n3_;clear hb hbox hg)|((with_reducible refine gate_dst (N:=3) rfl ?_);refine box_event ?hg (N:=3) ?hd (cs:=#[.string a1_0,.string a1_1,.slice A1_2 l1_2.length c1_2,.slice A1_3 l1_3.length c1_3,.slice A1_4 l1_4.length c1_4,.int .i64 a1_5]) (t:=76) ?hr ?_;(case hd=>rfl);(case hg=>rfl);(case hr=>first|(go_simp;done)|(go_simp;rfl));intro gb364 hg w23 hbox hb;have n0_:=Aside0.mk (bb_ BK363.out hb);have n1_:=Aside0.mk (below_step (bl_ HB.out) hb);have n2_:=Aside0.mk (hbox);have n3_:=Aside0.mk ((gs_ hg (bl_ HB.out):w.heap.size≤gb364));have n4_:=Aside0.mk ((gs_ hg (bl_ HB.out):w.heap.size≤gb364));have n5_:=Aside0.mk ((nl_ hg BK363.out:gb363≠gb364));have n6_:=Aside0.mk ((nr_ hg BK363.out:gb364≠gb363));clear BK363;clear HB;have BK363:=n0_;have HB:=n1_;have BK364:=n2_;have GW364:=n3_;have GE364:=n4_;have NB363_364:=n5_;have NB364_363:=n6_;clear n0_ n1_ n2_ n3_ n4_ n5_ n6_;clear hb hbox hg;have hnb24:=NB363_364.out;have hnc24:=NB364_363.out;have hcz25_0:w23.cell? ⟨gb363,0,none⟩=some (.string a0_0):=zc_ BK363.out 0;have hcz25_1:w23.cell? ⟨gb363,1,none⟩=some (.string a0_1):=zc_ BK363.out 1;have hcz25_2:w23.cell? ⟨gb363,2,none⟩=some (.slice A0_2 l0_2.length c0_2):=zc_ BK363.out 2;have hcz25_3:w23.cell? ⟨gb363,3,none⟩=some (.slice A0_3 l0_3.length c0_3):=zc_ BK363.out 3;have hcz25_4:w23.cell? ⟨gb363,4,none⟩=some (.slice A0_4 l0_4.length c0_4):=zc_ BK363.out 4;have hcz25_5:w23.cell? ⟨gb363,5,none⟩=some (.int .i64 a0_5):=zc_ BK363.out 5;have hfz25_0:=blk_frozen BK363.out 0;have hfz25_1:=blk_frozen BK363.out 1;have hfz25_2:=blk_frozen BK363.out 2;have hfz25_3:=blk_frozen BK363.out 3;have hfz25_4:=blk_frozen BK363.out 4;have hfz25_5:=blk_frozen BK363.out 5;have hcz26_0:w23.cell? ⟨gb364,0,none⟩=some (.string a1_0):=zc_ BK364.out 0;have hcz26_1:w23.cell? ⟨gb364,1,none⟩=some (.string a1_1):=zc_ BK364.out 1;have hcz26_2:w23.cell? ⟨gb364,2,none⟩=some (.slice A1_2 l1_2.length c1_2):=zc_ BK364.out 2;have hcz26_3:w23.cell? ⟨gb364,3,none⟩=some (.slice A1_3 l1_3.length c1_3):=zc_ BK364.out 3;have hcz26_4:w23.cell? ⟨gb364,4,none⟩=some (.slice A1_4 l1_4.length c1_4):=zc_ BK364.out 4;have hcz26_5:w23.cell? ⟨gb364,5,none⟩=some (.int .i64 a1_5):=zc_ BK364.out 5;have hfz26_0:=blk_frozen BK364.out 0;have hfz26_1:=blk_frozen BK364.out 1;have hfz26_2:=blk_frozen BK364.out 2;have hfz26_3:=blk_frozen BK364.out 3;have hfz26_4:=blk_frozen BK364.out 4;have hfz26_5:=blk_frozen BK364.out 5)|(go_at_call 43;(with_reducible refine (tree_Expr_at_tree_SameExpr.calls k _ _ l0_2 _ _ l1_2 true _ ?side1 ?side2 ?side3 ?side4 A5.out).mono ?_);(case side1=>exact kc_ HR0_2.out HB.out);(case side2=>exact HC0_2.out);(case side3=>exact kc_ HR1_2.out HB.out);(case side4=>exact HC1_2.out);rintro e w27 ⟨rfl,hb⟩;have n0_:=Aside0.mk (bb_ BK363.out hb);have n1_:=Aside0.mk (bb_ BK364.out hb);have n2_:=Aside0.mk (below_step (bl_ HB.out) hb);clear BK363;clear BK364;clear HB;have BK363:=n0_;have BK364:=n1_;have HB:=n2_;clear n0_ n1_ n2_;(try clear hb);(try clear hb2);(try clear hk);(try clear hi);have hcz28_0:w27.cell? ⟨gb363,0,none⟩=some (.string a0_0):=zc_ BK363.out 0;have hcz28_1:w27.cell? ⟨gb363,1,none⟩=some (.string a0_1):=zc_ BK363.out 1;have hcz28_2:w27.cell? ⟨gb363,2,none⟩=some (.slice A0_2 l0_2.length c0_2):=zc_ BK363.out 2;have hcz28_3:w27.cell? ⟨gb363,3,none⟩=some (.slice A0_3 l0_3.length c0_3):=zc_ BK363.out 3;have hcz28_4:w27.cell? ⟨gb363,4,none⟩=some (.slice A0_4 l0_4.length c0_4):=zc_ BK363.out 4;have hcz28_5:w27.cell? ⟨gb363,5,none⟩=some (.int .i64 a0_5):=zc_ BK363.out 5;have hfz28_0:=blk_frozen BK363.out 0;have hfz28_1:=blk_frozen BK363.out 1;have hfz28_2:=blk_frozen BK363.out 2;have hfz28_3:=blk_frozen BK363.out 3;have hfz28_4:=blk_frozen BK363.out 4;have hfz28_5:=blk_frozen BK363.out 5;have hcz29_0:w27.cell? ⟨gb364,0,none⟩=some (.string a1_0):=zc_ BK364.out 0;have hcz29_1:w27.cell? ⟨gb364,1,none⟩=some (.string a1_1):=zc_ BK364.out 1;have hcz29_2:w27.cell? ⟨gb364,2,none⟩=some (.slice A1_2 l1_2.length c1_2):=zc_ BK364.out 2;have hcz29_3:w27.cell? ⟨gb364,3,none⟩=some (.slice A1_3 l1_3.length c1_3):=zc_ BK364.out 3;have hcz29_4:w27.cell? ⟨gb364,4,none⟩=some (.slice A1_4 l1_4.length c1_4):=zc_ BK364.out 4;have hcz29_5:w27.cell? ⟨gb364,5,none⟩=some (.int .i64 a1_5):=zc_ BK364.out 5;have hfz29_0:=blk_frozen BK364.out 0;have hfz29_1:=blk_frozen BK364.out 1;have hfz29_2:=blk_frozen BK364.out 2;have hfz29_3:=blk_frozen BK364.out 3;have hfz29_4:=blk_frozen BK364.out 4;have hfz29_5:=blk_frozen BK364.out 5)|(go_at_call 47;(with_reducible refine (ih47 k (by omega) _ _ l0_3 _ _ l1_3 false _ ?side1 ?side2 ?side3 ?side4 A7.out).mono ?_);(case side1=>exact kc_ HR0_3.out HB.out);(case side2=>exact HC0_3.out);(case side3=>exact kc_ HR1_3.out HB.out);(case side4=>exact HC1_3.out);rintro e w30 ⟨rfl,hb⟩;have n0_:=Aside0.mk (bb_ BK363.out hb);have n1_:=Aside0.mk (bb_ BK364.out hb);have n2_:=Aside0.mk (below_step (bl_ HB.out) hb);clear BK363;clear BK364;clear HB;have BK363:=n0_;have BK364:=n1_;have HB:=n2_;clear n0_ n1_ n2_;(try clear hb);(try clear hb2);(try clear hk);(try clear hi)))
     go_ret
     exact ⟨rt_,bl_ HB.out⟩
   ·replace c6:=Bool.eq_false_iff.mpr c6
    subst c6
    have H1:(some false)=some r:=by rw [if_neg (show ¬ (false=true) by decide)] at H;exact H
    clear H
    have H:=H1
    clear H1
    obtain rfl:=Option.some.inj H
    go_enter Tryd.func48,Tryd.ntmps48
    go_wp2_with (first|((with_reducible refine gate_dst (N:=2) rfl ?_);refine box_event ?hg (N:=2) ?hd (cs:=#[.string a0_0,.string a0_1,.slice A0_2 l0_2.length c0_2,.slice A0_3 l0_3.length c0_3,.slice A0_4 l0_4.length c0_4,.int .i64 a0_5]) (t:=76) ?hr ?_;(case hd=>rfl);(case hg=>rfl);(case hr=>first|(go_simp;done)|(go_simp;rfl));intro gb363 hg w31 hbox hb;have n0_:=Aside0.mk (below_step (bl_ HB.out) hb);have n1_:=Aside0.mk (hbox);have n2_:=Aside0.mk ((gs_ hg (bl_ HB.out):w.heap.size≤gb363));have n3_:=Aside0.mk ((gs_ hg (bl_ HB.out):w.heap.size≤gb363));clear HB;have HB:=n0_;have BK363:=n1_;have GW363:=n2_;have GE363:=n3_;clear n0_ n1_ n2_ n3_;clear hb hbox hg)|((with_reducible refine gate_dst (N:=3) rfl ?_);refine box_event ?hg (N:=3) ?hd (cs:=#[.string a1_0,.string a1_1,.slice A1_2 l1_2.length c1_2,.slice A1_3 l1_3.length c1_3,.slice A1_4 l1_4.length c1_4,.int .i64 a1_5]) (t:=76) ?hr ?_;(case hd=>rfl);(case hg=>rfl);(case hr=>first|(go_simp;done)|(go_simp;rfl));intro gb364 hg w32 hbox hb;have n0_:=Aside0.mk (bb_ BK363.out hb);have n1_:=Aside0.mk (below_step (bl_ HB.out) hb);have n2_:=Aside0.mk (hbox);have n3_:=Aside0.mk ((gs_ hg (bl_ HB.out):w.heap.size≤gb364));have n4_:=Aside0.mk ((gs_ hg (bl_ HB.out):w.heap.size≤gb364));have n5_:=Aside0.mk ((nl_ hg BK363.out:gb363≠gb364));have n6_:=Aside0.mk ((nr_ hg BK363.out:gb364≠gb363));clear BK363;clear HB;have BK363:=n0_;have HB:=n1_;have BK364:=n2_;have GW364:=n3_;have GE364:=n4_;have NB363_364:=n5_;have NB364_363:=n6_;clear n0_ n1_ n2_ n3_ n4_ n5_ n6_;clear hb hbox hg;have hnb33:=NB363_364.out;have hnc33:=NB364_363.out;have hcz34_0:w32.cell? ⟨gb363,0,none⟩=some (.string a0_0):=zc_ BK363.out 0;have hcz34_1:w32.cell? ⟨gb363,1,none⟩=some (.string a0_1):=zc_ BK363.out 1;have hcz34_2:w32.cell? ⟨gb363,2,none⟩=some (.slice A0_2 l0_2.length c0_2):=zc_ BK363.out 2;have hcz34_3:w32.cell? ⟨gb363,3,none⟩=some (.slice A0_3 l0_3.length c0_3):=zc_ BK363.out 3;have hcz34_4:w32.cell? ⟨gb363,4,none⟩=some (.slice A0_4 l0_4.length c0_4):=zc_ BK363.out 4;have hcz34_5:w32.cell? ⟨gb363,5,none⟩=some (.int .i64 a0_5):=zc_ BK363.out 5;have hfz34_0:=blk_frozen BK363.out 0;have hfz34_1:=blk_frozen BK363.out 1;have hfz34_2:=blk_frozen BK363.out 2;have hfz34_3:=blk_frozen BK363.out 3;have hfz34_4:=blk_frozen BK363.out 4;have hfz34_5:=blk_frozen BK363.out 5;have hcz35_0:w32.cell? ⟨gb364,0,none⟩=some (.string a1_0):=zc_ BK364.out 0;have hcz35_1:w32.cell? ⟨gb364,1,none⟩=some (.string a1_1):=zc_ BK364.out 1;have hcz35_2:w32.cell? ⟨gb364,2,none⟩=some (.slice A1_2 l1_2.length c1_2):=zc_ BK364.out 2;have hcz35_3:w32.cell? ⟨gb364,3,none⟩=some (.slice A1_3 l1_3.length c1_3):=zc_ BK364.out 3;have hcz35_4:w32.cell? ⟨gb364,4,none⟩=some (.slice A1_4 l1_4.length c1_4):=zc_ BK364.out 4;have hcz35_5:w32.cell? ⟨gb364,5,none⟩=some (.int .i64 a1_5):=zc_ BK364.out 5;have hfz35_0:=blk_frozen BK364.out 0;have hfz35_1:=blk_frozen BK364.out 1;have hfz35_2:=blk_frozen BK364.out 2;have hfz35_3:=blk_frozen BK364.out 3;have hfz35_4:=blk_frozen BK364.out 4;have hfz35_5:=blk_frozen BK364.out 5)|(go_at_call 43;(with_reducible refine (tree_Expr_at_tree_SameExpr.calls k _ _ l0_2 _ _ l1_2 false _ ?side1 ?side2 ?side3 ?side4 A5.out).mono ?_);(case side1=>exact kc_ HR0_2.out HB.out);(case side2=>exact HC0_2.out);(case side3=>exact kc_ HR1_2.out HB.out);(case side4=>exact HC1_2.out);rintro e w36 ⟨rfl,hb⟩;have n0_:=Aside0.mk (bb_ BK363.out hb);have n1_:=Aside0.mk (bb_ BK364.out hb);have n2_:=Aside0.mk (below_step (bl_ HB.out) hb);clear BK363;clear BK364;clear HB;have BK363:=n0_;have BK364:=n1_;have HB:=n2_;clear n0_ n1_ n2_;(try clear hb);(try clear hb2);(try clear hk);(try clear hi)))
    go_ret
    exact ⟨rt_,bl_ HB.out⟩
  ·rw [if_neg c4] at H
   have c4b0:(a0_1.toList == a1_1.toList)=false:=beq_eq_false_iff_ne.mpr c4
   have c4b1:(a0_1.toList != a1_1.toList)=true:=bne_iff_ne.mpr c4
   obtain rfl:=Option.some.inj H
   go_enter Tryd.func48,Tryd.ntmps48
   go_wp2_with (first|((with_reducible refine gate_dst (N:=2) rfl ?_);refine box_event ?hg (N:=2) ?hd (cs:=#[.string a0_0,.string a0_1,.slice A0_2 l0_2.length c0_2,.slice A0_3 l0_3.length c0_3,.slice A0_4 l0_4.length c0_4,.int .i64 a0_5]) (t:=76) ?hr ?_;(case hd=>rfl);(case hg=>rfl);(case hr=>first|(go_simp;done)|(go_simp;rfl));intro gb363 hg w37 hbox hb;have n0_:=Aside0.mk (below_step (bl_ HB.out) hb);have n1_:=Aside0.mk (hbox);have n2_:=Aside0.mk ((gs_ hg (bl_ HB.out):w.heap.size≤gb363));have n3_:=Aside0.mk ((gs_ hg (bl_ HB.out):w.heap.size≤gb363));clear HB;have HB:=n0_;have BK363:=n1_;have GW363:=n2_;have GE363:=n3_;clear n0_ n1_ n2_ n3_;clear hb hbox hg)|((with_reducible refine gate_dst (N:=3) rfl ?_);refine box_event ?hg (N:=3) ?hd (cs:=#[.string a1_0,.string a1_1,.slice A1_2 l1_2.length c1_2,.slice A1_3 l1_3.length c1_3,.slice A1_4 l1_4.length c1_4,.int .i64 a1_5]) (t:=76) ?hr ?_;(case hd=>rfl);(case hg=>rfl);(case hr=>first|(go_simp;done)|(go_simp;rfl));intro gb364 hg w38 hbox hb;have n0_:=Aside0.mk (bb_ BK363.out hb);have n1_:=Aside0.mk (below_step (bl_ HB.out) hb);have n2_:=Aside0.mk (hbox);have n3_:=Aside0.mk ((gs_ hg (bl_ HB.out):w.heap.size≤gb364));have n4_:=Aside0.mk ((gs_ hg (bl_ HB.out):w.heap.size≤gb364));have n5_:=Aside0.mk ((nl_ hg BK363.out:gb363≠gb364));have n6_:=Aside0.mk ((nr_ hg BK363.out:gb364≠gb363));clear BK363;clear HB;have BK363:=n0_;have HB:=n1_;have BK364:=n2_;have GW364:=n3_;have GE364:=n4_;have NB363_364:=n5_;have NB364_363:=n6_;clear n0_ n1_ n2_ n3_ n4_ n5_ n6_;clear hb hbox hg;have hnb39:=NB363_364.out;have hnc39:=NB364_363.out;have hcz40_0:w38.cell? ⟨gb363,0,none⟩=some (.string a0_0):=zc_ BK363.out 0;have hcz40_1:w38.cell? ⟨gb363,1,none⟩=some (.string a0_1):=zc_ BK363.out 1;have hcz40_2:w38.cell? ⟨gb363,2,none⟩=some (.slice A0_2 l0_2.length c0_2):=zc_ BK363.out 2;have hcz40_3:w38.cell? ⟨gb363,3,none⟩=some (.slice A0_3 l0_3.length c0_3):=zc_ BK363.out 3;have hcz40_4:w38.cell? ⟨gb363,4,none⟩=some (.slice A0_4 l0_4.length c0_4):=zc_ BK363.out 4;have hcz40_5:w38.cell? ⟨gb363,5,none⟩=some (.int .i64 a0_5):=zc_ BK363.out 5;have hfz40_0:=blk_frozen BK363.out 0;have hfz40_1:=blk_frozen BK363.out 1;have hfz40_2:=blk_frozen BK363.out 2;have hfz40_3:=blk_frozen BK363.out 3;have hfz40_4:=blk_frozen BK363.out 4;have hfz40_5:=blk_frozen BK363.out 5;have hcz41_0:w38.cell? ⟨gb364,0,none⟩=some (.string a1_0):=zc_ BK364.out 0;have hcz41_1:w38.cell? ⟨gb364,1,none⟩=some (.string a1_1):=zc_ BK364.out 1;have hcz41_2:w38.cell? ⟨gb364,2,none⟩=some (.slice A1_2 l1_2.length c1_2):=zc_ BK364.out 2;have hcz41_3:w38.cell? ⟨gb364,3,none⟩=some (.slice A1_3 l1_3.length c1_3):=zc_ BK364.out 3;have hcz41_4:w38.cell? ⟨gb364,4,none⟩=some (.slice A1_4 l1_4.length c1_4):=zc_ BK364.out 4;have hcz41_5:w38.cell? ⟨gb364,5,none⟩=some (.int .i64 a1_5):=zc_ BK364.out 5;have hfz41_0:=blk_frozen BK364.out 0;have hfz41_1:=blk_frozen BK364.out 1;have hfz41_2:=blk_frozen BK364.out 2;have hfz41_3:=blk_frozen BK364.out 3;have hfz41_4:=blk_frozen BK364.out 4;have hfz41_5:=blk_frozen BK364.out 5))
   go_ret
   exact ⟨rt_,bl_ HB.out⟩
 ·rw [if_neg c3] at H
  have c3b0:(a0_0.toList == a1_0.toList)=false:=beq_eq_false_iff_ne.mpr c3
  have c3b1:(a0_0.toList != a1_0.toList)=true:=bne_iff_ne.mpr c3
  obtain rfl:=Option.some.inj H
  go_enter Tryd.func48,Tryd.ntmps48
  go_wp2_with (first|((with_reducible refine gate_dst (N:=2) rfl ?_);refine box_event ?hg (N:=2) ?hd (cs:=#[.string a0_0,.string a0_1,.slice A0_2 l0_2.length c0_2,.slice A0_3 l0_3.length c0_3,.slice A0_4 l0_4.length c0_4,.int .i64 a0_5]) (t:=76) ?hr ?_;(case hd=>rfl);(case hg=>rfl);(case hr=>first|(go_simp;done)|(go_simp;rfl));intro gb363 hg w42 hbox hb;have n0_:=Aside0.mk (below_step (bl_ HB.out) hb);have n1_:=Aside0.mk (hbox);have n2_:=Aside0.mk ((gs_ hg (bl_ HB.out):w.heap.size≤gb363));have n3_:=Aside0.mk ((gs_ hg (bl_ HB.out):w.heap.size≤gb363));clear HB;have HB:=n0_;have BK363:=n1_;have GW363:=n2_;have GE363:=n3_;clear n0_ n1_ n2_ n3_;clear hb hbox hg)|((with_reducible refine gate_dst (N:=3) rfl ?_);refine box_event ?hg (N:=3) ?hd (cs:=#[.string a1_0,.string a1_1,.slice A1_2 l1_2.length c1_2,.slice A1_3 l1_3.length c1_3,.slice A1_4 l1_4.length c1_4,.int .i64 a1_5]) (t:=76) ?hr ?_;(case hd=>rfl);(case hg=>rfl);(case hr=>first|(go_simp;done)|(go_simp;rfl));intro gb364 hg w43 hbox hb;have n0_:=Aside0.mk (bb_ BK363.out hb);have n1_:=Aside0.mk (below_step (bl_ HB.out) hb);have n2_:=Aside0.mk (hbox);have n3_:=Aside0.mk ((gs_ hg (bl_ HB.out):w.heap.size≤gb364));have n4_:=Aside0.mk ((gs_ hg (bl_ HB.out):w.heap.size≤gb364));have n5_:=Aside0.mk ((nl_ hg BK363.out:gb363≠gb364));have n6_:=Aside0.mk ((nr_ hg BK363.out:gb364≠gb363));clear BK363;clear HB;have BK363:=n0_;have HB:=n1_;have BK364:=n2_;have GW364:=n3_;have GE364:=n4_;have NB363_364:=n5_;have NB364_363:=n6_;clear n0_ n1_ n2_ n3_ n4_ n5_ n6_;clear hb hbox hg;have hnb44:=NB363_364.out;have hnc44:=NB364_363.out;have hcz45_0:w43.cell? ⟨gb363,0,none⟩=some (.string a0_0):=zc_ BK363.out 0;have hcz45_1:w43.cell? ⟨gb363,1,none⟩=some (.string a0_1):=zc_ BK363.out 1;have hcz45_2:w43.cell? ⟨gb363,2,none⟩=some (.slice A0_2 l0_2.length c0_2):=zc_ BK363.out 2;have hcz45_3:w43.cell? ⟨gb363,3,none⟩=some (.slice A0_3 l0_3.length c0_3):=zc_ BK363.out 3;have hcz45_4:w43.cell? ⟨gb363,4,none⟩=some (.slice A0_4 l0_4.length c0_4):=zc_ BK363.out 4;have hcz45_5:w43.cell? ⟨gb363,5,none⟩=some (.int .i64 a0_5):=zc_ BK363.out 5;have hfz45_0:=blk_frozen BK363.out 0;have hfz45_1:=blk_frozen BK363.out 1;have hfz45_2:=blk_frozen BK363.out 2;have hfz45_3:=blk_frozen BK363.out 3;have hfz45_4:=blk_frozen BK363.out 4;have hfz45_5:=blk_frozen BK363.out 5;have hcz46_0:w43.cell? ⟨gb364,0,none⟩=some (.string a1_0):=zc_ BK364.out 0;have hcz46_1:w43.cell? ⟨gb364,1,none⟩=some (.string a1_1):=zc_ BK364.out 1;have hcz46_2:w43.cell? ⟨gb364,2,none⟩=some (.slice A1_2 l1_2.length c1_2):=zc_ BK364.out 2;have hcz46_3:w43.cell? ⟨gb364,3,none⟩=some (.slice A1_3 l1_3.length c1_3):=zc_ BK364.out 3;have hcz46_4:w43.cell? ⟨gb364,4,none⟩=some (.slice A1_4 l1_4.length c1_4):=zc_ BK364.out 4;have hcz46_5:w43.cell? ⟨gb364,5,none⟩=some (.int .i64 a1_5):=zc_ BK364.out 5;have hfz46_0:=blk_frozen BK364.out 0;have hfz46_1:=blk_frozen BK364.out 1;have hfz46_2:=blk_frozen BK364.out 2;have hfz46_3:=blk_frozen BK364.out 3;have hfz46_4:=blk_frozen BK364.out 4;have hfz46_5:=blk_frozen BK364.out 5))
  go_ret
  exact ⟨rt_,bl_ HB.out⟩
end Go.Proofs.YtnnbbeloifhofaaDoor.P
end
section
namespace Go.Proofs.YtnnbbeloifhofaaDoor.P
open Go.RowKit Go.Proofs.YtnnbbeloifhofaaDoorW.PrintWords Go.Proofs.YtnnbbeloifhofaaDoorW.PrintLast Go.Proofs.YtnnbbeloifhofaaDoorW.PrintMore
attribute [local go_sem] max2_int min2_int max_two min_two max_three min_three max_four min_four
set_option linter.unusedVariables false
set_option linter.unusedSimpArgs false
theorem tree_Stmt_at_tree_sameStmt_ring.all (k:Nat):tree_Stmt_at_tree_sameStmt.Stmt k∧tree_sameStmt.Stmt k:=by
  induction k using Nat.strongRecOn with
  | _ k ih=>
  exact ⟨tree_Stmt_at_tree_sameStmt.step k (fun m_ h_=>(ih m_ h_).1) (fun m_ h_=>(ih m_ h_).2),tree_sameStmt.step k (fun m_ h_=>(ih m_ h_).1) (fun m_ h_=>(ih m_ h_).2)⟩
theorem tree_Stmt_at_tree_sameStmt.calls (k:Nat):tree_Stmt_at_tree_sameStmt.Stmt k:=(tree_Stmt_at_tree_sameStmt_ring.all k).1
end Go.Proofs.YtnnbbeloifhofaaDoor.P
end
section
namespace Go.Proofs.YtnnbbeloifhofaaDoor.P
open Go.RowKit Go.Proofs.YtnnbbeloifhofaaDoorW.PrintWords Go.Proofs.YtnnbbeloifhofaaDoorW.PrintLast Go.Proofs.YtnnbbeloifhofaaDoorW.PrintMore
attribute [local go_sem] max2_int min2_int max_two min_two max_three min_three max_four min_four
set_option linter.unusedVariables false
set_option linter.unusedSimpArgs false
def tree_Same_2.f (k:Nat) (a0_0:ByteArray) (l0_1:List (S76)) (a1_0:ByteArray) (l1_1:List (S76)):Option (Bool):=if a0_0.toList=a1_0.toList then ((tree_Stmt_at_tree_sameStmt.f k l0_1 l1_1).bind fun t370=>(some t370)) else (some false)
set_option maxHeartbeats 8000000 in
set_option maxRecDepth 100000 in
theorem tree_Same_2.calls (k:Nat) (a0_0:ByteArray) (A0_1:Option Addr) (c0_1:Nat) (l0_1:List (S76)) (a1_0:ByteArray) (A1_1:Option Addr) (c1_1:Nat) (l1_1:List (S76)) (r:Bool) (w:World) (hr0_1:Kd.C k76 w A0_1 l0_1.length l0_1) (hc0_1:l0_1.length≤c0_1) (hr1_1:Kd.C k76 w A1_1 l1_1.length l1_1) (hc1_1:l1_1.length≤c1_1) (h:tree_Same_2.f k a0_0 l0_1 a1_0 l1_1=some r) :
  Calls Tryd.prog 46 #[.agg #[.string a0_0,.slice A0_1 l0_1.length c0_1],.agg #[.string a1_0,.slice A1_1 l1_1.length c1_1]] w fun e w'=>e=.returned (.bool r)∧Below w.heap.size w w':=by
 have hu66:=Tryd.underlying66
 have HR0_1:=Aside0.mk hr0_1
 have HC0_1:=Aside0.mk hc0_1
 clear hr0_1 hc0_1
 have HR1_1:=Aside0.mk hr1_1
 have HC1_1:=Aside0.mk hc1_1
 clear hr1_1 hc1_1
 have HB:=Aside0.mk (Below.refl w.heap.size w)
 have H:(if a0_0.toList=a1_0.toList then ((tree_Stmt_at_tree_sameStmt.f k l0_1 l1_1).bind fun t370=>(some t370)) else (some false))=some r:=h
 clear h
 by_cases c3:a0_0.toList=a1_0.toList
 ·rw [if_pos c3] at H
  have c3b0:(a0_0.toList == a1_0.toList)=true:=beq_iff_eq.mpr c3
  have c3b1:(a0_0.toList != a1_0.toList)=false:=bne_eq_false_iff_eq.mpr c3
  clear c3
  replace H:=Option.bind_eq_some_iff.mp H
  obtain ⟨t370,A40,H⟩:=H
  replace H:(some t370)=some r:=H
  have A4:=Aside0.mk A40
  clear A40
  obtain rfl:=Option.some.inj H
  go_enter Tryd.func46,Tryd.ntmps46
  go_wp2_with (first|((with_reducible refine gate_dst (N:=2) rfl ?_);refine box_event ?hg (N:=2) ?hd (cs:=#[.string a0_0,.slice A0_1 l0_1.length c0_1]) (t:=66) ?hr ?_;(case hd=>rfl);(case hg=>rfl);(case hr=>first|(go_simp;done)|(go_simp;rfl));intro gb368 hg w5 hbox hb;have n0_:=Aside0.mk (below_step (bl_ HB.out) hb);have n1_:=Aside0.mk (hbox);have n2_:=Aside0.mk ((gs_ hg (bl_ HB.out):w.heap.size≤gb368));have n3_:=Aside0.mk ((gs_ hg (bl_ HB.out):w.heap.size≤gb368));clear HB;have HB:=n0_;have BK368:=n1_;have GW368:=n2_;have GE368:=n3_;clear n0_ n1_ n2_ n3_;clear hb hbox hg)|((with_reducible refine gate_dst (N:=3) rfl ?_);refine box_event ?hg (N:=3) ?hd (cs:=#[.string a1_0,.slice A1_1 l1_1.length c1_1]) (t:=66) ?hr ?_;(case hd=>rfl);(case hg=>rfl);(case hr=>first|(go_simp;done)|(go_simp;rfl));intro gb369 hg w6 hbox hb;have n0_:=Aside0.mk (bb_ BK368.out hb);have n1_:=Aside0.mk (below_step (bl_ HB.out) hb);have n2_:=Aside0.mk (hbox);have n3_:=Aside0.mk ((gs_ hg (bl_ HB.out):w.heap.size≤gb369));have n4_:=Aside0.mk ((gs_ hg (bl_ HB.out):w.heap.size≤gb369));have n5_:=Aside0.mk ((nl_ hg BK368.out:gb368≠gb369));have n6_:=Aside0.mk ((nr_ hg BK368.out:gb369≠gb368));clear BK368;clear HB;have BK368:=n0_;have HB:=n1_;have BK369:=n2_;have GW369:=n3_;have GE369:=n4_;have NB368_369:=n5_;have NB369_368:=n6_;clear n0_ n1_ n2_ n3_ n4_ n5_ n6_;clear hb hbox hg;have hnb7:=NB368_369.out;have hnc7:=NB369_368.out;have hcz8_0:w6.cell? ⟨gb368,0,none⟩=some (.string a0_0):=zc_ BK368.out 0;have hcz8_1:w6.cell? ⟨gb368,1,none⟩=some (.slice A0_1 l0_1.length c0_1):=zc_ BK368.out 1;have hfz8_0:=blk_frozen BK368.out 0;have hfz8_1:=blk_frozen BK368.out 1;have hcz9_0:w6.cell? ⟨gb369,0,none⟩=some (.string a1_0):=zc_ BK369.out 0;have hcz9_1:w6.cell? ⟨gb369,1,none⟩=some (.slice A1_1 l1_1.length c1_1):=zc_ BK369.out 1;have hfz9_0:=blk_frozen BK369.out 0;have hfz9_1:=blk_frozen BK369.out 1)|(go_at_call 47;(with_reducible refine (tree_Stmt_at_tree_sameStmt.calls k _ _ l0_1 _ _ l1_1 t370 _ ?side1 ?side2 ?side3 ?side4 A4.out).mono ?_);(case side1=>exact kc_ HR0_1.out HB.out);(case side2=>exact HC0_1.out);(case side3=>exact kc_ HR1_1.out HB.out);(case side4=>exact HC1_1.out);rintro e w10 ⟨rfl,hb⟩;have n0_:=Aside0.mk (bb_ BK368.out hb);have n1_:=Aside0.mk (bb_ BK369.out hb);have n2_:=Aside0.mk (below_step (bl_ HB.out) hb);clear BK368;clear BK369;clear HB;have BK368:=n0_;have BK369:=n1_;have HB:=n2_;clear n0_ n1_ n2_;(try clear hb);(try clear hb2);(try clear hk);(try clear hi)))
  go_ret
  exact ⟨rt_,bl_ HB.out⟩
 ·rw [if_neg c3] at H
  have c3b0:(a0_0.toList == a1_0.toList)=false:=beq_eq_false_iff_ne.mpr c3
  have c3b1:(a0_0.toList != a1_0.toList)=true:=bne_iff_ne.mpr c3
  obtain rfl:=Option.some.inj H
  go_enter Tryd.func46,Tryd.ntmps46
  go_wp2_with (first|((with_reducible refine gate_dst (N:=2) rfl ?_);refine box_event ?hg (N:=2) ?hd (cs:=#[.string a0_0,.slice A0_1 l0_1.length c0_1]) (t:=66) ?hr ?_;(case hd=>rfl);(case hg=>rfl);(case hr=>first|(go_simp;done)|(go_simp;rfl));intro gb368 hg w11 hbox hb;have n0_:=Aside0.mk (below_step (bl_ HB.out) hb);have n1_:=Aside0.mk (hbox);have n2_:=Aside0.mk ((gs_ hg (bl_ HB.out):w.heap.size≤gb368));have n3_:=Aside0.mk ((gs_ hg (bl_ HB.out):w.heap.size≤gb368));clear HB;have HB:=n0_;have BK368:=n1_;have GW368:=n2_;have GE368:=n3_;clear n0_ n1_ n2_ n3_;clear hb hbox hg)|((with_reducible refine gate_dst (N:=3) rfl ?_);refine box_event ?hg (N:=3) ?hd (cs:=#[.string a1_0,.slice A1_1 l1_1.length c1_1]) (t:=66) ?hr ?_;(case hd=>rfl);(case hg=>rfl);(case hr=>first|(go_simp;done)|(go_simp;rfl));intro gb369 hg w12 hbox hb;have n0_:=Aside0.mk (bb_ BK368.out hb);have n1_:=Aside0.mk (below_step (bl_ HB.out) hb);have n2_:=Aside0.mk (hbox);have n3_:=Aside0.mk ((gs_ hg (bl_ HB.out):w.heap.size≤gb369));have n4_:=Aside0.mk ((gs_ hg (bl_ HB.out):w.heap.size≤gb369));have n5_:=Aside0.mk ((nl_ hg BK368.out:gb368≠gb369));have n6_:=Aside0.mk ((nr_ hg BK368.out:gb369≠gb368));clear BK368;clear HB;have BK368:=n0_;have HB:=n1_;have BK369:=n2_;have GW369:=n3_;have GE369:=n4_;have NB368_369:=n5_;have NB369_368:=n6_;clear n0_ n1_ n2_ n3_ n4_ n5_ n6_;clear hb hbox hg;have hnb13:=NB368_369.out;have hnc13:=NB369_368.out;have hcz14_0:w12.cell? ⟨gb368,0,none⟩=some (.string a0_0):=zc_ BK368.out 0;have hcz14_1:w12.cell? ⟨gb368,1,none⟩=some (.slice A0_1 l0_1.length c0_1):=zc_ BK368.out 1;have hfz14_0:=blk_frozen BK368.out 0;have hfz14_1:=blk_frozen BK368.out 1;have hcz15_0:w12.cell? ⟨gb369,0,none⟩=some (.string a1_0):=zc_ BK369.out 0;have hcz15_1:w12.cell? ⟨gb369,1,none⟩=some (.slice A1_1 l1_1.length c1_1):=zc_ BK369.out 1;have hfz15_0:=blk_frozen BK369.out 0;have hfz15_1:=blk_frozen BK369.out 1))
  go_ret
  exact ⟨rt_,bl_ HB.out⟩
end Go.Proofs.YtnnbbeloifhofaaDoor.P
end
