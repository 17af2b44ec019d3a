/- Texts of this claim, joined. -/
import Derived.Test.YtnnbbeloifhofaaDoorCTreeSameUpto0
import Derived.Test.YtnnbbeloifhofaaDoorCTreeSameUpto1
import Derived.Lib.ItoaLen
section
namespace Go.Proofs.YtnnbbeloifhofaaDoor.P
open Go.RowKit Go.Proofs.YtnnbbeloifhofaaDoorW.PrintWords Go.Proofs.YtnnbbeloifhofaaDoorW.PrintLast Go.Proofs.YtnnbbeloifhofaaDoorW.PrintMore
attribute [local go_sem] max2_int min2_int max_two min_two max_three min_three max_four min_four
set_option linter.unusedVariables false
set_option linter.unusedSimpArgs false
def tree_Proc_at_tree_Same_2.l0:Nat→List (S66)→List (S66)→Int→Int→Option (Bool)
 | 0,_,_,_,_=>none
 | k+1,x1,x15,x16,x17=>if x17 < x16 then (if 0≤x17 then (if x17 < (x15.length:Int) then (if x17 < (x1.length:Int) then ((tree_Same_2.f k ((rd_T66 x15 x17).f0) ((rd_T66 x15 x17).f1) ((rd_T66 x1 x17).f0) ((rd_T66 x1 x17).f1)).bind fun t375=>(if t375=true then (tree_Proc_at_tree_Same_2.l0 k x1 x15 x16 (wrap64 (x17+1))) else (some false))) else (none)) else (none)) else (none)) else (some true)
def tree_Proc_at_tree_Same_2.f (k:Nat) (l0:List (S66)) (l1:List (S66))  : Option (Bool):=if (l0.length:Int)=(l1.length:Int) then (tree_Proc_at_tree_Same_2.l0 k l1 l0 (l0.length:Int) 0) else (some false)
set_option maxHeartbeats 8000000 in
set_option maxRecDepth 100000 in
theorem tree_Proc_at_tree_Same_2.calls (k:Nat) (A0:Option Addr) (c0:Nat) (l0:List (S66)) (A1:Option Addr) (c1:Nat) (l1:List (S66))  (r:Bool) (w:World) (hr0:Kd.C k66 w A0 l0.length l0) (hc0:l0.length≤c0) (hr1:Kd.C k66 w A1 l1.length l1) (hc1:l1.length≤c1) (h:tree_Proc_at_tree_Same_2.f k l0 l1=some r) :
  Calls Tryd.prog 51 #[.slice A0 l0.length c0,.slice A1 l1.length c1,.func (.func 46) #[] #[]] w fun e w'=>e=.returned (.bool r)∧Below w.heap.size w w':=by
 have hu66:=Tryd.underlying66
 have HR0:=Aside0.mk hr0
 have HC0:=Aside0.mk hc0
 clear hr0 hc0
 have HR1:=Aside0.mk hr1
 have HC1:=Aside0.mk hc1
 clear hr1 hc1
 have HB:=Aside0.mk (Below.refl w.heap.size w)
 have H:(if (l0.length:Int)=(l1.length:Int) then (tree_Proc_at_tree_Same_2.l0 k l1 l0 (l0.length:Int) 0) else (some false))=some r:=h
 clear h
 by_cases c4:(l0.length:Int)=(l1.length:Int)
 ·rw [if_pos c4] at H
  have c4b0:((l0.length:Int) == (l1.length:Int))=true:=beq_iff_eq.mpr c4
  have c4b1:((l0.length:Int) != (l1.length:Int))=false:=bne_eq_false_iff_eq.mpr c4
  have c4b2:(l0.length == l1.length)=true:=by first|simpa using c4|(simp at c4 ⊢;omega)
  clear c4
  have H':=Aside0.mk H
  clear H
  go_enter Tryd.func51,Tryd.ntmps51
  go_wp2
  (try simp only [Act.put,List.setIfInBounds_toArray,List.set_cons_succ,List.set_cons_zero])
  go_loopg [17] k (fun kq v17 w'=>∃ (x17_1:Int),v17=.int .i64 x17_1∧Aside0 (tree_Proc_at_tree_Same_2.l0 kq l1 l0 (l0.length:Int) x17_1=some r)∧Aside0 (kq≤k)∧Aside0 (Below w.heap.size w w'))
  case atStart=>exact ⟨(0),rf_,H',⟨Nat.le_refl _⟩,⟨bl_ HB.out⟩⟩
  case round=>
   clear H'
   (try clear c1);(try clear p2);(try clear c4);(try clear c4b0);(try clear c4b1);(try clear c4b2)
   obtain ⟨x17_1,rfl,HA,HK1,HB⟩:=hrel
   cases gk with
   | zero=>exact absurd HA.out (by simp [tree_Proc_at_tree_Same_2.l0])
   | succ k1=>
    have H:=HA.out
    clear HA
    simp only [tree_Proc_at_tree_Same_2.l0] at H
    by_cases c5:x17_1 < (l0.length:Int)
    ·rw [if_pos c5] at H
     have c5b0:decide (x17_1 < (l0.length:Int))=true:=decide_eq_true c5
     clear c5
     by_cases c6:0≤x17_1
     ·rw [if_pos c6] at H
      have c6b0:decide (0≤x17_1)=true:=decide_eq_true c6
      clear c6
      by_cases c7:x17_1 < (l0.length:Int)
      ·rw [if_pos c7] at H
       have c7b0:decide (x17_1 < (l0.length:Int))=true:=decide_eq_true c7
       clear c7
       by_cases c8:x17_1 < (l1.length:Int)
       ·rw [if_pos c8] at H
        have c8b0:decide (x17_1 < (l1.length:Int))=true:=decide_eq_true c8
        clear c8
        replace H:=Option.bind_eq_some_iff.mp H
        obtain ⟨t375,A90,H⟩:=H
        replace H:(if t375=true then (tree_Proc_at_tree_Same_2.l0 k1 l1 l0 (l0.length:Int) (wrap64 (x17_1+1))) else (some false))=some r:=H
        have A9:=Aside0.mk A90
        clear A90
        by_cases c10:t375=true
        ·subst c10
         have H1:(tree_Proc_at_tree_Same_2.l0 k1 l1 l0 (l0.length:Int) (wrap64 (x17_1+1)))=some r:=by rw [if_pos rfl] at H;exact H
         clear H
         have H:=H1
         clear H1
         have H':=Aside0.mk H
         clear H
         have p371:0≤(x17_1:Int):=of_decide_eq_true as_
         have q371:x17_1 < (l0.length:Int):=of_decide_eq_true as_
         obtain ⟨ad371,A371_1,c371_1,e371,hx371_0,hx371_1,hl371_1,hi371_1⟩:=at_T66 HR0.out x17_1 p371 q371
         cases e371
         replace hx371_0:=(cb_ HB.out hx371_0:_)
         replace hx371_1:=(cb_ HB.out hx371_1:_)
         have HR371_1:=Aside0.mk hi371_1
         have HC371_1:=Aside0.mk hl371_1
         clear hi371_1 hl371_1
         replace p371:=eq_true p371
         replace q371:=eq_true q371
         go_wp2_with (first|((with_reducible refine gate_dst (N:=8) rfl ?_);refine box_event ?hg (N:=8) ?hd (cs:=#[.string (⟨#[]⟩:ByteArray),.slice none 0 0]) (t:=66) ?hr ?_;(case hd=>rfl);(case hg=>rfl);(case hr=>first|(go_simp;done)|(go_simp;rfl));intro gb372 hg w11 hbox hb;have n0_:=Aside0.mk (below_step (bl_ HB.out) hb);have n1_:=Aside0.mk (hbox);have n2_:=Aside0.mk ((gs_ hg (bl_ HB.out):w.heap.size≤gb372));have n3_:=Aside0.mk ((gs_ hg (bl_ HB.out):w.heap.size≤gb372));clear HB;have HB:=n0_;have BK372:=n1_;have GW372:=n2_;have GE372:=n3_;clear n0_ n1_ n2_ n3_;clear hb hbox hg;have hcz12_0:w11.cell? ⟨gb372,0,none⟩=some (.string (⟨#[]⟩:ByteArray)):=zc_ BK372.out 0;have hcz12_1:w11.cell? ⟨gb372,1,none⟩=some (.slice none 0 0):=zc_ BK372.out 1;have hfz12_0:=blk_frozen BK372.out 0;have hfz12_1:=blk_frozen BK372.out 1;have p373:0≤(x17_1:Int):=of_decide_eq_true as_;have q373:x17_1 < (l1.length:Int):=of_decide_eq_true as_;obtain ⟨ad373,A373_1,c373_1,e373,hx373_0,hx373_1,hl373_1,hi373_1⟩:=at_T66 HR1.out x17_1 p373 q373;cases e373;have hn373_0:ad373.block≠gb372:=Nat.ne_of_lt (Nat.lt_of_lt_of_le (by have:=World.block_lt_of_cell? _ _ hx373_0;first|rwa [add_block] at this|exact this) GW372.out);have hn373_1:ad373.block≠gb372:=Nat.ne_of_lt (Nat.lt_of_lt_of_le (by have:=World.block_lt_of_cell? _ _ hx373_0;first|rwa [add_block] at this|exact this) GW372.out);replace hx373_0:=(cb_ HB.out hx373_0:_);replace hx373_1:=(cb_ HB.out hx373_1:_);have HR373_1:=Aside0.mk hi373_1;have HC373_1:=Aside0.mk hl373_1;clear hi373_1 hl373_1;replace hx373_0:=(cell_far (p:=⟨gb372,0,none⟩) (ab_ hn373_0) (.string ((rd_T66 l0 x17_1).f0))).trans hx373_0;replace hx373_1:=(cell_far (p:=⟨gb372,0,none⟩) (ab_ hn373_0) (.string ((rd_T66 l0 x17_1).f0))).trans hx373_1;replace hx373_0:=(cell_far (p:=⟨gb372,1,none⟩) (ab_ hn373_1) (.slice A371_1 ((rd_T66 l0 x17_1).f1).length c371_1)).trans hx373_0;replace hx373_1:=(cell_far (p:=⟨gb372,1,none⟩) (ab_ hn373_1) (.slice A371_1 ((rd_T66 l0 x17_1).f1).length c371_1)).trans hx373_1;clear hn373_0;clear hn373_1;replace p373:=eq_true p373;replace q373:=eq_true q373)|((with_reducible refine gate_dst (N:=9) rfl ?_);refine box_event ?hg (N:=9) ?hd (cs:=#[.string (⟨#[]⟩:ByteArray),.slice none 0 0]) (t:=66) ?hr ?_;(case hd=>rfl);(case hg=>rfl);(case hr=>first|(go_simp;done)|(go_simp;rfl));intro gb374 hg w13 hbox hb;have n0_:=Aside0.mk (blk_below (g:=gb372) (o:=.cells #[.string ((rd_T66 l0 x17_1).f0),.slice A371_1 ((rd_T66 l0 x17_1).f1).length c371_1] 66 (0,0)) (kbc_ BK372.out) hb);have n1_:=Aside0.mk (below_step (bl_ HB.out) hb);have n2_:=Aside0.mk (hbox);have n3_:=Aside0.mk ((gs_ hg (bl_ HB.out):w.heap.size≤gb374));have n4_:=Aside0.mk ((gs_ hg (bl_ HB.out):w.heap.size≤gb374));have n5_:=Aside0.mk ((by rw [hg];exact Nat.ne_of_lt (blk_lt (g:=gb372) (o:=.cells #[.string ((rd_T66 l0 x17_1).f0),.slice A371_1 ((rd_T66 l0 x17_1).f1).length c371_1] 66 (0,0)) (kbc_ BK372.out)):gb372≠gb374));have n6_:=Aside0.mk ((by rw [hg];exact Nat.ne_of_gt (blk_lt (g:=gb372) (o:=.cells #[.string ((rd_T66 l0 x17_1).f0),.slice A371_1 ((rd_T66 l0 x17_1).f1).length c371_1] 66 (0,0)) (kbc_ BK372.out)):gb374≠gb372));clear BK372;clear HB;have BK372:=n0_;have HB:=n1_;have BK374:=n2_;have GW374:=n3_;have GE374:=n4_;have NB372_374:=n5_;have NB374_372:=n6_;clear n0_ n1_ n2_ n3_ n4_ n5_ n6_;clear hb hbox hg;have hnb14:=NB374_372.out;have hnc14:=NB372_374.out;have hcz15_0:w13.cell? ⟨gb374,0,none⟩=some (.string (⟨#[]⟩:ByteArray)):=zc_ BK374.out 0;have hcz15_1:w13.cell? ⟨gb374,1,none⟩=some (.slice none 0 0):=zc_ BK374.out 1;have hfz15_0:=blk_frozen BK374.out 0;have hfz15_1:=blk_frozen BK374.out 1;have hcz16_0:w13.cell? ⟨gb372,0,none⟩=some (.string ((rd_T66 l0 x17_1).f0)):=zc_ BK372.out 0;have hcz16_1:w13.cell? ⟨gb372,1,none⟩=some (.slice A371_1 ((rd_T66 l0 x17_1).f1).length c371_1):=zc_ BK372.out 1;have hfz16_0:=blk_frozen BK372.out 0;have hfz16_1:=blk_frozen BK372.out 1)|((with_reducible refine (tree_Same_2.calls k1 ((rd_T66 l0 x17_1).f0) _ _ ((rd_T66 l0 x17_1).f1) ((rd_T66 l1 x17_1).f0) _ _ ((rd_T66 l1 x17_1).f1) true _ ?side1 ?side2 ?side3 ?side4 A9.out).mono ?_);(case side1=>exact Kd.C_below HR371_1.out (bl_ HB.out));(case side2=>exact HC371_1.out);(case side3=>exact Kd.C_below HR373_1.out (bl_ HB.out));(case side4=>exact HC373_1.out);rintro e w17 ⟨rfl,hb⟩;have n0_:=Aside0.mk (blk_below (g:=gb372) (o:=.cells #[.string ((rd_T66 l0 x17_1).f0),.slice A371_1 ((rd_T66 l0 x17_1).f1).length c371_1] 66 (0,0)) (kbc_ BK372.out) hb);have n1_:=Aside0.mk (blk_below (g:=gb374) (o:=.cells #[.string ((rd_T66 l1 x17_1).f0),.slice A373_1 ((rd_T66 l1 x17_1).f1).length c373_1] 66 (0,0)) (kbc_ BK374.out) hb);have n2_:=Aside0.mk (below_step (bl_ HB.out) hb);clear BK372;clear BK374;clear HB;have BK372:=n0_;have BK374:=n1_;have HB:=n2_;clear n0_ n1_ n2_;(try clear hb);(try clear hb2);(try clear hk);(try clear hi)))
         go_roundg k1
         case measure=>have:=HK1.out;omega
         case rel=>exact ⟨(wrap64 (x17_1+1)),rf_,H',⟨by have:=HK1.out;omega⟩,⟨bl_ HB.out⟩⟩
        ·replace c10:=Bool.eq_false_iff.mpr c10
         subst c10
         have H1:(some false)=some r:=by rw [if_neg (show ¬ (false=true) by decide)] at H;exact H
         clear H
         have H:=H1
         clear H1
         obtain rfl:=Option.some.inj H
         have p371:0≤(x17_1:Int):=of_decide_eq_true as_
         have q371:x17_1 < (l0.length:Int):=of_decide_eq_true as_
         obtain ⟨ad371,A371_1,c371_1,e371,hx371_0,hx371_1,hl371_1,hi371_1⟩:=at_T66 HR0.out x17_1 p371 q371
         cases e371
         replace hx371_0:=(cb_ HB.out hx371_0:_)
         replace hx371_1:=(cb_ HB.out hx371_1:_)
         have HR371_1:=Aside0.mk hi371_1
         have HC371_1:=Aside0.mk hl371_1
         clear hi371_1 hl371_1
         replace p371:=eq_true p371
         replace q371:=eq_true q371
         go_wp2_with (first|((with_reducible refine gate_dst (N:=8) rfl ?_);refine box_event ?hg (N:=8) ?hd (cs:=#[.string (⟨#[]⟩:ByteArray),.slice none 0 0]) (t:=66) ?hr ?_;(case hd=>rfl);(case hg=>rfl);(case hr=>first|(go_simp;done)|(go_simp;rfl));intro gb372 hg w18 hbox hb;have n0_:=Aside0.mk (below_step (bl_ HB.out) hb);have n1_:=Aside0.mk (hbox);have n2_:=Aside0.mk ((gs_ hg (bl_ HB.out):w.heap.size≤gb372));have n3_:=Aside0.mk ((gs_ hg (bl_ HB.out):w.heap.size≤gb372));clear HB;have HB:=n0_;have BK372:=n1_;have GW372:=n2_;have GE372:=n3_;clear n0_ n1_ n2_ n3_;clear hb hbox hg;have hcz19_0:w18.cell? ⟨gb372,0,none⟩=some (.string (⟨#[]⟩:ByteArray)):=zc_ BK372.out 0;have hcz19_1:w18.cell? ⟨gb372,1,none⟩=some (.slice none 0 0):=zc_ BK372.out 1;have hfz19_0:=blk_frozen BK372.out 0;have hfz19_1:=blk_frozen BK372.out 1;have p373:0≤(x17_1:Int):=of_decide_eq_true as_;have q373:x17_1 < (l1.length:Int):=of_decide_eq_true as_;obtain ⟨ad373,A373_1,c373_1,e373,hx373_0,hx373_1,hl373_1,hi373_1⟩:=at_T66 HR1.out x17_1 p373 q373;cases e373;have hn373_0:ad373.block≠gb372:=Nat.ne_of_lt (Nat.lt_of_lt_of_le (by have:=World.block_lt_of_cell? _ _ hx373_0;first|rwa [add_block] at this|exact this) GW372.out);have hn373_1:ad373.block≠gb372:=Nat.ne_of_lt (Nat.lt_of_lt_of_le (by have:=World.block_lt_of_cell? _ _ hx373_0;first|rwa [add_block] at this|exact this) GW372.out);replace hx373_0:=(cb_ HB.out hx373_0:_);replace hx373_1:=(cb_ HB.out hx373_1:_);have HR373_1:=Aside0.mk hi373_1;have HC373_1:=Aside0.mk hl373_1;clear hi373_1 hl373_1;replace hx373_0:=(cell_far (p:=⟨gb372,0,none⟩) (ab_ hn373_0) (.string ((rd_T66 l0 x17_1).f0))).trans hx373_0;replace hx373_1:=(cell_far (p:=⟨gb372,0,none⟩) (ab_ hn373_0) (.string ((rd_T66 l0 x17_1).f0))).trans hx373_1;replace hx373_0:=(cell_far (p:=⟨gb372,1,none⟩) (ab_ hn373_1) (.slice A371_1 ((rd_T66 l0 x17_1).f1).length c371_1)).trans hx373_0;replace hx373_1:=(cell_far (p:=⟨gb372,1,none⟩) (ab_ hn373_1) (.slice A371_1 ((rd_T66 l0 x17_1).f1).length c371_1)).trans hx373_1;clear hn373_0;clear hn373_1;replace p373:=eq_true p373;replace q373:=eq_true q373)|((with_reducible refine gate_dst (N:=9) rfl ?_);refine box_event ?hg (N:=9) ?hd (cs:=#[.string (⟨#[]⟩:ByteArray),.slice none 0 0]) (t:=66) ?hr ?_;(case hd=>rfl);(case hg=>rfl);(case hr=>first|(go_simp;done)|(go_simp;rfl));intro gb374 hg w20 hbox hb;have n0_:=Aside0.mk (blk_below (g:=gb372) (o:=.cells #[.string ((rd_T66 l0 x17_1).f0),.slice A371_1 ((rd_T66 l0 x17_1).f1).length c371_1] 66 (0,0)) (kbc_ BK372.out) hb);have n1_:=Aside0.mk (below_step (bl_ HB.out) hb);have n2_:=Aside0.mk (hbox);have n3_:=Aside0.mk ((gs_ hg (bl_ HB.out):w.heap.size≤gb374));have n4_:=Aside0.mk ((gs_ hg (bl_ HB.out):w.heap.size≤gb374));have n5_:=Aside0.mk ((by rw [hg];exact Nat.ne_of_lt (blk_lt (g:=gb372) (o:=.cells #[.string ((rd_T66 l0 x17_1).f0),.slice A371_1 ((rd_T66 l0 x17_1).f1).length c371_1] 66 (0,0)) (kbc_ BK372.out)):gb372≠gb374));have n6_:=Aside0.mk ((by rw [hg];exact Nat.ne_of_gt (blk_lt (g:=gb372) (o:=.cells #[.string ((rd_T66 l0 x17_1).f0),.slice A371_1 ((rd_T66 l0 x17_1).f1).length c371_1] 66 (0,0)) (kbc_ BK372.out)):gb374≠gb372));clear BK372;clear HB;have BK372:=n0_;have HB:=n1_;have BK374:=n2_;have GW374:=n3_;have GE374:=n4_;have NB372_374:=n5_;have NB374_372:=n6_;clear n0_ n1_ n2_ n3_ n4_ n5_ n6_;clear hb hbox hg;have hnb21:=NB374_372.out;have hnc21:=NB372_374.out;have hcz22_0:w20.cell? ⟨gb374,0,none⟩=some (.string (⟨#[]⟩:ByteArray)):=zc_ BK374.out 0;have hcz22_1:w20.cell? ⟨gb374,1,none⟩=some (.slice none 0 0):=zc_ BK374.out 1;have hfz22_0:=blk_frozen BK374.out 0;have hfz22_1:=blk_frozen BK374.out 1;have hcz23_0:w20.cell? ⟨gb372,0,none⟩=some (.string ((rd_T66 l0 x17_1).f0)):=zc_ BK372.out 0;have hcz23_1:w20.cell? ⟨gb372,1,none⟩=some (.slice A371_1 ((rd_T66 l0 x17_1).f1).length c371_1):=zc_ BK372.out 1;have hfz23_0:=blk_frozen BK372.out 0;have hfz23_1:=blk_frozen BK372.out 1)|((with_reducible refine (tree_Same_2.calls k1 ((rd_T66 l0 x17_1).f0) _ _ ((rd_T66 l0 x17_1).f1) ((rd_T66 l1 x17_1).f0) _ _ ((rd_T66 l1 x17_1).f1) false _ ?side1 ?side2 ?side3 ?side4 A9.out).mono ?_);(case side1=>exact Kd.C_below HR371_1.out (bl_ HB.out));(case side2=>exact HC371_1.out);(case side3=>exact Kd.C_below HR373_1.out (bl_ HB.out));(case side4=>exact HC373_1.out);rintro e w24 ⟨rfl,hb⟩;have n0_:=Aside0.mk (blk_below (g:=gb372) (o:=.cells #[.string ((rd_T66 l0 x17_1).f0),.slice A371_1 ((rd_T66 l0 x17_1).f1).length c371_1] 66 (0,0)) (kbc_ BK372.out) hb);have n1_:=Aside0.mk (blk_below (g:=gb374) (o:=.cells #[.string ((rd_T66 l1 x17_1).f0),.slice A373_1 ((rd_T66 l1 x17_1).f1).length c373_1] 66 (0,0)) (kbc_ BK374.out) hb);have n2_:=Aside0.mk (below_step (bl_ HB.out) hb);clear BK372;clear BK374;clear HB;have BK372:=n0_;have BK374:=n1_;have HB:=n2_;clear n0_ n1_ n2_;(try clear hb);(try clear hb2);(try clear hk);(try clear hi)))
         go_ret
         exact ⟨rt_,bl_ HB.out⟩
       ·rw [if_neg c8] at H
        exact absurd H (by simp)
      ·rw [if_neg c7] at H
       exact absurd H (by simp)
     ·rw [if_neg c6] at H
      exact absurd H (by simp)
    ·rw [if_neg c5] at H
     have c5b0:decide (x17_1 < (l0.length:Int))=false:=decide_eq_false c5
     clear c5
     obtain rfl:=Option.some.inj H
     go_wp2
     go_ret
     exact ⟨rt_,bl_ HB.out⟩
 ·rw [if_neg c4] at H
  have c4b0:((l0.length:Int) == (l1.length:Int))=false:=beq_eq_false_iff_ne.mpr c4
  have c4b1:((l0.length:Int) != (l1.length:Int))=true:=bne_iff_ne.mpr c4
  have c4b2:(l0.length == l1.length)=false:=by first|simpa using c4|(simp at c4 ⊢;omega)
  obtain rfl:=Option.some.inj H
  go_enter Tryd.func51,Tryd.ntmps51
  go_wp2
  go_ret
  exact ⟨rt_,bl_ HB.out⟩
end Go.Proofs.YtnnbbeloifhofaaDoor.P
end
section
namespace Go.Proofs.YtnnbbeloifhofaaDoor.P
open Go.RowKit Go.Proofs.YtnnbbeloifhofaaDoorW.PrintWords Go.Proofs.YtnnbbeloifhofaaDoorW.PrintLast Go.Proofs.YtnnbbeloifhofaaDoorW.PrintMore
attribute [local go_sem] max2_int min2_int max_two min_two max_three min_three max_four min_four
set_option linter.unusedVariables false
set_option linter.unusedSimpArgs false
def tree_Same.f (k:Nat) (l0_0:List (S79)) (l0_1:List (S80)) (l0_2:List (S66)) (l0_3:List (S76)) (l1_0:List (S79)) (l1_1:List (S80)) (l1_2:List (S66)) (l1_3:List (S76)):Option (Bool):=(tree_Enum_at_tree_Same_1.f k l0_0 l1_0).bind fun t378=>(if t378=true then ((tree_Var.f k l0_1 l1_1).bind fun t379=>(if t379=true then ((tree_Proc_at_tree_Same_2.f k l0_2 l1_2).bind fun t380=>(if t380=true then ((tree_Stmt_at_tree_sameStmt.f k l0_3 l1_3).bind fun t381=>(some t381)) else (some false))) else (some false))) else (some false))
set_option maxHeartbeats 8000000 in
set_option maxRecDepth 100000 in
theorem tree_Same.calls (k:Nat) (A0_0:Option Addr) (c0_0:Nat) (l0_0:List (S79)) (A0_1:Option Addr) (c0_1:Nat) (l0_1:List (S80)) (A0_2:Option Addr) (c0_2:Nat) (l0_2:List (S66)) (A0_3:Option Addr) (c0_3:Nat) (l0_3:List (S76)) (A1_0:Option Addr) (c1_0:Nat) (l1_0:List (S79)) (A1_1:Option Addr) (c1_1:Nat) (l1_1:List (S80)) (A1_2:Option Addr) (c1_2:Nat) (l1_2:List (S66)) (A1_3:Option Addr) (c1_3:Nat) (l1_3:List (S76)) (r:Bool) (w:World) (hr0_0:Kd.C k79 w A0_0 l0_0.length l0_0) (hc0_0:l0_0.length≤c0_0) (hr0_1:Kd.C k80 w A0_1 l0_1.length l0_1) (hc0_1:l0_1.length≤c0_1) (hr0_2:Kd.C k66 w A0_2 l0_2.length l0_2) (hc0_2:l0_2.length≤c0_2) (hr0_3:Kd.C k76 w A0_3 l0_3.length l0_3) (hc0_3:l0_3.length≤c0_3) (hr1_0:Kd.C k79 w A1_0 l1_0.length l1_0) (hc1_0:l1_0.length≤c1_0) (hr1_1:Kd.C k80 w A1_1 l1_1.length l1_1) (hc1_1:l1_1.length≤c1_1) (hr1_2:Kd.C k66 w A1_2 l1_2.length l1_2) (hc1_2:l1_2.length≤c1_2) (hr1_3:Kd.C k76 w A1_3 l1_3.length l1_3) (hc1_3:l1_3.length≤c1_3) (h:tree_Same.f k l0_0 l0_1 l0_2 l0_3 l1_0 l1_1 l1_2 l1_3=some r) :
  Calls Tryd.prog 28 #[.agg #[.slice A0_0 l0_0.length c0_0,.slice A0_1 l0_1.length c0_1,.slice A0_2 l0_2.length c0_2,.slice A0_3 l0_3.length c0_3],.agg #[.slice A1_0 l1_0.length c1_0,.slice A1_1 l1_1.length c1_1,.slice A1_2 l1_2.length c1_2,.slice A1_3 l1_3.length c1_3]] w fun e w'=>e=.returned (.bool r)∧Below w.heap.size w w':=by
 have hu50:=Tryd.underlying50
 have HR0_0:=Aside0.mk hr0_0
 have HC0_0:=Aside0.mk hc0_0
 clear hr0_0 hc0_0
 have HR0_1:=Aside0.mk hr0_1
 have HC0_1:=Aside0.mk hc0_1
 clear hr0_1 hc0_1
 have HR0_2:=Aside0.mk hr0_2
 have HC0_2:=Aside0.mk hc0_2
 clear hr0_2 hc0_2
 have HR0_3:=Aside0.mk hr0_3
 have HC0_3:=Aside0.mk hc0_3
 clear hr0_3 hc0_3
 have HR1_0:=Aside0.mk hr1_0
 have HC1_0:=Aside0.mk hc1_0
 clear hr1_0 hc1_0
 have HR1_1:=Aside0.mk hr1_1
 have HC1_1:=Aside0.mk hc1_1
 clear hr1_1 hc1_1
 have HR1_2:=Aside0.mk hr1_2
 have HC1_2:=Aside0.mk hc1_2
 clear hr1_2 hc1_2
 have HR1_3:=Aside0.mk hr1_3
 have HC1_3:=Aside0.mk hc1_3
 clear hr1_3 hc1_3
 have HB:=Aside0.mk (Below.refl w.heap.size w)
 have H:((tree_Enum_at_tree_Same_1.f k l0_0 l1_0).bind fun t378=>(if t378=true then ((tree_Var.f k l0_1 l1_1).bind fun t379=>(if t379=true then ((tree_Proc_at_tree_Same_2.f k l0_2 l1_2).bind fun t380=>(if t380=true then ((tree_Stmt_at_tree_sameStmt.f k l0_3 l1_3).bind fun t381=>(some t381)) else (some false))) else (some false))) else (some false)))=some r:=h
 clear h
 replace H:=Option.bind_eq_some_iff.mp H
 obtain ⟨t378,A30,H⟩:=H
 replace H:(if t378=true then ((tree_Var.f k l0_1 l1_1).bind fun t379=>(if t379=true then ((tree_Proc_at_tree_Same_2.f k l0_2 l1_2).bind fun t380=>(if t380=true then ((tree_Stmt_at_tree_sameStmt.f k l0_3 l1_3).bind fun t381=>(some t381)) else (some false))) else (some false))) else (some false))=some r:=H
 have A3:=Aside0.mk A30
 clear A30
 by_cases c4:t378=true
 ·subst c4
  have H1:((tree_Var.f k l0_1 l1_1).bind fun t379=>(if t379=true then ((tree_Proc_at_tree_Same_2.f k l0_2 l1_2).bind fun t380=>(if t380=true then ((tree_Stmt_at_tree_sameStmt.f k l0_3 l1_3).bind fun t381=>(some t381)) else (some false))) else (some false)))=some r:=by rw [if_pos rfl] at H;exact H
  clear H
  have H:=H1
  clear H1
  replace H:=Option.bind_eq_some_iff.mp H
  obtain ⟨t379,A50,H⟩:=H
  replace H:(if t379=true then ((tree_Proc_at_tree_Same_2.f k l0_2 l1_2).bind fun t380=>(if t380=true then ((tree_Stmt_at_tree_sameStmt.f k l0_3 l1_3).bind fun t381=>(some t381)) else (some false))) else (some false))=some r:=H
  have A5:=Aside0.mk A50
  clear A50
  by_cases c6:t379=true
  ·subst c6
   have H1:((tree_Proc_at_tree_Same_2.f k l0_2 l1_2).bind fun t380=>(if t380=true then ((tree_Stmt_at_tree_sameStmt.f k l0_3 l1_3).bind fun t381=>(some t381)) else (some false)))=some r:=by rw [if_pos rfl] at H;exact H
   clear H
   have H:=H1
   clear H1
   replace H:=Option.bind_eq_some_iff.mp H
   obtain ⟨t380,A70,H⟩:=H
   replace H:(if t380=true then ((tree_Stmt_at_tree_sameStmt.f k l0_3 l1_3).bind fun t381=>(some t381)) else (some false))=some r:=H
   have A7:=Aside0.mk A70
   clear A70
   by_cases c8:t380=true
   ·subst c8
    have H1:((tree_Stmt_at_tree_sameStmt.f k l0_3 l1_3).bind fun t381=>(some t381))=some r:=by rw [if_pos rfl] at H;exact H
    clear H
    have H:=H1
    clear H1
    replace H:=Option.bind_eq_some_iff.mp H
    obtain ⟨t381,A90,H⟩:=H
    replace H:(some t381)=some r:=H
    have A9:=Aside0.mk A90
    clear A90
    obtain rfl:=Option.some.inj H
    go_enter Tryd.func28,Tryd.ntmps28
    go_wp2_with (first|((with_reducible refine gate_dst (N:=2) rfl ?_);refine box_event ?hg (N:=2) ?hd (cs:=#[.slice A0_0 l0_0.length c0_0,.slice A0_1 l0_1.length c0_1,.slice A0_2 l0_2.length c0_2,.slice A0_3 l0_3.length c0_3]) (t:=50) ?hr ?_;(case hd=>rfl);(case hg=>rfl);(case hr=>first|(go_simp;done)|(go_simp;rfl));intro gb376 hg w10 hbox hb;have n0_:=Aside0.mk (below_step (bl_ HB.out) hb);have n1_:=Aside0.mk (hbox);have n2_:=Aside0.mk ((gs_ hg (bl_ HB.out):w.heap.size≤gb376));have n3_:=Aside0.mk ((gs_ hg (bl_ HB.out):w.heap.size≤gb376));clear HB;have HB:=n0_;have BK376:=n1_;have GW376:=n2_;have GE376:=n3_;clear n0_ n1_ n2_ n3_;clear hb hbox hg)|((with_reducible refine gate_dst (N:=3) rfl ?_);refine box_event ?hg (N:=3) ?hd (cs:=#[.slice A1_0 l1_0.length c1_0,.slice A1_1 l1_1.length c1_1,.slice A1_2 l1_2.length c1_2,.slice A1_3 l1_3.length c1_3]) (t:=50) ?hr ?_;(case hd=>rfl);(case hg=>rfl);(case hr=>first|(go_simp;done)|(go_simp;rfl));intro gb377 hg w11 hbox hb;have n0_:=Aside0.mk (bb_ BK376.out hb);have n1_:=Aside0.mk (below_step (bl_ HB.out) hb);have n2_:=Aside0.mk (hbox);have n3_:=Aside0.mk ((gs_ hg (bl_ HB.out):w.heap.size≤gb377));have n4_:=Aside0.mk ((gs_ hg (bl_ HB.out):w.heap.size≤gb377));have n5_:=Aside0.mk ((nl_ hg BK376.out:gb376≠gb377));have n6_:=Aside0.mk ((nr_ hg BK376.out:gb377≠gb376));clear BK376;clear HB;have BK376:=n0_;have HB:=n1_;have BK377:=n2_;have GW377:=n3_;have GE377:=n4_;have NB376_377:=n5_;have NB377_376:=n6_;clear n0_ n1_ n2_ n3_ n4_ n5_ n6_;clear hb hbox hg;have hnb12:=NB376_377.out;have hnc12:=NB377_376.out;have hcz13_0:w11.cell? ⟨gb376,0,none⟩=some (.slice A0_0 l0_0.length c0_0):=zc_ BK376.out 0;have hcz13_1:w11.cell? ⟨gb376,1,none⟩=some (.slice A0_1 l0_1.length c0_1):=zc_ BK376.out 1;have hcz13_2:w11.cell? ⟨gb376,2,none⟩=some (.slice A0_2 l0_2.length c0_2):=zc_ BK376.out 2;have hcz13_3:w11.cell? ⟨gb376,3,none⟩=some (.slice A0_3 l0_3.length c0_3):=zc_ BK376.out 3;have hfz13_0:=blk_frozen BK376.out 0;have hfz13_1:=blk_frozen BK376.out 1;have hfz13_2:=blk_frozen BK376.out 2;have hfz13_3:=blk_frozen BK376.out 3;have hcz14_0:w11.cell? ⟨gb377,0,none⟩=some (.slice A1_0 l1_0.length c1_0):=zc_ BK377.out 0;have hcz14_1:w11.cell? ⟨gb377,1,none⟩=some (.slice A1_1 l1_1.length c1_1):=zc_ BK377.out 1;have hcz14_2:w11.cell? ⟨gb377,2,none⟩=some (.slice A1_2 l1_2.length c1_2):=zc_ BK377.out 2;have hcz14_3:w11.cell? ⟨gb377,3,none⟩=some (.slice A1_3 l1_3.length c1_3):=zc_ BK377.out 3;have hfz14_0:=blk_frozen BK377.out 0;have hfz14_1:=blk_frozen BK377.out 1;have hfz14_2:=blk_frozen BK377.out 2;have hfz14_3:=blk_frozen BK377.out 3)|((with_reducible refine gate_callee (f:=49) rfl ?_);refine goesL_ (some 12) rfl rfl Tryd.func49 (by kernel_rfl) rfl #[.slice A0_0 l0_0.length c0_0,.slice A1_0 l1_0.length c1_0,.func (.func 44) #[] #[]] rfl ar_ ?_;(with_reducible refine (tree_Enum_at_tree_Same_1.calls k _ _ l0_0 _ _ l1_0 true _ ?side1 ?side2 ?side3 ?side4 A3.out).mono ?_);(case side1=>exact kc_ HR0_0.out HB.out);(case side2=>exact HC0_0.out);(case side3=>exact kc_ HR1_0.out HB.out);(case side4=>exact HC1_0.out);rintro e w15 ⟨rfl,hb⟩;refine ⟨_,rfl,?_⟩;have n0_:=Aside0.mk (bb_ BK376.out hb);have n1_:=Aside0.mk (bb_ BK377.out hb);have n2_:=Aside0.mk (below_step (bl_ HB.out) hb);clear BK376;clear BK377;clear HB;have BK376:=n0_;have BK377:=n1_;have HB:=n2_;clear n0_ n1_ n2_;(try clear hb);(try clear hb2);(try clear hk);(try clear hi);have hcz16_0:w15.cell? ⟨gb376,0,none⟩=some (.slice A0_0 l0_0.length c0_0):=zc_ BK376.out 0;have hcz16_1:w15.cell? ⟨gb376,1,none⟩=some (.slice A0_1 l0_1.length c0_1):=zc_ BK376.out 1;have hcz16_2:w15.cell? ⟨gb376,2,none⟩=some (.slice A0_2 l0_2.length c0_2):=zc_ BK376.out 2;have hcz16_3:w15.cell? ⟨gb376,3,none⟩=some (.slice A0_3 l0_3.length c0_3):=zc_ BK376.out 3;have hfz16_0:=blk_frozen BK376.out 0;have hfz16_1:=blk_frozen BK376.out 1;have hfz16_2:=blk_frozen BK376.out 2;have hfz16_3:=blk_frozen BK376.out 3;have hcz17_0:w15.cell? ⟨gb377,0,none⟩=some (.slice A1_0 l1_0.length c1_0):=zc_ BK377.out 0;have hcz17_1:w15.cell? ⟨gb377,1,none⟩=some (.slice A1_1 l1_1.length c1_1):=zc_ BK377.out 1;have hcz17_2:w15.cell? ⟨gb377,2,none⟩=some (.slice A1_2 l1_2.length c1_2):=zc_ BK377.out 2;have hcz17_3:w15.cell? ⟨gb377,3,none⟩=some (.slice A1_3 l1_3.length c1_3):=zc_ BK377.out 3;have hfz17_0:=blk_frozen BK377.out 0;have hfz17_1:=blk_frozen BK377.out 1;have hfz17_2:=blk_frozen BK377.out 2;have hfz17_3:=blk_frozen BK377.out 3)|(go_at_call 50;(with_reducible refine (tree_Var.calls k _ _ l0_1 _ _ l1_1 true _ ?side1 ?side2 ?side3 ?side4 A5.out).mono ?_);(case side1=>exact kc_ HR0_1.out HB.out);(case side2=>exact HC0_1.out);(case side3=>exact kc_ HR1_1.out HB.out);(case side4=>exact HC1_1.out);rintro e w' ⟨rfl,⟨nd,rfl⟩⟩)|(go_at_call 51;(with_reducible refine (tree_Proc_at_tree_Same_2.calls k _ _ l0_2 _ _ l1_2 true _ ?side1 ?side2 ?side3 ?side4 A7.out).mono ?_);(case side1=>repeat (first|exact (Kd.C_below HR0_2.out (bl_ HB.out))|(with_reducible refine Kd.C_alloc ?_ _)|(with_reducible refine Kd.C_drewN ?_ _)|(with_reducible refine Kd.C_drew ?_)));(case side2=>exact HC0_2.out);(case side3=>repeat (first|exact (Kd.C_below HR1_2.out (bl_ HB.out))|(with_reducible refine Kd.C_alloc ?_ _)|(with_reducible refine Kd.C_drewN ?_ _)|(with_reducible refine Kd.C_drew ?_)));(case side4=>exact HC1_2.out);rintro e w18 ⟨rfl,hb⟩;have n0_:=Aside0.mk (bb_ BK376.out hb);have n1_:=Aside0.mk (bb_ BK377.out hb);have n2_:=Aside0.mk (below_step (bl_ HB.out) hb);clear BK376;clear BK377;clear HB;have BK376:=n0_;have BK377:=n1_;have HB:=n2_;clear n0_ n1_ n2_;(try clear hb);(try clear hb2);(try clear hk);(try clear hi);have hcz19_0:w18.cell? ⟨gb376,0,none⟩=some (.slice A0_0 l0_0.length c0_0):=zc_ BK376.out 0;have hcz19_1:w18.cell? ⟨gb376,1,none⟩=some (.slice A0_1 l0_1.length c0_1):=zc_ BK376.out 1;have hcz19_2:w18.cell? ⟨gb376,2,none⟩=some (.slice A0_2 l0_2.length c0_2):=zc_ BK376.out 2;have hcz19_3:w18.cell? ⟨gb376,3,none⟩=some (.slice A0_3 l0_3.length c0_3):=zc_ BK376.out 3;have hfz19_0:=blk_frozen BK376.out 0;have hfz19_1:=blk_frozen BK376.out 1;have hfz19_2:=blk_frozen BK376.out 2;have hfz19_3:=blk_frozen BK376.out 3;have hcz20_0:w18.cell? ⟨gb377,0,none⟩=some (.slice A1_0 l1_0.length c1_0):=zc_ BK377.out 0;have hcz20_1:w18.cell? ⟨gb377,1,none⟩=some (.slice A1_1 l1_1.length c1_1):=zc_ BK377.out 1;have hcz20_2:w18.cell? ⟨gb377,2,none⟩=some (.slice A1_2 l1_2.length c1_2):=zc_ BK377.out 2;have hcz20_3:w18.cell? ⟨gb377,3,none⟩=some (.slice A1_3 l1_3.length c1_3):=zc_ BK377.out 3;have hfz20_0:=blk_frozen BK377.out 0;have hfz20_1:=blk_frozen BK377.out 1;have hfz20_2:=blk_frozen BK377.out 2;have hfz20_3:=blk_frozen BK377.out 3)|(go_at_call 47;(with_reducible refine (tree_Stmt_at_tree_sameStmt.calls k _ _ l0_3 _ _ l1_3 t381 _ ?side1 ?side2 ?side3 ?side4 A9.out).mono ?_);(case side1=>exact kc_ HR0_3.out HB.out);(case side2=>exact HC0_3.out);(case side3=>exact kc_ HR1_3.out HB.out);(case side4=>exact HC1_3.out);rintro e w21 ⟨rfl,hb⟩;have n0_:=Aside0.mk (bb_ BK376.out hb);have n1_:=Aside0.mk (bb_ BK377.out hb);have n2_:=Aside0.mk (below_step (bl_ HB.out) hb);clear BK376;clear BK377;clear HB;have BK376:=n0_;have BK377:=n1_;have HB:=n2_;clear n0_ n1_ n2_;(try clear hb);(try clear hb2);(try clear hk);(try clear hi)))
    go_ret
    exact ⟨rt_,bl_ HB.out⟩
   ·replace c8:=Bool.eq_false_iff.mpr c8
    subst c8
    have H1:(some false)=some r:=by rw [if_neg (show ¬ (false=true) by decide)] at H;exact H
    clear H
    have H:=H1
    clear H1
    obtain rfl:=Option.some.inj H
    go_enter Tryd.func28,Tryd.ntmps28
    go_wp2_with (first|((with_reducible refine gate_dst (N:=2) rfl ?_);refine box_event ?hg (N:=2) ?hd (cs:=#[.slice A0_0 l0_0.length c0_0,.slice A0_1 l0_1.length c0_1,.slice A0_2 l0_2.length c0_2,.slice A0_3 l0_3.length c0_3]) (t:=50) ?hr ?_;(case hd=>rfl);(case hg=>rfl);(case hr=>first|(go_simp;done)|(go_simp;rfl));intro gb376 hg w22 hbox hb;have n0_:=Aside0.mk (below_step (bl_ HB.out) hb);have n1_:=Aside0.mk (hbox);have n2_:=Aside0.mk ((gs_ hg (bl_ HB.out):w.heap.size≤gb376));have n3_:=Aside0.mk ((gs_ hg (bl_ HB.out):w.heap.size≤gb376));clear HB;have HB:=n0_;have BK376:=n1_;have GW376:=n2_;have GE376:=n3_;clear n0_ n1_ n2_ n3_;clear hb hbox hg)|((with_reducible refine gate_dst (N:=3) rfl ?_);refine box_event ?hg (N:=3) ?hd (cs:=#[.slice A1_0 l1_0.length c1_0,.slice A1_1 l1_1.length c1_1,.slice A1_2 l1_2.length c1_2,.slice A1_3 l1_3.length c1_3]) (t:=50) ?hr ?_;(case hd=>rfl);(case hg=>rfl);(case hr=>first|(go_simp;done)|(go_simp;rfl));intro gb377 hg w23 hbox hb;have n0_:=Aside0.mk (bb_ BK376.out hb);have n1_:=Aside0.mk (below_step (bl_ HB.out) hb);have n2_:=Aside0.mk (hbox);have n3_:=Aside0.mk ((gs_ hg (bl_ HB.out):w.heap.size≤gb377));have n4_:=Aside0.mk ((gs_ hg (bl_ HB.out):w.heap.size≤gb377));have n5_:=Aside0.mk ((nl_ hg BK376.out:gb376≠gb377));have n6_:=Aside0.mk ((nr_ hg BK376.out:gb377≠gb376));clear BK376;clear HB;have BK376:=n0_;have HB:=n1_;have BK377:=n2_;have GW377:=n3_;have GE377:=n4_;have NB376_377:=n5_;have NB377_376:=n6_;clear n0_ n1_ n2_ n3_ n4_ n5_ n6_;clear hb hbox hg;have hnb24:=NB376_377.out;have hnc24:=NB377_376.out;have hcz25_0:w23.cell? ⟨gb376,0,none⟩=some (.slice A0_0 l0_0.length c0_0):=zc_ BK376.out 0;have hcz25_1:w23.cell? ⟨gb376,1,none⟩=some (.slice A0_1 l0_1.length c0_1):=zc_ BK376.out 1;have hcz25_2:w23.cell? ⟨gb376,2,none⟩=some (.slice A0_2 l0_2.length c0_2):=zc_ BK376.out 2;have hcz25_3:w23.cell? ⟨gb376,3,none⟩=some (.slice A0_3 l0_3.length c0_3):=zc_ BK376.out 3;have hfz25_0:=blk_frozen BK376.out 0;have hfz25_1:=blk_frozen BK376.out 1;have hfz25_2:=blk_frozen BK376.out 2;have hfz25_3:=blk_frozen BK376.out 3;have hcz26_0:w23.cell? ⟨gb377,0,none⟩=some (.slice A1_0 l1_0.length c1_0):=zc_ BK377.out 0;have hcz26_1:w23.cell? ⟨gb377,1,none⟩=some (.slice A1_1 l1_1.length c1_1):=zc_ BK377.out 1;have hcz26_2:w23.cell? ⟨gb377,2,none⟩=some (.slice A1_2 l1_2.length c1_2):=zc_ BK377.out 2;have hcz26_3:w23.cell? ⟨gb377,3,none⟩=some (.slice A1_3 l1_3.length c1_3):=zc_ BK377.out 3;have hfz26_0:=blk_frozen BK377.out 0;have hfz26_1:=blk_frozen BK377.out 1;have hfz26_2:=blk_frozen BK377.out 2;have hfz26_3:=blk_frozen BK377.out 3)|((with_reducible refine gate_callee (f:=49) rfl ?_);refine goesL_ (some 12) rfl rfl Tryd.func49 (by kernel_rfl) rfl #[.slice A0_0 l0_0.length c0_0,.slice A1_0 l1_0.length c1_0,.func (.func 44) #[] #[]] rfl ar_ ?_;(with_reducible refine (tree_Enum_at_tree_Same_1.calls k _ _ l0_0 _ _ l1_0 true _ ?side1 ?side2 ?side3 ?side4 A3.out).mono ?_);(case side1=>exact kc_ HR0_0.out HB.out);(case side2=>exact HC0_0.out);(case side3=>exact kc_ HR1_0.out HB.out);(case side4=>exact HC1_0.out);rintro e w27 ⟨rfl,hb⟩;refine ⟨_,rfl,?_⟩;have n0_:=Aside0.mk (bb_ BK376.out hb);have n1_:=Aside0.mk (bb_ BK377.out hb);have n2_:=Aside0.mk (below_step (bl_ HB.out) hb);clear BK376;clear BK377;clear HB;have BK376:=n0_;have BK377:=n1_;have HB:=n2_;clear n0_ n1_ n2_;(try clear hb);(try clear hb2);(try clear hk);(try clear hi);have hcz28_0:w27.cell? ⟨gb376,0,none⟩=some (.slice A0_0 l0_0.length c0_0):=zc_ BK376.out 0;have hcz28_1:w27.cell? ⟨gb376,1,none⟩=some (.slice A0_1 l0_1.length c0_1):=zc_ BK376.out 1;have hcz28_2:w27.cell? ⟨gb376,2,none⟩=some (.slice A0_2 l0_2.length c0_2):=zc_ BK376.out 2;have hcz28_3:w27.cell? ⟨gb376,3,none⟩=some (.slice A0_3 l0_3.length c0_3):=zc_ BK376.out 3;have hfz28_0:=blk_frozen BK376.out 0;have hfz28_1:=blk_frozen BK376.out 1;have hfz28_2:=blk_frozen BK376.out 2;have hfz28_3:=blk_frozen BK376.out 3;have hcz29_0:w27.cell? ⟨gb377,0,none⟩=some (.slice A1_0 l1_0.length c1_0):=zc_ BK377.out 0;have hcz29_1:w27.cell? ⟨gb377,1,none⟩=some (.slice A1_1 l1_1.length c1_1):=zc_ BK377.out 1;have hcz29_2:w27.cell? ⟨gb377,2,none⟩=some (.slice A1_2 l1_2.length c1_2):=zc_ BK377.out 2;have hcz29_3:w27.cell? ⟨gb377,3,none⟩=some (.slice A1_3 l1_3.length c1_3):=zc_ BK377.out 3;have hfz29_0:=blk_frozen BK377.out 0;have hfz29_1:=blk_frozen BK377.out 1;have hfz29_2:=blk_frozen BK377.out 2;have hfz29_3:=blk_frozen BK377.out 3)|(go_at_call 50;(with_reducible refine (tree_Var.calls k _ _ l0_1 _ _ l1_1 true _ ?side1 ?side2 ?side3 ?side4 A5.out).mono ?_);(case side1=>exact kc_ HR0_1.out HB.out);(case side2=>exact HC0_1.out);(case side3=>exact kc_ HR1_1.out HB.out);(case side4=>exact HC1_1.out);rintro e w' ⟨rfl,⟨nd,rfl⟩⟩)|(go_at_call 51;(with_reducible refine (tree_Proc_at_tree_Same_2.calls k _ _ l0_2 _ _ l1_2 false _ ?side1 ?side2 ?side3 ?side4 A7.out).mono ?_);(case side1=>repeat (first|exact (Kd.C_below HR0_2.out (bl_ HB.out))|(with_reducible refine Kd.C_alloc ?_ _)|(with_reducible refine Kd.C_drewN ?_ _)|(with_reducible refine Kd.C_drew ?_)));(case side2=>exact HC0_2.out);(case side3=>repeat (first|exact (Kd.C_below HR1_2.out (bl_ HB.out))|(with_reducible refine Kd.C_alloc ?_ _)|(with_reducible refine Kd.C_drewN ?_ _)|(with_reducible refine Kd.C_drew ?_)));(case side4=>exact HC1_2.out);rintro e w30 ⟨rfl,hb⟩;have n0_:=Aside0.mk (bb_ BK376.out hb);have n1_:=Aside0.mk (bb_ BK377.out hb);have n2_:=Aside0.mk (below_step (bl_ HB.out) hb);clear BK376;clear BK377;clear HB;have BK376:=n0_;have BK377:=n1_;have HB:=n2_;clear n0_ n1_ n2_;(try clear hb);(try clear hb2);(try clear hk);(try clear hi)))
    go_ret
    exact ⟨rt_,bl_ HB.out⟩
  ·replace c6:=Bool.eq_false_iff.mpr c6
   subst c6
   have H1:(some false)=some r:=by rw [if_neg (show ¬ (false=true) by decide)] at H;exact H
   clear H
   have H:=H1
   clear H1
   obtain rfl:=Option.some.inj H
   go_enter Tryd.func28,Tryd.ntmps28
   go_wp2_with (first|((with_reducible refine gate_dst (N:=2) rfl ?_);refine box_event ?hg (N:=2) ?hd (cs:=#[.slice A0_0 l0_0.length c0_0,.slice A0_1 l0_1.length c0_1,.slice A0_2 l0_2.length c0_2,.slice A0_3 l0_3.length c0_3]) (t:=50) ?hr ?_;(case hd=>rfl);(case hg=>rfl);(case hr=>first|(go_simp;done)|(go_simp;rfl));intro gb376 hg w31 hbox hb;have n0_:=Aside0.mk (below_step (bl_ HB.out) hb);have n1_:=Aside0.mk (hbox);have n2_:=Aside0.mk ((gs_ hg (bl_ HB.out):w.heap.size≤gb376));have n3_:=Aside0.mk ((gs_ hg (bl_ HB.out):w.heap.size≤gb376));clear HB;have HB:=n0_;have BK376:=n1_;have GW376:=n2_;have GE376:=n3_;clear n0_ n1_ n2_ n3_;clear hb hbox hg)|((with_reducible refine gate_dst (N:=3) rfl ?_);refine box_event ?hg (N:=3) ?hd (cs:=#[.slice A1_0 l1_0.length c1_0,.slice A1_1 l1_1.length c1_1,.slice A1_2 l1_2.length c1_2,.slice A1_3 l1_3.length c1_3]) (t:=50) ?hr ?_;(case hd=>rfl);(case hg=>rfl);(case hr=>first|(go_simp;done)|(go_simp;rfl));intro gb377 hg w32 hbox hb;have n0_:=Aside0.mk (bb_ BK376.out hb);have n1_:=Aside0.mk (below_step (bl_ HB.out) hb);have n2_:=Aside0.mk (hbox);have n3_:=Aside0.mk ((gs_ hg (bl_ HB.out):w.heap.size≤gb377));have n4_:=Aside0.mk ((gs_ hg (bl_ HB.out):w.heap.size≤gb377));have n5_:=Aside0.mk ((nl_ hg BK376.out:gb376≠gb377));have n6_:=Aside0.mk ((nr_ hg BK376.out:gb377≠gb376));clear BK376;clear HB;have BK376:=n0_;have HB:=n1_;have BK377:=n2_;have GW377:=n3_;have GE377:=n4_;have NB376_377:=n5_;have NB377_376:=n6_;clear n0_ n1_ n2_ n3_ n4_ n5_ n6_;clear hb hbox hg;have hnb33:=NB376_377.out;have hnc33:=NB377_376.out;have hcz34_0:w32.cell? ⟨gb376,0,none⟩=some (.slice A0_0 l0_0.length c0_0):=zc_ BK376.out 0;have hcz34_1:w32.cell? ⟨gb376,1,none⟩=some (.slice A0_1 l0_1.length c0_1):=zc_ BK376.out 1;have hcz34_2:w32.cell? ⟨gb376,2,none⟩=some (.slice A0_2 l0_2.length c0_2):=zc_ BK376.out 2;have hcz34_3:w32.cell? ⟨gb376,3,none⟩=some (.slice A0_3 l0_3.length c0_3):=zc_ BK376.out 3;have hfz34_0:=blk_frozen BK376.out 0;have hfz34_1:=blk_frozen BK376.out 1;have hfz34_2:=blk_frozen BK376.out 2;have hfz34_3:=blk_frozen BK376.out 3;have hcz35_0:w32.cell? ⟨gb377,0,none⟩=some (.slice A1_0 l1_0.length c1_0):=zc_ BK377.out 0;have hcz35_1:w32.cell? ⟨gb377,1,none⟩=some (.slice A1_1 l1_1.length c1_1):=zc_ BK377.out 1;have hcz35_2:w32.cell? ⟨gb377,2,none⟩=some (.slice A1_2 l1_2.length c1_2):=zc_ BK377.out 2;have hcz35_3:w32.cell? ⟨gb377,3,none⟩=some (.slice A1_3 l1_3.length c1_3):=zc_ BK377.out 3;have hfz35_0:=blk_frozen BK377.out 0;have hfz35_1:=blk_frozen BK377.out 1;have hfz35_2:=blk_frozen BK377.out 2;have hfz35_3:=blk_frozen BK377.out 3)|((with_reducible refine gate_callee (f:=49) rfl ?_);refine goesL_ (some 12) rfl rfl Tryd.func49 (by kernel_rfl) rfl #[.slice A0_0 l0_0.length c0_0,.slice A1_0 l1_0.length c1_0,.func (.func 44) #[] #[]] rfl ar_ ?_;(with_reducible refine (tree_Enum_at_tree_Same_1.calls k _ _ l0_0 _ _ l1_0 true _ ?side1 ?side2 ?side3 ?side4 A3.out).mono ?_);(case side1=>exact kc_ HR0_0.out HB.out);(case side2=>exact HC0_0.out);(case side3=>exact kc_ HR1_0.out HB.out);(case side4=>exact HC1_0.out);rintro e w36 ⟨rfl,hb⟩;refine ⟨_,rfl,?_⟩;have n0_:=Aside0.mk (bb_ BK376.out hb);have n1_:=Aside0.mk (bb_ BK377.out hb);have n2_:=Aside0.mk (below_step (bl_ HB.out) hb);clear BK376;clear BK377;clear HB;have BK376:=n0_;have BK377:=n1_;have HB:=n2_;clear n0_ n1_ n2_;(try clear hb);(try clear hb2);(try clear hk);(try clear hi);have hcz37_0:w36.cell? ⟨gb376,0,none⟩=some (.slice A0_0 l0_0.length c0_0):=zc_ BK376.out 0;have hcz37_1:w36.cell? ⟨gb376,1,none⟩=some (.slice A0_1 l0_1.length c0_1):=zc_ BK376.out 1;have hcz37_2:w36.cell? ⟨gb376,2,none⟩=some (.slice A0_2 l0_2.length c0_2):=zc_ BK376.out 2;have hcz37_3:w36.cell? ⟨gb376,3,none⟩=some (.slice A0_3 l0_3.length c0_3):=zc_ BK376.out 3;have hfz37_0:=blk_frozen BK376.out 0;have hfz37_1:=blk_frozen BK376.out 1;have hfz37_2:=blk_frozen BK376.out 2;have hfz37_3:=blk_frozen BK376.out 3;have hcz38_0:w36.cell? ⟨gb377,0,none⟩=some (.slice A1_0 l1_0.length c1_0):=zc_ BK377.out 0;have hcz38_1:w36.cell? ⟨gb377,1,none⟩=some (.slice A1_1 l1_1.length c1_1):=zc_ BK377.out 1;have hcz38_2:w36.cell? ⟨gb377,2,none⟩=some (.slice A1_2 l1_2.length c1_2):=zc_ BK377.out 2;have hcz38_3:w36.cell? ⟨gb377,3,none⟩=some (.slice A1_3 l1_3.length c1_3):=zc_ BK377.out 3;have hfz38_0:=blk_frozen BK377.out 0;have hfz38_1:=blk_frozen BK377.out 1;have hfz38_2:=blk_frozen BK377.out 2;have hfz38_3:=blk_frozen BK377.out 3)|(go_at_call 50;(with_reducible refine (tree_Var.calls k _ _ l0_1 _ _ l1_1 false _ ?side1 ?side2 ?side3 ?side4 A5.out).mono ?_);(case side1=>exact kc_ HR0_1.out HB.out);(case side2=>exact HC0_1.out);(case side3=>exact kc_ HR1_1.out HB.out);(case side4=>exact HC1_1.out);rintro e w' ⟨rfl,⟨nd,rfl⟩⟩))
   go_ret
   exact ⟨rt_,bl_ HB.out⟩
 ·replace c4:=Bool.eq_false_iff.mpr c4
  subst c4
  have H1:(some false)=some r:=by rw [if_neg (show ¬ (false=true) by decide)] at H;exact H
  clear H
  have H:=H1
  clear H1
  obtain rfl:=Option.some.inj H
  go_enter Tryd.func28,Tryd.ntmps28
  go_wp2_with (first|((with_reducible refine gate_dst (N:=2) rfl ?_);refine box_event ?hg (N:=2) ?hd (cs:=#[.slice A0_0 l0_0.length c0_0,.slice A0_1 l0_1.length c0_1,.slice A0_2 l0_2.length c0_2,.slice A0_3 l0_3.length c0_3]) (t:=50) ?hr ?_;(case hd=>rfl);(case hg=>rfl);(case hr=>first|(go_simp;done)|(go_simp;rfl));intro gb376 hg w39 hbox hb;have n0_:=Aside0.mk (below_step (bl_ HB.out) hb);have n1_:=Aside0.mk (hbox);have n2_:=Aside0.mk ((gs_ hg (bl_ HB.out):w.heap.size≤gb376));have n3_:=Aside0.mk ((gs_ hg (bl_ HB.out):w.heap.size≤gb376));clear HB;have HB:=n0_;have BK376:=n1_;have GW376:=n2_;have GE376:=n3_;clear n0_ n1_ n2_ n3_;clear hb hbox hg)|((with_reducible refine gate_dst (N:=3) rfl ?_);refine box_event ?hg (N:=3) ?hd (cs:=#[.slice A1_0 l1_0.length c1_0,.slice A1_1 l1_1.length c1_1,.slice A1_2 l1_2.length c1_2,.slice A1_3 l1_3.length c1_3]) (t:=50) ?hr ?_;(case hd=>rfl);(case hg=>rfl);(case hr=>first|(go_simp;done)|(go_simp;rfl));intro gb377 hg w40 hbox hb;have n0_:=Aside0.mk (bb_ BK376.out hb);have n1_:=Aside0.mk (below_step (bl_ HB.out) hb);have n2_:=Aside0.mk (hbox);have n3_:=Aside0.mk ((gs_ hg (bl_ HB.out):w.heap.size≤gb377));have n4_:=Aside0.mk ((gs_ hg (bl_ HB.out):w.heap.size≤gb377));have n5_:=Aside0.mk ((nl_ hg BK376.out:gb376≠gb377));have n6_:=Aside0.mk ((nr_ hg BK376.out:gb377≠gb376));clear BK376;clear HB;have BK376:=n0_;have HB:=n1_;have BK377:=n2_;have GW377:=n3_;have GE377:=n4_;have NB376_377:=n5_;have NB377_376:=n6_;clear n0_ n1_ n2_ n3_ n4_ n5_ n6_;clear hb hbox hg;have hnb41:=NB376_377.out;have hnc41:=NB377_376.out;have hcz42_0:w40.cell? ⟨gb376,0,none⟩=some (.slice A0_0 l0_0.length c0_0):=zc_ BK376.out 0;have hcz42_1:w40.cell? ⟨gb376,1,none⟩=some (.slice A0_1 l0_1.length c0_1):=zc_ BK376.out 1;have hcz42_2:w40.cell? ⟨gb376,2,none⟩=some (.slice A0_2 l0_2.length c0_2):=zc_ BK376.out 2;have hcz42_3:w40.cell? ⟨gb376,3,none⟩=some (.slice A0_3 l0_3.length c0_3):=zc_ BK376.out 3;have hfz42_0:=blk_frozen BK376.out 0;have hfz42_1:=blk_frozen BK376.out 1;have hfz42_2:=blk_frozen BK376.out 2;have hfz42_3:=blk_frozen BK376.out 3;have hcz43_0:w40.cell? ⟨gb377,0,none⟩=some (.slice A1_0 l1_0.length c1_0):=zc_ BK377.out 0;have hcz43_1:w40.cell? ⟨gb377,1,none⟩=some (.slice A1_1 l1_1.length c1_1):=zc_ BK377.out 1;have hcz43_2:w40.cell? ⟨gb377,2,none⟩=some (.slice A1_2 l1_2.length c1_2):=zc_ BK377.out 2;have hcz43_3:w40.cell? ⟨gb377,3,none⟩=some (.slice A1_3 l1_3.length c1_3):=zc_ BK377.out 3;have hfz43_0:=blk_frozen BK377.out 0;have hfz43_1:=blk_frozen BK377.out 1;have hfz43_2:=blk_frozen BK377.out 2;have hfz43_3:=blk_frozen BK377.out 3)|((with_reducible refine gate_callee (f:=49) rfl ?_);refine goesL_ (some 12) rfl rfl Tryd.func49 (by kernel_rfl) rfl #[.slice A0_0 l0_0.length c0_0,.slice A1_0 l1_0.length c1_0,.func (.func 44) #[] #[]] rfl ar_ ?_;(with_reducible refine (tree_Enum_at_tree_Same_1.calls k _ _ l0_0 _ _ l1_0 false _ ?side1 ?side2 ?side3 ?side4 A3.out).mono ?_);(case side1=>exact kc_ HR0_0.out HB.out);(case side2=>exact HC0_0.out);(case side3=>exact kc_ HR1_0.out HB.out);(case side4=>exact HC1_0.out);rintro e w44 ⟨rfl,hb⟩;refine ⟨_,rfl,?_⟩;have n0_:=Aside0.mk (bb_ BK376.out hb);have n1_:=Aside0.mk (bb_ BK377.out hb);have n2_:=Aside0.mk (below_step (bl_ HB.out) hb);clear BK376;clear BK377;clear HB;have BK376:=n0_;have BK377:=n1_;have HB:=n2_;clear n0_ n1_ n2_;(try clear hb);(try clear hb2);(try clear hk);(try clear hi)))
  go_ret
  exact ⟨rt_,bl_ HB.out⟩
end Go.Proofs.YtnnbbeloifhofaaDoor.P
end
section
namespace Go.Proofs.YtnnbbeloifhofaaDoor.P
open Go Go.RowKit Go.Proofs
open Go.Proofs.YtnnbbeloifhofaaDoorW.PrintWords Go.Proofs.YtnnbbeloifhofaaDoorW.PrintLast Go.Proofs.YtnnbbeloifhofaaDoorW.PrintMore
def all2 {α β:Type} (s:α→β→Bool):List α→List β→Bool
  | [],[]=>true
  | x :: xs,y :: ys=>s x y && all2 s xs ys
  | _,_=>false
theorem all2_len {α β:Type} {s:α→β→Bool} : ∀ {xs:List α} {ys:List β},xs.length≠ys.length→all2 s xs ys=false
  | [],[],h=>absurd rfl h
  | x :: xs,[],_=>rfl
  | [],y :: ys,_=>rfl
  | x :: xs,y :: ys,h=>by
    rw [all2,all2_len (xs:=xs) (ys:=ys) (by intro e;exact h (by rw [List.length_cons,List.length_cons,e])),Bool.and_false]
theorem all_loop {α β:Type} (xs:List α) (ys:List β) (za:α) (zb:β) (l0:Nat→Int→Option Bool) (g:Nat→α→β→Option Bool) (s:α→β→Bool) (hl:xs.length=ys.length) (hlim:xs.length < 4611686018427387904)
    (hin : ∀ i:Nat,i < xs.length→∀ r,Ev (fun k=>(g k (xs.getD i za) (ys.getD i zb)).bind fun t=>if t=true then l0 k (wrap64 ((i:Int)+1)) else some false) r→Ev (fun k=>l0 k i) r)
    (hout:Ev (fun k=>l0 k xs.length) true) (hg : ∀ x ∈ xs,∀ y ∈ ys,Ev (fun k=>g k x y) (s x y)):Ev (fun k=>l0 k 0) (all2 s xs ys):=by
  have key : ∀ (m i:Nat),xs.length - i=m→i≤xs.length→Ev (fun k=>l0 k i) (all2 s (xs.drop i) (ys.drop i)):=by
    intro m
    induction m with
    | zero=>
      intro i hm hi
      obtain rfl:i=xs.length:=by omega
      rw [List.drop_length,hl,List.drop_length]
      rw [hl] at hout
      exact hout
    | succ m ih=>
      intro i hm hi
      have hx:i < xs.length:=by omega
      have hy:i < ys.length:=by omega
      refine hin i hx _ ?_
      rw [List.getD_eq_getElem?_getD,List.getD_eq_getElem?_getD,List.getElem?_eq_getElem hx,List.getElem?_eq_getElem hy,Option.getD_some,Option.getD_some]
      refine Ev.bind (hg _ (List.getElem_mem hx) _ (List.getElem_mem hy)) ?_
      rw [List.drop_eq_getElem_cons hx,List.drop_eq_getElem_cons hy,all2]
      cases h:s xs[i] ys[i] with
      | false=>exact Ev.no (by simp) (by rw [Bool.false_and];exact Ev.now _)
      | true=>
        refine Ev.yes rfl ?_
        rw [Bool.true_and,wrap64_small (by omega) (by omega)]
        exact ih (i+1) (by omega) (by omega)
  exact key _ 0 rfl (Nat.zero_le _)
mutual
def sameE:RE→RE→Bool
  | ⟨a,b,n,l,_⟩,y=>decide (a=y.f0) && (decide (b=y.f1) && (decide (n=y.f2) && sameEs l y.f3))
def sameEs:List RE→List RE→Bool
  | [],[]=>true
  | x :: xs,y :: ys=>sameE x y && sameEs xs ys
  | _,_=>false
end
mutual
def sameS:RS→RS→Bool
  | ⟨a,b,e,l,m,_⟩,y=>decide (a=y.f0) && (decide (b=y.f1) && (sameEs e y.f2 && (sameSs l y.f3 && sameSs m y.f4)))
def sameSs:List RS→List RS→Bool
  | [],[]=>true
  | x :: xs,y :: ys=>sameS x y && sameSs xs ys
  | _,_=>false
end
theorem sameE_eq (x y:RE):sameE x y=(decide (x.f0=y.f0) && (decide (x.f1=y.f1) && (decide (x.f2=y.f2) && sameEs x.f3 y.f3))):=by cases x;rfl
theorem sameS_eq (x y:RS):sameS x y=(decide (x.f0=y.f0) && (decide (x.f1=y.f1) && (sameEs x.f2 y.f2 && (sameSs x.f3 y.f3 && sameSs x.f4 y.f4)))):=by cases x;rfl
theorem sameEs_all : ∀ (l m:List RE),sameEs l m=all2 sameE l m
  | [],[]=>rfl
  | _ :: _,[]=>rfl
  | [],_ :: _=>rfl
  | x :: xs,y :: ys=>by rw [sameEs,all2,sameEs_all]
theorem sameSs_all : ∀ (l m:List RS),sameSs l m=all2 sameS l m
  | [],[]=>rfl
  | _ :: _,[]=>rfl
  | [],_ :: _=>rfl
  | x :: xs,y :: ys=>by rw [sameSs,all2,sameSs_all]
theorem rSameEs_loop (a b a' b':ByteArray) (n n' t t':Int) (xs ys:List RE) (hl:xs.length=ys.length) (hlim:xs.length < 4611686018427387904)
    (h : ∀ x ∈ xs,∀ y ∈ ys,Ev (fun k=>helmsmanref12_SameExpr.f k x.f0 x.f1 x.f2 x.f3 x.f4 y.f0 y.f1 y.f2 y.f3 y.f4) (sameE x y)) :
    Ev (fun k=>helmsmanref12_SameExpr.l0 k 0 a b n xs t a' b' n' ys t') (sameEs xs ys):=by
  rw [sameEs_all]
  refine all_loop xs ys z24 z24 (fun k i=>helmsmanref12_SameExpr.l0 k i a b n xs t a' b' n' ys t') (fun k x y=>helmsmanref12_SameExpr.f k x.f0 x.f1 x.f2 x.f3 x.f4 y.f0 y.f1 y.f2 y.f3 y.f4) sameE hl hlim ?_ ?_ h
  · intro i hi r hr
    exact Ev.step (fun k=>helmsmanref12_SameExpr.l0.eq_2 _ _ _ _ _ _ _ _ _ _ _ k) (Ev.yes (by omega) (Ev.yes (by omega) (Ev.yes (by omega) hr)))
  · exact Ev.step (fun k=>helmsmanref12_SameExpr.l0.eq_2 _ _ _ _ _ _ _ _ _ _ _ k) (Ev.no (by omega) (Ev.now _))
theorem rSameE_ev : ∀ x:RE,bulkE x < 1099511627776→∀ y,Ev (fun k=>helmsmanref12_SameExpr.f k x.f0 x.f1 x.f2 x.f3 x.f4 y.f0 y.f1 y.f2 y.f3 y.f4) (sameE x y):=RE.all fun x ih hb y=>by
  rw [bulkE_eq] at hb
  have hl:=len_bulkEs x.f3
  rw [sameE_eq]
  have no:Ev (fun k=>helmsmanref12_SameExpr.j0 k true x.f0 x.f1 x.f2 x.f3 x.f4 y.f0 y.f1 y.f2 y.f3 y.f4) false:=Ev.step (fun k=>helmsmanref12_SameExpr.j0.eq_2 _ _ _ _ _ _ _ _ _ _ _ k) (Ev.yes rfl (Ev.now _))
  refine Ev.step (fun k=>helmsmanref12_SameExpr.f.eq_2 _ _ _ _ _ _ _ _ _ _ k) ?_
  by_cases h0:x.f0=y.f0
  · refine Ev.yes (toList_iff.2 h0) ?_
    rw [decide_eq_true h0,Bool.true_and]
    by_cases h1:x.f1=y.f1
    · refine Ev.yes (toList_iff.2 h1) ?_
      rw [decide_eq_true h1,Bool.true_and]
      by_cases h2:x.f2=y.f2
      · refine Ev.yes h2 ?_
        rw [decide_eq_true h2,Bool.true_and]
        refine Ev.step (fun k=>helmsmanref12_SameExpr.j0.eq_2 _ _ _ _ _ _ _ _ _ _ _ k) ?_
        by_cases h3:x.f3.length=y.f3.length
        · refine Ev.no (by simp [h3]) ?_
          exact rSameEs_loop _ _ _ _ _ _ _ _ _ _ h3 (by omega) (fun a ha b _=>ih a ha (by have:=mem_bulkEs ha;omega) b)
        · refine Ev.yes (by simp;omega) ?_
          rw [sameEs_all,all2_len h3];exact Ev.now _
      · refine Ev.no h2 ?_
        rw [decide_eq_false h2,Bool.false_and];exact no
    · refine Ev.no (fun e=>h1 (toList_iff.1 e)) ?_
      rw [decide_eq_false h1,Bool.false_and];exact no
  · refine Ev.no (fun e=>h0 (toList_iff.1 e)) ?_
    rw [decide_eq_false h0,Bool.false_and];exact no
theorem all_step {α β:Type} (xs:List α) (ys:List β) (za:α) (zb:β) (l0:Nat→Int→Option Bool) (s:α→β→Bool) (rest:Bool) (hl:xs.length=ys.length) (hlim:xs.length < 4611686018427387904)
    (hin : ∀ i:Nat,i < xs.length→∀ r,Ev (fun k=>l0 k (wrap64 ((i:Int)+1))) r→Ev (fun k=>l0 k i) (s (xs.getD i za) (ys.getD i zb) && r))
    (hout:Ev (fun k=>l0 k xs.length) rest):Ev (fun k=>l0 k 0) (all2 s xs ys && rest):=by
  have key : ∀ (m i:Nat),xs.length - i=m→i≤xs.length→Ev (fun k=>l0 k i) (all2 s (xs.drop i) (ys.drop i) && rest):=by
    intro m
    induction m with
    | zero=>
      intro i hm hi
      obtain rfl:i=xs.length:=by omega
      rw [List.drop_length,hl,List.drop_length,all2,Bool.true_and]
      rw [hl] at hout
      exact hout
    | succ m ih=>
      intro i hm hi
      have hx:i < xs.length:=by omega
      have hy:i < ys.length:=by omega
      have:=hin i hx (all2 s (xs.drop (i+1)) (ys.drop (i+1)) && rest) (by rw [wrap64_small (by omega) (by omega)];exact ih (i+1) (by omega) (by omega))
      rw [List.getD_eq_getElem?_getD,List.getD_eq_getElem?_getD,List.getElem?_eq_getElem hx,List.getElem?_eq_getElem hy,Option.getD_some,Option.getD_some] at this
      rw [List.drop_eq_getElem_cons hx,List.drop_eq_getElem_cons hy,all2,Bool.and_assoc]
      exact this
  exact key _ 0 rfl (Nat.zero_le _)
theorem getD_mem' {α:Type} {l:List α} {i:Nat} (z:α) (h:i < l.length):l.getD i z ∈ l:=by
  rw [List.getD_eq_getElem?_getD,List.getElem?_eq_getElem h,Option.getD_some];exact List.getElem_mem h
theorem rSameS_l1 (x0 x1:List RS) (i:Int) (u v:RS) (r:Bool) (hb:bulkEs u.f2 < 1099511627775) (hl:u.f2.length=v.f2.length) (hr:Ev (fun k=>helmsmanref12_SameStmts.l0 k x0 x1 (wrap64 (i+1))) r) :
    Ev (fun k=>helmsmanref12_SameStmts.l1 k x0 x1 i 0 u.f0 u.f1 u.f2 u.f3 u.f4 u.f5 v.f0 v.f1 v.f2 v.f3 v.f4 v.f5) (sameEs u.f2 v.f2 && r):=by
  have hle:=len_bulkEs u.f2
  rw [sameEs_all]
  refine all_step u.f2 v.f2 z24 z24 (fun k j=>helmsmanref12_SameStmts.l1 k x0 x1 i j u.f0 u.f1 u.f2 u.f3 u.f4 u.f5 v.f0 v.f1 v.f2 v.f3 v.f4 v.f5) sameE r hl (by omega) ?_ ?_
  · intro j hj q hq
    refine Ev.step (fun k=>helmsmanref12_SameStmts.l1.eq_2 _ _ _ _ _ _ _ _ _ _ _ _ _ _ _ _ k) (Ev.yes (by omega) (Ev.yes (by omega) (Ev.yes (by omega) ?_)))
    refine Ev.bind (rSameE_ev _ (by have:=mem_bulkEs (getD_mem' z24 hj);exact (show bulkE (u.f2.getD j z24) < _ by omega)) _) ?_
    show Ev _ (sameE (u.f2.getD j z24) (v.f2.getD j z24) && q)
    cases h:sameE (u.f2.getD j z24) (v.f2.getD j z24) with
    | false=>exact Ev.no (by rw [show sameE (rd_T24 u.f2 j) (rd_T24 v.f2 j)=false from h];simp) (Ev.now _)
    | true=>exact Ev.yes h (by rw [Bool.true_and];exact hq)
  · exact Ev.step (fun k=>helmsmanref12_SameStmts.l1.eq_2 _ _ _ _ _ _ _ _ _ _ _ _ _ _ _ _ k) (Ev.no (by omega) hr)
theorem rSameSs_of (xs ys:List RS) (hb:bulkSs xs < 1099511627775) (h : ∀ x ∈ xs,(∀ m,Ev (fun k=>helmsmanref12_SameStmts.f k x.f3 m) (sameSs x.f3 m))∧∀ m,Ev (fun k=>helmsmanref12_SameStmts.f k x.f4 m) (sameSs x.f4 m)) :
    Ev (fun k=>helmsmanref12_SameStmts.f k xs ys) (sameSs xs ys):=by
  have hlen:=len_bulkSs xs
  refine Ev.step (fun k=>helmsmanref12_SameStmts.f.eq_2 _ _ k) ?_
  rw [sameSs_all]
  by_cases hl:xs.length=ys.length
  · refine Ev.yes (by omega) ?_
    rw [← Bool.and_true (all2 sameS xs ys)]
    refine all_step xs ys z29 z29 (fun k i=>helmsmanref12_SameStmts.l0 k xs ys i) sameS true hl (by omega) ?_ ?_
    · intro i hi r hr
      have hm:=getD_mem' z29 hi
      obtain ⟨ha,hc⟩:=h _ hm
      have hbu:=mem_bulkSs hm
      refine Ev.step (fun k=>helmsmanref12_SameStmts.l0.eq_2 _ _ _ k) (Ev.yes (by omega) (Ev.yes (by omega) (Ev.yes (by omega) ?_)))
      rw [show rd_T29 xs (i:Int)=xs.getD i z29 from rfl,show rd_T29 ys (i:Int)=ys.getD i z29 from rfl]
      revert ha hc hbu
      generalize xs.getD i z29=u
      generalize ys.getD i z29=v
      intro ha hc hbu
      rw [bulkS_eq] at hbu
      rw [sameS_eq]
      have no:Ev (fun k=>helmsmanref12_SameStmts.j1 k xs ys i true u.f0 u.f1 u.f2 u.f3 u.f4 u.f5 v.f0 v.f1 v.f2 v.f3 v.f4 v.f5) false:=Ev.step (fun k=>helmsmanref12_SameStmts.j1.eq_2 _ _ _ _ _ _ _ _ _ _ _ _ _ _ _ _ k) (Ev.yes rfl (Ev.now _))
      by_cases h0:u.f0=v.f0
      · refine Ev.yes (toList_iff.2 h0) ?_
        rw [decide_eq_true h0,Bool.true_and]
        by_cases h1:u.f1=v.f1
        · refine Ev.yes (toList_iff.2 h1) ?_
          rw [decide_eq_true h1,Bool.true_and]
          by_cases h2:u.f2.length=v.f2.length
          · refine Ev.yes (by omega) (Ev.bind (ha _) ?_)
            cases e3:sameSs u.f3 v.f3 with
            | false=>
              refine Ev.no (by simp) ?_
              rw [Bool.false_and,Bool.and_false,Bool.false_and];exact no
            | true=>
              refine Ev.yes rfl (Ev.bind (hc _) ?_)
              rw [Bool.true_and]
              refine Ev.step (fun k=>helmsmanref12_SameStmts.j1.eq_2 _ _ _ _ _ _ _ _ _ _ _ _ _ _ _ _ k) ?_
              cases e4:sameSs u.f4 v.f4 with
              | false=>
                refine Ev.yes (by simp) ?_
                rw [Bool.and_false,Bool.false_and];exact Ev.now _
              | true=>
                refine Ev.no (by simp) ?_
                rw [Bool.and_true]
                exact rSameS_l1 xs ys i u v r (by omega) h2 hr
          · refine Ev.no (by omega) ?_
            rw [sameEs_all,all2_len h2,Bool.false_and,Bool.false_and];exact no
        · refine Ev.no (fun e=>h1 (toList_iff.1 e)) ?_
          rw [decide_eq_false h1,Bool.false_and,Bool.false_and];exact no
      · refine Ev.no (fun e=>h0 (toList_iff.1 e)) ?_
        rw [decide_eq_false h0,Bool.false_and,Bool.false_and];exact no
    · exact Ev.step (fun k=>helmsmanref12_SameStmts.l0.eq_2 _ _ _ k) (Ev.no (by omega) (Ev.now _))
  · refine Ev.no (by omega) ?_
    rw [all2_len hl];exact Ev.now _
theorem rSameS_ev' : ∀ x:RS,bulkS x < 1099511627775→(∀ m,Ev (fun k=>helmsmanref12_SameStmts.f k x.f3 m) (sameSs x.f3 m))∧∀ m,Ev (fun k=>helmsmanref12_SameStmts.f k x.f4 m) (sameSs x.f4 m):=RS.all fun x iha ihb hb=>by
  rw [bulkS_eq] at hb
  exact ⟨fun m=>rSameSs_of _ m (by omega) (fun y hy=>iha y hy (by have:=mem_bulkSs hy;omega)),fun m=>rSameSs_of _ m (by omega) (fun y hy=>ihb y hy (by have:=mem_bulkSs hy;omega))⟩
theorem rSameSs_ev (l m:List RS) (hb:bulkSs l < 1099511627775):Ev (fun k=>helmsmanref12_SameStmts.f k l m) (sameSs l m):=
  rSameSs_of l m hb (fun y hy=>rSameS_ev' y (by have:=mem_bulkSs hy;omega))
theorem getD_map' {α β:Type} (f:α→β) (l:List α) (i:Nat) (z:α) (z':β) (h:i < l.length):(l.map f).getD i z'=f (l.getD i z):=by
  rw [List.getD_eq_getElem?_getD,List.getD_eq_getElem?_getD,List.getElem?_map,List.getElem?_eq_getElem h];rfl
theorem tSameEs_of (xs ys:List RE) (hb:bulkEs xs < 1099511627775)
    (h : ∀ x ∈ xs,∀ y,Ev (fun k=>tree_SameExpr.f k (convE x).f0 (convE x).f1 (convE x).f2 (convE x).f3 (convE x).f4 (convE y).f0 (convE y).f1 (convE y).f2 (convE y).f3 (convE y).f4) (sameE x y)) :
    Ev (fun k=>tree_Expr_at_tree_SameExpr.f k (convEs xs) (convEs ys)) (sameEs xs ys):=by
  have hlen:=len_bulkEs xs
  refine Ev.step (fun k=>tree_Expr_at_tree_SameExpr.f.eq_2 _ _ k) ?_
  rw [sameEs_all,convEs_len,convEs_len]
  by_cases hl:xs.length=ys.length
  · refine Ev.yes (by omega) ?_
    rw [← Bool.and_true (all2 sameE xs ys)]
    refine all_step xs ys z24 z24 (fun k i=>tree_Expr_at_tree_SameExpr.l0 k (convEs ys) (convEs xs) (xs.length:Int) i) sameE true hl (by omega) ?_ ?_
    · intro i hi r hr
      refine Ev.step (fun k=>tree_Expr_at_tree_SameExpr.l0.eq_2 _ _ _ _ k) (Ev.yes (by omega) (Ev.yes (by omega) (Ev.yes (by rw [convEs_len];omega) (Ev.yes (by rw [convEs_len];omega) ?_))))
      rw [show rd_T33 (convEs xs) (i:Int)=convE (xs.getD i z24) by rw [convEs_map];exact getD_map' convE xs i _ _ hi,show rd_T33 (convEs ys) (i:Int)=convE (ys.getD i z24) by rw [convEs_map];exact getD_map' convE ys i _ _ (by omega)]
      refine Ev.bind (h _ (getD_mem' _ hi) _) ?_
      cases e:sameE (xs.getD i z24) (ys.getD i z24) with
      | false=>exact Ev.no (by simp) (Ev.now _)
      | true=>exact Ev.yes rfl (by rw [Bool.true_and];exact hr)
    · exact Ev.step (fun k=>tree_Expr_at_tree_SameExpr.l0.eq_2 _ _ _ _ k) (Ev.no (by omega) (Ev.now _))
  · refine Ev.no (by omega) ?_
    rw [all2_len hl];exact Ev.now _
theorem tSameE_ev : ∀ x:RE,bulkE x < 1099511627776→∀ y,Ev (fun k=>tree_SameExpr.f k (convE x).f0 (convE x).f1 (convE x).f2 (convE x).f3 (convE x).f4 (convE y).f0 (convE y).f1 (convE y).f2 (convE y).f3 (convE y).f4) (sameE x y):=RE.all fun x ih hb y=>by
  rw [bulkE_eq] at hb
  rw [sameE_eq,convE_eq x,convE_eq y]
  refine Ev.step (fun k=>tree_SameExpr.f.eq_2 _ _ _ _ _ _ _ _ _ _ k) ?_
  by_cases h0:x.f0=y.f0
  · refine Ev.yes (toList_iff.2 h0) ?_
    rw [decide_eq_true h0,Bool.true_and]
    by_cases h1:x.f1=y.f1
    · refine Ev.yes (toList_iff.2 h1) ?_
      rw [decide_eq_true h1,Bool.true_and]
      by_cases h2:x.f2=y.f2
      · refine Ev.yes h2 ?_
        rw [decide_eq_true h2,Bool.true_and]
        exact Ev.bind (tSameEs_of _ _ (by omega) (fun a ha b=>ih a ha (by have:=mem_bulkEs ha;omega) b)) (Ev.now _)
      · refine Ev.no h2 ?_
        rw [decide_eq_false h2,Bool.false_and];exact Ev.now _
    · refine Ev.no (fun e=>h1 (toList_iff.1 e)) ?_
      rw [decide_eq_false h1,Bool.false_and];exact Ev.now _
  · refine Ev.no (fun e=>h0 (toList_iff.1 e)) ?_
    rw [decide_eq_false h0,Bool.false_and];exact Ev.now _
theorem tSameEs_ev (xs ys:List RE) (hb:bulkEs xs < 1099511627775):Ev (fun k=>tree_Expr_at_tree_SameExpr.f k (convEs xs) (convEs ys)) (sameEs xs ys):=
  tSameEs_of xs ys hb (fun x hx y=>tSameE_ev x (by have:=mem_bulkEs hx;omega) y)
theorem tSameSs_of (xs ys:List RS) (hb:bulkSs xs < 1099511627775)
    (h : ∀ x ∈ xs,∀ y,Ev (fun k=>tree_sameStmt.f k (convS x).f0 (convS x).f1 (convS x).f2 (convS x).f3 (convS x).f4 (convS x).f5 (convS y).f0 (convS y).f1 (convS y).f2 (convS y).f3 (convS y).f4 (convS y).f5) (sameS x y)) :
    Ev (fun k=>tree_Stmt_at_tree_sameStmt.f k (convSs xs) (convSs ys)) (sameSs xs ys):=by
  have hlen:=len_bulkSs xs
  refine Ev.step (fun k=>tree_Stmt_at_tree_sameStmt.f.eq_2 _ _ k) ?_
  rw [sameSs_all,convSs_len,convSs_len]
  by_cases hl:xs.length=ys.length
  · refine Ev.yes (by omega) ?_
    rw [← Bool.and_true (all2 sameS xs ys)]
    refine all_step xs ys z29 z29 (fun k i=>tree_Stmt_at_tree_sameStmt.l0 k (convSs ys) (convSs xs) (xs.length:Int) i) sameS true hl (by omega) ?_ ?_
    · intro i hi r hr
      refine Ev.step (fun k=>tree_Stmt_at_tree_sameStmt.l0.eq_2 _ _ _ _ k) (Ev.yes (by omega) (Ev.yes (by omega) (Ev.yes (by rw [convSs_len];omega) (Ev.yes (by rw [convSs_len];omega) ?_))))
      rw [show rd_T76 (convSs xs) (i:Int)=convS (xs.getD i z29) by rw [convSs_map];exact getD_map' convS xs i _ _ hi,show rd_T76 (convSs ys) (i:Int)=convS (ys.getD i z29) by rw [convSs_map];exact getD_map' convS ys i _ _ (by omega)]
      refine Ev.bind (h _ (getD_mem' _ hi) _) ?_
      cases e:sameS (xs.getD i z29) (ys.getD i z29) with
      | false=>exact Ev.no (by simp) (Ev.now _)
      | true=>exact Ev.yes rfl (by rw [Bool.true_and];exact hr)
    · exact Ev.step (fun k=>tree_Stmt_at_tree_sameStmt.l0.eq_2 _ _ _ _ k) (Ev.no (by omega) (Ev.now _))
  · refine Ev.no (by omega) ?_
    rw [all2_len hl];exact Ev.now _
theorem tSameS_ev : ∀ x:RS,bulkS x < 1099511627775→∀ y,Ev (fun k=>tree_sameStmt.f k (convS x).f0 (convS x).f1 (convS x).f2 (convS x).f3 (convS x).f4 (convS x).f5 (convS y).f0 (convS y).f1 (convS y).f2 (convS y).f3 (convS y).f4 (convS y).f5) (sameS x y):=RS.all fun x iha ihb hb y=>by
  rw [bulkS_eq] at hb
  rw [sameS_eq,convS_eq x,convS_eq y]
  refine Ev.step (fun k=>tree_sameStmt.f.eq_2 _ _ _ _ _ _ _ _ _ _ _ _ k) ?_
  by_cases h0:x.f0=y.f0
  · refine Ev.yes (toList_iff.2 h0) ?_
    rw [decide_eq_true h0,Bool.true_and]
    by_cases h1:x.f1=y.f1
    · refine Ev.yes (toList_iff.2 h1) ?_
      rw [decide_eq_true h1,Bool.true_and]
      refine Ev.bind (tSameEs_ev _ _ (by omega)) ?_
      cases e2:sameEs x.f2 y.f2 with
      | false=>exact Ev.no (by simp) (Ev.now _)
      | true=>
        refine Ev.yes rfl (Ev.bind (tSameSs_of _ _ (by omega) (fun a ha b=>iha a ha (by have:=mem_bulkSs ha;omega) b)) ?_)
        cases e3:sameSs x.f3 y.f3 with
        | false=>exact Ev.no (by simp) (Ev.now _)
        | true=>exact Ev.yes rfl (Ev.bind (tSameSs_of _ _ (by omega) (fun a ha b=>ihb a ha (by have:=mem_bulkSs ha;omega) b)) (Ev.now _))
    · refine Ev.no (fun e=>h1 (toList_iff.1 e)) ?_
      rw [decide_eq_false h1,Bool.false_and];exact Ev.now _
  · refine Ev.no (fun e=>h0 (toList_iff.1 e)) ?_
    rw [decide_eq_false h0,Bool.false_and];exact Ev.now _
theorem tSameSs_ev (xs ys:List RS) (hb:bulkSs xs < 1099511627775):Ev (fun k=>tree_Stmt_at_tree_sameStmt.f k (convSs xs) (convSs ys)) (sameSs xs ys):=
  tSameSs_of xs ys hb (fun x hx y=>tSameS_ev x (by have:=mem_bulkSs hx;omega) y)
end Go.Proofs.YtnnbbeloifhofaaDoor.P
end
section
namespace Go.Proofs.YtnnbbeloifhofaaDoor.P
open Go.RowKit Go.Proofs.YtnnbbeloifhofaaDoorW.PrintWords Go.Proofs.YtnnbbeloifhofaaDoorW.PrintLast Go.Proofs.YtnnbbeloifhofaaDoorW.PrintMore
attribute [local go_sem] max2_int min2_int max_two min_two max_three min_three max_four min_four
set_option linter.unusedVariables false
set_option linter.unusedSimpArgs false
mutual
def helmsmanlaw12_Expr.l0:Nat→List (S24)→Int→Int→ByteArray→ByteArray→Int→List (S33)→Int→Option (ByteArray × ByteArray × Int × (List (S33)) × Int)
 | 0,_,_,_,_,_,_,_,_=>none
 | k+1,x16,x17,x18,x115000,x115001,x115002,x115003,x115004=>if x18 < x17 then (if 0≤x18 then (if x18 < (x16.length:Int) then ((helmsmanlaw12_Expr.f k ((rd_T24 x16 x18).f0) ((rd_T24 x16 x18).f1) ((rd_T24 x16 x18).f2) ((rd_T24 x16 x18).f3) ((rd_T24 x16 x18).f4)).bind fun bt117=>(if x115003.length < 1954687338268 then (helmsmanlaw12_Expr.l0 k x16 x17 (wrap64 (x18+1)) x115000 x115001 x115002 (x115003++[(⟨bt117.1,bt117.2.1,bt117.2.2.1,bt117.2.2.2.1,bt117.2.2.2.2⟩:S33)]) x115004) else (none))) else (none)) else (none)) else (some (x115000,x115001,x115002,x115003,x115004))
def helmsmanlaw12_Expr.f:Nat→ByteArray→ByteArray→Int→List (S24)→Int→Option (ByteArray × ByteArray × Int × (List (S33)) × Int)
 | 0,_,_,_,_,_=>none
 | k+1,a0_0,a0_1,a0_2,l0_3,a0_4=>helmsmanlaw12_Expr.l0 k l0_3 (l0_3.length:Int) 0 a0_0 a0_1 a0_2 ([]:List (S33)) a0_4
end
def helmsmanlaw12_Expr.T5:Bool × List (List Nat × List Nat):=(true,[([],[]),([0],[0]),([],[]),([2],[2]),([3],[3]),([1,4,3],[1,4]),([0,1,2,3,4,5],[]),([6,5,5,0,1,2,3,4,5],[5,6])])
def helmsmanlaw12_Expr.B5:List Nat:=[0,1,0,4,12,31,63,127]
theorem helmsmanlaw12_Expr.tab5:rtab .any (opsOf Tryd.f11 5)=helmsmanlaw12_Expr.T5:=by kernel_rfl
theorem helmsmanlaw12_Expr.bits5:waitsOk helmsmanlaw12_Expr.T5.2 helmsmanlaw12_Expr.B5=true:=by kernel_rfl
set_option maxHeartbeats 8000000 in
set_option maxRecDepth 100000 in
theorem helmsmanlaw12_Expr.calls (k:Nat) : ∀ (a0_0:ByteArray) (a0_1:ByteArray) (a0_2:Int) (A0_3:Option Addr) (c0_3:Nat) (l0_3:List (S24)) (a0_4:Int) (r1:ByteArray) (r2:ByteArray) (r3:Int) (r4:List (S33)) (r5:Int) (w:World) (hr0_3:Kd.C k24 w A0_3 l0_3.length l0_3) (hc0_3:l0_3.length≤c0_3) (h:helmsmanlaw12_Expr.f k a0_0 a0_1 a0_2 l0_3 a0_4=some (r1,r2,r3,r4,r5)),
  Calls Tryd.prog 11 #[.agg #[.string a0_0,.string a0_1,.int .i64 a0_2,.slice A0_3 l0_3.length c0_3,.int .i64 a0_4]] w fun e w'=>∃ v3_:Value,e=.returned (.agg #[.string r1,.string r2,.int .i64 r3,v3_,.int .i64 r5])∧Kd.R k33 33 w' w.heap.size (fun _=>True) v3_ r4∧Below w.heap.size w w':=by
 induction k using Nat.strongRecOn with
 | _ k ih=>
 intro a0_0 a0_1 a0_2 A0_3 c0_3 l0_3 a0_4 r1 r2 r3 r4 r5 w hr0_3 hc0_3 h
 cases k with
 | zero=>exact absurd h (by simp [helmsmanlaw12_Expr.f])
 | succ k=>
 simp only [helmsmanlaw12_Expr.f] at h
 have hu24:=Tryd.underlying24
 have hu33:=Tryd.underlying33
 have HR0_3:=Aside0.mk hr0_3
 have HC0_3:=Aside0.mk hc0_3
 clear hr0_3 hc0_3
 have HB:=Aside0.mk (Below.refl w.heap.size w)
 have H:(helmsmanlaw12_Expr.l0 k l0_3 (l0_3.length:Int) 0 a0_0 a0_1 a0_2 ([]:List (S33)) a0_4)=some (r1,r2,r3,r4,r5):=h
 clear h
 have H':=Aside0.mk H
 clear H
 go_enter Tryd.func11,Tryd.ntmps11
 go_wp2_with (first|((with_reducible refine gate_dst (N:=1) rfl ?_);refine box_event ?hg (N:=1) ?hd (cs:=#[.string a0_0,.string a0_1,.int .i64 a0_2,.slice A0_3 l0_3.length c0_3,.int .i64 a0_4]) (t:=24) ?hr ?_;(case hd=>rfl);(case hg=>rfl);(case hr=>first|(go_simp;done)|(go_simp;rfl));intro gb112 hg w2 hbox hb;have n0_:=Aside0.mk (below_step (bl_ HB.out) hb);have n1_:=Aside0.mk (hbox);have n2_:=Aside0.mk ((gs_ hg (bl_ HB.out):w.heap.size≤gb112));have n3_:=Aside0.mk ((gs_ hg (bl_ HB.out):w.heap.size≤gb112));clear HB;have HB:=n0_;have BK112:=n1_;have GW112:=n2_;have GE112:=n3_;clear n0_ n1_ n2_ n3_;clear hb hbox hg)|((with_reducible refine gate_dst (N:=2) rfl ?_);refine box_event ?hg (N:=2) ?hd (cs:=#[.string (⟨#[]⟩:ByteArray),.string (⟨#[]⟩:ByteArray),.int .i64 0,.slice none 0 0,.int .i64 0]) (t:=33) ?hr ?_;(case hd=>rfl);(case hg=>rfl);(case hr=>first|(go_simp;done)|(go_simp;rfl));intro gb113 hg w3 hbox hb;have n0_:=Aside0.mk (bb_ BK112.out hb);have n1_:=Aside0.mk (below_step (bl_ HB.out) hb);have n2_:=Aside0.mk (hbox);have n3_:=Aside0.mk ((gs_ hg (bl_ HB.out):w.heap.size≤gb113));have n4_:=Aside0.mk ((gs_ hg (bl_ HB.out):w.heap.size≤gb113));have n5_:=Aside0.mk ((nl_ hg BK112.out:gb112≠gb113));have n6_:=Aside0.mk ((nr_ hg BK112.out:gb113≠gb112));clear BK112;clear HB;have BK112:=n0_;have HB:=n1_;have BK113:=n2_;have GW113:=n3_;have GE113:=n4_;have NB112_113:=n5_;have NB113_112:=n6_;clear n0_ n1_ n2_ n3_ n4_ n5_ n6_;clear hb hbox hg;have hnb4:=NB112_113.out;have hnc4:=NB113_112.out;have hcz5_0:w3.cell? ⟨gb112,0,none⟩=some (.string a0_0):=zc_ BK112.out 0;have hcz5_1:w3.cell? ⟨gb112,1,none⟩=some (.string a0_1):=zc_ BK112.out 1;have hcz5_2:w3.cell? ⟨gb112,2,none⟩=some (.int .i64 a0_2):=zc_ BK112.out 2;have hcz5_3:w3.cell? ⟨gb112,3,none⟩=some (.slice A0_3 l0_3.length c0_3):=zc_ BK112.out 3;have hcz5_4:w3.cell? ⟨gb112,4,none⟩=some (.int .i64 a0_4):=zc_ BK112.out 4;have hfz5_0:=blk_frozen BK112.out 0;have hfz5_1:=blk_frozen BK112.out 1;have hfz5_2:=blk_frozen BK112.out 2;have hfz5_3:=blk_frozen BK112.out 3;have hfz5_4:=blk_frozen BK112.out 4)|((with_reducible refine gate_dst (N:=3) rfl ?_);refine box_event ?hg (N:=3) ?hd (cs:=#[.string (⟨#[]⟩:ByteArray),.string (⟨#[]⟩:ByteArray),.int .i64 0,.slice none 0 0,.int .i64 0]) (t:=33) ?hr ?_;(case hd=>rfl);(case hg=>rfl);(case hr=>first|(go_simp;done)|(go_simp;rfl));intro gb114 hg w6 hbox hb;have n0_:=Aside0.mk (bb_ BK112.out hb);have n1_:=Aside0.mk (bb_ BK113.out hb);have n2_:=Aside0.mk (below_step (bl_ HB.out) hb);have n3_:=Aside0.mk (hbox);have n4_:=Aside0.mk ((gs_ hg (bl_ HB.out):w.heap.size≤gb114));have n5_:=Aside0.mk ((gs_ hg (bl_ HB.out):w.heap.size≤gb114));have n6_:=Aside0.mk ((nl_ hg BK112.out:gb112≠gb114));have n7_:=Aside0.mk ((nr_ hg BK112.out:gb114≠gb112));have n8_:=Aside0.mk ((nl_ hg BK113.out:gb113≠gb114));have n9_:=Aside0.mk ((nr_ hg BK113.out:gb114≠gb113));clear BK112;clear BK113;clear HB;have BK112:=n0_;have BK113:=n1_;have HB:=n2_;have BK114:=n3_;have GW114:=n4_;have GE114:=n5_;have NB112_114:=n6_;have NB114_112:=n7_;have NB113_114:=n8_;have NB114_113:=n9_;clear n0_ n1_ n2_ n3_ n4_ n5_ n6_ n7_ n8_ n9_;clear hb hbox hg;have hnb7:=NB114_112.out;have hnc7:=NB112_114.out;have hnb8:=NB114_113.out;have hnc8:=NB113_114.out;have hcz9_0:w6.cell? ⟨gb114,0,none⟩=some (.string (⟨#[]⟩:ByteArray)):=zc_ BK114.out 0;have hcz9_1:w6.cell? ⟨gb114,1,none⟩=some (.string (⟨#[]⟩:ByteArray)):=zc_ BK114.out 1;have hcz9_2:w6.cell? ⟨gb114,2,none⟩=some (.int .i64 0):=zc_ BK114.out 2;have hcz9_3:w6.cell? ⟨gb114,3,none⟩=some (.slice none 0 0):=zc_ BK114.out 3;have hcz9_4:w6.cell? ⟨gb114,4,none⟩=some (.int .i64 0):=zc_ BK114.out 4;have hfz9_0:=blk_frozen BK114.out 0;have hfz9_1:=blk_frozen BK114.out 1;have hfz9_2:=blk_frozen BK114.out 2;have hfz9_3:=blk_frozen BK114.out 3;have hfz9_4:=blk_frozen BK114.out 4;have hcz10_0:w6.cell? ⟨gb112,0,none⟩=some (.string a0_0):=zc_ BK112.out 0;have hcz10_1:w6.cell? ⟨gb112,1,none⟩=some (.string a0_1):=zc_ BK112.out 1;have hcz10_2:w6.cell? ⟨gb112,2,none⟩=some (.int .i64 a0_2):=zc_ BK112.out 2;have hcz10_3:w6.cell? ⟨gb112,3,none⟩=some (.slice A0_3 l0_3.length c0_3):=zc_ BK112.out 3;have hcz10_4:w6.cell? ⟨gb112,4,none⟩=some (.int .i64 a0_4):=zc_ BK112.out 4;have hfz10_0:=blk_frozen BK112.out 0;have hfz10_1:=blk_frozen BK112.out 1;have hfz10_2:=blk_frozen BK112.out 2;have hfz10_3:=blk_frozen BK112.out 3;have hfz10_4:=blk_frozen BK112.out 4))
 (try simp only [Act.put,List.setIfInBounds_toArray,List.set_cons_succ,List.set_cons_zero])
 go_loopg [18] k (fun kq v18 w'=>∃ (x18_1:Int) (x115003_1:List (S33)) (u115003:Value),v18=.int .i64 x18_1∧Aside0 (helmsmanlaw12_Expr.l0 kq l0_3 (l0_3.length:Int) x18_1 a0_0 a0_1 a0_2 x115003_1 a0_4=some (r1,r2,r3,r4,r5))∧Aside0 (kq≤k)∧Aside0 (Kd.R k33 33 w' w.heap.size (fun k_=>k_≠gb113∧k_≠gb114) u115003 x115003_1)∧Aside0 (w'.heap[gb112]?=some (.cells #[.string a0_0,.string a0_1,.int .i64 a0_2,(.slice A0_3 l0_3.length c0_3),.int .i64 a0_4] 24 (0,0)))∧Aside0 (w'.heap[gb113]?=some (.cells #[.string (⟨#[]⟩:ByteArray),.string (⟨#[]⟩:ByteArray),.int .i64 0,(.slice none 0 0),.int .i64 0] 33 (0,0)))∧Aside0 (w'.heap[gb114]?=some (.cells #[.string a0_0,.string a0_1,.int .i64 a0_2,u115003,.int .i64 a0_4] 33 (0,0)))∧Aside0 (Below w.heap.size w w'))
 case atStart=>exact ⟨(0),(([]:List (S33))),(.slice none 0 0),rf_,H',⟨Nat.le_refl _⟩,⟨by first|exact Kd.R_nil _ _ _ _ _|exact Kd.N_nil _ _ _ _ _|exact Kd.V_nil _ _ _ _ _|exact Kd.Q_nil _ _ _ _ _|exact Kd.S_nil _ _ _ _ _⟩,⟨kbc_ BK112.out⟩,⟨kbc_ BK113.out⟩,⟨kbc_ BK114.out⟩,⟨bl_ HB.out⟩⟩
 case round=>
  clear H'
  (try clear c1);(try clear p2);(try clear c4);(try clear c7);(try clear c8);(try clear hcz10_0);(try clear hcz10_1);(try clear hcz10_2);(try clear hcz10_3);(try clear hcz10_4);(try clear hcz5_0);(try clear hcz5_1);(try clear hcz5_2);(try clear hcz5_3);(try clear hcz5_4);(try clear hcz9_0);(try clear hcz9_1);(try clear hcz9_2);(try clear hcz9_3);(try clear hcz9_4);(try clear hfz10_0);(try clear hfz10_1);(try clear hfz10_2);(try clear hfz10_3);(try clear hfz10_4);(try clear hfz5_0);(try clear hfz5_1);(try clear hfz5_2);(try clear hfz5_3);(try clear hfz5_4);(try clear hfz9_0);(try clear hfz9_1);(try clear hfz9_2);(try clear hfz9_3);(try clear hfz9_4)
  obtain ⟨x18_1,x115003_1,u115003,rfl,HA,HK1,HO_115003,BK112,BK113,BK114,HB⟩:=hrel
  cases gk with
  | zero=>exact absurd HA.out (by simp [helmsmanlaw12_Expr.l0])
  | succ k1=>
   have H:=HA.out
   clear HA
   simp only [helmsmanlaw12_Expr.l0] at H
   by_cases c11:x18_1 < (l0_3.length:Int)
   ·rw [if_pos c11] at H
    have c11b0:decide (x18_1 < (l0_3.length:Int))=true:=decide_eq_true c11
    clear c11
    by_cases c12:0≤x18_1
    ·rw [if_pos c12] at H
     have c12b0:decide (0≤x18_1)=true:=decide_eq_true c12
     clear c12
     by_cases c13:x18_1 < (l0_3.length:Int)
     ·rw [if_pos c13] at H
      have c13b0:decide (x18_1 < (l0_3.length:Int))=true:=decide_eq_true c13
      clear c13
      replace H:=Option.bind_eq_some_iff.mp H
      obtain ⟨⟨t117,t118,t119,t120,t123⟩,A140,H⟩:=H
      replace H:(if x115003_1.length < 1954687338268 then (helmsmanlaw12_Expr.l0 k1 l0_3 (l0_3.length:Int) (wrap64 (x18_1+1)) a0_0 a0_1 a0_2 (x115003_1++[(⟨t117,t118,t119,t120,t123⟩:S33)]) a0_4) else (none))=some (r1,r2,r3,r4,r5):=H
      have A14:=Aside0.mk A140
      clear A140
      by_cases c15:x115003_1.length < 1954687338268
      ·rw [if_pos c15] at H
       have LMc15:=Aside0.mk c15
       clear c15
       obtain ⟨y124,hy124⟩ : ∃ y_:List (S33),y_=(x115003_1++[(⟨t117,t118,t119,t120,t123⟩:S33)]):=⟨_,rfl⟩
       replace H:(helmsmanlaw12_Expr.l0 k1 l0_3 (l0_3.length:Int) (wrap64 (x18_1+1)) a0_0 a0_1 a0_2 y124 a0_4)=some (r1,r2,r3,r4,r5):=by first|(rw [hy124];with_reducible exact H)|(have H2_:=(Option.bind_some _ _).symm.trans H;rw [hy124];with_reducible exact H2_)|(have H2_:=(Option.bind_some _ _).symm.trans H;with_reducible exact H2_)|with_reducible exact H|(rw [hy124];exact H)|exact H
       have Ny124:=Aside0.mk hy124
       clear hy124
       have H':=Aside0.mk H
       clear H
       have p115:0≤(x18_1:Int):=of_decide_eq_true as_
       have q115:x18_1 < (l0_3.length:Int):=of_decide_eq_true as_
       obtain ⟨ad115,A115_3,c115_3,e115,hx115_0,hx115_1,hx115_2,hx115_3,hx115_4,hl115_3,hi115_3⟩:=at_T24 HR0_3.out x18_1 p115 q115
       cases e115
       replace hx115_0:=(cb_ HB.out hx115_0:_)
       replace hx115_1:=(cb_ HB.out hx115_1:_)
       replace hx115_2:=(cb_ HB.out hx115_2:_)
       replace hx115_3:=(cb_ HB.out hx115_3:_)
       replace hx115_4:=(cb_ HB.out hx115_4:_)
       have HR115_3:=Aside0.mk hi115_3
       have HC115_3:=Aside0.mk hl115_3
       clear hi115_3 hl115_3
       replace p115:=eq_true p115
       replace q115:=eq_true q115
       try go_wp2_with (first|((with_reducible refine gate_dst (N:=5) rfl ?_);refine box_event ?hg (N:=5) ?hd (cs:=#[.string (⟨#[]⟩:ByteArray),.string (⟨#[]⟩:ByteArray),.int .i64 0,.slice none 0 0,.int .i64 0]) (t:=24) ?hr ?_;(case hd=>rfl);(case hg=>rfl);(case hr=>first|(go_simp;done)|(go_simp;rfl));intro gb116 hg w16 hbox hb;have n0_:=Aside0.mk (Kd.R_below (by (with_reducible repeat (first|apply Kd.R_alloc|apply Kd.R_drewN|apply Kd.R_drew));exact HO_115003.out) hb);have n1_:=Aside0.mk (bb_ BK112.out hb);have n2_:=Aside0.mk (bb_ BK113.out hb);have n3_:=Aside0.mk (bb_ BK114.out hb);have n4_:=Aside0.mk (below_step (bl_ HB.out) hb);have n5_:=Aside0.mk (hbox);have n6_:=Aside0.mk ((gs_ hg (bl_ HB.out):w.heap.size≤gb116));have n7_:=Aside0.mk ((gs_ hg (bl_ HB.out):w.heap.size≤gb116));have n8_:=Aside0.mk ((nl_ hg BK112.out:gb112≠gb116));have n9_:=Aside0.mk ((nr_ hg BK112.out:gb116≠gb112));have n10_:=Aside0.mk ((nl_ hg BK113.out:gb113≠gb116));have n11_:=Aside0.mk ((nr_ hg BK113.out:gb116≠gb113));have n12_:=Aside0.mk ((nl_ hg BK114.out:gb114≠gb116));have n13_:=Aside0.mk ((nr_ hg BK114.out:gb116≠gb114));clear HO_115003;clear BK112;clear BK113;clear BK114;clear HB;have HO_115003:=n0_;have BK112:=n1_;have BK113:=n2_;have BK114:=n3_;have HB:=n4_;have BK116:=n5_;have GW116:=n6_;have GE116:=n7_;have NB112_116:=n8_;have NB116_112:=n9_;have NB113_116:=n10_;have NB116_113:=n11_;have NB114_116:=n12_;have NB116_114:=n13_;clear n0_ n1_ n2_ n3_ n4_ n5_ n6_ n7_ n8_ n9_ n10_ n11_ n12_ n13_;clear hb hbox hg;have hnb17:=NB116_112.out;have hnc17:=NB112_116.out;have hnb18:=NB116_113.out;have hnc18:=NB113_116.out;have hnb19:=NB116_114.out;have hnc19:=NB114_116.out;have hcz20_0:w16.cell? ⟨gb116,0,none⟩=some (.string (⟨#[]⟩:ByteArray)):=zc_ BK116.out 0;have hcz20_1:w16.cell? ⟨gb116,1,none⟩=some (.string (⟨#[]⟩:ByteArray)):=zc_ BK116.out 1;have hcz20_2:w16.cell? ⟨gb116,2,none⟩=some (.int .i64 0):=zc_ BK116.out 2;have hcz20_3:w16.cell? ⟨gb116,3,none⟩=some (.slice none 0 0):=zc_ BK116.out 3;have hcz20_4:w16.cell? ⟨gb116,4,none⟩=some (.int .i64 0):=zc_ BK116.out 4;have hfz20_0:=blk_frozen BK116.out 0;have hfz20_1:=blk_frozen BK116.out 1;have hfz20_2:=blk_frozen BK116.out 2;have hfz20_3:=blk_frozen BK116.out 3;have hfz20_4:=blk_frozen BK116.out 4))
       have n0_:Aside0 (Kd.R k33 33 (((((w16.setCell ⟨gb116,0,none⟩ (.string ((rd_T24 l0_3 x18_1).f0))).setCell ⟨gb116,1,none⟩ (.string ((rd_T24 l0_3 x18_1).f1))).setCell ⟨gb116,2,none⟩ (.int .i64 ((rd_T24 l0_3 x18_1).f2))).setCell ⟨gb116,3,none⟩ (.slice A115_3 ((rd_T24 l0_3 x18_1).f3).length c115_3)).setCell ⟨gb116,4,none⟩ (.int .i64 ((rd_T24 l0_3 x18_1).f4))) w.heap.size (fun k_=>k_≠gb113∧k_≠gb114) u115003 x115003_1):=⟨by (with_reducible repeat (first|apply Kd.R_alloc|apply Kd.R_drewN|apply Kd.R_drew));exact Kd.R_mono (Kd.R_far (p:=⟨gb116,4,none⟩) (Kd.R_far (p:=⟨gb116,3,none⟩) (Kd.R_far (p:=⟨gb116,2,none⟩) (Kd.R_far (p:=⟨gb116,1,none⟩) (Kd.R_far (p:=⟨gb116,0,none⟩) (Kd.R_types HO_115003.out BK116.out (by decide)) (fun _ hk=>hk.2) (.string ((rd_T24 l0_3 x18_1).f0))) (fun _ hk=>hk.2) (.string ((rd_T24 l0_3 x18_1).f1))) (fun _ hk=>hk.2) (.int .i64 ((rd_T24 l0_3 x18_1).f2))) (fun _ hk=>hk.2) (.slice A115_3 ((rd_T24 l0_3 x18_1).f3).length c115_3)) (fun _ hk=>hk.2) (.int .i64 ((rd_T24 l0_3 x18_1).f4))) (fun _ hk=>⟨hk.1.1,hk.1.2⟩)⟩
       have n1_:Aside0 ((((((w16.setCell ⟨gb116,0,none⟩ (.string ((rd_T24 l0_3 x18_1).f0))).setCell ⟨gb116,1,none⟩ (.string ((rd_T24 l0_3 x18_1).f1))).setCell ⟨gb116,2,none⟩ (.int .i64 ((rd_T24 l0_3 x18_1).f2))).setCell ⟨gb116,3,none⟩ (.slice A115_3 ((rd_T24 l0_3 x18_1).f3).length c115_3)).setCell ⟨gb116,4,none⟩ (.int .i64 ((rd_T24 l0_3 x18_1).f4))).heap[gb112]?=some (.cells #[.string a0_0,.string a0_1,.int .i64 a0_2,.slice (some ad115) l0_3.length c0_3,.int .i64 a0_4] 24 (0,0))):=⟨kbc_ BK112.out⟩
       have n2_:Aside0 ((((((w16.setCell ⟨gb116,0,none⟩ (.string ((rd_T24 l0_3 x18_1).f0))).setCell ⟨gb116,1,none⟩ (.string ((rd_T24 l0_3 x18_1).f1))).setCell ⟨gb116,2,none⟩ (.int .i64 ((rd_T24 l0_3 x18_1).f2))).setCell ⟨gb116,3,none⟩ (.slice A115_3 ((rd_T24 l0_3 x18_1).f3).length c115_3)).setCell ⟨gb116,4,none⟩ (.int .i64 ((rd_T24 l0_3 x18_1).f4))).heap[gb113]?=some (.cells #[.string (⟨#[]⟩:ByteArray),.string (⟨#[]⟩:ByteArray),.int .i64 0,.slice none 0 0,.int .i64 0] 33 (0,0))):=⟨kbc_ BK113.out⟩
       have n3_:Aside0 ((((((w16.setCell ⟨gb116,0,none⟩ (.string ((rd_T24 l0_3 x18_1).f0))).setCell ⟨gb116,1,none⟩ (.string ((rd_T24 l0_3 x18_1).f1))).setCell ⟨gb116,2,none⟩ (.int .i64 ((rd_T24 l0_3 x18_1).f2))).setCell ⟨gb116,3,none⟩ (.slice A115_3 ((rd_T24 l0_3 x18_1).f3).length c115_3)).setCell ⟨gb116,4,none⟩ (.int .i64 ((rd_T24 l0_3 x18_1).f4))).heap[gb114]?=some (.cells #[.string a0_0,.string a0_1,.int .i64 a0_2,u115003,.int .i64 a0_4] 33 (0,0))):=⟨kbc_ BK114.out⟩
       have n4_:Aside0 ((((((w16.setCell ⟨gb116,0,none⟩ (.string ((rd_T24 l0_3 x18_1).f0))).setCell ⟨gb116,1,none⟩ (.string ((rd_T24 l0_3 x18_1).f1))).setCell ⟨gb116,2,none⟩ (.int .i64 ((rd_T24 l0_3 x18_1).f2))).setCell ⟨gb116,3,none⟩ (.slice A115_3 ((rd_T24 l0_3 x18_1).f3).length c115_3)).setCell ⟨gb116,4,none⟩ (.int .i64 ((rd_T24 l0_3 x18_1).f4))).heap[gb116]?=some (.cells #[.string ((rd_T24 l0_3 x18_1).f0),.string ((rd_T24 l0_3 x18_1).f1),.int .i64 ((rd_T24 l0_3 x18_1).f2),.slice A115_3 ((rd_T24 l0_3 x18_1).f3).length c115_3,.int .i64 ((rd_T24 l0_3 x18_1).f4)] 24 (0,0))):=⟨kbc_ BK116.out⟩
       have n5_:Aside0 (Below w.heap.size w (((((w16.setCell ⟨gb116,0,none⟩ (.string ((rd_T24 l0_3 x18_1).f0))).setCell ⟨gb116,1,none⟩ (.string ((rd_T24 l0_3 x18_1).f1))).setCell ⟨gb116,2,none⟩ (.int .i64 ((rd_T24 l0_3 x18_1).f2))).setCell ⟨gb116,3,none⟩ (.slice A115_3 ((rd_T24 l0_3 x18_1).f3).length c115_3)).setCell ⟨gb116,4,none⟩ (.int .i64 ((rd_T24 l0_3 x18_1).f4)))):=⟨bl_ HB.out⟩
       (try clear HO_115003)
       (try clear BK112)
       (try clear BK113)
       (try clear BK114)
       (try clear BK116)
       (try clear HB)
       generalize (((((w16.setCell ⟨gb116,0,none⟩ (.string ((rd_T24 l0_3 x18_1).f0))).setCell ⟨gb116,1,none⟩ (.string ((rd_T24 l0_3 x18_1).f1))).setCell ⟨gb116,2,none⟩ (.int .i64 ((rd_T24 l0_3 x18_1).f2))).setCell ⟨gb116,3,none⟩ (.slice A115_3 ((rd_T24 l0_3 x18_1).f3).length c115_3)).setCell ⟨gb116,4,none⟩ (.int .i64 ((rd_T24 l0_3 x18_1).f4)))=w21 at n0_ n1_ n2_ n3_ n4_ n5_ ⊢
       have HO_115003:=n0_
       have BK112:=n1_
       have BK113:=n2_
       have BK114:=n3_
       have BK116:=n4_
       have HB:=n5_
       clear n0_ n1_ n2_ n3_ n4_ n5_
       have n0_:=Aside0.mk (Kd.R_drew HO_115003.out)
       have n1_:=Aside0.mk (blk_drew BK112.out)
       have n2_:=Aside0.mk (blk_drew BK113.out)
       have n3_:=Aside0.mk (blk_drew BK114.out)
       have n4_:=Aside0.mk (blk_drew BK116.out)
       have n5_:=Aside0.mk (below_drew1 HB.out)
       clear HO_115003
       clear BK112
       clear BK113
       clear BK114
       clear BK116
       clear HB
       have HO_115003:=n0_
       have BK112:=n1_
       have BK113:=n2_
       have BK114:=n3_
       have BK116:=n4_
       have HB:=n5_
       clear n0_ n1_ n2_ n3_ n4_ n5_
       refine start_ (n:=8) (S:=fun w'=>w'.cell? ⟨gb114,0,none⟩=some (.string a0_0)∧w'.cell? ⟨gb114,1,none⟩=some (.string a0_1)∧w'.cell? ⟨gb114,2,none⟩=some (.int .i64 a0_2)∧w'.cell? ⟨gb114,3,none⟩=some (u115003)∧w'.cell? ⟨gb114,4,none⟩=some (.int .i64 a0_4)∧w'.cell? ⟨gb116,0,none⟩=some (.string ((rd_T24 l0_3 x18_1).f0))∧w'.cell? ⟨gb116,1,none⟩=some (.string ((rd_T24 l0_3 x18_1).f1))∧w'.cell? ⟨gb116,2,none⟩=some (.int .i64 ((rd_T24 l0_3 x18_1).f2))∧w'.cell? ⟨gb116,3,none⟩=some (.slice A115_3 ((rd_T24 l0_3 x18_1).f3).length c115_3)∧w'.cell? ⟨gb116,4,none⟩=some (.int .i64 ((rd_T24 l0_3 x18_1).f4))) (ds:=[7]) (flg 8 0) (by kernel_rfl) rfl (by kernel_rfl) ⟨zc_ BK114.out 0,zc_ BK114.out 1,zc_ BK114.out 2,zc_ BK114.out 3,zc_ BK114.out 4,zc_ BK116.out 0,zc_ BK116.out 1,zc_ BK116.out 2,zc_ BK116.out 3,zc_ BK116.out 4⟩ (fun hHeld=>?_);refine with_tabW helmsmanlaw12_Expr.tab5 helmsmanlaw12_Expr.bits5 (fun HT_ HW_=>?_)
       generalize w21.drew=w22 at HO_115003 BK112 BK113 BK114 BK116 HB hHeld ⊢
       refine pur_ 0 22 (flg 8 1) rfl rfl (any_of HT_.out (by kernel_rfl)) (fun _ _ _ h=>h) ?_
       refine tak_ 1 23 (flg 8 3) rfl rfl (take_ofW HT_.out HW_.out (by kernel_rfl)) (fun _ _ _ h=>h) hHeld ?_
       refine tak_ 2 24 (flg 8 7) rfl rfl (take_ofW HT_.out HW_.out (by kernel_rfl)) (fun _ _ _ h=>h) hHeld ?_
       refine one_ (i:=3) (N:=some 25) (flg 8 15) rfl rfl (one_of HT_.out (by kernel_rfl)) (by decide) (fun K hK=>?_)
       refine goes_ Tryd.func11 (by kernel_rfl) rfl #[.agg #[.string ((rd_T24 l0_3 x18_1).f0),.string ((rd_T24 l0_3 x18_1).f1),.int .i64 ((rd_T24 l0_3 x18_1).f2),.slice A115_3 ((rd_T24 l0_3 x18_1).f3).length c115_3,.int .i64 ((rd_T24 l0_3 x18_1).f4)]] (by rfl) rfl rfl ar_ ?_
       with_reducible refine (ih k1 (by have:=HK1.out;omega) ((rd_T24 l0_3 x18_1).f0) ((rd_T24 l0_3 x18_1).f1) ((rd_T24 l0_3 x18_1).f2) _ _ ((rd_T24 l0_3 x18_1).f3) ((rd_T24 l0_3 x18_1).f4) t117 t118 t119 t120 t123 _ ?side1 ?side2 A14.out).mono ?_
       (case side1=>exact kc_ HR115_3.out HB.out)
       (case side2=>exact HC115_3.out)
       rintro e w23 ⟨v121,rfl,ho0,hb⟩
       refine ⟨_,rfl,?_⟩
       have n0_:=Aside0.mk (Kd.R_elder' (by (with_reducible repeat (first|apply Kd.R_alloc|apply Kd.R_drewN|apply Kd.R_drew));exact HO_115003.out) (Kd.R_base ho0) hb)
       have n1_:=Aside0.mk (Kd.R_lower (Kd.R_newB (Kd.R_newB (Kd.R_new' ho0 (Kd.R_lt (by (with_reducible repeat (first|apply Kd.R_alloc|apply Kd.R_drewN|apply Kd.R_drew));exact HO_115003.out))) (g:=gb113) (o:=.cells #[.string (⟨#[]⟩:ByteArray),.string (⟨#[]⟩:ByteArray),.int .i64 0,.slice none 0 0,.int .i64 0] 33 (0,0)) (kb_ BK113.out)) (g:=gb114) (o:=.cells #[.string a0_0,.string a0_1,.int .i64 a0_2,u115003,.int .i64 a0_4] 33 (0,0)) (kb_ BK114.out)) (below_size (bl_ HB.out)))
       have n2_:=Aside0.mk (bb_ BK112.out hb)
       have n3_:=Aside0.mk (bb_ BK113.out hb)
       have n4_:=Aside0.mk (bb_ BK114.out hb)
       have n5_:=Aside0.mk (bb_ BK116.out hb)
       have n6_:=Aside0.mk (below_step (bl_ HB.out) hb)
       clear HO_115003
       clear BK112
       clear BK113
       clear BK114
       clear BK116
       clear HB
       have HO_115003:=n0_
       have HO122:=n1_
       have BK112:=n2_
       have BK113:=n3_
       have BK114:=n4_
       have BK116:=n5_
       have HB:=n6_
       clear n0_ n1_ n2_ n3_ n4_ n5_ n6_
       (try clear hb)
       (try clear hb2)
       (try clear hk)
       (try clear hi)
       (try clear ho0)
       obtain ⟨Ao25,co25,eo25⟩:=Kd.R_slice HO122.out
       (first|subst eo25|(injection eo25 with f1_ f2_ f3_;have f4_:=f1_.symm;have f5_:=f3_.symm;clear f1_ f2_ f3_;subst f4_;subst f5_))
       refine hK.out _ _ ⟨zc_ BK114.out 0,zc_ BK114.out 1,zc_ BK114.out 2,zc_ BK114.out 3,zc_ BK114.out 4,zc_ BK116.out 0,zc_ BK116.out 1,zc_ BK116.out 2,zc_ BK116.out 3,zc_ BK116.out 4⟩ (fun hHeld=>?_)
       clear hK K
       refine norm_ (a':=?_) ?_ ?_
       rotate_left
       ·show Act.put _ (some 25) _=_
        simp only [Act.put,List.setIfInBounds_toArray,List.set_cons_zero,List.set_cons_succ,i64_w,i32_w]
        rfl
       refine one_ (i:=4) (N:=some 26) (flg 8 31) rfl rfl (one_of HT_.out (by kernel_rfl)) (by decide) (fun K hK=>?_)
       refine value_ (w1:=?_) (v:=?_) (by rfl) rfl ?_ ?_
       rotate_left 2
       ·go_simp
        constructor
        ·rfl
        ·rfl
       refine hK.out _ _ ⟨(blk_cell (blk_alloc BK114.out _) 0).trans rfl,(blk_cell (blk_alloc BK114.out _) 1).trans rfl,(blk_cell (blk_alloc BK114.out _) 2).trans rfl,(blk_cell (blk_alloc BK114.out _) 3).trans rfl,(blk_cell (blk_alloc BK114.out _) 4).trans rfl,(blk_cell (blk_alloc BK116.out _) 0).trans rfl,(blk_cell (blk_alloc BK116.out _) 1).trans rfl,(blk_cell (blk_alloc BK116.out _) 2).trans rfl,(blk_cell (blk_alloc BK116.out _) 3).trans rfl,(blk_cell (blk_alloc BK116.out _) 4).trans rfl⟩ (fun hHeld=>?_)
       clear hK K
       refine norm_ (a':=?_) ?_ ?_
       rotate_left
       ·show Act.put _ (some 26) _=_
        simp only [Act.put,List.setIfInBounds_toArray,List.set_cons_zero,List.set_cons_succ,i64_w,i32_w]
        rfl
       refine one_ (i:=5) (N:=some 27) (flg 8 63) rfl rfl (one_of HT_.out (by kernel_rfl)) (by decide) (fun K hK=>?_)
       refine Kd.R_append_step k33 (w0:=w) w.heap.size (by rfl) (.tmp 23) (.tmp 26) 31 33 (.agg #[(.string ⟨#[]⟩),(.string ⟨#[]⟩),(.int .i64 0),(.slice none 0 0),(.int .i64 0)]) 72 rfl Tryd.underlying31 info33 rfl (by decide) (by omega) u115003 x115003_1 (⟨t117,t118,t119,t120,t123⟩:S33) [.string t117,.string t118,.int .i64 t119,.slice Ao25 t120.length co25,.int .i64 t123] (fun k_=>k_≠gb113∧k_≠gb114) (fun k_=>((fun k_=>k_≠gb113∧k_≠gb114)) k_∧some k_≠(u115003:Value).ownBlock) rfl rfl ?aP (fun _ hk=>hk) ?aF ?aO ?aB ?aS ?aL ?_
       (case aP=>exact k33_mkM _ _ _ (⟨t117,t118,t119,t120,t123⟩:S33) (Kd.R_mono (HO122.out) (fun k_ hk=>⟨⟨hk.1.2,hk.2⟩,hk.1.1.2⟩)))
       (case aB=>exact (bl_ HB.out))
       (case aF=>exact (fun k_ hk=>⟨Kd.freshB (g:=gb113) (o:=.cells #[.string (⟨#[]⟩:ByteArray),.string (⟨#[]⟩:ByteArray),.int .i64 0,.slice none 0 0,.int .i64 0] 33 (0,0)) (kb_ BK113.out) k_ hk,Kd.freshB (g:=gb114) (o:=.cells #[.string a0_0,.string a0_1,.int .i64 a0_2,u115003,.int .i64 a0_4] 33 (0,0)) (kb_ BK114.out) k_ hk⟩))
       (case aO=>exact (by (with_reducible repeat (first|apply Kd.R_alloc|apply Kd.R_drewN|apply Kd.R_drew));exact Kd.R_mono HO_115003.out (fun _ hk=>⟨hk.1.1,hk.1.2⟩)))
       (case aS=>exact (below_size (bl_ HB.out)))
       (case aL=>have:=LMc15.out;omega)
       intro v125 w24 ho hb hg hat
       rw [← Ny124.out] at ho
       have n0_:=Aside0.mk (bg_ BK112.out hg (Kd.R_ne HO_115003.out BK112.out (by decide)))
       have n1_:=Aside0.mk (bg_ BK113.out hg (Kd.R_away HO_115003.out (fun _ hk=>hk.1.1)))
       have n2_:=Aside0.mk (bg_ BK114.out hg (Kd.R_away HO_115003.out (fun _ hk=>hk.1.2)))
       have n3_:=Aside0.mk (bg_ BK116.out hg (Kd.R_ne HO_115003.out BK116.out (by decide)))
       have n4_:=Aside0.mk (hb)
       have n5_:=Aside0.mk (ho)
       clear BK112
       clear BK113
       clear BK114
       clear BK116
       clear HB
       clear HO_115003
       clear HO122
       have BK112:=n0_
       have BK113:=n1_
       have BK114:=n2_
       have BK116:=n3_
       have HB:=n4_
       have HO126:=n5_
       clear n0_ n1_ n2_ n3_ n4_ n5_
       clear ho hb hg hat
       obtain ⟨Ao26,co26,eo26⟩:=Kd.R_slice HO126.out
       (first|subst eo26|(injection eo26 with f1_ f2_ f3_;have f4_:=f1_.symm;have f5_:=f3_.symm;clear f1_ f2_ f3_;subst f4_;subst f5_))
       refine hK.out _ _ ⟨zc_ BK114.out 0,zc_ BK114.out 1,zc_ BK114.out 2,zc_ BK114.out 3,zc_ BK114.out 4,zc_ BK116.out 0,zc_ BK116.out 1,zc_ BK116.out 2,zc_ BK116.out 3,zc_ BK116.out 4⟩ (fun hHeld=>?_)
       clear hK K
       refine norm_ (a':=?_) ?_ ?_
       rotate_left
       ·show Act.put _ (some 27) _=_
        simp only [Act.put,List.setIfInBounds_toArray,List.set_cons_zero,List.set_cons_succ,i64_w,i32_w]
        rfl
       refine pur_ 6 28 (flg 8 127) rfl rfl (any_of HT_.out (by kernel_rfl)) (fun _ _ _ h=>h) ?_
       refine last_ (i:=7) (N:=none) (flg 8 255) rfl rfl (one_of HT_.out (by kernel_rfl)) (by decide) (fun K hK=>?_)
       have hs27:w24.cell? ⟨gb114,3,none⟩=some (u115003):=zc_ BK114.out 3
       have hfs27:=blk_frozen BK114.out 3
       have hns27_0:=NB112_114.out
       have hns27_1:=NB113_114.out
       have hns27_3:=NB116_114.out
       have hms27_0:=NB114_112.out
       have hms27_1:=NB114_113.out
       have hms27_3:=NB114_116.out
       refine skip_ (w1:=?_) (by rfl) rfl ?_ ?_
       rotate_left
       ·go_simp
        rfl
       refine hK.out _ _ ?_
       clear hK K
       refine done_ (done_of HT_.out (by kernel_rfl)) ?_
       try go_wp2
       go_roundg k1
       case measure=>have:=HK1.out;omega
       case rel=>exact ⟨(wrap64 (x18_1+1)),(y124),(.slice Ao26 y124.length co26),rf_,H',⟨by have:=HK1.out;omega⟩,⟨by (with_reducible repeat (first|apply Kd.R_alloc|apply Kd.R_drewN|apply Kd.R_drew));exact Kd.R_mono (Kd.R_far (p:=⟨gb114,3,none⟩) (Kd.R_mono HO126.out (fun k_ hk=>(⟨hk,hk.2⟩:_∧k_≠gb114))) (fun _ hk=>hk.2) (.slice Ao26 y124.length co26)) (fun _ hk=>⟨hk.1.1,hk.1.2⟩)⟩,⟨kbc_ BK112.out⟩,⟨kbc_ BK113.out⟩,⟨kbc_ BK114.out⟩,⟨bl_ HB.out⟩⟩
      ·rw [if_neg c15] at H
       exact absurd H (by simp)
     ·rw [if_neg c13] at H
      exact absurd H (by simp)
    ·rw [if_neg c12] at H
     exact absurd H (by simp)
   ·rw [if_neg c11] at H
    have c11b0:decide (x18_1 < (l0_3.length:Int))=false:=decide_eq_false c11
    clear c11
    simp only [Option.some.injEq,Prod.mk.injEq] at H
    obtain ⟨rfl,rfl,rfl,rfl,rfl⟩:=H
    have hnb28:=NB114_112.out
    have hnc28:=NB112_114.out
    have hnb29:=NB114_113.out
    have hnc29:=NB113_114.out
    have hcz30_0:wr.cell? ⟨gb114,0,none⟩=some (.string a0_0):=zc_ BK114.out 0
    have hcz30_1:wr.cell? ⟨gb114,1,none⟩=some (.string a0_1):=zc_ BK114.out 1
    have hcz30_2:wr.cell? ⟨gb114,2,none⟩=some (.int .i64 a0_2):=zc_ BK114.out 2
    have hcz30_3:wr.cell? ⟨gb114,3,none⟩=some (u115003):=zc_ BK114.out 3
    have hcz30_4:wr.cell? ⟨gb114,4,none⟩=some (.int .i64 a0_4):=zc_ BK114.out 4
    have hfz30_0:=blk_frozen BK114.out 0
    have hfz30_1:=blk_frozen BK114.out 1
    have hfz30_2:=blk_frozen BK114.out 2
    have hfz30_3:=blk_frozen BK114.out 3
    have hfz30_4:=blk_frozen BK114.out 4
    have hnb31:=NB113_112.out
    have hnc31:=NB112_113.out
    have hcz32_0:wr.cell? ⟨gb113,0,none⟩=some (.string (⟨#[]⟩:ByteArray)):=zc_ BK113.out 0
    have hcz32_1:wr.cell? ⟨gb113,1,none⟩=some (.string (⟨#[]⟩:ByteArray)):=zc_ BK113.out 1
    have hcz32_2:wr.cell? ⟨gb113,2,none⟩=some (.int .i64 0):=zc_ BK113.out 2
    have hcz32_3:wr.cell? ⟨gb113,3,none⟩=some (.slice none 0 0):=zc_ BK113.out 3
    have hcz32_4:wr.cell? ⟨gb113,4,none⟩=some (.int .i64 0):=zc_ BK113.out 4
    have hfz32_0:=blk_frozen BK113.out 0
    have hfz32_1:=blk_frozen BK113.out 1
    have hfz32_2:=blk_frozen BK113.out 2
    have hfz32_3:=blk_frozen BK113.out 3
    have hfz32_4:=blk_frozen BK113.out 4
    obtain ⟨Ao33,co33,eo33⟩:=Kd.R_slice HO_115003.out
    subst eo33
    go_wp2
    refine bodyPost_ret (results_cell_row rfl _ _ gb113 33 #[.string a0_0,.string a0_1,.int .i64 a0_2,.slice Ao33 x115003_1.length co33,.int .i64 a0_4] (0,0) _ rfl (kbc_ BK113.out) Tryd.underlying33 rfl (by kernel_rfl)) rfl ?_
    exact ⟨_,rt_,by (with_reducible repeat (first|apply Kd.R_alloc|apply Kd.R_drewN|apply Kd.R_drew));exact Kd.R_mono (Kd.R_far (p:=⟨gb113,4,none⟩) (Kd.R_far (p:=⟨gb113,3,none⟩) (Kd.R_far (p:=⟨gb113,2,none⟩) (Kd.R_far (p:=⟨gb113,1,none⟩) (Kd.R_far (p:=⟨gb113,0,none⟩) (Kd.R_mono HO_115003.out (fun k_ hk=>(⟨hk,hk.1⟩:_∧k_≠gb113))) (fun _ hk=>hk.2) (.string a0_0)) (fun _ hk=>hk.2) (.string a0_1)) (fun _ hk=>hk.2) (.int .i64 a0_2)) (fun _ hk=>hk.2) (.slice Ao33 x115003_1.length co33)) (fun _ hk=>hk.2) (.int .i64 a0_4)) (fun _ hk=>trivial),bl_ HB.out⟩
end Go.Proofs.YtnnbbeloifhofaaDoor.P
end
section
namespace Go.Proofs.YtnnbbeloifhofaaDoor.P
open Go.RowKit Go.Proofs.YtnnbbeloifhofaaDoorW.PrintWords Go.Proofs.YtnnbbeloifhofaaDoorW.PrintLast Go.Proofs.YtnnbbeloifhofaaDoorW.PrintMore
attribute [local go_sem] max2_int min2_int max_two min_two max_three min_three max_four min_four
set_option linter.unusedVariables false
set_option linter.unusedSimpArgs false
mutual
def helmsmanlaw12_Stmts.l0:Nat→List (S76)→List (S29)→Int→Int→Option ((List (S76)))
 | 0,_,_,_,_=>none
 | k+1,x3,x9,x10,x11=>if x11 < x10 then (if 0≤x11 then (if x11 < (x9.length:Int) then ((helmsmanlaw12_Stmts.f k ((rd_T29 x9 x11).f3)).bind fun t182=>((helmsmanlaw12_Stmts.f k ((rd_T29 x9 x11).f4)).bind fun t185=>(helmsmanlaw12_Stmts.l1 k x3 x9 x10 x11 ((rd_T29 x9 x11).f2) (((rd_T29 x9 x11).f2).length:Int) 0 ((rd_T29 x9 x11).f0) ((rd_T29 x9 x11).f1) ([]:List (S33)) t182 t185 ((rd_T29 x9 x11).f5)))) else (none)) else (none)) else (some x3)
def helmsmanlaw12_Stmts.l1:Nat→List (S76)→List (S29)→Int→Int→List (S24)→Int→Int→ByteArray→ByteArray→List (S33)→List (S76)→List (S76)→Int→Option ((List (S76)))
 | 0,_,_,_,_,_,_,_,_,_,_,_,_,_=>none
 | k+1,x3,x9,x10,x11,x29,x30,x31,x189000,x189001,x189002,x189003,x189004,x189005=>if x31 < x30 then (if 0≤x31 then (if x31 < (x29.length:Int) then ((helmsmanlaw12_Expr.f k ((rd_T24 x29 x31).f0) ((rd_T24 x29 x31).f1) ((rd_T24 x29 x31).f2) ((rd_T24 x29 x31).f3) ((rd_T24 x29 x31).f4)).bind fun bt191=>(if x189002.length < 1954687338268 then (helmsmanlaw12_Stmts.l1 k x3 x9 x10 x11 x29 x30 (wrap64 (x31+1)) x189000 x189001 (x189002++[(⟨bt191.1,bt191.2.1,bt191.2.2.1,bt191.2.2.2.1,bt191.2.2.2.2⟩:S33)]) x189003 x189004 x189005) else (none))) else (none)) else (none)) else (if x3.length < 1256584717458 then (helmsmanlaw12_Stmts.l0 k (x3++[(⟨x189000,x189001,x189002,x189003,x189004,x189005⟩:S76)]) x9 x10 (wrap64 (x11+1))) else (none))
def helmsmanlaw12_Stmts.f:Nat→List (S29)→Option ((List (S76)))
 | 0,_=>none
 | k+1,l0=>helmsmanlaw12_Stmts.l0 k ([]:List (S76)) l0 (l0.length:Int) 0
end
def helmsmanlaw12_Stmts.T5:Bool × List (List Nat × List Nat):=(true,[([],[]),([0],[0]),([],[]),([2],[2]),([],[]),([4],[4]),([],[]),([6],[6]),([7],[7]),([],[]),([9],[9]),([10,8],[10]),([1,3,5,8,11],[1,3,5,8,11]),([],[]),([13,12,11,0,1,2,3,4,5,6,7,8,9,10,11,12,13],[12,13])])
def helmsmanlaw12_Stmts.B5:List Nat:=[0,1,0,4,0,16,0,64,192,0,512,1984,4095,0,16383]
theorem helmsmanlaw12_Stmts.tab5:rtab .any (opsOf Tryd.f24 5)=helmsmanlaw12_Stmts.T5:=by kernel_rfl
theorem helmsmanlaw12_Stmts.bits5:waitsOk helmsmanlaw12_Stmts.T5.2 helmsmanlaw12_Stmts.B5=true:=by kernel_rfl
def helmsmanlaw12_Stmts.T9:Bool × List (List Nat × List Nat):=(true,[([],[]),([0],[0]),([],[]),([2],[2]),([3],[3]),([1,4,3],[1,4]),([0,1,2,3,4,5],[]),([6,5,5,0,1,2,3,4,5],[5,6])])
def helmsmanlaw12_Stmts.B9:List Nat:=[0,1,0,4,12,31,63,127]
theorem helmsmanlaw12_Stmts.tab9:rtab .any (opsOf Tryd.f24 9)=helmsmanlaw12_Stmts.T9:=by kernel_rfl
theorem helmsmanlaw12_Stmts.bits9:waitsOk helmsmanlaw12_Stmts.T9.2 helmsmanlaw12_Stmts.B9=true:=by kernel_rfl
set_option maxHeartbeats 8000000 in
set_option maxRecDepth 100000 in
theorem helmsmanlaw12_Stmts.calls (k:Nat) : ∀ (A0:Option Addr) (c0:Nat) (l0:List (S29)) (r:List (S76)) (w:World) (hr0:Kd.C k29 w A0 l0.length l0) (hc0:l0.length≤c0) (h:helmsmanlaw12_Stmts.f k l0=some r),
  Calls Tryd.prog 24 #[.slice A0 l0.length c0] w fun e w'=>∃ v0_:Value,e=.returned (v0_)∧Kd.R k76 76 w' w.heap.size (fun _=>True) v0_ r∧Below w.heap.size w w':=by
 induction k using Nat.strongRecOn with
 | _ k ih=>
 intro A0 c0 l0 r w hr0 hc0 h
 cases k with
 | zero=>exact absurd h (by simp [helmsmanlaw12_Stmts.f])
 | succ k=>
 simp only [helmsmanlaw12_Stmts.f] at h
 have hu29:=Tryd.underlying29
 have hu76:=Tryd.underlying76
 have hu24:=Tryd.underlying24
 have HR0:=Aside0.mk hr0
 have HC0:=Aside0.mk hc0
 clear hr0 hc0
 have HB:=Aside0.mk (Below.refl w.heap.size w)
 have H:(helmsmanlaw12_Stmts.l0 k ([]:List (S76)) l0 (l0.length:Int) 0)=some r:=h
 clear h
 have H':=Aside0.mk H
 clear H
 go_enter Tryd.func24,Tryd.ntmps24
 go_wp2
 (try simp only [Act.put,List.setIfInBounds_toArray,List.set_cons_succ,List.set_cons_zero])
 go_loopg [3,11] k (fun kq v3 v11 w'=>∃ (x3_1:List (S76)) (x11_1:Int),v11=.int .i64 x11_1∧Aside0 (helmsmanlaw12_Stmts.l0 kq x3_1 l0 (l0.length:Int) x11_1=some r)∧Aside0 (kq≤k)∧Aside0 (Kd.R k76 76 w' w.heap.size (fun _=>True) v3 x3_1)∧Aside0 (Below w.heap.size w w'))
 case atStart=>exact ⟨(([]:List (S76))),(0),rf_,H',⟨Nat.le_refl _⟩,⟨by first|exact Kd.R_nil _ _ _ _ _|exact Kd.N_nil _ _ _ _ _|exact Kd.V_nil _ _ _ _ _|exact Kd.Q_nil _ _ _ _ _|exact Kd.S_nil _ _ _ _ _⟩,⟨bl_ HB.out⟩⟩
 case round=>
  clear H'
  obtain ⟨x3_1,x11_1,rfl,HA,HK1,HO_3,HB⟩:=hrel
  cases gk with
  | zero=>exact absurd HA.out (by simp [helmsmanlaw12_Stmts.l0])
  | succ k1=>
   have H:=HA.out
   clear HA
   simp only [helmsmanlaw12_Stmts.l0] at H
   by_cases c2:x11_1 < (l0.length:Int)
   ·rw [if_pos c2] at H
    have c2b0:decide (x11_1 < (l0.length:Int))=true:=decide_eq_true c2
    clear c2
    by_cases c3:0≤x11_1
    ·rw [if_pos c3] at H
     have c3b0:decide (0≤x11_1)=true:=decide_eq_true c3
     clear c3
     by_cases c4:x11_1 < (l0.length:Int)
     ·rw [if_pos c4] at H
      have c4b0:decide (x11_1 < (l0.length:Int))=true:=decide_eq_true c4
      clear c4
      replace H:=Option.bind_eq_some_iff.mp H
      obtain ⟨t182,A50,H⟩:=H
      replace H:((helmsmanlaw12_Stmts.f k1 ((rd_T29 l0 x11_1).f4)).bind fun t185=>(helmsmanlaw12_Stmts.l1 k1 x3_1 l0 (l0.length:Int) x11_1 ((rd_T29 l0 x11_1).f2) (((rd_T29 l0 x11_1).f2).length:Int) 0 ((rd_T29 l0 x11_1).f0) ((rd_T29 l0 x11_1).f1) ([]:List (S33)) t182 t185 ((rd_T29 l0 x11_1).f5)))=some r:=H
      have A5:=Aside0.mk A50
      clear A50
      replace H:=Option.bind_eq_some_iff.mp H
      obtain ⟨t185,A60,H⟩:=H
      replace H:(helmsmanlaw12_Stmts.l1 k1 x3_1 l0 (l0.length:Int) x11_1 ((rd_T29 l0 x11_1).f2) (((rd_T29 l0 x11_1).f2).length:Int) 0 ((rd_T29 l0 x11_1).f0) ((rd_T29 l0 x11_1).f1) ([]:List (S33)) t182 t185 ((rd_T29 l0 x11_1).f5))=some r:=H
      have A6:=Aside0.mk A60
      clear A60
      have H':=Aside0.mk H
      clear H
      have p180:0≤(x11_1:Int):=of_decide_eq_true as_
      have q180:x11_1 < (l0.length:Int):=of_decide_eq_true as_
      obtain ⟨ad180,A180_2,c180_2,A180_3,c180_3,A180_4,c180_4,e180,hx180_0,hx180_1,hx180_2,hx180_3,hx180_4,hx180_5,hl180_2,hi180_2,hl180_3,hi180_3,hl180_4,hi180_4⟩:=at_T29 HR0.out x11_1 p180 q180
      cases e180
      replace hx180_0:=(cb_ HB.out hx180_0:_)
      replace hx180_1:=(cb_ HB.out hx180_1:_)
      replace hx180_2:=(cb_ HB.out hx180_2:_)
      replace hx180_3:=(cb_ HB.out hx180_3:_)
      replace hx180_4:=(cb_ HB.out hx180_4:_)
      replace hx180_5:=(cb_ HB.out hx180_5:_)
      have HR180_2:=Aside0.mk hi180_2
      have HC180_2:=Aside0.mk hl180_2
      clear hi180_2 hl180_2
      have HR180_3:=Aside0.mk hi180_3
      have HC180_3:=Aside0.mk hl180_3
      clear hi180_3 hl180_3
      have HR180_4:=Aside0.mk hi180_4
      have HC180_4:=Aside0.mk hl180_4
      clear hi180_4 hl180_4
      replace p180:=eq_true p180
      replace q180:=eq_true q180
      try go_wp2_with (first|((with_reducible refine gate_dst (N:=5) rfl ?_);refine box_event ?hg (N:=5) ?hd (cs:=#[.string (⟨#[]⟩:ByteArray),.string (⟨#[]⟩:ByteArray),.slice none 0 0,.slice none 0 0,.slice none 0 0,.int .i64 0]) (t:=29) ?hr ?_;(case hd=>rfl);(case hg=>rfl);(case hr=>first|(go_simp;done)|(go_simp;rfl));intro gb181 hg w7 hbox hb;have n0_:=Aside0.mk (Kd.R_below (by (with_reducible repeat (first|apply Kd.R_alloc|apply Kd.R_drewN|apply Kd.R_drew));exact HO_3.out) hb);have n1_:=Aside0.mk (below_step (bl_ HB.out) hb);have n2_:=Aside0.mk (hbox);have n3_:=Aside0.mk ((gs_ hg (bl_ HB.out):w.heap.size≤gb181));have n4_:=Aside0.mk ((gs_ hg (bl_ HB.out):w.heap.size≤gb181));clear HO_3;clear HB;have HO_3:=n0_;have HB:=n1_;have BK181:=n2_;have GW181:=n3_;have GE181:=n4_;clear n0_ n1_ n2_ n3_ n4_;clear hb hbox hg;have hcz8_0:w7.cell? ⟨gb181,0,none⟩=some (.string (⟨#[]⟩:ByteArray)):=zc_ BK181.out 0;have hcz8_1:w7.cell? ⟨gb181,1,none⟩=some (.string (⟨#[]⟩:ByteArray)):=zc_ BK181.out 1;have hcz8_2:w7.cell? ⟨gb181,2,none⟩=some (.slice none 0 0):=zc_ BK181.out 2;have hcz8_3:w7.cell? ⟨gb181,3,none⟩=some (.slice none 0 0):=zc_ BK181.out 3;have hcz8_4:w7.cell? ⟨gb181,4,none⟩=some (.slice none 0 0):=zc_ BK181.out 4;have hcz8_5:w7.cell? ⟨gb181,5,none⟩=some (.int .i64 0):=zc_ BK181.out 5;have hfz8_0:=blk_frozen BK181.out 0;have hfz8_1:=blk_frozen BK181.out 1;have hfz8_2:=blk_frozen BK181.out 2;have hfz8_3:=blk_frozen BK181.out 3;have hfz8_4:=blk_frozen BK181.out 4;have hfz8_5:=blk_frozen BK181.out 5))
      have n0_:Aside0 (Kd.R k76 76 ((((((w7.setCell ⟨gb181,0,none⟩ (.string ((rd_T29 l0 x11_1).f0))).setCell ⟨gb181,1,none⟩ (.string ((rd_T29 l0 x11_1).f1))).setCell ⟨gb181,2,none⟩ (.slice A180_2 ((rd_T29 l0 x11_1).f2).length c180_2)).setCell ⟨gb181,3,none⟩ (.slice A180_3 ((rd_T29 l0 x11_1).f3).length c180_3)).setCell ⟨gb181,4,none⟩ (.slice A180_4 ((rd_T29 l0 x11_1).f4).length c180_4)).setCell ⟨gb181,5,none⟩ (.int .i64 ((rd_T29 l0 x11_1).f5))) w.heap.size (fun _=>True) u3 x3_1):=⟨by (with_reducible repeat (first|apply Kd.R_alloc|apply Kd.R_drewN|apply Kd.R_drew));exact Kd.R_mono (Kd.R_far (p:=⟨gb181,5,none⟩) (Kd.R_far (p:=⟨gb181,4,none⟩) (Kd.R_far (p:=⟨gb181,3,none⟩) (Kd.R_far (p:=⟨gb181,2,none⟩) (Kd.R_far (p:=⟨gb181,1,none⟩) (Kd.R_far (p:=⟨gb181,0,none⟩) (Kd.R_types HO_3.out BK181.out (by decide)) (fun _ hk=>hk.2) (.string ((rd_T29 l0 x11_1).f0))) (fun _ hk=>hk.2) (.string ((rd_T29 l0 x11_1).f1))) (fun _ hk=>hk.2) (.slice A180_2 ((rd_T29 l0 x11_1).f2).length c180_2)) (fun _ hk=>hk.2) (.slice A180_3 ((rd_T29 l0 x11_1).f3).length c180_3)) (fun _ hk=>hk.2) (.slice A180_4 ((rd_T29 l0 x11_1).f4).length c180_4)) (fun _ hk=>hk.2) (.int .i64 ((rd_T29 l0 x11_1).f5))) (fun _ hk=>trivial)⟩
      have n1_:Aside0 (((((((w7.setCell ⟨gb181,0,none⟩ (.string ((rd_T29 l0 x11_1).f0))).setCell ⟨gb181,1,none⟩ (.string ((rd_T29 l0 x11_1).f1))).setCell ⟨gb181,2,none⟩ (.slice A180_2 ((rd_T29 l0 x11_1).f2).length c180_2)).setCell ⟨gb181,3,none⟩ (.slice A180_3 ((rd_T29 l0 x11_1).f3).length c180_3)).setCell ⟨gb181,4,none⟩ (.slice A180_4 ((rd_T29 l0 x11_1).f4).length c180_4)).setCell ⟨gb181,5,none⟩ (.int .i64 ((rd_T29 l0 x11_1).f5))).heap[gb181]?=some (.cells #[.string ((rd_T29 l0 x11_1).f0),.string ((rd_T29 l0 x11_1).f1),.slice A180_2 ((rd_T29 l0 x11_1).f2).length c180_2,.slice A180_3 ((rd_T29 l0 x11_1).f3).length c180_3,.slice A180_4 ((rd_T29 l0 x11_1).f4).length c180_4,.int .i64 ((rd_T29 l0 x11_1).f5)] 29 (0,0))):=⟨kbc_ BK181.out⟩
      have n2_:Aside0 (Below w.heap.size w ((((((w7.setCell ⟨gb181,0,none⟩ (.string ((rd_T29 l0 x11_1).f0))).setCell ⟨gb181,1,none⟩ (.string ((rd_T29 l0 x11_1).f1))).setCell ⟨gb181,2,none⟩ (.slice A180_2 ((rd_T29 l0 x11_1).f2).length c180_2)).setCell ⟨gb181,3,none⟩ (.slice A180_3 ((rd_T29 l0 x11_1).f3).length c180_3)).setCell ⟨gb181,4,none⟩ (.slice A180_4 ((rd_T29 l0 x11_1).f4).length c180_4)).setCell ⟨gb181,5,none⟩ (.int .i64 ((rd_T29 l0 x11_1).f5)))):=⟨bl_ HB.out⟩
      (try clear HO_3)
      (try clear BK181)
      (try clear HB)
      generalize ((((((w7.setCell ⟨gb181,0,none⟩ (.string ((rd_T29 l0 x11_1).f0))).setCell ⟨gb181,1,none⟩ (.string ((rd_T29 l0 x11_1).f1))).setCell ⟨gb181,2,none⟩ (.slice A180_2 ((rd_T29 l0 x11_1).f2).length c180_2)).setCell ⟨gb181,3,none⟩ (.slice A180_3 ((rd_T29 l0 x11_1).f3).length c180_3)).setCell ⟨gb181,4,none⟩ (.slice A180_4 ((rd_T29 l0 x11_1).f4).length c180_4)).setCell ⟨gb181,5,none⟩ (.int .i64 ((rd_T29 l0 x11_1).f5)))=w9 at n0_ n1_ n2_ ⊢
      have HO_3:=n0_
      have BK181:=n1_
      have HB:=n2_
      clear n0_ n1_ n2_
      have n0_:=Aside0.mk (Kd.R_drew HO_3.out)
      have n1_:=Aside0.mk (blk_drew BK181.out)
      have n2_:=Aside0.mk (below_drew1 HB.out)
      clear HO_3
      clear BK181
      clear HB
      have HO_3:=n0_
      have BK181:=n1_
      have HB:=n2_
      clear n0_ n1_ n2_
      refine start_ (n:=15) (S:=fun w'=>w'.cell? ⟨gb181,0,none⟩=some (.string ((rd_T29 l0 x11_1).f0))∧w'.cell? ⟨gb181,1,none⟩=some (.string ((rd_T29 l0 x11_1).f1))∧w'.cell? ⟨gb181,2,none⟩=some (.slice A180_2 ((rd_T29 l0 x11_1).f2).length c180_2)∧w'.cell? ⟨gb181,3,none⟩=some (.slice A180_3 ((rd_T29 l0 x11_1).f3).length c180_3)∧w'.cell? ⟨gb181,4,none⟩=some (.slice A180_4 ((rd_T29 l0 x11_1).f4).length c180_4)∧w'.cell? ⟨gb181,5,none⟩=some (.int .i64 ((rd_T29 l0 x11_1).f5))) (ds:=[]) (flg 15 0) (by kernel_rfl) rfl (by kernel_rfl) ⟨zc_ BK181.out 0,zc_ BK181.out 1,zc_ BK181.out 2,zc_ BK181.out 3,zc_ BK181.out 4,zc_ BK181.out 5⟩ (fun hHeld=>?_);refine with_tabW helmsmanlaw12_Stmts.tab5 helmsmanlaw12_Stmts.bits5 (fun HT_ HW_=>?_)
      generalize w9.drew=w10 at HO_3 BK181 HB hHeld ⊢
      refine pur_ 0 15 (flg 15 1) rfl rfl (any_of HT_.out (by kernel_rfl)) (fun _ _ _ h=>h) ?_
      refine pur_ 2 17 (flg 15 5) rfl rfl (any_of HT_.out (by kernel_rfl)) (fun _ _ _ h=>h) ?_
      refine pur_ 4 19 (flg 15 21) rfl rfl (any_of HT_.out (by kernel_rfl)) (fun _ _ _ h=>h) ?_
      refine pur_ 6 21 (flg 15 85) rfl rfl (any_of HT_.out (by kernel_rfl)) (fun _ _ _ h=>h) ?_
      refine pur_ 9 24 (flg 15 597) rfl rfl (any_of HT_.out (by kernel_rfl)) (fun _ _ _ h=>h) ?_
      refine tak_ 1 16 (flg 15 599) rfl rfl (take_ofW HT_.out HW_.out (by kernel_rfl)) (fun _ _ _ h=>h) hHeld ?_
      refine tak_ 3 18 (flg 15 607) rfl rfl (take_ofW HT_.out HW_.out (by kernel_rfl)) (fun _ _ _ h=>h) hHeld ?_
      refine tak_ 5 20 (flg 15 639) rfl rfl (take_ofW HT_.out HW_.out (by kernel_rfl)) (fun _ _ _ h=>h) hHeld ?_
      refine tak_ 7 22 (flg 15 767) rfl rfl (take_ofW HT_.out HW_.out (by kernel_rfl)) (fun _ _ _ h=>h) hHeld ?_
      refine tak_ 10 25 (flg 15 1791) rfl rfl (take_ofW HT_.out HW_.out (by kernel_rfl)) (fun _ _ _ h=>h) hHeld ?_
      refine join_ (σ:=Value × Value × Nat) 1 (flg 15 16383) (fun s_=>[(23,s_.1),(26,s_.2.1),(6,.pointer (some ⟨s_.2.2,0,none⟩)),(27,.agg #[.string ((rd_T29 l0 x11_1).f0),.string ((rd_T29 l0 x11_1).f1),.slice none 0 0,s_.1,s_.2.1,.int .i64 ((rd_T29 l0 x11_1).f5)])]) (fun s_ w'=>(w'.cell? ⟨gb181,0,none⟩=some (.string ((rd_T29 l0 x11_1).f0))∧w'.cell? ⟨gb181,1,none⟩=some (.string ((rd_T29 l0 x11_1).f1))∧w'.cell? ⟨gb181,2,none⟩=some (.slice A180_2 ((rd_T29 l0 x11_1).f2).length c180_2)∧w'.cell? ⟨gb181,3,none⟩=some (.slice A180_3 ((rd_T29 l0 x11_1).f3).length c180_3)∧w'.cell? ⟨gb181,4,none⟩=some (.slice A180_4 ((rd_T29 l0 x11_1).f4).length c180_4)∧w'.cell? ⟨gb181,5,none⟩=some (.int .i64 ((rd_T29 l0 x11_1).f5)))∧(Kd.R k76 76 w' w.heap.size (fun k_=>some k_≠(s_.2.1:Value).ownBlock∧some k_≠(u3:Value).ownBlock∧k_≠s_.2.2) s_.1 t182)∧(Kd.R k76 76 w' w.heap.size (fun k_=>some k_≠(s_.1:Value).ownBlock∧some k_≠(u3:Value).ownBlock∧k_≠s_.2.2) s_.2.1 t185)∧(Kd.R k76 76 w' w.heap.size (fun k_=>some k_≠(s_.1:Value).ownBlock∧some k_≠(s_.2.1:Value).ownBlock∧k_≠s_.2.2) u3 x3_1)∧(w'.heap[gb181]?=some (.cells #[.string ((rd_T29 l0 x11_1).f0),.string ((rd_T29 l0 x11_1).f1),.slice A180_2 ((rd_T29 l0 x11_1).f2).length c180_2,.slice A180_3 ((rd_T29 l0 x11_1).f3).length c180_3,.slice A180_4 ((rd_T29 l0 x11_1).f4).length c180_4,.int .i64 ((rd_T29 l0 x11_1).f5)] 29 (0,0)))∧(w'.heap[s_.2.2]?=some (.cells #[.string (⟨#[]⟩:ByteArray),.string (⟨#[]⟩:ByteArray),.slice none 0 0,.slice none 0 0,.slice none 0 0,.int .i64 0] 76 (0,0)))∧(w.heap.size≤s_.2.2)∧(w.heap.size≤s_.2.2)∧(gb181≠s_.2.2)∧(s_.2.2≠gb181)∧(Below w.heap.size w w')) ?_ ?_
      rotate_left
      ·intro hCont
       refine two_ (i:=8) (j:=13) (Ni:=some 23) (Nj:=some 6) (flg 15 2047) (flg 15 9983) rfl rfl rfl rfl (two_of HT_.out (by kernel_rfl)) (by decide) (by decide) (fun K hK=>?_) (fun K hK=>?_)
       ·skip
        refine goes_ Tryd.func24 (by kernel_rfl) rfl #[.slice A180_3 ((rd_T29 l0 x11_1).f3).length c180_3] (by rfl) rfl rfl ar_ ?_
        with_reducible refine (ih k1 (by have:=HK1.out;omega) _ _ ((rd_T29 l0 x11_1).f3) t182 _ ?side1 ?side2 A5.out).mono ?_
        (case side1=>exact kc_ HR180_3.out HB.out)
        (case side2=>exact HC180_3.out)
        rintro e w11 ⟨v183,rfl,ho0,hb⟩
        refine ⟨_,rfl,?_⟩
        have n0_:=Aside0.mk (Kd.R_elder' (by (with_reducible repeat (first|apply Kd.R_alloc|apply Kd.R_drewN|apply Kd.R_drew));exact HO_3.out) (Kd.R_base ho0) hb)
        have n1_:=Aside0.mk (Kd.R_lower (Kd.R_new' ho0 (Kd.R_lt (by (with_reducible repeat (first|apply Kd.R_alloc|apply Kd.R_drewN|apply Kd.R_drew));exact HO_3.out))) (below_size (bl_ HB.out)))
        have n2_:=Aside0.mk (bb_ BK181.out hb)
        have n3_:=Aside0.mk (below_step (bl_ HB.out) hb)
        clear HO_3
        clear BK181
        clear HB
        have HO_3:=n0_
        have HO184:=n1_
        have BK181:=n2_
        have HB:=n3_
        clear n0_ n1_ n2_ n3_
        (try clear hb)
        (try clear hb2)
        (try clear hk)
        (try clear hi)
        (try clear ho0)
        refine hK.out _ _ ⟨zc_ BK181.out 0,zc_ BK181.out 1,zc_ BK181.out 2,zc_ BK181.out 3,zc_ BK181.out 4,zc_ BK181.out 5⟩ (fun hHeld=>?_)
        clear hK K
        refine norm_ (a':=?_) ?_ ?_
        rotate_left
        ·show Act.put _ (some 23) _=_
         simp only [Act.put,List.setIfInBounds_toArray,List.set_cons_zero,List.set_cons_succ,i64_w,i32_w]
         rfl
        refine two_ (i:=11) (j:=13) (Ni:=some 26) (Nj:=some 6) (flg 15 4095) (flg 15 10239) rfl rfl rfl rfl (two_of HT_.out (by kernel_rfl)) (by decide) (by decide) (fun K hK=>?_) (fun K hK=>?_)
        ·skip
         refine goes_ Tryd.func24 (by kernel_rfl) rfl #[.slice A180_4 ((rd_T29 l0 x11_1).f4).length c180_4] (by rfl) rfl rfl ar_ ?_
         with_reducible refine (ih k1 (by have:=HK1.out;omega) _ _ ((rd_T29 l0 x11_1).f4) t185 _ ?side1 ?side2 A6.out).mono ?_
         (case side1=>exact kc_ HR180_4.out HB.out)
         (case side2=>exact HC180_4.out)
         rintro e w12 ⟨v186,rfl,ho0,hb⟩
         refine ⟨_,rfl,?_⟩
         have n0_:=Aside0.mk (Kd.R_elder' (by (with_reducible repeat (first|apply Kd.R_alloc|apply Kd.R_drewN|apply Kd.R_drew));exact HO_3.out) (Kd.R_base ho0) hb)
         have n1_:=Aside0.mk (Kd.R_elder' (by (with_reducible repeat (first|apply Kd.R_alloc|apply Kd.R_drewN|apply Kd.R_drew));exact HO184.out) (Kd.R_base ho0) hb)
         have n2_:=Aside0.mk (Kd.R_lower (Kd.R_new' (Kd.R_new' ho0 (Kd.R_lt (by (with_reducible repeat (first|apply Kd.R_alloc|apply Kd.R_drewN|apply Kd.R_drew));exact HO_3.out))) (Kd.R_lt (by (with_reducible repeat (first|apply Kd.R_alloc|apply Kd.R_drewN|apply Kd.R_drew));exact HO184.out))) (below_size (bl_ HB.out)))
         have n3_:=Aside0.mk (bb_ BK181.out hb)
         have n4_:=Aside0.mk (below_step (bl_ HB.out) hb)
         clear HO_3
         clear HO184
         clear BK181
         clear HB
         have HO_3:=n0_
         have HO184:=n1_
         have HO187:=n2_
         have BK181:=n3_
         have HB:=n4_
         clear n0_ n1_ n2_ n3_ n4_
         (try clear hb)
         (try clear hb2)
         (try clear hk)
         (try clear hi)
         (try clear ho0)
         obtain ⟨Ao13,co13,eo13⟩:=Kd.R_slice HO187.out
         (first|subst eo13|(injection eo13 with f1_ f2_ f3_;have f4_:=f1_.symm;have f5_:=f3_.symm;clear f1_ f2_ f3_;subst f4_;subst f5_))
         obtain ⟨Ao14,co14,eo14⟩:=Kd.R_slice HO184.out
         (first|subst eo14|(injection eo14 with f1_ f2_ f3_;have f4_:=f1_.symm;have f5_:=f3_.symm;clear f1_ f2_ f3_;subst f4_;subst f5_))
         refine hK.out _ _ ⟨zc_ BK181.out 0,zc_ BK181.out 1,zc_ BK181.out 2,zc_ BK181.out 3,zc_ BK181.out 4,zc_ BK181.out 5⟩ (fun hHeld=>?_)
         clear hK K
         refine norm_ (a':=?_) ?_ ?_
         rotate_left
         ·show Act.put _ (some 26) _=_
          simp only [Act.put,List.setIfInBounds_toArray,List.set_cons_zero,List.set_cons_succ,i64_w,i32_w]
          rfl
         refine pur_ 12 27 (flg 15 8191) rfl rfl (any_of HT_.out (by kernel_rfl)) (fun _ _ _ h=>h) ?_
         refine one_ (i:=13) (N:=some 6) (flg 15 16383) rfl rfl (one_of HT_.out (by kernel_rfl)) (by decide) (fun K hK=>?_)
         refine box_step ?hg (N:=6) ?hd (cs:=#[.string (⟨#[]⟩:ByteArray),.string (⟨#[]⟩:ByteArray),.slice none 0 0,.slice none 0 0,.slice none 0 0,.int .i64 0]) (t:=76) ?hr ?_;(case hd=>rfl);(case hg=>rfl);(case hr=>first|(go_simp;done)|(go_simp;rfl))
         intro gb188 hg w15 hbox hb
         have n0_:=Aside0.mk (Kd.R_below (Kd.R_elderB (by (with_reducible repeat (first|apply Kd.R_alloc|apply Kd.R_drewN|apply Kd.R_drew));exact HO_3.out) gb188 (Nat.le_of_eq hg.symm)) hb)
         have n1_:=Aside0.mk (Kd.R_below (Kd.R_elderB (by (with_reducible repeat (first|apply Kd.R_alloc|apply Kd.R_drewN|apply Kd.R_drew));exact HO184.out) gb188 (Nat.le_of_eq hg.symm)) hb)
         have n2_:=Aside0.mk (Kd.R_below (Kd.R_elderB (by (with_reducible repeat (first|apply Kd.R_alloc|apply Kd.R_drewN|apply Kd.R_drew));exact HO187.out) gb188 (Nat.le_of_eq hg.symm)) hb)
         have n3_:=Aside0.mk (bb_ BK181.out hb)
         have n4_:=Aside0.mk (below_step (bl_ HB.out) hb)
         have n5_:=Aside0.mk (hbox)
         have n6_:=Aside0.mk ((gs_ hg (bl_ HB.out):w.heap.size≤gb188))
         have n7_:=Aside0.mk ((gs_ hg (bl_ HB.out):w.heap.size≤gb188))
         have n8_:=Aside0.mk ((nl_ hg BK181.out:gb181≠gb188))
         have n9_:=Aside0.mk ((nr_ hg BK181.out:gb188≠gb181))
         clear HO_3
         clear HO184
         clear HO187
         clear BK181
         clear HB
         have HO_3:=n0_
         have HO184:=n1_
         have HO187:=n2_
         have BK181:=n3_
         have HB:=n4_
         have BK188:=n5_
         have GW188:=n6_
         have GE188:=n7_
         have NB181_188:=n8_
         have NB188_181:=n9_
         clear n0_ n1_ n2_ n3_ n4_ n5_ n6_ n7_ n8_ n9_
         clear hb hbox hg
         refine hK.out _ _ ⟨zc_ BK181.out 0,zc_ BK181.out 1,zc_ BK181.out 2,zc_ BK181.out 3,zc_ BK181.out 4,zc_ BK181.out 5⟩ (fun hHeld=>?_)
         clear hK K
         refine norm_ (a':=?_) ?_ ?_
         rotate_left
         ·show Act.put _ (some 6) _=_
          simp only [Act.put,List.setIfInBounds_toArray,List.set_cons_zero,List.set_cons_succ,i64_w,i32_w]
          rfl
         exact norm_ (by simp only [putAll,Act.put,List.setIfInBounds_toArray,List.set_cons_zero,List.set_cons_succ]) (hCont (.slice Ao14 t182.length co14,.slice Ao13 t185.length co13,gb188) _ ⟨hHeld,(by (with_reducible repeat (first|apply Kd.R_alloc|apply Kd.R_drewN|apply Kd.R_drew));exact Kd.R_mono HO184.out (fun _ hk=>⟨hk.1.2,⟨hk.1.1.2,hk.2⟩⟩)),(by (with_reducible repeat (first|apply Kd.R_alloc|apply Kd.R_drewN|apply Kd.R_drew));exact Kd.R_mono HO187.out (fun _ hk=>⟨hk.1.2,⟨hk.1.1.2,hk.2⟩⟩)),(by (with_reducible repeat (first|apply Kd.R_alloc|apply Kd.R_drewN|apply Kd.R_drew));exact Kd.R_mono HO_3.out (fun _ hk=>⟨hk.1.1.2,⟨hk.1.2,hk.2⟩⟩)),(kb_ BK181.out),(kb_ BK188.out),GW188.out,GE188.out,NB181_188.out,NB188_181.out,(bl_ HB.out)⟩)
        ·skip
         refine box_step ?hg (N:=6) ?hd (cs:=#[.string (⟨#[]⟩:ByteArray),.string (⟨#[]⟩:ByteArray),.slice none 0 0,.slice none 0 0,.slice none 0 0,.int .i64 0]) (t:=76) ?hr ?_;(case hd=>rfl);(case hg=>rfl);(case hr=>first|(go_simp;done)|(go_simp;rfl))
         intro gb188 hg w12 hbox hb
         have n0_:=Aside0.mk (Kd.R_below (Kd.R_elderB (by (with_reducible repeat (first|apply Kd.R_alloc|apply Kd.R_drewN|apply Kd.R_drew));exact HO_3.out) gb188 (Nat.le_of_eq hg.symm)) hb)
         have n1_:=Aside0.mk (Kd.R_below (Kd.R_elderB (by (with_reducible repeat (first|apply Kd.R_alloc|apply Kd.R_drewN|apply Kd.R_drew));exact HO184.out) gb188 (Nat.le_of_eq hg.symm)) hb)
         have n2_:=Aside0.mk (bb_ BK181.out hb)
         have n3_:=Aside0.mk (below_step (bl_ HB.out) hb)
         have n4_:=Aside0.mk (hbox)
         have n5_:=Aside0.mk ((gs_ hg (bl_ HB.out):w.heap.size≤gb188))
         have n6_:=Aside0.mk ((gs_ hg (bl_ HB.out):w.heap.size≤gb188))
         have n7_:=Aside0.mk ((nl_ hg BK181.out:gb181≠gb188))
         have n8_:=Aside0.mk ((nr_ hg BK181.out:gb188≠gb181))
         clear HO_3
         clear HO184
         clear BK181
         clear HB
         have HO_3:=n0_
         have HO184:=n1_
         have BK181:=n2_
         have HB:=n3_
         have BK188:=n4_
         have GW188:=n5_
         have GE188:=n6_
         have NB181_188:=n7_
         have NB188_181:=n8_
         clear n0_ n1_ n2_ n3_ n4_ n5_ n6_ n7_ n8_
         clear hb hbox hg
         refine hK.out _ _ ⟨zc_ BK181.out 0,zc_ BK181.out 1,zc_ BK181.out 2,zc_ BK181.out 3,zc_ BK181.out 4,zc_ BK181.out 5⟩ (fun hHeld=>?_)
         clear hK K
         refine norm_ (a':=?_) ?_ ?_
         rotate_left
         ·show Act.put _ (some 6) _=_
          simp only [Act.put,List.setIfInBounds_toArray,List.set_cons_zero,List.set_cons_succ,i64_w,i32_w]
          rfl
         refine one_ (i:=11) (N:=some 26) (flg 15 12287) rfl rfl (one_of HT_.out (by kernel_rfl)) (by decide) (fun K hK=>?_)
         refine goes_ Tryd.func24 (by kernel_rfl) rfl #[.slice A180_4 ((rd_T29 l0 x11_1).f4).length c180_4] (by rfl) rfl rfl ar_ ?_
         with_reducible refine (ih k1 (by have:=HK1.out;omega) _ _ ((rd_T29 l0 x11_1).f4) t185 _ ?side1 ?side2 A6.out).mono ?_
         (case side1=>exact kc_ HR180_4.out HB.out)
         (case side2=>exact HC180_4.out)
         rintro e w13 ⟨v186,rfl,ho0,hb⟩
         refine ⟨_,rfl,?_⟩
         have n0_:=Aside0.mk (Kd.R_elder' (by (with_reducible repeat (first|apply Kd.R_alloc|apply Kd.R_drewN|apply Kd.R_drew));exact HO_3.out) (Kd.R_base ho0) hb)
         have n1_:=Aside0.mk (Kd.R_elder' (by (with_reducible repeat (first|apply Kd.R_alloc|apply Kd.R_drewN|apply Kd.R_drew));exact HO184.out) (Kd.R_base ho0) hb)
         have n2_:=Aside0.mk (Kd.R_lower (Kd.R_newB (Kd.R_new' (Kd.R_new' ho0 (Kd.R_lt (by (with_reducible repeat (first|apply Kd.R_alloc|apply Kd.R_drewN|apply Kd.R_drew));exact HO_3.out))) (Kd.R_lt (by (with_reducible repeat (first|apply Kd.R_alloc|apply Kd.R_drewN|apply Kd.R_drew));exact HO184.out))) (g:=gb188) (o:=.cells #[.string (⟨#[]⟩:ByteArray),.string (⟨#[]⟩:ByteArray),.slice none 0 0,.slice none 0 0,.slice none 0 0,.int .i64 0] 76 (0,0)) (kb_ BK188.out)) (below_size (bl_ HB.out)))
         have n3_:=Aside0.mk (bb_ BK181.out hb)
         have n4_:=Aside0.mk (bb_ BK188.out hb)
         have n5_:=Aside0.mk (below_step (bl_ HB.out) hb)
         clear HO_3
         clear HO184
         clear BK181
         clear BK188
         clear HB
         have HO_3:=n0_
         have HO184:=n1_
         have HO187:=n2_
         have BK181:=n3_
         have BK188:=n4_
         have HB:=n5_
         clear n0_ n1_ n2_ n3_ n4_ n5_
         (try clear hb)
         (try clear hb2)
         (try clear hk)
         (try clear hi)
         (try clear ho0)
         obtain ⟨Ao14,co14,eo14⟩:=Kd.R_slice HO187.out
         (first|subst eo14|(injection eo14 with f1_ f2_ f3_;have f4_:=f1_.symm;have f5_:=f3_.symm;clear f1_ f2_ f3_;subst f4_;subst f5_))
         obtain ⟨Ao15,co15,eo15⟩:=Kd.R_slice HO184.out
         (first|subst eo15|(injection eo15 with f1_ f2_ f3_;have f4_:=f1_.symm;have f5_:=f3_.symm;clear f1_ f2_ f3_;subst f4_;subst f5_))
         refine hK.out _ _ ⟨zc_ BK181.out 0,zc_ BK181.out 1,zc_ BK181.out 2,zc_ BK181.out 3,zc_ BK181.out 4,zc_ BK181.out 5⟩ (fun hHeld=>?_)
         clear hK K
         refine norm_ (a':=?_) ?_ ?_
         rotate_left
         ·show Act.put _ (some 26) _=_
          simp only [Act.put,List.setIfInBounds_toArray,List.set_cons_zero,List.set_cons_succ,i64_w,i32_w]
          rfl
         refine pur_ 12 27 (flg 15 16383) rfl rfl (any_of HT_.out (by kernel_rfl)) (fun _ _ _ h=>h) ?_
         exact norm_ (by simp only [putAll,Act.put,List.setIfInBounds_toArray,List.set_cons_zero,List.set_cons_succ]) (hCont (.slice Ao15 t182.length co15,.slice Ao14 t185.length co14,gb188) _ ⟨hHeld,(by (with_reducible repeat (first|apply Kd.R_alloc|apply Kd.R_drewN|apply Kd.R_drew));exact Kd.R_mono HO184.out (fun _ hk=>⟨hk.2,⟨hk.1.1.2,hk.1.2⟩⟩)),(by (with_reducible repeat (first|apply Kd.R_alloc|apply Kd.R_drewN|apply Kd.R_drew));exact Kd.R_mono HO187.out (fun _ hk=>⟨hk.1.2,⟨hk.1.1.2,hk.2⟩⟩)),(by (with_reducible repeat (first|apply Kd.R_alloc|apply Kd.R_drewN|apply Kd.R_drew));exact Kd.R_mono HO_3.out (fun _ hk=>⟨hk.1.1.2,⟨hk.2,hk.1.2⟩⟩)),(kb_ BK181.out),(kb_ BK188.out),GW188.out,GE188.out,NB181_188.out,NB188_181.out,(bl_ HB.out)⟩)
       ·skip
        refine box_step ?hg (N:=6) ?hd (cs:=#[.string (⟨#[]⟩:ByteArray),.string (⟨#[]⟩:ByteArray),.slice none 0 0,.slice none 0 0,.slice none 0 0,.int .i64 0]) (t:=76) ?hr ?_;(case hd=>rfl);(case hg=>rfl);(case hr=>first|(go_simp;done)|(go_simp;rfl))
        intro gb188 hg w11 hbox hb
        have n0_:=Aside0.mk (Kd.R_below (Kd.R_elderB (by (with_reducible repeat (first|apply Kd.R_alloc|apply Kd.R_drewN|apply Kd.R_drew));exact HO_3.out) gb188 (Nat.le_of_eq hg.symm)) hb)
        have n1_:=Aside0.mk (bb_ BK181.out hb)
        have n2_:=Aside0.mk (below_step (bl_ HB.out) hb)
        have n3_:=Aside0.mk (hbox)
        have n4_:=Aside0.mk ((gs_ hg (bl_ HB.out):w.heap.size≤gb188))
        have n5_:=Aside0.mk ((gs_ hg (bl_ HB.out):w.heap.size≤gb188))
        have n6_:=Aside0.mk ((nl_ hg BK181.out:gb181≠gb188))
        have n7_:=Aside0.mk ((nr_ hg BK181.out:gb188≠gb181))
        clear HO_3
        clear BK181
        clear HB
        have HO_3:=n0_
        have BK181:=n1_
        have HB:=n2_
        have BK188:=n3_
        have GW188:=n4_
        have GE188:=n5_
        have NB181_188:=n6_
        have NB188_181:=n7_
        clear n0_ n1_ n2_ n3_ n4_ n5_ n6_ n7_
        clear hb hbox hg
        refine hK.out _ _ ⟨zc_ BK181.out 0,zc_ BK181.out 1,zc_ BK181.out 2,zc_ BK181.out 3,zc_ BK181.out 4,zc_ BK181.out 5⟩ (fun hHeld=>?_)
        clear hK K
        refine norm_ (a':=?_) ?_ ?_
        rotate_left
        ·show Act.put _ (some 6) _=_
         simp only [Act.put,List.setIfInBounds_toArray,List.set_cons_zero,List.set_cons_succ,i64_w,i32_w]
         rfl
        refine one_ (i:=8) (N:=some 23) (flg 15 10239) rfl rfl (one_of HT_.out (by kernel_rfl)) (by decide) (fun K hK=>?_)
        refine goes_ Tryd.func24 (by kernel_rfl) rfl #[.slice A180_3 ((rd_T29 l0 x11_1).f3).length c180_3] (by rfl) rfl rfl ar_ ?_
        with_reducible refine (ih k1 (by have:=HK1.out;omega) _ _ ((rd_T29 l0 x11_1).f3) t182 _ ?side1 ?side2 A5.out).mono ?_
        (case side1=>exact kc_ HR180_3.out HB.out)
        (case side2=>exact HC180_3.out)
        rintro e w12 ⟨v183,rfl,ho0,hb⟩
        refine ⟨_,rfl,?_⟩
        have n0_:=Aside0.mk (Kd.R_elder' (by (with_reducible repeat (first|apply Kd.R_alloc|apply Kd.R_drewN|apply Kd.R_drew));exact HO_3.out) (Kd.R_base ho0) hb)
        have n1_:=Aside0.mk (Kd.R_lower (Kd.R_newB (Kd.R_new' ho0 (Kd.R_lt (by (with_reducible repeat (first|apply Kd.R_alloc|apply Kd.R_drewN|apply Kd.R_drew));exact HO_3.out))) (g:=gb188) (o:=.cells #[.string (⟨#[]⟩:ByteArray),.string (⟨#[]⟩:ByteArray),.slice none 0 0,.slice none 0 0,.slice none 0 0,.int .i64 0] 76 (0,0)) (kb_ BK188.out)) (below_size (bl_ HB.out)))
        have n2_:=Aside0.mk (bb_ BK181.out hb)
        have n3_:=Aside0.mk (bb_ BK188.out hb)
        have n4_:=Aside0.mk (below_step (bl_ HB.out) hb)
        clear HO_3
        clear BK181
        clear BK188
        clear HB
        have HO_3:=n0_
        have HO184:=n1_
        have BK181:=n2_
        have BK188:=n3_
        have HB:=n4_
        clear n0_ n1_ n2_ n3_ n4_
        (try clear hb)
        (try clear hb2)
        (try clear hk)
        (try clear hi)
        (try clear ho0)
        refine hK.out _ _ ⟨zc_ BK181.out 0,zc_ BK181.out 1,zc_ BK181.out 2,zc_ BK181.out 3,zc_ BK181.out 4,zc_ BK181.out 5⟩ (fun hHeld=>?_)
        clear hK K
        refine norm_ (a':=?_) ?_ ?_
        rotate_left
        ·show Act.put _ (some 23) _=_
         simp only [Act.put,List.setIfInBounds_toArray,List.set_cons_zero,List.set_cons_succ,i64_w,i32_w]
         rfl
        refine one_ (i:=11) (N:=some 26) (flg 15 12287) rfl rfl (one_of HT_.out (by kernel_rfl)) (by decide) (fun K hK=>?_)
        refine goes_ Tryd.func24 (by kernel_rfl) rfl #[.slice A180_4 ((rd_T29 l0 x11_1).f4).length c180_4] (by rfl) rfl rfl ar_ ?_
        with_reducible refine (ih k1 (by have:=HK1.out;omega) _ _ ((rd_T29 l0 x11_1).f4) t185 _ ?side1 ?side2 A6.out).mono ?_
        (case side1=>exact kc_ HR180_4.out HB.out)
        (case side2=>exact HC180_4.out)
        rintro e w13 ⟨v186,rfl,ho0,hb⟩
        refine ⟨_,rfl,?_⟩
        have n0_:=Aside0.mk (Kd.R_elder' (by (with_reducible repeat (first|apply Kd.R_alloc|apply Kd.R_drewN|apply Kd.R_drew));exact HO_3.out) (Kd.R_base ho0) hb)
        have n1_:=Aside0.mk (Kd.R_elder' (by (with_reducible repeat (first|apply Kd.R_alloc|apply Kd.R_drewN|apply Kd.R_drew));exact HO184.out) (Kd.R_base ho0) hb)
        have n2_:=Aside0.mk (Kd.R_lower (Kd.R_newB (Kd.R_new' (Kd.R_new' ho0 (Kd.R_lt (by (with_reducible repeat (first|apply Kd.R_alloc|apply Kd.R_drewN|apply Kd.R_drew));exact HO_3.out))) (Kd.R_lt (by (with_reducible repeat (first|apply Kd.R_alloc|apply Kd.R_drewN|apply Kd.R_drew));exact HO184.out))) (g:=gb188) (o:=.cells #[.string (⟨#[]⟩:ByteArray),.string (⟨#[]⟩:ByteArray),.slice none 0 0,.slice none 0 0,.slice none 0 0,.int .i64 0] 76 (0,0)) (kb_ BK188.out)) (below_size (bl_ HB.out)))
        have n3_:=Aside0.mk (bb_ BK181.out hb)
        have n4_:=Aside0.mk (bb_ BK188.out hb)
        have n5_:=Aside0.mk (below_step (bl_ HB.out) hb)
        clear HO_3
        clear HO184
        clear BK181
        clear BK188
        clear HB
        have HO_3:=n0_
        have HO184:=n1_
        have HO187:=n2_
        have BK181:=n3_
        have BK188:=n4_
        have HB:=n5_
        clear n0_ n1_ n2_ n3_ n4_ n5_
        (try clear hb)
        (try clear hb2)
        (try clear hk)
        (try clear hi)
        (try clear ho0)
        obtain ⟨Ao14,co14,eo14⟩:=Kd.R_slice HO187.out
        (first|subst eo14|(injection eo14 with f1_ f2_ f3_;have f4_:=f1_.symm;have f5_:=f3_.symm;clear f1_ f2_ f3_;subst f4_;subst f5_))
        obtain ⟨Ao15,co15,eo15⟩:=Kd.R_slice HO184.out
        (first|subst eo15|(injection eo15 with f1_ f2_ f3_;have f4_:=f1_.symm;have f5_:=f3_.symm;clear f1_ f2_ f3_;subst f4_;subst f5_))
        refine hK.out _ _ ⟨zc_ BK181.out 0,zc_ BK181.out 1,zc_ BK181.out 2,zc_ BK181.out 3,zc_ BK181.out 4,zc_ BK181.out 5⟩ (fun hHeld=>?_)
        clear hK K
        refine norm_ (a':=?_) ?_ ?_
        rotate_left
        ·show Act.put _ (some 26) _=_
         simp only [Act.put,List.setIfInBounds_toArray,List.set_cons_zero,List.set_cons_succ,i64_w,i32_w]
         rfl
        refine pur_ 12 27 (flg 15 16383) rfl rfl (any_of HT_.out (by kernel_rfl)) (fun _ _ _ h=>h) ?_
        exact norm_ (by simp only [putAll,Act.put,List.setIfInBounds_toArray,List.set_cons_zero,List.set_cons_succ]) (hCont (.slice Ao15 t182.length co15,.slice Ao14 t185.length co14,gb188) _ ⟨hHeld,(by (with_reducible repeat (first|apply Kd.R_alloc|apply Kd.R_drewN|apply Kd.R_drew));exact Kd.R_mono HO184.out (fun _ hk=>⟨hk.2,⟨hk.1.1.2,hk.1.2⟩⟩)),(by (with_reducible repeat (first|apply Kd.R_alloc|apply Kd.R_drewN|apply Kd.R_drew));exact Kd.R_mono HO187.out (fun _ hk=>⟨hk.1.2,⟨hk.1.1.2,hk.2⟩⟩)),(by (with_reducible repeat (first|apply Kd.R_alloc|apply Kd.R_drewN|apply Kd.R_drew));exact Kd.R_mono HO_3.out (fun _ hk=>⟨hk.1.2,⟨hk.2,hk.1.1.2⟩⟩)),(kb_ BK181.out),(kb_ BK188.out),GW188.out,GE188.out,NB181_188.out,NB188_181.out,(bl_ HB.out)⟩)
      rintro ⟨v183,v186,gb188⟩ w16 ⟨hS_,h0_,h1_,h2_,h3_,h4_,h5_,h6_,h7_,h8_,h9_⟩
      have n0_:Aside0 (Kd.R k76 76 w16 w.heap.size (fun k_=>some k_≠(v186:Value).ownBlock∧some k_≠(u3:Value).ownBlock∧k_≠gb188) v183 t182):=⟨h0_⟩
      have n1_:Aside0 (Kd.R k76 76 w16 w.heap.size (fun k_=>some k_≠(v183:Value).ownBlock∧some k_≠(u3:Value).ownBlock∧k_≠gb188) v186 t185):=⟨h1_⟩
      have n2_:Aside0 (Kd.R k76 76 w16 w.heap.size (fun k_=>some k_≠(v183:Value).ownBlock∧some k_≠(v186:Value).ownBlock∧k_≠gb188) u3 x3_1):=⟨h2_⟩
      have n3_:Aside0 (w16.heap[gb181]?=some (.cells #[.string ((rd_T29 l0 x11_1).f0),.string ((rd_T29 l0 x11_1).f1),.slice A180_2 ((rd_T29 l0 x11_1).f2).length c180_2,.slice A180_3 ((rd_T29 l0 x11_1).f3).length c180_3,.slice A180_4 ((rd_T29 l0 x11_1).f4).length c180_4,.int .i64 ((rd_T29 l0 x11_1).f5)] 29 (0,0))):=⟨h3_⟩
      have n4_:Aside0 (w16.heap[gb188]?=some (.cells #[.string (⟨#[]⟩:ByteArray),.string (⟨#[]⟩:ByteArray),.slice none 0 0,.slice none 0 0,.slice none 0 0,.int .i64 0] 76 (0,0))):=⟨h4_⟩
      have n5_:Aside0 (w.heap.size≤gb188):=⟨h5_⟩
      have n6_:Aside0 (w.heap.size≤gb188):=⟨h6_⟩
      have n7_:Aside0 (gb181≠gb188):=⟨h7_⟩
      have n8_:Aside0 (gb188≠gb181):=⟨h8_⟩
      have n9_:Aside0 (Below w.heap.size w w16):=⟨h9_⟩
      clear HO_3
      clear BK181
      clear HB
      clear h0_ h1_ h2_ h3_ h4_ h5_ h6_ h7_ h8_ h9_
      have HO184:=n0_
      have HO187:=n1_
      have HO_3:=n2_
      have BK181:=n3_
      have BK188:=n4_
      have GW188:=n5_
      have GE188:=n6_
      have NB181_188:=n7_
      have NB188_181:=n8_
      have HB:=n9_
      clear n0_ n1_ n2_ n3_ n4_ n5_ n6_ n7_ n8_ n9_
      have hHeld:w16.cell? ⟨gb181,0,none⟩=some (.string ((rd_T29 l0 x11_1).f0))∧w16.cell? ⟨gb181,1,none⟩=some (.string ((rd_T29 l0 x11_1).f1))∧w16.cell? ⟨gb181,2,none⟩=some (.slice A180_2 ((rd_T29 l0 x11_1).f2).length c180_2)∧w16.cell? ⟨gb181,3,none⟩=some (.slice A180_3 ((rd_T29 l0 x11_1).f3).length c180_3)∧w16.cell? ⟨gb181,4,none⟩=some (.slice A180_4 ((rd_T29 l0 x11_1).f4).length c180_4)∧w16.cell? ⟨gb181,5,none⟩=some (.int .i64 ((rd_T29 l0 x11_1).f5)):=hS_
      obtain ⟨Ao17,co17,eo17⟩:=Kd.R_slice HO187.out
      (first|subst eo17|(injection eo17 with f1_ f2_ f3_;have f4_:=f1_.symm;have f5_:=f3_.symm;clear f1_ f2_ f3_;subst f4_;subst f5_))
      obtain ⟨Ao18,co18,eo18⟩:=Kd.R_slice HO184.out
      (first|subst eo18|(injection eo18 with f1_ f2_ f3_;have f4_:=f1_.symm;have f5_:=f3_.symm;clear f1_ f2_ f3_;subst f4_;subst f5_))
      refine norm_ (a':=?_) ?_ ?_
      rotate_left
      ·simp only [putAll,Act.put,List.setIfInBounds_toArray,List.set_cons_zero,List.set_cons_succ]
       rfl
      refine one_ (i:=14) (N:=none) (flg 15 32767) rfl rfl (one_of HT_.out (by kernel_rfl)) (by decide) (fun K hK=>?_)
      have hs19:w16.cell? ⟨gb188,0,none⟩=some (.string (⟨#[]⟩:ByteArray)):=zc_ BK188.out 0
      have hfs19:=blk_frozen BK188.out 0
      have hns19_0:=NB181_188.out
      have hms19_0:=NB188_181.out
      have hs20:w16.cell? ⟨gb188,1,none⟩=some (.string (⟨#[]⟩:ByteArray)):=zc_ BK188.out 1
      have hfs20:=blk_frozen BK188.out 1
      have hns20_0:=NB181_188.out
      have hms20_0:=NB188_181.out
      have hs21:w16.cell? ⟨gb188,2,none⟩=some (.slice none 0 0):=zc_ BK188.out 2
      have hfs21:=blk_frozen BK188.out 2
      have hns21_0:=NB181_188.out
      have hms21_0:=NB188_181.out
      have hs22:w16.cell? ⟨gb188,3,none⟩=some (.slice none 0 0):=zc_ BK188.out 3
      have hfs22:=blk_frozen BK188.out 3
      have hns22_0:=NB181_188.out
      have hms22_0:=NB188_181.out
      have hs23:w16.cell? ⟨gb188,4,none⟩=some (.slice none 0 0):=zc_ BK188.out 4
      have hfs23:=blk_frozen BK188.out 4
      have hns23_0:=NB181_188.out
      have hms23_0:=NB188_181.out
      have hs24:w16.cell? ⟨gb188,5,none⟩=some (.int .i64 0):=zc_ BK188.out 5
      have hfs24:=blk_frozen BK188.out 5
      have hns24_0:=NB181_188.out
      have hms24_0:=NB188_181.out
      refine skip_ (w1:=?_) (by rfl) rfl ?_ ?_
      rotate_left
      ·go_simp
       rfl
      refine hK.out _ _ ⟨((cell_far (p:=⟨gb188,_,none⟩) NB181_188.out _).trans (((cell_far (p:=⟨gb188,_,none⟩) NB181_188.out _).trans (((cell_far (p:=⟨gb188,_,none⟩) NB181_188.out _).trans (((cell_far (p:=⟨gb188,_,none⟩) NB181_188.out _).trans (((cell_far (p:=⟨gb188,_,none⟩) NB181_188.out _).trans (((cell_far (p:=⟨gb188,_,none⟩) NB181_188.out _).trans (hHeld.1)))))))))))),((cell_far (p:=⟨gb188,_,none⟩) NB181_188.out _).trans (((cell_far (p:=⟨gb188,_,none⟩) NB181_188.out _).trans (((cell_far (p:=⟨gb188,_,none⟩) NB181_188.out _).trans (((cell_far (p:=⟨gb188,_,none⟩) NB181_188.out _).trans (((cell_far (p:=⟨gb188,_,none⟩) NB181_188.out _).trans (((cell_far (p:=⟨gb188,_,none⟩) NB181_188.out _).trans (hHeld.2.1)))))))))))),((cell_far (p:=⟨gb188,_,none⟩) NB181_188.out _).trans (((cell_far (p:=⟨gb188,_,none⟩) NB181_188.out _).trans (((cell_far (p:=⟨gb188,_,none⟩) NB181_188.out _).trans (((cell_far (p:=⟨gb188,_,none⟩) NB181_188.out _).trans (((cell_far (p:=⟨gb188,_,none⟩) NB181_188.out _).trans (((cell_far (p:=⟨gb188,_,none⟩) NB181_188.out _).trans (hHeld.2.2.1)))))))))))),((cell_far (p:=⟨gb188,_,none⟩) NB181_188.out _).trans (((cell_far (p:=⟨gb188,_,none⟩) NB181_188.out _).trans (((cell_far (p:=⟨gb188,_,none⟩) NB181_188.out _).trans (((cell_far (p:=⟨gb188,_,none⟩) NB181_188.out _).trans (((cell_far (p:=⟨gb188,_,none⟩) NB181_188.out _).trans (((cell_far (p:=⟨gb188,_,none⟩) NB181_188.out _).trans (hHeld.2.2.2.1)))))))))))),((cell_far (p:=⟨gb188,_,none⟩) NB181_188.out _).trans (((cell_far (p:=⟨gb188,_,none⟩) NB181_188.out _).trans (((cell_far (p:=⟨gb188,_,none⟩) NB181_188.out _).trans (((cell_far (p:=⟨gb188,_,none⟩) NB181_188.out _).trans (((cell_far (p:=⟨gb188,_,none⟩) NB181_188.out _).trans (((cell_far (p:=⟨gb188,_,none⟩) NB181_188.out _).trans (hHeld.2.2.2.2.1)))))))))))),((cell_far (p:=⟨gb188,_,none⟩) NB181_188.out _).trans (((cell_far (p:=⟨gb188,_,none⟩) NB181_188.out _).trans (((cell_far (p:=⟨gb188,_,none⟩) NB181_188.out _).trans (((cell_far (p:=⟨gb188,_,none⟩) NB181_188.out _).trans (((cell_far (p:=⟨gb188,_,none⟩) NB181_188.out _).trans (((cell_far (p:=⟨gb188,_,none⟩) NB181_188.out _).trans (hHeld.2.2.2.2.2))))))))))))⟩ (fun hHeld=>?_)
      clear hK K
      refine done_ (done_of HT_.out (by kernel_rfl)) ?_
      have hnb25:=NB181_188.out
      have hnc25:=NB188_181.out
      have hcz26_0:w16.cell? ⟨gb181,0,none⟩=some (.string ((rd_T29 l0 x11_1).f0)):=zc_ BK181.out 0
      have hcz26_1:w16.cell? ⟨gb181,1,none⟩=some (.string ((rd_T29 l0 x11_1).f1)):=zc_ BK181.out 1
      have hcz26_2:w16.cell? ⟨gb181,2,none⟩=some (.slice A180_2 ((rd_T29 l0 x11_1).f2).length c180_2):=zc_ BK181.out 2
      have hcz26_3:w16.cell? ⟨gb181,3,none⟩=some (.slice A180_3 ((rd_T29 l0 x11_1).f3).length c180_3):=zc_ BK181.out 3
      have hcz26_4:w16.cell? ⟨gb181,4,none⟩=some (.slice A180_4 ((rd_T29 l0 x11_1).f4).length c180_4):=zc_ BK181.out 4
      have hcz26_5:w16.cell? ⟨gb181,5,none⟩=some (.int .i64 ((rd_T29 l0 x11_1).f5)):=zc_ BK181.out 5
      have hfz26_0:=blk_frozen BK181.out 0
      have hfz26_1:=blk_frozen BK181.out 1
      have hfz26_2:=blk_frozen BK181.out 2
      have hfz26_3:=blk_frozen BK181.out 3
      have hfz26_4:=blk_frozen BK181.out 4
      have hfz26_5:=blk_frozen BK181.out 5
      try go_wp2
      (try simp only [Act.put,List.setIfInBounds_toArray,List.set_cons_succ,List.set_cons_zero])
      go_loopg [31] k1 (fun kq v31 w'=>∃ (x31_2:Int) (x189002_2:List (S33)) (u189002:Value),v31=.int .i64 x31_2∧Aside0 (helmsmanlaw12_Stmts.l1 kq x3_1 l0 (l0.length:Int) x11_1 ((rd_T29 l0 x11_1).f2) (((rd_T29 l0 x11_1).f2).length:Int) x31_2 ((rd_T29 l0 x11_1).f0) ((rd_T29 l0 x11_1).f1) x189002_2 t182 t185 ((rd_T29 l0 x11_1).f5)=some r)∧Aside0 (kq≤k1)∧Aside0 (Kd.R k76 76 w' w.heap.size (fun k_=>some k_≠(u189002:Value).ownBlock∧some k_≠((.slice Ao18 t182.length co18):Value).ownBlock∧some k_≠((.slice Ao17 t185.length co17):Value).ownBlock∧k_≠gb188) u3 x3_1)∧Aside0 (Kd.R k33 33 w' w.heap.size (fun _=>True) u189002 x189002_2)∧Aside0 (Kd.R k76 76 w' w.heap.size (fun k_=>some k_≠(u3:Value).ownBlock∧some k_≠(u189002:Value).ownBlock∧some k_≠((.slice Ao17 t185.length co17):Value).ownBlock∧k_≠gb188) (.slice Ao18 t182.length co18) t182)∧Aside0 (Kd.R k76 76 w' w.heap.size (fun k_=>some k_≠(u3:Value).ownBlock∧some k_≠(u189002:Value).ownBlock∧some k_≠((.slice Ao18 t182.length co18):Value).ownBlock∧k_≠gb188) (.slice Ao17 t185.length co17) t185)∧Aside0 (w'.heap[gb181]?=some (.cells #[.string ((rd_T29 l0 x11_1).f0),.string ((rd_T29 l0 x11_1).f1),(.slice A180_2 ((rd_T29 l0 x11_1).f2).length c180_2),(.slice A180_3 ((rd_T29 l0 x11_1).f3).length c180_3),(.slice A180_4 ((rd_T29 l0 x11_1).f4).length c180_4),.int .i64 ((rd_T29 l0 x11_1).f5)] 29 (0,0)))∧Aside0 (w'.heap[gb188]?=some (.cells #[.string ((rd_T29 l0 x11_1).f0),.string ((rd_T29 l0 x11_1).f1),u189002,(.slice Ao18 t182.length co18),(.slice Ao17 t185.length co17),.int .i64 ((rd_T29 l0 x11_1).f5)] 76 (0,0)))∧Aside0 (Below w.heap.size w w'))
      case atStart=>exact ⟨(0),(([]:List (S33))),(.slice none 0 0),rf_,H',⟨Nat.le_refl _⟩,⟨by (with_reducible repeat (first|apply Kd.R_alloc|apply Kd.R_drewN|apply Kd.R_drew));exact Kd.R_mono (Kd.R_far (p:=⟨gb188,5,none⟩) (Kd.R_far (p:=⟨gb188,4,none⟩) (Kd.R_far (p:=⟨gb188,3,none⟩) (Kd.R_far (p:=⟨gb188,2,none⟩) (Kd.R_far (p:=⟨gb188,1,none⟩) (Kd.R_far (p:=⟨gb188,0,none⟩) (Kd.R_mono HO_3.out (fun k_ hk=>(⟨hk,hk.2.2⟩:_∧k_≠gb188))) (fun _ hk=>hk.2) (.string ((rd_T29 l0 x11_1).f0))) (fun _ hk=>hk.2) (.string ((rd_T29 l0 x11_1).f1))) (fun _ hk=>hk.2) (.slice none 0 0)) (fun _ hk=>hk.2) (.slice Ao18 t182.length co18)) (fun _ hk=>hk.2) (.slice Ao17 t185.length co17)) (fun _ hk=>hk.2) (.int .i64 ((rd_T29 l0 x11_1).f5))) (fun _ hk=>⟨(by simp [Value.ownBlock]),⟨hk.1.1,⟨hk.1.2.1,hk.1.2.2⟩⟩⟩)⟩,⟨by first|exact Kd.R_nil _ _ _ _ _|exact Kd.N_nil _ _ _ _ _|exact Kd.V_nil _ _ _ _ _|exact Kd.Q_nil _ _ _ _ _|exact Kd.S_nil _ _ _ _ _⟩,⟨by (with_reducible repeat (first|apply Kd.R_alloc|apply Kd.R_drewN|apply Kd.R_drew));exact Kd.R_mono (Kd.R_far (p:=⟨gb188,5,none⟩) (Kd.R_far (p:=⟨gb188,4,none⟩) (Kd.R_far (p:=⟨gb188,3,none⟩) (Kd.R_far (p:=⟨gb188,2,none⟩) (Kd.R_far (p:=⟨gb188,1,none⟩) (Kd.R_far (p:=⟨gb188,0,none⟩) (Kd.R_mono HO184.out (fun k_ hk=>(⟨hk,hk.2.2⟩:_∧k_≠gb188))) (fun _ hk=>hk.2) (.string ((rd_T29 l0 x11_1).f0))) (fun _ hk=>hk.2) (.string ((rd_T29 l0 x11_1).f1))) (fun _ hk=>hk.2) (.slice none 0 0)) (fun _ hk=>hk.2) (.slice Ao18 t182.length co18)) (fun _ hk=>hk.2) (.slice Ao17 t185.length co17)) (fun _ hk=>hk.2) (.int .i64 ((rd_T29 l0 x11_1).f5))) (fun _ hk=>⟨hk.1.2.1,⟨(by simp [Value.ownBlock]),⟨hk.1.1,hk.1.2.2⟩⟩⟩)⟩,⟨by (with_reducible repeat (first|apply Kd.R_alloc|apply Kd.R_drewN|apply Kd.R_drew));exact Kd.R_mono (Kd.R_far (p:=⟨gb188,5,none⟩) (Kd.R_far (p:=⟨gb188,4,none⟩) (Kd.R_far (p:=⟨gb188,3,none⟩) (Kd.R_far (p:=⟨gb188,2,none⟩) (Kd.R_far (p:=⟨gb188,1,none⟩) (Kd.R_far (p:=⟨gb188,0,none⟩) (Kd.R_mono HO187.out (fun k_ hk=>(⟨hk,hk.2.2⟩:_∧k_≠gb188))) (fun _ hk=>hk.2) (.string ((rd_T29 l0 x11_1).f0))) (fun _ hk=>hk.2) (.string ((rd_T29 l0 x11_1).f1))) (fun _ hk=>hk.2) (.slice none 0 0)) (fun _ hk=>hk.2) (.slice Ao18 t182.length co18)) (fun _ hk=>hk.2) (.slice Ao17 t185.length co17)) (fun _ hk=>hk.2) (.int .i64 ((rd_T29 l0 x11_1).f5))) (fun _ hk=>⟨hk.1.2.1,⟨(by simp [Value.ownBlock]),⟨hk.1.1,hk.1.2.2⟩⟩⟩)⟩,⟨kbc_ BK181.out⟩,⟨kbc_ BK188.out⟩,⟨bl_ HB.out⟩⟩
      case round=>
       clear H'
       (try clear c1);(try clear p1);(try clear q1);(try clear hx1);(try clear c2);(try clear c2b0);(try clear p2);(try clear c3);(try clear c3b0);(try clear c4);(try clear c4b0);(try clear c18);(try clear p18);(try clear q18);(try clear hx18);(try clear c24);(try clear c25);(try clear hcz26_0);(try clear hcz26_1);(try clear hcz26_2);(try clear hcz26_3);(try clear hcz26_4);(try clear hcz26_5);(try clear hcz8_0);(try clear hcz8_1);(try clear hcz8_2);(try clear hcz8_3);(try clear hcz8_4);(try clear hcz8_5);(try clear hfz26_0);(try clear hfz26_1);(try clear hfz26_2);(try clear hfz26_3);(try clear hfz26_4);(try clear hfz26_5);(try clear hfz8_0);(try clear hfz8_1);(try clear hfz8_2);(try clear hfz8_3);(try clear hfz8_4);(try clear hfz8_5);(try clear hx180_0);(try clear hx180_1);(try clear hx180_2);(try clear hx180_3);(try clear hx180_4);(try clear hx180_5);(try clear p180);(try clear q180)
       obtain ⟨x31_2,x189002_2,u189002,rfl,HA,HK2,HO_3,HO_189002,HO_189003,HO_189004,BK181,BK188,HB⟩:=hrel
       cases gk with
       | zero=>exact absurd HA.out (by simp [helmsmanlaw12_Stmts.l1])
       | succ k2=>
        have H:=HA.out
        clear HA
        simp only [helmsmanlaw12_Stmts.l1] at H
        by_cases c27:x31_2 < (((rd_T29 l0 x11_1).f2).length:Int)
        ·rw [if_pos c27] at H
         have c27b0:decide (x31_2 < (((rd_T29 l0 x11_1).f2).length:Int))=true:=decide_eq_true c27
         clear c27
         by_cases c28:0≤x31_2
         ·rw [if_pos c28] at H
          have c28b0:decide (0≤x31_2)=true:=decide_eq_true c28
          clear c28
          by_cases c29:x31_2 < (((rd_T29 l0 x11_1).f2).length:Int)
          ·rw [if_pos c29] at H
           have c29b0:decide (x31_2 < (((rd_T29 l0 x11_1).f2).length:Int))=true:=decide_eq_true c29
           clear c29
           replace H:=Option.bind_eq_some_iff.mp H
           obtain ⟨⟨t191,t192,t193,t194,t197⟩,A300,H⟩:=H
           replace H:(if x189002_2.length < 1954687338268 then (helmsmanlaw12_Stmts.l1 k2 x3_1 l0 (l0.length:Int) x11_1 ((rd_T29 l0 x11_1).f2) (((rd_T29 l0 x11_1).f2).length:Int) (wrap64 (x31_2+1)) ((rd_T29 l0 x11_1).f0) ((rd_T29 l0 x11_1).f1) (x189002_2++[(⟨t191,t192,t193,t194,t197⟩:S33)]) t182 t185 ((rd_T29 l0 x11_1).f5)) else (none))=some r:=H
           have A30:=Aside0.mk A300
           clear A300
           by_cases c31:x189002_2.length < 1954687338268
           ·rw [if_pos c31] at H
            have LMc31:=Aside0.mk c31
            clear c31
            obtain ⟨y198,hy198⟩ : ∃ y_:List (S33),y_=(x189002_2++[(⟨t191,t192,t193,t194,t197⟩:S33)]):=⟨_,rfl⟩
            replace H:(helmsmanlaw12_Stmts.l1 k2 x3_1 l0 (l0.length:Int) x11_1 ((rd_T29 l0 x11_1).f2) (((rd_T29 l0 x11_1).f2).length:Int) (wrap64 (x31_2+1)) ((rd_T29 l0 x11_1).f0) ((rd_T29 l0 x11_1).f1) y198 t182 t185 ((rd_T29 l0 x11_1).f5))=some r:=by first|(rw [hy198];with_reducible exact H)|(have H2_:=(Option.bind_some _ _).symm.trans H;rw [hy198];with_reducible exact H2_)|(have H2_:=(Option.bind_some _ _).symm.trans H;with_reducible exact H2_)|with_reducible exact H|(rw [hy198];exact H)|exact H
            have Ny198:=Aside0.mk hy198
            clear hy198
            have H':=Aside0.mk H
            clear H
            have p189:0≤(x31_2:Int):=of_decide_eq_true as_
            have q189:x31_2 < (((rd_T29 l0 x11_1).f2).length:Int):=of_decide_eq_true as_
            obtain ⟨ad189,A189_3,c189_3,e189,hx189_0,hx189_1,hx189_2,hx189_3,hx189_4,hl189_3,hi189_3⟩:=at_T24 HR180_2.out x31_2 p189 q189
            cases e189
            replace hx189_0:=(cb_ HB.out hx189_0:_)
            replace hx189_1:=(cb_ HB.out hx189_1:_)
            replace hx189_2:=(cb_ HB.out hx189_2:_)
            replace hx189_3:=(cb_ HB.out hx189_3:_)
            replace hx189_4:=(cb_ HB.out hx189_4:_)
            have HR189_3:=Aside0.mk hi189_3
            have HC189_3:=Aside0.mk hl189_3
            clear hi189_3 hl189_3
            replace p189:=eq_true p189
            replace q189:=eq_true q189
            try go_wp2_with (first|((with_reducible refine gate_dst (N:=8) rfl ?_);refine box_event ?hg (N:=8) ?hd (cs:=#[.string (⟨#[]⟩:ByteArray),.string (⟨#[]⟩:ByteArray),.int .i64 0,.slice none 0 0,.int .i64 0]) (t:=24) ?hr ?_;(case hd=>rfl);(case hg=>rfl);(case hr=>first|(go_simp;done)|(go_simp;rfl));intro gb190 hg w32 hbox hb;have n0_:=Aside0.mk (Kd.R_below (by (with_reducible repeat (first|apply Kd.R_alloc|apply Kd.R_drewN|apply Kd.R_drew));exact HO_3.out) hb);have n1_:=Aside0.mk (Kd.R_below (by (with_reducible repeat (first|apply Kd.R_alloc|apply Kd.R_drewN|apply Kd.R_drew));exact HO_189002.out) hb);have n2_:=Aside0.mk (Kd.R_below (by (with_reducible repeat (first|apply Kd.R_alloc|apply Kd.R_drewN|apply Kd.R_drew));exact HO_189003.out) hb);have n3_:=Aside0.mk (Kd.R_below (by (with_reducible repeat (first|apply Kd.R_alloc|apply Kd.R_drewN|apply Kd.R_drew));exact HO_189004.out) hb);have n4_:=Aside0.mk (bb_ BK181.out hb);have n5_:=Aside0.mk (bb_ BK188.out hb);have n6_:=Aside0.mk (below_step (bl_ HB.out) hb);have n7_:=Aside0.mk (hbox);have n8_:=Aside0.mk ((gs_ hg (bl_ HB.out):w.heap.size≤gb190));have n9_:=Aside0.mk ((gs_ hg (bl_ HB.out):w.heap.size≤gb190));have n10_:=Aside0.mk ((nl_ hg BK181.out:gb181≠gb190));have n11_:=Aside0.mk ((nr_ hg BK181.out:gb190≠gb181));have n12_:=Aside0.mk ((nl_ hg BK188.out:gb188≠gb190));have n13_:=Aside0.mk ((nr_ hg BK188.out:gb190≠gb188));clear HO_3;clear HO_189002;clear HO_189003;clear HO_189004;clear BK181;clear BK188;clear HB;have HO_3:=n0_;have HO_189002:=n1_;have HO_189003:=n2_;have HO_189004:=n3_;have BK181:=n4_;have BK188:=n5_;have HB:=n6_;have BK190:=n7_;have GW190:=n8_;have GE190:=n9_;have NB181_190:=n10_;have NB190_181:=n11_;have NB188_190:=n12_;have NB190_188:=n13_;clear n0_ n1_ n2_ n3_ n4_ n5_ n6_ n7_ n8_ n9_ n10_ n11_ n12_ n13_;clear hb hbox hg;have hnb33:=NB190_181.out;have hnc33:=NB181_190.out;have hnb34:=NB190_188.out;have hnc34:=NB188_190.out;have hcz35_0:w32.cell? ⟨gb190,0,none⟩=some (.string (⟨#[]⟩:ByteArray)):=zc_ BK190.out 0;have hcz35_1:w32.cell? ⟨gb190,1,none⟩=some (.string (⟨#[]⟩:ByteArray)):=zc_ BK190.out 1;have hcz35_2:w32.cell? ⟨gb190,2,none⟩=some (.int .i64 0):=zc_ BK190.out 2;have hcz35_3:w32.cell? ⟨gb190,3,none⟩=some (.slice none 0 0):=zc_ BK190.out 3;have hcz35_4:w32.cell? ⟨gb190,4,none⟩=some (.int .i64 0):=zc_ BK190.out 4;have hfz35_0:=blk_frozen BK190.out 0;have hfz35_1:=blk_frozen BK190.out 1;have hfz35_2:=blk_frozen BK190.out 2;have hfz35_3:=blk_frozen BK190.out 3;have hfz35_4:=blk_frozen BK190.out 4))
            have n0_:Aside0 (Kd.R k76 76 (((((w32.setCell ⟨gb190,0,none⟩ (.string ((rd_T24 ((rd_T29 l0 x11_1).f2) x31_2).f0))).setCell ⟨gb190,1,none⟩ (.string ((rd_T24 ((rd_T29 l0 x11_1).f2) x31_2).f1))).setCell ⟨gb190,2,none⟩ (.int .i64 ((rd_T24 ((rd_T29 l0 x11_1).f2) x31_2).f2))).setCell ⟨gb190,3,none⟩ (.slice A189_3 ((rd_T24 ((rd_T29 l0 x11_1).f2) x31_2).f3).length c189_3)).setCell ⟨gb190,4,none⟩ (.int .i64 ((rd_T24 ((rd_T29 l0 x11_1).f2) x31_2).f4))) w.heap.size (fun k_=>some k_≠(u189002:Value).ownBlock∧some k_≠(.slice Ao18 t182.length co18:Value).ownBlock∧some k_≠(.slice Ao17 t185.length co17:Value).ownBlock∧k_≠gb188) u3 x3_1):=⟨by (with_reducible repeat (first|apply Kd.R_alloc|apply Kd.R_drewN|apply Kd.R_drew));exact Kd.R_mono (Kd.R_far (p:=⟨gb190,4,none⟩) (Kd.R_far (p:=⟨gb190,3,none⟩) (Kd.R_far (p:=⟨gb190,2,none⟩) (Kd.R_far (p:=⟨gb190,1,none⟩) (Kd.R_far (p:=⟨gb190,0,none⟩) (Kd.R_types HO_3.out BK190.out (by decide)) (fun _ hk=>hk.2) (.string ((rd_T24 ((rd_T29 l0 x11_1).f2) x31_2).f0))) (fun _ hk=>hk.2) (.string ((rd_T24 ((rd_T29 l0 x11_1).f2) x31_2).f1))) (fun _ hk=>hk.2) (.int .i64 ((rd_T24 ((rd_T29 l0 x11_1).f2) x31_2).f2))) (fun _ hk=>hk.2) (.slice A189_3 ((rd_T24 ((rd_T29 l0 x11_1).f2) x31_2).f3).length c189_3)) (fun _ hk=>hk.2) (.int .i64 ((rd_T24 ((rd_T29 l0 x11_1).f2) x31_2).f4))) (fun _ hk=>⟨hk.1.1,⟨hk.1.2.1,⟨hk.1.2.2.1,hk.1.2.2.2⟩⟩⟩)⟩
            have n1_:Aside0 (Kd.R k33 33 (((((w32.setCell ⟨gb190,0,none⟩ (.string ((rd_T24 ((rd_T29 l0 x11_1).f2) x31_2).f0))).setCell ⟨gb190,1,none⟩ (.string ((rd_T24 ((rd_T29 l0 x11_1).f2) x31_2).f1))).setCell ⟨gb190,2,none⟩ (.int .i64 ((rd_T24 ((rd_T29 l0 x11_1).f2) x31_2).f2))).setCell ⟨gb190,3,none⟩ (.slice A189_3 ((rd_T24 ((rd_T29 l0 x11_1).f2) x31_2).f3).length c189_3)).setCell ⟨gb190,4,none⟩ (.int .i64 ((rd_T24 ((rd_T29 l0 x11_1).f2) x31_2).f4))) w.heap.size (fun _=>True) u189002 x189002_2):=⟨by (with_reducible repeat (first|apply Kd.R_alloc|apply Kd.R_drewN|apply Kd.R_drew));exact Kd.R_mono (Kd.R_far (p:=⟨gb190,4,none⟩) (Kd.R_far (p:=⟨gb190,3,none⟩) (Kd.R_far (p:=⟨gb190,2,none⟩) (Kd.R_far (p:=⟨gb190,1,none⟩) (Kd.R_far (p:=⟨gb190,0,none⟩) (Kd.R_types HO_189002.out BK190.out (by decide)) (fun _ hk=>hk.2) (.string ((rd_T24 ((rd_T29 l0 x11_1).f2) x31_2).f0))) (fun _ hk=>hk.2) (.string ((rd_T24 ((rd_T29 l0 x11_1).f2) x31_2).f1))) (fun _ hk=>hk.2) (.int .i64 ((rd_T24 ((rd_T29 l0 x11_1).f2) x31_2).f2))) (fun _ hk=>hk.2) (.slice A189_3 ((rd_T24 ((rd_T29 l0 x11_1).f2) x31_2).f3).length c189_3)) (fun _ hk=>hk.2) (.int .i64 ((rd_T24 ((rd_T29 l0 x11_1).f2) x31_2).f4))) (fun _ hk=>trivial)⟩
            have n2_:Aside0 (Kd.R k76 76 (((((w32.setCell ⟨gb190,0,none⟩ (.string ((rd_T24 ((rd_T29 l0 x11_1).f2) x31_2).f0))).setCell ⟨gb190,1,none⟩ (.string ((rd_T24 ((rd_T29 l0 x11_1).f2) x31_2).f1))).setCell ⟨gb190,2,none⟩ (.int .i64 ((rd_T24 ((rd_T29 l0 x11_1).f2) x31_2).f2))).setCell ⟨gb190,3,none⟩ (.slice A189_3 ((rd_T24 ((rd_T29 l0 x11_1).f2) x31_2).f3).length c189_3)).setCell ⟨gb190,4,none⟩ (.int .i64 ((rd_T24 ((rd_T29 l0 x11_1).f2) x31_2).f4))) w.heap.size (fun k_=>some k_≠(u3:Value).ownBlock∧some k_≠(u189002:Value).ownBlock∧some k_≠(.slice Ao17 t185.length co17:Value).ownBlock∧k_≠gb188) (.slice Ao18 t182.length co18) t182):=⟨by (with_reducible repeat (first|apply Kd.R_alloc|apply Kd.R_drewN|apply Kd.R_drew));exact Kd.R_mono (Kd.R_far (p:=⟨gb190,4,none⟩) (Kd.R_far (p:=⟨gb190,3,none⟩) (Kd.R_far (p:=⟨gb190,2,none⟩) (Kd.R_far (p:=⟨gb190,1,none⟩) (Kd.R_far (p:=⟨gb190,0,none⟩) (Kd.R_types HO_189003.out BK190.out (by decide)) (fun _ hk=>hk.2) (.string ((rd_T24 ((rd_T29 l0 x11_1).f2) x31_2).f0))) (fun _ hk=>hk.2) (.string ((rd_T24 ((rd_T29 l0 x11_1).f2) x31_2).f1))) (fun _ hk=>hk.2) (.int .i64 ((rd_T24 ((rd_T29 l0 x11_1).f2) x31_2).f2))) (fun _ hk=>hk.2) (.slice A189_3 ((rd_T24 ((rd_T29 l0 x11_1).f2) x31_2).f3).length c189_3)) (fun _ hk=>hk.2) (.int .i64 ((rd_T24 ((rd_T29 l0 x11_1).f2) x31_2).f4))) (fun _ hk=>⟨hk.1.1,⟨hk.1.2.1,⟨hk.1.2.2.1,hk.1.2.2.2⟩⟩⟩)⟩
            have n3_:Aside0 (Kd.R k76 76 (((((w32.setCell ⟨gb190,0,none⟩ (.string ((rd_T24 ((rd_T29 l0 x11_1).f2) x31_2).f0))).setCell ⟨gb190,1,none⟩ (.string ((rd_T24 ((rd_T29 l0 x11_1).f2) x31_2).f1))).setCell ⟨gb190,2,none⟩ (.int .i64 ((rd_T24 ((rd_T29 l0 x11_1).f2) x31_2).f2))).setCell ⟨gb190,3,none⟩ (.slice A189_3 ((rd_T24 ((rd_T29 l0 x11_1).f2) x31_2).f3).length c189_3)).setCell ⟨gb190,4,none⟩ (.int .i64 ((rd_T24 ((rd_T29 l0 x11_1).f2) x31_2).f4))) w.heap.size (fun k_=>some k_≠(u3:Value).ownBlock∧some k_≠(u189002:Value).ownBlock∧some k_≠(.slice Ao18 t182.length co18:Value).ownBlock∧k_≠gb188) (.slice Ao17 t185.length co17) t185):=⟨by (with_reducible repeat (first|apply Kd.R_alloc|apply Kd.R_drewN|apply Kd.R_drew));exact Kd.R_mono (Kd.R_far (p:=⟨gb190,4,none⟩) (Kd.R_far (p:=⟨gb190,3,none⟩) (Kd.R_far (p:=⟨gb190,2,none⟩) (Kd.R_far (p:=⟨gb190,1,none⟩) (Kd.R_far (p:=⟨gb190,0,none⟩) (Kd.R_types HO_189004.out BK190.out (by decide)) (fun _ hk=>hk.2) (.string ((rd_T24 ((rd_T29 l0 x11_1).f2) x31_2).f0))) (fun _ hk=>hk.2) (.string ((rd_T24 ((rd_T29 l0 x11_1).f2) x31_2).f1))) (fun _ hk=>hk.2) (.int .i64 ((rd_T24 ((rd_T29 l0 x11_1).f2) x31_2).f2))) (fun _ hk=>hk.2) (.slice A189_3 ((rd_T24 ((rd_T29 l0 x11_1).f2) x31_2).f3).length c189_3)) (fun _ hk=>hk.2) (.int .i64 ((rd_T24 ((rd_T29 l0 x11_1).f2) x31_2).f4))) (fun _ hk=>⟨hk.1.1,⟨hk.1.2.1,⟨hk.1.2.2.1,hk.1.2.2.2⟩⟩⟩)⟩
            have n4_:Aside0 ((((((w32.setCell ⟨gb190,0,none⟩ (.string ((rd_T24 ((rd_T29 l0 x11_1).f2) x31_2).f0))).setCell ⟨gb190,1,none⟩ (.string ((rd_T24 ((rd_T29 l0 x11_1).f2) x31_2).f1))).setCell ⟨gb190,2,none⟩ (.int .i64 ((rd_T24 ((rd_T29 l0 x11_1).f2) x31_2).f2))).setCell ⟨gb190,3,none⟩ (.slice A189_3 ((rd_T24 ((rd_T29 l0 x11_1).f2) x31_2).f3).length c189_3)).setCell ⟨gb190,4,none⟩ (.int .i64 ((rd_T24 ((rd_T29 l0 x11_1).f2) x31_2).f4))).heap[gb181]?=some (.cells #[.string ((rd_T29 l0 x11_1).f0),.string ((rd_T29 l0 x11_1).f1),.slice (some ad189) ((rd_T29 l0 x11_1).f2).length c180_2,.slice A180_3 ((rd_T29 l0 x11_1).f3).length c180_3,.slice A180_4 ((rd_T29 l0 x11_1).f4).length c180_4,.int .i64 ((rd_T29 l0 x11_1).f5)] 29 (0,0))):=⟨kbc_ BK181.out⟩
            have n5_:Aside0 ((((((w32.setCell ⟨gb190,0,none⟩ (.string ((rd_T24 ((rd_T29 l0 x11_1).f2) x31_2).f0))).setCell ⟨gb190,1,none⟩ (.string ((rd_T24 ((rd_T29 l0 x11_1).f2) x31_2).f1))).setCell ⟨gb190,2,none⟩ (.int .i64 ((rd_T24 ((rd_T29 l0 x11_1).f2) x31_2).f2))).setCell ⟨gb190,3,none⟩ (.slice A189_3 ((rd_T24 ((rd_T29 l0 x11_1).f2) x31_2).f3).length c189_3)).setCell ⟨gb190,4,none⟩ (.int .i64 ((rd_T24 ((rd_T29 l0 x11_1).f2) x31_2).f4))).heap[gb188]?=some (.cells #[.string ((rd_T29 l0 x11_1).f0),.string ((rd_T29 l0 x11_1).f1),u189002,.slice Ao18 t182.length co18,.slice Ao17 t185.length co17,.int .i64 ((rd_T29 l0 x11_1).f5)] 76 (0,0))):=⟨kbc_ BK188.out⟩
            have n6_:Aside0 ((((((w32.setCell ⟨gb190,0,none⟩ (.string ((rd_T24 ((rd_T29 l0 x11_1).f2) x31_2).f0))).setCell ⟨gb190,1,none⟩ (.string ((rd_T24 ((rd_T29 l0 x11_1).f2) x31_2).f1))).setCell ⟨gb190,2,none⟩ (.int .i64 ((rd_T24 ((rd_T29 l0 x11_1).f2) x31_2).f2))).setCell ⟨gb190,3,none⟩ (.slice A189_3 ((rd_T24 ((rd_T29 l0 x11_1).f2) x31_2).f3).length c189_3)).setCell ⟨gb190,4,none⟩ (.int .i64 ((rd_T24 ((rd_T29 l0 x11_1).f2) x31_2).f4))).heap[gb190]?=some (.cells #[.string ((rd_T24 ((rd_T29 l0 x11_1).f2) x31_2).f0),.string ((rd_T24 ((rd_T29 l0 x11_1).f2) x31_2).f1),.int .i64 ((rd_T24 ((rd_T29 l0 x11_1).f2) x31_2).f2),.slice A189_3 ((rd_T24 ((rd_T29 l0 x11_1).f2) x31_2).f3).length c189_3,.int .i64 ((rd_T24 ((rd_T29 l0 x11_1).f2) x31_2).f4)] 24 (0,0))):=⟨kbc_ BK190.out⟩
            have n7_:Aside0 (Below w.heap.size w (((((w32.setCell ⟨gb190,0,none⟩ (.string ((rd_T24 ((rd_T29 l0 x11_1).f2) x31_2).f0))).setCell ⟨gb190,1,none⟩ (.string ((rd_T24 ((rd_T29 l0 x11_1).f2) x31_2).f1))).setCell ⟨gb190,2,none⟩ (.int .i64 ((rd_T24 ((rd_T29 l0 x11_1).f2) x31_2).f2))).setCell ⟨gb190,3,none⟩ (.slice A189_3 ((rd_T24 ((rd_T29 l0 x11_1).f2) x31_2).f3).length c189_3)).setCell ⟨gb190,4,none⟩ (.int .i64 ((rd_T24 ((rd_T29 l0 x11_1).f2) x31_2).f4)))):=⟨bl_ HB.out⟩
            (try clear HO_3)
            (try clear HO_189002)
            (try clear HO_189003)
            (try clear HO_189004)
            (try clear BK181)
            (try clear BK188)
            (try clear BK190)
            (try clear HB)
            generalize (((((w32.setCell ⟨gb190,0,none⟩ (.string ((rd_T24 ((rd_T29 l0 x11_1).f2) x31_2).f0))).setCell ⟨gb190,1,none⟩ (.string ((rd_T24 ((rd_T29 l0 x11_1).f2) x31_2).f1))).setCell ⟨gb190,2,none⟩ (.int .i64 ((rd_T24 ((rd_T29 l0 x11_1).f2) x31_2).f2))).setCell ⟨gb190,3,none⟩ (.slice A189_3 ((rd_T24 ((rd_T29 l0 x11_1).f2) x31_2).f3).length c189_3)).setCell ⟨gb190,4,none⟩ (.int .i64 ((rd_T24 ((rd_T29 l0 x11_1).f2) x31_2).f4)))=w36 at n0_ n1_ n2_ n3_ n4_ n5_ n6_ n7_ ⊢
            have HO_3:=n0_
            have HO_189002:=n1_
            have HO_189003:=n2_
            have HO_189004:=n3_
            have BK181:=n4_
            have BK188:=n5_
            have BK190:=n6_
            have HB:=n7_
            clear n0_ n1_ n2_ n3_ n4_ n5_ n6_ n7_
            have n0_:=Aside0.mk (Kd.R_drew HO_3.out)
            have n1_:=Aside0.mk (Kd.R_drew HO_189002.out)
            have n2_:=Aside0.mk (Kd.R_drew HO_189003.out)
            have n3_:=Aside0.mk (Kd.R_drew HO_189004.out)
            have n4_:=Aside0.mk (blk_drew BK181.out)
            have n5_:=Aside0.mk (blk_drew BK188.out)
            have n6_:=Aside0.mk (blk_drew BK190.out)
            have n7_:=Aside0.mk (below_drew1 HB.out)
            clear HO_3
            clear HO_189002
            clear HO_189003
            clear HO_189004
            clear BK181
            clear BK188
            clear BK190
            clear HB
            have HO_3:=n0_
            have HO_189002:=n1_
            have HO_189003:=n2_
            have HO_189004:=n3_
            have BK181:=n4_
            have BK188:=n5_
            have BK190:=n6_
            have HB:=n7_
            clear n0_ n1_ n2_ n3_ n4_ n5_ n6_ n7_
            refine start_ (n:=8) (S:=fun w'=>w'.cell? ⟨gb188,0,none⟩=some (.string ((rd_T29 l0 x11_1).f0))∧w'.cell? ⟨gb188,1,none⟩=some (.string ((rd_T29 l0 x11_1).f1))∧w'.cell? ⟨gb188,2,none⟩=some (u189002)∧w'.cell? ⟨gb188,3,none⟩=some (.slice Ao18 t182.length co18)∧w'.cell? ⟨gb188,4,none⟩=some (.slice Ao17 t185.length co17)∧w'.cell? ⟨gb188,5,none⟩=some (.int .i64 ((rd_T29 l0 x11_1).f5))∧w'.cell? ⟨gb190,0,none⟩=some (.string ((rd_T24 ((rd_T29 l0 x11_1).f2) x31_2).f0))∧w'.cell? ⟨gb190,1,none⟩=some (.string ((rd_T24 ((rd_T29 l0 x11_1).f2) x31_2).f1))∧w'.cell? ⟨gb190,2,none⟩=some (.int .i64 ((rd_T24 ((rd_T29 l0 x11_1).f2) x31_2).f2))∧w'.cell? ⟨gb190,3,none⟩=some (.slice A189_3 ((rd_T24 ((rd_T29 l0 x11_1).f2) x31_2).f3).length c189_3)∧w'.cell? ⟨gb190,4,none⟩=some (.int .i64 ((rd_T24 ((rd_T29 l0 x11_1).f2) x31_2).f4))) (ds:=[7]) (flg 8 0) (by kernel_rfl) rfl (by kernel_rfl) ⟨zc_ BK188.out 0,zc_ BK188.out 1,zc_ BK188.out 2,zc_ BK188.out 3,zc_ BK188.out 4,zc_ BK188.out 5,zc_ BK190.out 0,zc_ BK190.out 1,zc_ BK190.out 2,zc_ BK190.out 3,zc_ BK190.out 4⟩ (fun hHeld=>?_);refine with_tabW helmsmanlaw12_Stmts.tab9 helmsmanlaw12_Stmts.bits9 (fun HT_ HW_=>?_)
            generalize w36.drew=w37 at HO_3 HO_189002 HO_189003 HO_189004 BK181 BK188 BK190 HB hHeld ⊢
            refine pur_ 0 35 (flg 8 1) rfl rfl (any_of HT_.out (by kernel_rfl)) (fun _ _ _ h=>h) ?_
            refine tak_ 1 36 (flg 8 3) rfl rfl (take_ofW HT_.out HW_.out (by kernel_rfl)) (fun _ _ _ h=>h) hHeld ?_
            refine tak_ 2 37 (flg 8 7) rfl rfl (take_ofW HT_.out HW_.out (by kernel_rfl)) (fun _ _ _ h=>h) hHeld ?_
            refine one_ (i:=3) (N:=some 38) (flg 8 15) rfl rfl (one_of HT_.out (by kernel_rfl)) (by decide) (fun K hK=>?_)
            refine goes_ Tryd.func11 (by kernel_rfl) rfl #[.agg #[.string ((rd_T24 ((rd_T29 l0 x11_1).f2) x31_2).f0),.string ((rd_T24 ((rd_T29 l0 x11_1).f2) x31_2).f1),.int .i64 ((rd_T24 ((rd_T29 l0 x11_1).f2) x31_2).f2),.slice A189_3 ((rd_T24 ((rd_T29 l0 x11_1).f2) x31_2).f3).length c189_3,.int .i64 ((rd_T24 ((rd_T29 l0 x11_1).f2) x31_2).f4)]] (by rfl) rfl rfl ar_ ?_
            with_reducible refine (helmsmanlaw12_Expr.calls k2 ((rd_T24 ((rd_T29 l0 x11_1).f2) x31_2).f0) ((rd_T24 ((rd_T29 l0 x11_1).f2) x31_2).f1) ((rd_T24 ((rd_T29 l0 x11_1).f2) x31_2).f2) _ _ ((rd_T24 ((rd_T29 l0 x11_1).f2) x31_2).f3) ((rd_T24 ((rd_T29 l0 x11_1).f2) x31_2).f4) t191 t192 t193 t194 t197 _ ?side1 ?side2 A30.out).mono ?_
            (case side1=>exact kc_ HR189_3.out HB.out)
            (case side2=>exact HC189_3.out)
            rintro e w38 ⟨v195,rfl,ho0,hb⟩
            refine ⟨_,rfl,?_⟩
            have n0_:=Aside0.mk (Kd.R_elder' (by (with_reducible repeat (first|apply Kd.R_alloc|apply Kd.R_drewN|apply Kd.R_drew));exact HO_3.out) (Kd.R_base ho0) hb)
            have n1_:=Aside0.mk (Kd.R_elder' (by (with_reducible repeat (first|apply Kd.R_alloc|apply Kd.R_drewN|apply Kd.R_drew));exact HO_189002.out) (Kd.R_base ho0) hb)
            have n2_:=Aside0.mk (Kd.R_elder' (by (with_reducible repeat (first|apply Kd.R_alloc|apply Kd.R_drewN|apply Kd.R_drew));exact HO_189003.out) (Kd.R_base ho0) hb)
            have n3_:=Aside0.mk (Kd.R_elder' (by (with_reducible repeat (first|apply Kd.R_alloc|apply Kd.R_drewN|apply Kd.R_drew));exact HO_189004.out) (Kd.R_base ho0) hb)
            have n4_:=Aside0.mk (Kd.R_lower (Kd.R_new' ho0 (Kd.R_lt (by (with_reducible repeat (first|apply Kd.R_alloc|apply Kd.R_drewN|apply Kd.R_drew));exact HO_189002.out))) (below_size (bl_ HB.out)))
            have n5_:=Aside0.mk (bb_ BK181.out hb)
            have n6_:=Aside0.mk (bb_ BK188.out hb)
            have n7_:=Aside0.mk (bb_ BK190.out hb)
            have n8_:=Aside0.mk (below_step (bl_ HB.out) hb)
            clear HO_3
            clear HO_189002
            clear HO_189003
            clear HO_189004
            clear BK181
            clear BK188
            clear BK190
            clear HB
            have HO_3:=n0_
            have HO_189002:=n1_
            have HO_189003:=n2_
            have HO_189004:=n3_
            have HO196:=n4_
            have BK181:=n5_
            have BK188:=n6_
            have BK190:=n7_
            have HB:=n8_
            clear n0_ n1_ n2_ n3_ n4_ n5_ n6_ n7_ n8_
            (try clear hb)
            (try clear hb2)
            (try clear hk)
            (try clear hi)
            (try clear ho0)
            obtain ⟨Ao40,co40,eo40⟩:=Kd.R_slice HO196.out
            (first|subst eo40|(injection eo40 with f1_ f2_ f3_;have f4_:=f1_.symm;have f5_:=f3_.symm;clear f1_ f2_ f3_;subst f4_;subst f5_))
            refine hK.out _ _ ⟨zc_ BK188.out 0,zc_ BK188.out 1,zc_ BK188.out 2,zc_ BK188.out 3,zc_ BK188.out 4,zc_ BK188.out 5,zc_ BK190.out 0,zc_ BK190.out 1,zc_ BK190.out 2,zc_ BK190.out 3,zc_ BK190.out 4⟩ (fun hHeld=>?_)
            clear hK K
            refine norm_ (a':=?_) ?_ ?_
            rotate_left
            ·show Act.put _ (some 38) _=_
             simp only [Act.put,List.setIfInBounds_toArray,List.set_cons_zero,List.set_cons_succ,i64_w,i32_w]
             rfl
            refine one_ (i:=4) (N:=some 39) (flg 8 31) rfl rfl (one_of HT_.out (by kernel_rfl)) (by decide) (fun K hK=>?_)
            refine value_ (w1:=?_) (v:=?_) (by rfl) rfl ?_ ?_
            rotate_left 2
            ·go_simp
             constructor
             ·rfl
             ·rfl
            refine hK.out _ _ ⟨(blk_cell (blk_alloc BK188.out _) 0).trans rfl,(blk_cell (blk_alloc BK188.out _) 1).trans rfl,(blk_cell (blk_alloc BK188.out _) 2).trans rfl,(blk_cell (blk_alloc BK188.out _) 3).trans rfl,(blk_cell (blk_alloc BK188.out _) 4).trans rfl,(blk_cell (blk_alloc BK188.out _) 5).trans rfl,(blk_cell (blk_alloc BK190.out _) 0).trans rfl,(blk_cell (blk_alloc BK190.out _) 1).trans rfl,(blk_cell (blk_alloc BK190.out _) 2).trans rfl,(blk_cell (blk_alloc BK190.out _) 3).trans rfl,(blk_cell (blk_alloc BK190.out _) 4).trans rfl⟩ (fun hHeld=>?_)
            clear hK K
            refine norm_ (a':=?_) ?_ ?_
            rotate_left
            ·show Act.put _ (some 39) _=_
             simp only [Act.put,List.setIfInBounds_toArray,List.set_cons_zero,List.set_cons_succ,i64_w,i32_w]
             rfl
            refine one_ (i:=5) (N:=some 40) (flg 8 63) rfl rfl (one_of HT_.out (by kernel_rfl)) (by decide) (fun K hK=>?_)
            refine Kd.R_append_step k33 (w0:=w) w.heap.size (by rfl) (.tmp 36) (.tmp 39) 31 33 (.agg #[(.string ⟨#[]⟩),(.string ⟨#[]⟩),(.int .i64 0),(.slice none 0 0),(.int .i64 0)]) 72 rfl Tryd.underlying31 info33 rfl (by decide) (by omega) u189002 x189002_2 (⟨t191,t192,t193,t194,t197⟩:S33) [.string t191,.string t192,.int .i64 t193,.slice Ao40 t194.length co40,.int .i64 t197] (fun _=>True) (fun k_=>((fun _=>True)) k_∧some k_≠(u189002:Value).ownBlock) rfl rfl ?aP (fun _ hk=>hk) ?aF ?aO ?aB ?aS ?aL ?_
            (case aP=>exact k33_mkM _ _ _ (⟨t191,t192,t193,t194,t197⟩:S33) (Kd.R_mono (HO196.out) (fun k_ hk=>⟨trivial,hk.2⟩)))
            (case aB=>exact (bl_ HB.out))
            (case aF=>exact (fun _ _=>trivial))
            (case aO=>exact (by (with_reducible repeat (first|apply Kd.R_alloc|apply Kd.R_drewN|apply Kd.R_drew));exact Kd.R_mono HO_189002.out (fun _ hk=>trivial)))
            (case aS=>exact (below_size (bl_ HB.out)))
            (case aL=>have:=LMc31.out;omega)
            intro v199 w39 ho hb hg hat
            rw [← Ny198.out] at ho
            have n0_:=Aside0.mk (Kd.R_after (ok:=(fun k_=>some k_≠(.slice Ao18 t182.length co18:Value).ownBlock∧some k_≠(.slice Ao17 t185.length co17:Value).ownBlock∧some k_≠(.slice Ao40 t194.length co40:Value).ownBlock∧k_≠gb188)) (by (with_reducible repeat (first|apply Kd.R_alloc|apply Kd.R_drewN|apply Kd.R_drew));exact Kd.R_mono HO_3.out (fun _ hk=>⟨⟨hk.1.2.1,⟨hk.1.2.2.1,⟨hk.2,hk.1.2.2.2⟩⟩⟩,hk.1.1⟩)) hg hat)
            have n1_:=Aside0.mk (Kd.R_after (ok:=(fun k_=>some k_≠(u3:Value).ownBlock∧some k_≠(.slice Ao17 t185.length co17:Value).ownBlock∧some k_≠(.slice Ao40 t194.length co40:Value).ownBlock∧k_≠gb188)) (by (with_reducible repeat (first|apply Kd.R_alloc|apply Kd.R_drewN|apply Kd.R_drew));exact Kd.R_mono HO_189003.out (fun _ hk=>⟨⟨hk.1.1,⟨hk.1.2.2.1,⟨hk.2,hk.1.2.2.2⟩⟩⟩,hk.1.2.1⟩)) hg hat)
            have n2_:=Aside0.mk (Kd.R_after (ok:=(fun k_=>some k_≠(u3:Value).ownBlock∧some k_≠(.slice Ao18 t182.length co18:Value).ownBlock∧some k_≠(.slice Ao40 t194.length co40:Value).ownBlock∧k_≠gb188)) (by (with_reducible repeat (first|apply Kd.R_alloc|apply Kd.R_drewN|apply Kd.R_drew));exact Kd.R_mono HO_189004.out (fun _ hk=>⟨⟨hk.1.1,⟨hk.1.2.2.1,⟨hk.2,hk.1.2.2.2⟩⟩⟩,hk.1.2.1⟩)) hg hat)
            have n3_:=Aside0.mk (bg_ BK181.out hg (Kd.R_ne HO_189002.out BK181.out (by decide)))
            have n4_:=Aside0.mk (bg_ BK188.out hg (Kd.R_ne HO_189002.out BK188.out (by decide)))
            have n5_:=Aside0.mk (bg_ BK190.out hg (Kd.R_ne HO_189002.out BK190.out (by decide)))
            have n6_:=Aside0.mk (hb)
            have n7_:=Aside0.mk (ho)
            clear HO_3
            clear HO_189003
            clear HO_189004
            clear BK181
            clear BK188
            clear BK190
            clear HB
            clear HO_189002
            clear HO196
            have HO_3:=n0_
            have HO_189003:=n1_
            have HO_189004:=n2_
            have BK181:=n3_
            have BK188:=n4_
            have BK190:=n5_
            have HB:=n6_
            have HO200:=n7_
            clear n0_ n1_ n2_ n3_ n4_ n5_ n6_ n7_
            clear ho hb hg hat
            obtain ⟨Ao41,co41,eo41⟩:=Kd.R_slice HO200.out
            (first|subst eo41|(injection eo41 with f1_ f2_ f3_;have f4_:=f1_.symm;have f5_:=f3_.symm;clear f1_ f2_ f3_;subst f4_;subst f5_))
            refine hK.out _ _ ⟨zc_ BK188.out 0,zc_ BK188.out 1,zc_ BK188.out 2,zc_ BK188.out 3,zc_ BK188.out 4,zc_ BK188.out 5,zc_ BK190.out 0,zc_ BK190.out 1,zc_ BK190.out 2,zc_ BK190.out 3,zc_ BK190.out 4⟩ (fun hHeld=>?_)
            clear hK K
            refine norm_ (a':=?_) ?_ ?_
            rotate_left
            ·show Act.put _ (some 40) _=_
             simp only [Act.put,List.setIfInBounds_toArray,List.set_cons_zero,List.set_cons_succ,i64_w,i32_w]
             rfl
            refine pur_ 6 41 (flg 8 127) rfl rfl (any_of HT_.out (by kernel_rfl)) (fun _ _ _ h=>h) ?_
            refine last_ (i:=7) (N:=none) (flg 8 255) rfl rfl (one_of HT_.out (by kernel_rfl)) (by decide) (fun K hK=>?_)
            have hs42:w39.cell? ⟨gb188,2,none⟩=some (u189002):=zc_ BK188.out 2
            have hfs42:=blk_frozen BK188.out 2
            have hns42_0:=NB181_188.out
            have hns42_2:=NB190_188.out
            have hms42_0:=NB188_181.out
            have hms42_2:=NB188_190.out
            refine skip_ (w1:=?_) (by rfl) rfl ?_ ?_
            rotate_left
            ·go_simp
             rfl
            refine hK.out _ _ ?_
            clear hK K
            refine done_ (done_of HT_.out (by kernel_rfl)) ?_
            try go_wp2
            go_roundg k2
            case measure=>have:=HK1.out;have:=HK2.out;omega
            case rel=>exact ⟨(wrap64 (x31_2+1)),(y198),(.slice Ao41 y198.length co41),rf_,H',⟨by have:=HK1.out;have:=HK2.out;omega⟩,⟨by (with_reducible repeat (first|apply Kd.R_alloc|apply Kd.R_drewN|apply Kd.R_drew));exact Kd.R_mono (Kd.R_far (p:=⟨gb188,2,none⟩) (Kd.R_mono HO_3.out (fun k_ hk=>(⟨hk,hk.1.2.2.2⟩:_∧k_≠gb188))) (fun _ hk=>hk.2) (.slice Ao41 y198.length co41)) (fun _ hk=>⟨hk.1.2,⟨hk.1.1.1,⟨hk.1.1.2.1,hk.1.1.2.2.2⟩⟩⟩)⟩,⟨by (with_reducible repeat (first|apply Kd.R_alloc|apply Kd.R_drewN|apply Kd.R_drew));exact Kd.R_mono (Kd.R_far (p:=⟨gb188,2,none⟩) (Kd.R_types HO200.out BK188.out (by decide)) (fun _ hk=>hk.2) (.slice Ao41 y198.length co41)) (fun _ hk=>trivial)⟩,⟨by (with_reducible repeat (first|apply Kd.R_alloc|apply Kd.R_drewN|apply Kd.R_drew));exact Kd.R_mono (Kd.R_far (p:=⟨gb188,2,none⟩) (Kd.R_mono HO_189003.out (fun k_ hk=>(⟨hk,hk.1.2.2.2⟩:_∧k_≠gb188))) (fun _ hk=>hk.2) (.slice Ao41 y198.length co41)) (fun _ hk=>⟨hk.1.1.1,⟨hk.1.2,⟨hk.1.1.2.1,hk.1.1.2.2.2⟩⟩⟩)⟩,⟨by (with_reducible repeat (first|apply Kd.R_alloc|apply Kd.R_drewN|apply Kd.R_drew));exact Kd.R_mono (Kd.R_far (p:=⟨gb188,2,none⟩) (Kd.R_mono HO_189004.out (fun k_ hk=>(⟨hk,hk.1.2.2.2⟩:_∧k_≠gb188))) (fun _ hk=>hk.2) (.slice Ao41 y198.length co41)) (fun _ hk=>⟨hk.1.1.1,⟨hk.1.2,⟨hk.1.1.2.1,hk.1.1.2.2.2⟩⟩⟩)⟩,⟨kbc_ BK181.out⟩,⟨kbc_ BK188.out⟩,⟨bl_ HB.out⟩⟩
           ·rw [if_neg c31] at H
            exact absurd H (by simp)
          ·rw [if_neg c29] at H
           exact absurd H (by simp)
         ·rw [if_neg c28] at H
          exact absurd H (by simp)
        ·rw [if_neg c27] at H
         have c27b0:decide (x31_2 < (((rd_T29 l0 x11_1).f2).length:Int))=false:=decide_eq_false c27
         clear c27
         by_cases c43:x3_1.length < 1256584717458
         ·rw [if_pos c43] at H
          have LMc43:=Aside0.mk c43
          clear c43
          obtain ⟨y201,hy201⟩ : ∃ y_:List (S76),y_=(x3_1++[(⟨((rd_T29 l0 x11_1).f0),((rd_T29 l0 x11_1).f1),x189002_2,t182,t185,((rd_T29 l0 x11_1).f5)⟩:S76)]):=⟨_,rfl⟩
          replace H:(helmsmanlaw12_Stmts.l0 k2 y201 l0 (l0.length:Int) (wrap64 (x11_1+1)))=some r:=by first|(rw [hy201];with_reducible exact H)|(have H2_:=(Option.bind_some _ _).symm.trans H;rw [hy201];with_reducible exact H2_)|(have H2_:=(Option.bind_some _ _).symm.trans H;with_reducible exact H2_)|with_reducible exact H|(rw [hy201];exact H)|exact H
          have Ny201:=Aside0.mk hy201
          clear hy201
          have H':=Aside0.mk H
          clear H
          have hnb44:=NB188_181.out
          have hnc44:=NB181_188.out
          have hcz45_0:wr.cell? ⟨gb188,0,none⟩=some (.string ((rd_T29 l0 x11_1).f0)):=zc_ BK188.out 0
          have hcz45_1:wr.cell? ⟨gb188,1,none⟩=some (.string ((rd_T29 l0 x11_1).f1)):=zc_ BK188.out 1
          have hcz45_2:wr.cell? ⟨gb188,2,none⟩=some (u189002):=zc_ BK188.out 2
          have hcz45_3:wr.cell? ⟨gb188,3,none⟩=some (.slice Ao18 t182.length co18):=zc_ BK188.out 3
          have hcz45_4:wr.cell? ⟨gb188,4,none⟩=some (.slice Ao17 t185.length co17):=zc_ BK188.out 4
          have hcz45_5:wr.cell? ⟨gb188,5,none⟩=some (.int .i64 ((rd_T29 l0 x11_1).f5)):=zc_ BK188.out 5
          have hfz45_0:=blk_frozen BK188.out 0
          have hfz45_1:=blk_frozen BK188.out 1
          have hfz45_2:=blk_frozen BK188.out 2
          have hfz45_3:=blk_frozen BK188.out 3
          have hfz45_4:=blk_frozen BK188.out 4
          have hfz45_5:=blk_frozen BK188.out 5
          obtain ⟨Ao47,co47,eo47⟩:=Kd.R_slice HO_189002.out
          subst eo47
          go_wp2_with (first|((with_reducible refine gate_builtin (b:=.append) (xs:=#[.tmp 43,.tmp 45]) rfl ?_);at_builtin;refine Kd.R_append k76 (w0:=w) w.heap.size rfl (.tmp 43) (.tmp 45) 48 76 (.agg #[(.string ⟨#[]⟩),(.string ⟨#[]⟩),(.slice none 0 0),(.slice none 0 0),(.slice none 0 0),(.int .i64 0)]) 112 rfl Tryd.underlying48 info76 rfl (by decide) (by omega) u3 x3_1 (⟨((rd_T29 l0 x11_1).f0),((rd_T29 l0 x11_1).f1),x189002_2,t182,t185,((rd_T29 l0 x11_1).f5)⟩:S76) [.string ((rd_T29 l0 x11_1).f0),.string ((rd_T29 l0 x11_1).f1),.slice Ao47 x189002_2.length co47,.slice Ao18 t182.length co18,.slice Ao17 t185.length co17,.int .i64 ((rd_T29 l0 x11_1).f5)] (fun k_=>k_≠gb188) (fun k_=>((fun k_=>k_≠gb188)) k_∧some k_≠(u3:Value).ownBlock) rfl rfl ?aP (fun _ hk=>hk) ?aF ?aO ?aB ?aS ?aL ?_;(case aP=>exact k76_mkM _ _ _ (⟨((rd_T29 l0 x11_1).f0),((rd_T29 l0 x11_1).f1),x189002_2,t182,t185,((rd_T29 l0 x11_1).f5)⟩:S76) (Kd.R_mono (Kd.R_types (Kd.R_apart' (HO_189002.out) (Kd.R_typed HO_3.out) (by decide)) BK188.out (by decide)) (fun k_ hk=>⟨hk.2,hk.1.2⟩)) (Kd.R_mono (HO_189003.out) (fun k_ hk=>⟨hk.2.2.2,hk.1⟩)) (Kd.R_mono (HO_189004.out) (fun k_ hk=>⟨hk.2.2.2,hk.1⟩)));(case aB=>exact (bl_ HB.out));(case aF=>exact (fun k_ hk=>Kd.freshB (g:=gb188) (o:=.cells #[.string ((rd_T29 l0 x11_1).f0),.string ((rd_T29 l0 x11_1).f1),.slice Ao47 x189002_2.length co47,.slice Ao18 t182.length co18,.slice Ao17 t185.length co17,.int .i64 ((rd_T29 l0 x11_1).f5)] 76 (0,0)) (kb_ BK188.out) k_ hk));(case aO=>exact (by (with_reducible repeat (first|apply Kd.R_alloc|apply Kd.R_drewN|apply Kd.R_drew));exact Kd.R_mono HO_3.out (fun _ hk=>hk.2.2.2)));(case aS=>exact (below_size (bl_ HB.out)));(case aL=>have:=LMc43.out;omega);intro v202 w46 ho hb hg hat;rw [← Ny201.out] at ho;have n0_:=Aside0.mk (bg_ BK181.out hg (Kd.R_ne HO_3.out BK181.out (by decide)));have n1_:=Aside0.mk (bg_ BK188.out hg (Kd.R_away HO_3.out (fun _ hk=>hk.2.2.2)));have n2_:=Aside0.mk (hb);have n3_:=Aside0.mk (ho);clear BK181;clear BK188;clear HB;clear HO_3;clear HO_189002;clear HO_189003;clear HO_189004;have BK181:=n0_;have BK188:=n1_;have HB:=n2_;have HO203:=n3_;clear n0_ n1_ n2_ n3_;clear ho hb hg hat))
          go_roundg k2
          case measure=>have:=HK1.out;have:=HK2.out;omega
          case rel=>exact ⟨(y201),(wrap64 (x11_1+1)),rf_,H',⟨by have:=HK1.out;have:=HK2.out;omega⟩,⟨by (with_reducible repeat (first|apply Kd.R_alloc|apply Kd.R_drewN|apply Kd.R_drew));exact Kd.R_mono HO203.out (fun _ hk=>trivial)⟩,⟨bl_ HB.out⟩⟩
         ·rw [if_neg c43] at H
          exact absurd H (by simp)
     ·rw [if_neg c4] at H
      exact absurd H (by simp)
    ·rw [if_neg c3] at H
     exact absurd H (by simp)
   ·rw [if_neg c2] at H
    have c2b0:decide (x11_1 < (l0.length:Int))=false:=decide_eq_false c2
    clear c2
    obtain rfl:=Option.some.inj H
    go_wp2
    go_ret
    exact ⟨_,rt_,by (with_reducible repeat (first|apply Kd.R_alloc|apply Kd.R_drewN|apply Kd.R_drew));exact HO_3.out,bl_ HB.out⟩
end Go.Proofs.YtnnbbeloifhofaaDoor.P
end
section
namespace Go.Proofs.YtnnbbeloifhofaaDoor.P
open Go Go.RowKit Go.Proofs
open Go.Proofs.YtnnbbeloifhofaaDoorW.PrintWords Go.Proofs.YtnnbbeloifhofaaDoorW.PrintLast Go.Proofs.YtnnbbeloifhofaaDoorW.PrintMore
abbrev tupE (x:TE):ByteArray × ByteArray × Int × List TE × Int:=(x.f0,x.f1,x.f2,x.f3,x.f4)
theorem tup_eta (y:TE):(⟨(tupE y).1,(tupE y).2.1,(tupE y).2.2.1,(tupE y).2.2.2.1,(tupE y).2.2.2.2⟩:TE)=y:=by cases y;rfl
theorem Expr_loop : ∀ (xs pre:List RE) (n:Int) (a b:ByteArray) (m t:Int) (acc:List TE),(∀ y ∈ xs,Ev (fun k=>helmsmanlaw12_Expr.f k y.f0 y.f1 y.f2 y.f3 y.f4) (tupE (convE y)))→n=((pre++xs).length:Int)→(pre++xs).length < 1099511627776→acc.length=pre.length→
    Ev (fun k=>helmsmanlaw12_Expr.l0 k (pre++xs) n pre.length a b m acc t) (a,b,m,acc++convEs xs,t):=by
  intro xs
  induction xs with
  | nil=>
    intro pre n a b m t acc _ hn _ _
    subst hn
    refine Ev.step (fun k=>helmsmanlaw12_Expr.l0.eq_2 _ _ _ _ _ _ _ _ k) (Ev.no (end_not pre) ?_)
    rw [convEs,List.append_nil];exact Ev.now _
  | cons x xs ih=>
    intro pre n a b m t acc h hn hl ha
    subst hn
    refine Ev.step (fun k=>helmsmanlaw12_Expr.l0.eq_2 _ _ _ _ _ _ _ _ k) (Ev.yes (mid_lt pre x xs) (Ev.yes (by omega) (Ev.yes (mid_lt pre x xs) ?_)))
    rw [rdRE]
    refine Ev.bind (h x (List.mem_cons_self ..)) (Ev.yes (by rw [ha];rw [List.length_append] at hl;omega) ?_)
    rw [next_len pre x xs (by omega),tup_eta]
    have:=ih (pre++[x]) ((pre++x :: xs).length:Int) a b m t (acc++[convE x]) (fun y hy=>h y (List.mem_cons_of_mem _ hy)) (by rw [← snoc]) (by rw [← snoc];exact hl) (by rw [List.length_append,List.length_append,ha];rfl)
    rw [← snoc,List.append_assoc,List.singleton_append] at this
    rw [convEs]
    exact this
theorem Expr_ev : ∀ x:RE,bulkE x < 1099511627776→Ev (fun k=>helmsmanlaw12_Expr.f k x.f0 x.f1 x.f2 x.f3 x.f4) (tupE (convE x)):=RE.all fun x ih hb=>by
  rw [bulkE_eq] at hb
  have hl:=len_bulkEs x.f3
  refine Ev.step (fun k=>helmsmanlaw12_Expr.f.eq_2 _ _ _ _ _ k) ?_
  have:=Expr_loop x.f3 [] (x.f3.length:Int) x.f0 x.f1 x.f2 x.f4 [] (fun y hy=>ih y hy (by have:=mem_bulkEs hy;omega)) rfl (by rw [List.nil_append];omega) rfl
  rw [convE_eq]
  exact this
theorem Stmts_l1 : ∀ (xs pre:List RE) (n:Int) (out:List TS) (x9:List RS) (x10 i:Int) (a b:ByteArray) (acc:List TE) (u v:List TS) (t:Int) (r:List TS),(∀ y ∈ xs,bulkE y < 1099511627776)→n=((pre++xs).length:Int)→(pre++xs).length < 1099511627776→acc.length=pre.length→out.length < 1099511627776→
    Ev (fun k=>helmsmanlaw12_Stmts.l0 k (out++[⟨a,b,acc++convEs xs,u,v,t⟩]) x9 x10 (wrap64 (i+1))) r→
    Ev (fun k=>helmsmanlaw12_Stmts.l1 k out x9 x10 i (pre++xs) n pre.length a b acc u v t) r:=by
  intro xs
  induction xs with
  | nil=>
    intro pre n out x9 x10 i a b acc u v t r _ hn _ _ ho hr
    subst hn
    refine Ev.step (fun k=>helmsmanlaw12_Stmts.l1.eq_2 _ _ _ _ _ _ _ _ _ _ _ _ _ k) (Ev.no (end_not pre) (Ev.yes (by omega) ?_))
    rw [convEs,List.append_nil] at hr;exact hr
  | cons x xs ih=>
    intro pre n out x9 x10 i a b acc u v t r h hn hl ha ho hr
    subst hn
    refine Ev.step (fun k=>helmsmanlaw12_Stmts.l1.eq_2 _ _ _ _ _ _ _ _ _ _ _ _ _ k) (Ev.yes (mid_lt pre x xs) (Ev.yes (by omega) (Ev.yes (mid_lt pre x xs) ?_)))
    rw [rdRE]
    refine Ev.bind (Expr_ev x (h x (List.mem_cons_self ..))) (Ev.yes (by rw [ha];rw [List.length_append] at hl;omega) ?_)
    rw [next_len pre x xs (by omega),tup_eta]
    have:=ih (pre++[x]) ((pre++x :: xs).length:Int) out x9 x10 i a b (acc++[convE x]) u v t r (fun y hy=>h y (List.mem_cons_of_mem _ hy)) (by rw [← snoc]) (by rw [← snoc];exact hl) (by rw [List.length_append,List.length_append,ha];rfl) ho (by rw [List.append_assoc,List.singleton_append];rw [convEs] at hr;exact hr)
    rw [← snoc] at this
    exact this
theorem Stmts_loop : ∀ (xs pre:List RS) (n:Int) (out:List TS),(∀ y ∈ xs,bulkS y < 1099511627775∧Ev (fun k=>helmsmanlaw12_Stmts.f k y.f3) (convSs y.f3)∧Ev (fun k=>helmsmanlaw12_Stmts.f k y.f4) (convSs y.f4))→n=((pre++xs).length:Int)→(pre++xs).length < 1099511627776→out.length=pre.length→
    Ev (fun k=>helmsmanlaw12_Stmts.l0 k out (pre++xs) n pre.length) (out++convSs xs):=by
  intro xs
  induction xs with
  | nil=>
    intro pre n out _ hn _ _
    subst hn
    refine Ev.step (fun k=>helmsmanlaw12_Stmts.l0.eq_2 _ _ _ _ k) (Ev.no (end_not pre) ?_)
    rw [convSs,List.append_nil];exact Ev.now _
  | cons x xs ih=>
    intro pre n out h hn hl ho
    obtain ⟨hb,ha,hc⟩:=h x (List.mem_cons_self ..)
    rw [bulkS_eq] at hb
    have hle:=len_bulkEs x.f2
    subst hn
    refine Ev.step (fun k=>helmsmanlaw12_Stmts.l0.eq_2 _ _ _ _ k) (Ev.yes (mid_lt pre x xs) (Ev.yes (by omega) (Ev.yes (mid_lt pre x xs) ?_)))
    rw [rdRS]
    refine Ev.bind ha (Ev.bind hc ?_)
    refine Stmts_l1 x.f2 [] (x.f2.length:Int) out _ _ _ x.f0 x.f1 [] (convSs x.f3) (convSs x.f4) x.f5 _ (fun y hy=>by have:=mem_bulkEs hy;omega) rfl (by rw [List.nil_append];omega) rfl (by rw [ho];rw [List.length_append] at hl;omega) ?_
    rw [next_len pre x xs (by omega),List.nil_append,← convS_eq]
    have:=ih (pre++[x]) ((pre++x :: xs).length:Int) (out++[convS x]) (fun y hy=>h y (List.mem_cons_of_mem _ hy)) (by rw [← snoc]) (by rw [← snoc];exact hl) (by rw [List.length_append,List.length_append,ho];rfl)
    rw [← snoc,List.append_assoc,List.singleton_append] at this
    rw [convSs]
    exact this
theorem Stmts_of (l:List RS) (hb:bulkSs l < 1099511627775) (h : ∀ y ∈ l,Ev (fun k=>helmsmanlaw12_Stmts.f k y.f3) (convSs y.f3)∧Ev (fun k=>helmsmanlaw12_Stmts.f k y.f4) (convSs y.f4)):Ev (fun k=>helmsmanlaw12_Stmts.f k l) (convSs l):=by
  have hl:=len_bulkSs l
  refine Ev.step (fun k=>helmsmanlaw12_Stmts.f.eq_2 _ k) ?_
  exact Stmts_loop l [] (l.length:Int) [] (fun y hy=>⟨by have:=mem_bulkSs hy;omega,h y hy⟩) rfl (by rw [List.nil_append];omega) rfl
theorem Stmts_ev' : ∀ x:RS,bulkS x < 1099511627775→Ev (fun k=>helmsmanlaw12_Stmts.f k x.f3) (convSs x.f3)∧Ev (fun k=>helmsmanlaw12_Stmts.f k x.f4) (convSs x.f4):=RS.all fun x iha ihb hb=>by
  rw [bulkS_eq] at hb
  exact ⟨Stmts_of _ (by omega) (fun y hy=>iha y hy (by have:=mem_bulkSs hy;omega)),Stmts_of _ (by omega) (fun y hy=>ihb y hy (by have:=mem_bulkSs hy;omega))⟩
theorem Stmts_ev (l:List RS) (hb:bulkSs l < 1099511627775):Ev (fun k=>helmsmanlaw12_Stmts.f k l) (convSs l):=
  Stmts_of l hb (fun y hy=>Stmts_ev' y (by have:=mem_bulkSs hy;omega))
end Go.Proofs.YtnnbbeloifhofaaDoor.P
end
section
namespace Go.Proofs.YtnnbbeloifhofaaDoor.P
open Go.RowKit Go.Proofs.YtnnbbeloifhofaaDoorW.PrintWords Go.Proofs.YtnnbbeloifhofaaDoorW.PrintLast Go.Proofs.YtnnbbeloifhofaaDoorW.PrintMore
attribute [local go_sem] max2_int min2_int max_two min_two max_three min_three max_four min_four
set_option linter.unusedVariables false
set_option linter.unusedSimpArgs false
def strconv_Itoa_53.f (a0:Int):Option (ByteArray):=(strconv_FormatInt.f a0 10).bind fun t127=>(some t127)
set_option maxHeartbeats 8000000 in
set_option maxRecDepth 100000 in
theorem strconv_Itoa_53.calls (a0:Int) (r:ByteArray) (w:World) (hT:TabT w) (h:strconv_Itoa_53.f a0=some r) :
    Calls Tryd.prog 53 #[.int .i64 a0] w fun e w'=>e=.returned (.string r)∧Below w.heap.size w w':=by
  have HB:=Aside0.mk (Below.refl w.heap.size w)
  have H:((strconv_FormatInt.f a0 10).bind fun t127=>(some t127))=some r:=h
  clear h
  replace H:=Option.bind_eq_some_iff.mp H
  obtain ⟨t127,A20,H⟩:=H
  replace H:(some t127)=some r:=H
  have A2:=Aside0.mk A20
  clear A20
  obtain rfl:=Option.some.inj H
  go_enter Tryd.func53,Tryd.ntmps53
  go_wp2_with (first|((with_reducible refine gate_callee (f:=62) rfl ?_);refine goesL_ (some 4) rfl rfl Tryd.func62 (by kernel_rfl) rfl #[.int .i64 a0,.int .i64 10] rfl (by (try simp only [List.map_toArray,List.map_cons,List.map_nil]);first|done|rfl|(simp only [List.length_drop,List.length_take];rfl)) ?_;(with_reducible refine (strconv_FormatInt.calls a0 10 t127 _ ?side1 A2.out).mono ?_);(case side1=>exact hT.later (by repeat (first|(with_reducible first|exact HB.out|apply below_alloc|apply pw_below_drewN|apply below_drew1)|exact HB.out)));rintro e w3 ⟨rfl,hb⟩;refine ⟨_,rfl,?_⟩;have n0_:=Aside0.mk (below_step (by repeat (first|(with_reducible first|exact HB.out|apply below_alloc|apply pw_below_drewN|apply below_drew1)|exact HB.out)) hb);clear HB;have HB:=n0_;clear n0_;(try clear hb);(try clear hb2);(try clear hk);(try clear hi)))
  go_ret
  exact ⟨by first|rfl|(simp [errW_none,errW_some] <;> rfl)|(simp [*,errW_none,errW_some] <;> rfl),by repeat (first|(with_reducible first|exact HB.out|apply below_alloc|apply pw_below_drewN|apply below_drew1)|exact HB.out)⟩
end Go.Proofs.YtnnbbeloifhofaaDoor.P
end
section
namespace Go.Proofs.YtnnbbeloifhofaaDoor.P
open Go.RowKit Go.Proofs.YtnnbbeloifhofaaDoorW.PrintWords Go.Proofs.YtnnbbeloifhofaaDoorW.PrintLast Go.Proofs.YtnnbbeloifhofaaDoorW.PrintMore
attribute [local go_sem] max2_int min2_int max_two min_two max_three min_three max_four min_four
set_option linter.unusedVariables false
set_option linter.unusedSimpArgs false
def strconv_Itoa_31.f (a0:Int):Option (ByteArray):=(strconv_Itoa_53.f a0).bind fun t128=>(some t128)
set_option maxHeartbeats 8000000 in
set_option maxRecDepth 100000 in
theorem strconv_Itoa_31.calls (a0:Int) (r:ByteArray) (w:World) (hT:TabT w) (h:strconv_Itoa_31.f a0=some r) :
    Calls Tryd.prog 31 #[.int .i64 a0] w fun e w'=>e=.returned (.string r)∧Below w.heap.size w w':=by
  have HB:=Aside0.mk (Below.refl w.heap.size w)
  have H:((strconv_Itoa_53.f a0).bind fun t128=>(some t128))=some r:=h
  clear h
  replace H:=Option.bind_eq_some_iff.mp H
  obtain ⟨t128,A20,H⟩:=H
  replace H:(some t128)=some r:=H
  have A2:=Aside0.mk A20
  clear A20
  obtain rfl:=Option.some.inj H
  go_enter Tryd.func31,Tryd.ntmps31
  go_wp2_with (first|((with_reducible refine gate_callee (f:=53) rfl ?_);refine goesL_ (some 4) rfl rfl Tryd.func53 (by kernel_rfl) rfl #[.int .i64 a0] rfl (by (try simp only [List.map_toArray,List.map_cons,List.map_nil]);first|done|rfl|(simp only [List.length_drop,List.length_take];rfl)) ?_;(with_reducible refine (strconv_Itoa_53.calls a0 t128 _ ?side1 A2.out).mono ?_);(case side1=>exact hT.later (by repeat (first|(with_reducible first|exact HB.out|apply below_alloc|apply pw_below_drewN|apply below_drew1)|exact HB.out)));rintro e w3 ⟨rfl,hb⟩;refine ⟨_,rfl,?_⟩;have n0_:=Aside0.mk (below_step (by repeat (first|(with_reducible first|exact HB.out|apply below_alloc|apply pw_below_drewN|apply below_drew1)|exact HB.out)) hb);clear HB;have HB:=n0_;clear n0_;(try clear hb);(try clear hb2);(try clear hk);(try clear hi)))
  go_ret
  exact ⟨by first|rfl|(simp [errW_none,errW_some] <;> rfl)|(simp [*,errW_none,errW_some] <;> rfl),by repeat (first|(with_reducible first|exact HB.out|apply below_alloc|apply pw_below_drewN|apply below_drew1)|exact HB.out)⟩
end Go.Proofs.YtnnbbeloifhofaaDoor.P
end
section
namespace Go.Proofs.YtnnbbeloifhofaaDoor.P
open Go.RowKit Go.Proofs.YtnnbbeloifhofaaDoorW.PrintWords Go.Proofs.YtnnbbeloifhofaaDoorW.PrintLast Go.Proofs.YtnnbbeloifhofaaDoorW.PrintMore
attribute [local go_sem] max2_int min2_int max_two min_two max_three min_three max_four min_four
set_option linter.unusedVariables false
set_option linter.unusedSimpArgs false
def slices_Index_string_string.l0:Nat→List ByteArray→ByteArray→Int→Int→Option (Int)
 | 0,_,_,_,_=>none
 | k+1,x0,x1,x7,x8=>if x8 < x7 then (if 0≤x8 then (if x8 < (x0.length:Int) then (if x1.toList=(rdOf ByteArray.empty x0 x8).toList then (some x8) else (slices_Index_string_string.l0 k x0 x1 x7 (wrap64 (x8+1)))) else (none)) else (none)) else (some (-1))
def slices_Index_string_string.f (k:Nat) (l0:List ByteArray) (a1:ByteArray):Option (Int):=slices_Index_string_string.l0 k l0 a1 (l0.length:Int) 0
set_option maxHeartbeats 8000000 in
set_option maxRecDepth 100000 in
theorem slices_Index_string_string.calls (k:Nat) (A0:Option Addr) (c0:Nat) (l0:List ByteArray) (a1:ByteArray) (r:Int) (w:World) (hr0:Kd.C Kd.string w A0 l0.length l0) (hc0:l0.length≤c0) (h:slices_Index_string_string.f k l0 a1=some r) :
  Calls Tryd.prog 63 #[.slice A0 l0.length c0,.string a1] w fun e w'=>e=.returned (.int .i64 r)∧Drawn0 w w':=by
 have HR0:=Aside0.mk hr0
 have HC0:=Aside0.mk hc0
 clear hr0 hc0
 have H:(slices_Index_string_string.l0 k l0 a1 (l0.length:Int) 0)=some r:=h
 clear h
 have H':=Aside0.mk H
 clear H
 go_enter Tryd.func63,Tryd.ntmps63
 go_wp2
 (try simp only [Act.put,List.setIfInBounds_toArray,List.set_cons_succ,List.set_cons_zero])
 go_loopg [8] k (fun kq v8 w'=>∃ (x8_1:Int),v8=.int .i64 x8_1∧Aside0 (slices_Index_string_string.l0 kq l0 a1 (l0.length:Int) x8_1=some r)∧Aside0 (kq≤k)∧Drawn0 w w')
 case atStart=>exact ⟨(0),rf_,H',⟨Nat.le_refl _⟩,by repeat (first|exact Drawn0.refl _|apply Drawn0.step)⟩
 case round=>
  clear H'
  try clear p2
  obtain ⟨x8_1,rfl,HA,HK1,⟨m1,rfl⟩⟩:=hrel
  cases gk with
  | zero=>exact absurd HA.out (by simp [slices_Index_string_string.l0])
  | succ k1=>
   have H:=HA.out
   clear HA
   simp only [slices_Index_string_string.l0] at H
   by_cases c3:x8_1 < (l0.length:Int)
   ·rw [if_pos c3] at H
    have c3b0:decide (x8_1 < (l0.length:Int))=true:=decide_eq_true c3
    clear c3
    by_cases c4:0≤x8_1
    ·rw [if_pos c4] at H
     have c4b0:decide (0≤x8_1)=true:=decide_eq_true c4
     clear c4
     by_cases c5:x8_1 < (l0.length:Int)
     ·rw [if_pos c5] at H
      have c5b0:decide (x8_1 < (l0.length:Int))=true:=decide_eq_true c5
      clear c5
      by_cases c6:a1.toList=(rdOf ByteArray.empty l0 x8_1).toList
      ·rw [if_pos c6] at H
       have c6b0:(a1.toList == (rdOf ByteArray.empty l0 x8_1).toList)=true:=beq_iff_eq.mpr c6
       have c6b1:(a1.toList != (rdOf ByteArray.empty l0 x8_1).toList)=false:=bne_eq_false_iff_eq.mpr c6
       clear c6
       obtain rfl:=Option.some.inj H
       have p129:0≤(x8_1:Int):=of_decide_eq_true as_
       have q129:x8_1 < (l0.length:Int):=of_decide_eq_true as_
       obtain ⟨ad129,e129,hx129_0⟩:=Kd.at_string HR0.out x8_1 p129 q129
       cases e129
       replace p129:=eq_true p129
       replace q129:=eq_true q129
       go_wp2
       go_ret
       exact ⟨by first|rfl|(simp;done)|(simp [*];done),by repeat (first|exact Drawn0.refl _|apply Drawn0.step)⟩
      ·rw [if_neg c6] at H
       have c6b0:(a1.toList == (rdOf ByteArray.empty l0 x8_1).toList)=false:=beq_eq_false_iff_ne.mpr c6
       have c6b1:(a1.toList != (rdOf ByteArray.empty l0 x8_1).toList)=true:=bne_iff_ne.mpr c6
       have H':=Aside0.mk H
       clear H
       have p129:0≤(x8_1:Int):=of_decide_eq_true as_
       have q129:x8_1 < (l0.length:Int):=of_decide_eq_true as_
       obtain ⟨ad129,e129,hx129_0⟩:=Kd.at_string HR0.out x8_1 p129 q129
       cases e129
       replace p129:=eq_true p129
       replace q129:=eq_true q129
       go_wp2
       go_roundg k1
       case measure=>have:=HK1.out;omega
       case rel=>exact ⟨(wrap64 (x8_1+1)),rf_,H',⟨by have:=HK1.out;omega⟩,by repeat (first|exact Drawn0.refl _|apply Drawn0.step)⟩
     ·rw [if_neg c5] at H
      exact absurd H (by simp)
    ·rw [if_neg c4] at H
     exact absurd H (by simp)
   ·rw [if_neg c3] at H
    have c3b0:decide (x8_1 < (l0.length:Int))=false:=decide_eq_false c3
    clear c3
    obtain rfl:=Option.some.inj H
    go_wp2
    go_ret
    exact ⟨by first|rfl|(simp;done)|(simp [*];done),by repeat (first|exact Drawn0.refl _|apply Drawn0.step)⟩
end Go.Proofs.YtnnbbeloifhofaaDoor.P
end
section
namespace Go.Proofs.YtnnbbeloifhofaaDoor.P
open Go.RowKit Go.Proofs.YtnnbbeloifhofaaDoorW.PrintWords Go.Proofs.YtnnbbeloifhofaaDoorW.PrintLast Go.Proofs.YtnnbbeloifhofaaDoorW.PrintMore
attribute [local go_sem] max2_int min2_int max_two min_two max_three min_three max_four min_four
set_option linter.unusedVariables false
set_option linter.unusedSimpArgs false
def slices_Contains_string_string.f (k:Nat) (l0:List ByteArray) (a1:ByteArray):Option (Bool):=(slices_Index_string_string.f k l0 a1).bind fun t130=>(some (decide (t130≥0)))
set_option maxHeartbeats 8000000 in
set_option maxRecDepth 100000 in
theorem slices_Contains_string_string.calls (k:Nat) (A0:Option Addr) (c0:Nat) (l0:List ByteArray) (a1:ByteArray) (r:Bool) (w:World) (hr0:Kd.C Kd.string w A0 l0.length l0) (hc0:l0.length≤c0) (h:slices_Contains_string_string.f k l0 a1=some r) :
    Calls Tryd.prog 54 #[.slice A0 l0.length c0,.string a1] w fun e w'=>e=.returned (.bool r)∧Drawn0 w w':=by
  have HR0:=Aside0.mk hr0
  have HC0:=Aside0.mk hc0
  clear hr0 hc0
  have H:((slices_Index_string_string.f k l0 a1).bind fun t130=>(some (decide (t130≥0))))=some r:=h
  clear h
  replace H:=Option.bind_eq_some_iff.mp H
  obtain ⟨t130,A30,H⟩:=H
  replace H:(some (decide (t130≥0)))=some r:=H
  have A3:=Aside0.mk A30
  clear A30
  obtain rfl:=Option.some.inj H
  go_enter Tryd.func54,Tryd.ntmps54
  go_wp2_with (first|((with_reducible refine gate_callee (f:=63) rfl ?_);refine goesL_ (some 7) rfl rfl Tryd.func63 (by kernel_rfl) rfl #[.slice A0 l0.length c0,.string a1] rfl (by (try simp only [List.map_toArray,List.map_cons,List.map_nil]);first|done|rfl|(simp only [List.length_drop,List.length_take];rfl)) ?_;(with_reducible refine (slices_Index_string_string.calls k _ _ l0 a1 t130 _ ?side1 ?side2 A3.out).mono ?_);(case side1=>repeat (first|exact HR0.out|(with_reducible refine Kd.C_alloc ?_ _)|(with_reducible refine Kd.C_drewN ?_ _)|(with_reducible refine Kd.C_drew ?_)));(case side2=>exact HC0.out);rintro e w' ⟨rfl,⟨nd,rfl⟩⟩;refine ⟨_,rfl,?_⟩))
  go_ret
  exact ⟨by first|rfl|(simp;done)|(simp [*];done),by repeat (first|exact Drawn0.refl _|apply Drawn0.step)⟩
end Go.Proofs.YtnnbbeloifhofaaDoor.P
end
section
namespace Go.Proofs.YtnnbbeloifhofaaDoor.P
open Go.RowKit Go.Proofs.YtnnbbeloifhofaaDoorW.PrintWords Go.Proofs.YtnnbbeloifhofaaDoorW.PrintLast Go.Proofs.YtnnbbeloifhofaaDoorW.PrintMore
attribute [local go_sem] max2_int min2_int max_two min_two max_three min_three max_four min_four
set_option linter.unusedVariables false
set_option linter.unusedSimpArgs false
mutual
def tree_Text.j0:Nat→ByteArray→Bool→ByteArray→ByteArray→Int→List (S33)→Int→Option (ByteArray)
 | 0,_,_,_,_,_,_,_=>none
 | k+1,x4,x24,x132000,x132001,x132002,x132003,x132004=>if x24=true then (some x132000) else (if x4.toList=([110,101,103]:List UInt8) then ((tree_closed.f k x132003 0).bind fun t134=>(if 1+t134.size≤9223372036854775807 then (some ((⟨#[45]⟩:ByteArray)++t134)) else (none))) else (if x4.toList=([110,111,116]:List UInt8) then ((tree_closed.f k x132003 0).bind fun t135=>(if 1+t135.size≤9223372036854775807 then (some ((⟨#[33]⟩:ByteArray)++t135)) else (none))) else ((tree_closed.f k x132003 0).bind fun t136=>(if t136.size+1≤9223372036854775807 then (if (t136++(⟨#[32]⟩:ByteArray)).size+x132000.size≤9223372036854775807 then (if ((t136++(⟨#[32]⟩:ByteArray))++x132000).size+1≤9223372036854775807 then ((tree_closed.f k x132003 1).bind fun t137=>(if (((t136++(⟨#[32]⟩:ByteArray))++x132000)++(⟨#[32]⟩:ByteArray)).size+t137.size≤9223372036854775807 then (some ((((t136++(⟨#[32]⟩:ByteArray))++x132000)++(⟨#[32]⟩:ByteArray))++t137)) else (none))) else (none)) else (none)) else (none)))))
def tree_Text.f:Nat→ByteArray→ByteArray→Int→List (S33)→Int→Option (ByteArray)
 | 0,_,_,_,_,_=>none
 | k+1,a0_0,a0_1,a0_2,l0_3,a0_4=>if a0_0.toList=([110,117,109]:List UInt8) then ((strconv_Itoa_31.f a0_2).bind fun t132=>(some t132)) else (if a0_0.toList=([110,97,109,101]:List UInt8) then (some a0_1) else (if a0_0.toList=([97,116]:List UInt8) then (if a0_1.size+1≤9223372036854775807 then ((tree_part.f k l0_3 0).bind fun t133=>(if (a0_1++(⟨#[91]⟩:ByteArray)).size+t133.size≤9223372036854775807 then (if ((a0_1++(⟨#[91]⟩:ByteArray))++t133).size+1≤9223372036854775807 then (some (((a0_1++(⟨#[91]⟩:ByteArray))++t133)++(⟨#[93]⟩:ByteArray))) else (none)) else (none))) else (none)) else (if a0_0.toList=([116,114,117,101]:List UInt8) then (tree_Text.j0 k a0_0 (a0_0.toList == ([116,114,117,101]:List UInt8)) a0_0 a0_1 a0_2 l0_3 a0_4) else (tree_Text.j0 k a0_0 (a0_0.toList == ([102,97,108,115,101]:List UInt8)) a0_0 a0_1 a0_2 l0_3 a0_4))))
def tree_part.f:Nat→List (S33)→Int→Option (ByteArray)
 | 0,_,_=>none
 | k+1,l0,a1=>if a1≥(l0.length:Int) then (some (⟨#[]⟩:ByteArray)) else (if 0≤a1 then (if a1 < (l0.length:Int) then ((tree_Text.f k ((rd_T33 l0 a1).f0) ((rd_T33 l0 a1).f1) ((rd_T33 l0 a1).f2) ((rd_T33 l0 a1).f3) ((rd_T33 l0 a1).f4)).bind fun t139=>(some t139)) else (none)) else (none))
def tree_closed.f:Nat→List (S33)→Int→Option (ByteArray)
 | 0,_,_=>none
 | k+1,l0,a1=>(tree_part.f k l0 a1).bind fun t140=>(if a1≥(l0.length:Int) then (some t140) else (if 0≤a1 then (if a1 < (l0.length:Int) then ((slices_Contains_string_string.f k (([(⟨#[110,117,109]⟩:ByteArray),(⟨#[110,97,109,101]⟩:ByteArray),(⟨#[97,116]⟩:ByteArray),(⟨#[116,114,117,101]⟩:ByteArray),(⟨#[102,97,108,115,101]⟩:ByteArray)]:List ByteArray)) ((rd_T33 l0 a1).f0)).bind fun t145=>(if t145=true then (some t140) else (if 1+t140.size≤9223372036854775807 then (if ((⟨#[40]⟩:ByteArray)++t140).size+1≤9223372036854775807 then (some (((⟨#[40]⟩:ByteArray)++t140)++(⟨#[41]⟩:ByteArray))) else (none)) else (none)))) else (none)) else (none)))
end
abbrev tree_Text.Stmt (k:Nat):Prop:=∀ (a0_0:ByteArray) (a0_1:ByteArray) (a0_2:Int) (A0_3:Option Addr) (c0_3:Nat) (l0_3:List (S33)) (a0_4:Int) (r:ByteArray) (w:World) (hT:TabT w) (hr0_3:Kd.C k33 w A0_3 l0_3.length l0_3) (hc0_3:l0_3.length≤c0_3) (h:tree_Text.f k a0_0 a0_1 a0_2 l0_3 a0_4=some r),
  Calls Tryd.prog 12 #[.agg #[.string a0_0,.string a0_1,.int .i64 a0_2,.slice A0_3 l0_3.length c0_3,.int .i64 a0_4]] w fun e w'=>e=.returned (.string r)∧Below w.heap.size w w'
abbrev tree_part.Stmt (k:Nat):Prop:=∀ (A0:Option Addr) (c0:Nat) (l0:List (S33)) (a1:Int) (r:ByteArray) (w:World) (hT:TabT w) (hr0:Kd.C k33 w A0 l0.length l0) (hc0:l0.length≤c0) (h:tree_part.f k l0 a1=some r),
  Calls Tryd.prog 32 #[.slice A0 l0.length c0,.int .i64 a1] w fun e w'=>e=.returned (.string r)∧Below w.heap.size w w'
abbrev tree_closed.Stmt (k:Nat):Prop:=∀ (A0:Option Addr) (c0:Nat) (l0:List (S33)) (a1:Int) (r:ByteArray) (w:World) (hT:TabT w) (hr0:Kd.C k33 w A0 l0.length l0) (hc0:l0.length≤c0) (h:tree_closed.f k l0 a1=some r),
  Calls Tryd.prog 33 #[.slice A0 l0.length c0,.int .i64 a1] w fun e w'=>e=.returned (.string r)∧Below w.heap.size w w'
end Go.Proofs.YtnnbbeloifhofaaDoor.P
end
section
namespace Go.Proofs.YtnnbbeloifhofaaDoor.P
open Go.RowKit Go.Proofs.YtnnbbeloifhofaaDoorW.PrintWords Go.Proofs.YtnnbbeloifhofaaDoorW.PrintLast Go.Proofs.YtnnbbeloifhofaaDoorW.PrintMore
attribute [local go_sem] max2_int min2_int max_two min_two max_three min_three max_four min_four
set_option linter.unusedVariables false
set_option linter.unusedSimpArgs false
def tree_Text.T7:Bool × List (List Nat × List Nat):=(true,[([],[]),([0],[0]),([1],[1]),([],[]),([3],[3]),([4],[4]),([2,5],[2,5]),([6],[6]),([7,5,0,1,2,3,4,5,6,7],[7])])
def tree_Text.B7:List Nat:=[0,1,3,0,8,24,63,127,255]
theorem tree_Text.tab7:rtab .any (opsOf Tryd.f12 7)=tree_Text.T7:=by kernel_rfl
theorem tree_Text.bits7:waitsOk tree_Text.T7.2 tree_Text.B7=true:=by kernel_rfl
def tree_Text.T15:Bool × List (List Nat × List Nat):=(true,[([],[]),([0],[0]),([1],[1]),([2],[2]),([],[]),([4],[4]),([3,5],[3,5]),([6],[6]),([],[]),([8],[8]),([9,2],[9]),([7,10],[7,10]),([11,10,0,1,2,3,4,5,6,7,8,9,10,11],[11])])
def tree_Text.B15:List Nat:=[0,1,3,7,0,16,63,127,0,256,775,2047,4095]
theorem tree_Text.tab15:rtab .any (opsOf Tryd.f12 15)=tree_Text.T15:=by kernel_rfl
theorem tree_Text.bits15:waitsOk tree_Text.T15.2 tree_Text.B15=true:=by kernel_rfl
set_option maxHeartbeats 8000000 in
set_option maxRecDepth 100000 in
theorem tree_Text.step (k:Nat) (ih12 : ∀ m_,m_ < k→tree_Text.Stmt m_) (ih32 : ∀ m_,m_ < k→tree_part.Stmt m_) (ih33 : ∀ m_,m_ < k→tree_closed.Stmt m_):tree_Text.Stmt k:=by
 intro a0_0 a0_1 a0_2 A0_3 c0_3 l0_3 a0_4 r w hT hr0_3 hc0_3 h
 cases k with
 | zero=>exact absurd h (by simp [tree_Text.f])
 | succ k=>
 simp only [tree_Text.f] at h
 have hu33:=Tryd.underlying33
 have HR0_3:=Aside0.mk hr0_3
 have HC0_3:=Aside0.mk hc0_3
 clear hr0_3 hc0_3
 have HB:=Aside0.mk (Below.refl w.heap.size w)
 have H:(if a0_0.toList=([110,117,109]:List UInt8) then ((strconv_Itoa_31.f a0_2).bind fun t132=>(some t132)) else (if a0_0.toList=([110,97,109,101]:List UInt8) then (some a0_1) else (if a0_0.toList=([97,116]:List UInt8) then (if a0_1.size+1≤9223372036854775807 then ((tree_part.f k l0_3 0).bind fun t133=>(if (a0_1++(⟨#[91]⟩:ByteArray)).size+t133.size≤9223372036854775807 then (if ((a0_1++(⟨#[91]⟩:ByteArray))++t133).size+1≤9223372036854775807 then (some (((a0_1++(⟨#[91]⟩:ByteArray))++t133)++(⟨#[93]⟩:ByteArray))) else (none)) else (none))) else (none)) else (if a0_0.toList=([116,114,117,101]:List UInt8) then (tree_Text.j0 k a0_0 (a0_0.toList == ([116,114,117,101]:List UInt8)) a0_0 a0_1 a0_2 l0_3 a0_4) else (tree_Text.j0 k a0_0 (a0_0.toList == ([102,97,108,115,101]:List UInt8)) a0_0 a0_1 a0_2 l0_3 a0_4)))))=some r:=h
 clear h
 by_cases c2:a0_0.toList=([110,117,109]:List UInt8)
 ·rw [if_pos c2] at H
  have c2b0:(a0_0.toList == ([110,117,109]:List UInt8))=true:=beq_iff_eq.mpr c2
  have c2b1:(a0_0.toList != ([110,117,109]:List UInt8))=false:=bne_eq_false_iff_eq.mpr c2
  clear c2
  replace H:=Option.bind_eq_some_iff.mp H
  obtain ⟨t132,A30,H⟩:=H
  replace H:(some t132)=some r:=H
  have A3:=Aside0.mk A30
  clear A30
  obtain rfl:=Option.some.inj H
  go_enter Tryd.func12,Tryd.ntmps12
  go_wp2_with (first|((with_reducible refine gate_dst (N:=1) rfl ?_);refine box_event ?hg (N:=1) ?hd (cs:=#[.string a0_0,.string a0_1,.int .i64 a0_2,.slice A0_3 l0_3.length c0_3,.int .i64 a0_4]) (t:=33) ?hr ?_;(case hd=>rfl);(case hg=>rfl);(case hr=>first|(go_simp;done)|(go_simp;rfl));intro gb131 hg w4 hbox hb;have n0_:=Aside0.mk (below_step (bl_ HB.out) hb);have n1_:=Aside0.mk (hbox);have n2_:=Aside0.mk ((gs_ hg (bl_ HB.out):w.heap.size≤gb131));have n3_:=Aside0.mk ((gs_ hg (bl_ HB.out):w.heap.size≤gb131));clear HB;have HB:=n0_;have BK131:=n1_;have GW131:=n2_;have GE131:=n3_;clear n0_ n1_ n2_ n3_;clear hb hbox hg;have hcz5_0:w4.cell? ⟨gb131,0,none⟩=some (.string a0_0):=zc_ BK131.out 0;have hcz5_1:w4.cell? ⟨gb131,1,none⟩=some (.string a0_1):=zc_ BK131.out 1;have hcz5_2:w4.cell? ⟨gb131,2,none⟩=some (.int .i64 a0_2):=zc_ BK131.out 2;have hcz5_3:w4.cell? ⟨gb131,3,none⟩=some (.slice A0_3 l0_3.length c0_3):=zc_ BK131.out 3;have hcz5_4:w4.cell? ⟨gb131,4,none⟩=some (.int .i64 a0_4):=zc_ BK131.out 4;have hfz5_0:=blk_frozen BK131.out 0;have hfz5_1:=blk_frozen BK131.out 1;have hfz5_2:=blk_frozen BK131.out 2;have hfz5_3:=blk_frozen BK131.out 3;have hfz5_4:=blk_frozen BK131.out 4)|((with_reducible refine gate_callee (f:=31) rfl ?_);refine goesL_ (some 9) rfl rfl Tryd.func31 (by kernel_rfl) rfl #[.int .i64 a0_2] rfl ar_ ?_;(with_reducible refine (strconv_Itoa_31.calls a0_2 t132 _ ?side1 A3.out).mono ?_);(case side1=>exact hT.later (bl_ HB.out));rintro e w6 ⟨rfl,hb⟩;refine ⟨_,rfl,?_⟩;have n0_:=Aside0.mk (bb_ BK131.out hb);have n1_:=Aside0.mk (below_step (bl_ HB.out) hb);clear BK131;clear HB;have BK131:=n0_;have HB:=n1_;clear n0_ n1_;(try clear hb);(try clear hb2);(try clear hk);(try clear hi)))
  go_ret
  exact ⟨rt_,bl_ HB.out⟩
 ·rw [if_neg c2] at H
  have c2b0:(a0_0.toList == ([110,117,109]:List UInt8))=false:=beq_eq_false_iff_ne.mpr c2
  have c2b1:(a0_0.toList != ([110,117,109]:List UInt8))=true:=bne_iff_ne.mpr c2
  by_cases c7:a0_0.toList=([110,97,109,101]:List UInt8)
  ·rw [if_pos c7] at H
   have c7b0:(a0_0.toList == ([110,97,109,101]:List UInt8))=true:=beq_iff_eq.mpr c7
   have c7b1:(a0_0.toList != ([110,97,109,101]:List UInt8))=false:=bne_eq_false_iff_eq.mpr c7
   clear c7
   obtain rfl:=Option.some.inj H
   go_enter Tryd.func12,Tryd.ntmps12
   go_wp2_with (first|((with_reducible refine gate_dst (N:=1) rfl ?_);refine box_event ?hg (N:=1) ?hd (cs:=#[.string a0_0,.string a0_1,.int .i64 a0_2,.slice A0_3 l0_3.length c0_3,.int .i64 a0_4]) (t:=33) ?hr ?_;(case hd=>rfl);(case hg=>rfl);(case hr=>first|(go_simp;done)|(go_simp;rfl));intro gb131 hg w8 hbox hb;have n0_:=Aside0.mk (below_step (bl_ HB.out) hb);have n1_:=Aside0.mk (hbox);have n2_:=Aside0.mk ((gs_ hg (bl_ HB.out):w.heap.size≤gb131));have n3_:=Aside0.mk ((gs_ hg (bl_ HB.out):w.heap.size≤gb131));clear HB;have HB:=n0_;have BK131:=n1_;have GW131:=n2_;have GE131:=n3_;clear n0_ n1_ n2_ n3_;clear hb hbox hg;have hcz9_0:w8.cell? ⟨gb131,0,none⟩=some (.string a0_0):=zc_ BK131.out 0;have hcz9_1:w8.cell? ⟨gb131,1,none⟩=some (.string a0_1):=zc_ BK131.out 1;have hcz9_2:w8.cell? ⟨gb131,2,none⟩=some (.int .i64 a0_2):=zc_ BK131.out 2;have hcz9_3:w8.cell? ⟨gb131,3,none⟩=some (.slice A0_3 l0_3.length c0_3):=zc_ BK131.out 3;have hcz9_4:w8.cell? ⟨gb131,4,none⟩=some (.int .i64 a0_4):=zc_ BK131.out 4;have hfz9_0:=blk_frozen BK131.out 0;have hfz9_1:=blk_frozen BK131.out 1;have hfz9_2:=blk_frozen BK131.out 2;have hfz9_3:=blk_frozen BK131.out 3;have hfz9_4:=blk_frozen BK131.out 4))
   go_ret
   exact ⟨rt_,bl_ HB.out⟩
  ·rw [if_neg c7] at H
   have c7b0:(a0_0.toList == ([110,97,109,101]:List UInt8))=false:=beq_eq_false_iff_ne.mpr c7
   have c7b1:(a0_0.toList != ([110,97,109,101]:List UInt8))=true:=bne_iff_ne.mpr c7
   by_cases c10:a0_0.toList=([97,116]:List UInt8)
   ·rw [if_pos c10] at H
    have c10b0:(a0_0.toList == ([97,116]:List UInt8))=true:=beq_iff_eq.mpr c10
    have c10b1:(a0_0.toList != ([97,116]:List UInt8))=false:=bne_eq_false_iff_eq.mpr c10
    clear c10
    by_cases c11:a0_1.size+1≤9223372036854775807
    ·rw [if_pos c11] at H
     have c11b0:=eq_true c11
     have c11b1:decide (a0_1.size+1≤9223372036854775807)=true:=decide_eq_true c11
     try have c11b2:(9223372036854775807 < a0_1.size+1)=False:=eq_false (Nat.not_lt.2 c11)
     replace H:=Option.bind_eq_some_iff.mp H
     obtain ⟨t133,A120,H⟩:=H
     replace H:(if (a0_1++(⟨#[91]⟩:ByteArray)).size+t133.size≤9223372036854775807 then (if ((a0_1++(⟨#[91]⟩:ByteArray))++t133).size+1≤9223372036854775807 then (some (((a0_1++(⟨#[91]⟩:ByteArray))++t133)++(⟨#[93]⟩:ByteArray))) else (none)) else (none))=some r:=H
     have A12:=Aside0.mk A120
     clear A120
     by_cases c13:(a0_1++(⟨#[91]⟩:ByteArray)).size+t133.size≤9223372036854775807
     ·rw [if_pos c13] at H
      have c13b0:=eq_true c13
      have c13b1:decide ((a0_1++(⟨#[91]⟩:ByteArray)).size+t133.size≤9223372036854775807)=true:=decide_eq_true c13
      try have c13b2:(9223372036854775807 < (a0_1++(⟨#[91]⟩:ByteArray)).size+t133.size)=False:=eq_false (Nat.not_lt.2 c13)
      try have c13b3:(9223372036854775807 < a0_1.size+1+t133.size)=False:=by have h_:=c13b2;simp only [ByteArray.size_append] at h_;exact h_
      try have c13b4:(a0_1.size+1+t133.size≤9223372036854775807)=True:=by have h_:=c13b0;simp only [ByteArray.size_append] at h_;exact h_
      by_cases c14:((a0_1++(⟨#[91]⟩:ByteArray))++t133).size+1≤9223372036854775807
      ·rw [if_pos c14] at H
       have c14b0:=eq_true c14
       have c14b1:decide (((a0_1++(⟨#[91]⟩:ByteArray))++t133).size+1≤9223372036854775807)=true:=decide_eq_true c14
       try have c14b2:(9223372036854775807 < ((a0_1++(⟨#[91]⟩:ByteArray))++t133).size+1)=False:=eq_false (Nat.not_lt.2 c14)
       try have c14b3:(9223372036854775807 < a0_1.size+1+t133.size+1)=False:=by have h_:=c14b2;simp only [ByteArray.size_append] at h_;exact h_
       try have c14b4:(a0_1.size+1+t133.size+1≤9223372036854775807)=True:=by have h_:=c14b0;simp only [ByteArray.size_append] at h_;exact h_
       obtain rfl:=Option.some.inj H
       go_enter Tryd.func12,Tryd.ntmps12
       try go_wp2_with (first|((with_reducible refine gate_dst (N:=1) rfl ?_);refine box_event ?hg (N:=1) ?hd (cs:=#[.string a0_0,.string a0_1,.int .i64 a0_2,.slice A0_3 l0_3.length c0_3,.int .i64 a0_4]) (t:=33) ?hr ?_;(case hd=>rfl);(case hg=>rfl);(case hr=>first|(go_simp;done)|(go_simp;rfl));intro gb131 hg w15 hbox hb;have n0_:=Aside0.mk (below_step (bl_ HB.out) hb);have n1_:=Aside0.mk (hbox);have n2_:=Aside0.mk ((gs_ hg (bl_ HB.out):w.heap.size≤gb131));have n3_:=Aside0.mk ((gs_ hg (bl_ HB.out):w.heap.size≤gb131));clear HB;have HB:=n0_;have BK131:=n1_;have GW131:=n2_;have GE131:=n3_;clear n0_ n1_ n2_ n3_;clear hb hbox hg;have hcz16_0:w15.cell? ⟨gb131,0,none⟩=some (.string a0_0):=zc_ BK131.out 0;have hcz16_1:w15.cell? ⟨gb131,1,none⟩=some (.string a0_1):=zc_ BK131.out 1;have hcz16_2:w15.cell? ⟨gb131,2,none⟩=some (.int .i64 a0_2):=zc_ BK131.out 2;have hcz16_3:w15.cell? ⟨gb131,3,none⟩=some (.slice A0_3 l0_3.length c0_3):=zc_ BK131.out 3;have hcz16_4:w15.cell? ⟨gb131,4,none⟩=some (.int .i64 a0_4):=zc_ BK131.out 4;have hfz16_0:=blk_frozen BK131.out 0;have hfz16_1:=blk_frozen BK131.out 1;have hfz16_2:=blk_frozen BK131.out 2;have hfz16_3:=blk_frozen BK131.out 3;have hfz16_4:=blk_frozen BK131.out 4))
       have n0_:=Aside0.mk (blk_drew BK131.out)
       have n1_:=Aside0.mk (below_drew1 HB.out)
       clear BK131
       clear HB
       have BK131:=n0_
       have HB:=n1_
       clear n0_ n1_
       refine start_ (n:=9) (S:=fun w'=>w'.cell? ⟨gb131,0,none⟩=some (.string a0_0)∧w'.cell? ⟨gb131,1,none⟩=some (.string a0_1)∧w'.cell? ⟨gb131,2,none⟩=some (.int .i64 a0_2)∧w'.cell? ⟨gb131,3,none⟩=some (.slice A0_3 l0_3.length c0_3)∧w'.cell? ⟨gb131,4,none⟩=some (.int .i64 a0_4)) (ds:=[]) (flg 9 0) (by kernel_rfl) rfl (by kernel_rfl) ⟨zc_ BK131.out 0,zc_ BK131.out 1,zc_ BK131.out 2,zc_ BK131.out 3,zc_ BK131.out 4⟩ (fun hHeld=>?_);refine with_tabW tree_Text.tab7 tree_Text.bits7 (fun HT_ HW_=>?_)
       generalize w15.drew=w17 at BK131 HB hHeld ⊢
       refine pur_ 0 16 (flg 9 1) rfl rfl (any_of HT_.out (by kernel_rfl)) (fun _ _ _ h=>h) ?_
       refine pur_ 3 19 (flg 9 9) rfl rfl (any_of HT_.out (by kernel_rfl)) (fun _ _ _ h=>h) ?_
       refine tak_ 1 17 (flg 9 11) rfl rfl (take_ofW HT_.out HW_.out (by kernel_rfl)) (fun _ _ _ h=>h) hHeld ?_
       refine pur_ 2 18 (flg 9 15) rfl rfl (any_of HT_.out (by kernel_rfl)) (fun _ _ _ h=>h) ?_
       refine tak_ 4 20 (flg 9 31) rfl rfl (take_ofW HT_.out HW_.out (by kernel_rfl)) (fun _ _ _ h=>h) hHeld ?_
       refine one_ (i:=5) (N:=some 21) (flg 9 63) rfl rfl (one_of HT_.out (by kernel_rfl)) (by decide) (fun K hK=>?_)
       refine goes_ Tryd.func32 (by kernel_rfl) rfl #[.slice A0_3 l0_3.length c0_3,.int .i64 0] (by rfl) rfl rfl ar_ ?_
       with_reducible refine (ih32 k (by omega) _ _ l0_3 0 t133 _ ?side1 ?side2 ?side3 A12.out).mono ?_
       (case side1=>exact hT.later (bl_ HB.out))
       (case side2=>exact kc_ HR0_3.out HB.out)
       (case side3=>exact HC0_3.out)
       rintro e w18 ⟨rfl,hb⟩
       refine ⟨_,rfl,?_⟩
       have n0_:=Aside0.mk (bb_ BK131.out hb)
       have n1_:=Aside0.mk (below_step (bl_ HB.out) hb)
       clear BK131
       clear HB
       have BK131:=n0_
       have HB:=n1_
       clear n0_ n1_
       (try clear hb)
       (try clear hb2)
       (try clear hk)
       (try clear hi)
       refine hK.out _ _ ⟨zc_ BK131.out 0,zc_ BK131.out 1,zc_ BK131.out 2,zc_ BK131.out 3,zc_ BK131.out 4⟩ (fun hHeld=>?_)
       clear hK K
       refine norm_ (a':=?_) ?_ ?_
       rotate_left
       ·show Act.put _ (some 21) _=_
        simp only [Act.put,List.setIfInBounds_toArray,List.set_cons_zero,List.set_cons_succ,i64_w,i32_w]
        rfl
       refine pur_ 6 22 (flg 9 127) rfl rfl (any_of HT_.out (by kernel_rfl)) (fun _ _ _ h=>h) ?_
       refine pur_ 7 23 (flg 9 255) rfl rfl (any_of HT_.out (by kernel_rfl)) (fun _ _ _ h=>h) ?_
       refine pur_ 8 2 (flg 9 511) rfl rfl (any_of HT_.out (by kernel_rfl)) (fun _ _ _ h=>h) ?_
       refine done_ (done_of HT_.out (by kernel_rfl)) ?_
       try go_wp2
       go_ret
       exact ⟨rt_,bl_ HB.out⟩
      ·rw [if_neg c14] at H
       exact absurd H (by simp)
     ·rw [if_neg c13] at H
      exact absurd H (by simp)
    ·rw [if_neg c11] at H
     exact absurd H (by simp)
   ·rw [if_neg c10] at H
    have c10b0:(a0_0.toList == ([97,116]:List UInt8))=false:=beq_eq_false_iff_ne.mpr c10
    have c10b1:(a0_0.toList != ([97,116]:List UInt8))=true:=bne_iff_ne.mpr c10
    have HC19:=Aside0.mk H
    clear H
    go_enter Tryd.func12,Tryd.ntmps12
    go_upto_if 24 with (first|((with_reducible refine gate_dst (N:=1) rfl ?_);refine box_event ?hg (N:=1) ?hd (cs:=#[.string a0_0,.string a0_1,.int .i64 a0_2,.slice A0_3 l0_3.length c0_3,.int .i64 a0_4]) (t:=33) ?hr ?_;(case hd=>rfl);(case hg=>rfl);(case hr=>first|(go_simp;done)|(go_simp;rfl));intro gb131 hg w20 hbox hb;have n0_:=Aside0.mk (below_step (bl_ HB.out) hb);have n1_:=Aside0.mk (hbox);have n2_:=Aside0.mk ((gs_ hg (bl_ HB.out):w.heap.size≤gb131));have n3_:=Aside0.mk ((gs_ hg (bl_ HB.out):w.heap.size≤gb131));clear HB;have HB:=n0_;have BK131:=n1_;have GW131:=n2_;have GE131:=n3_;clear n0_ n1_ n2_ n3_;clear hb hbox hg;have hcz21_0:w20.cell? ⟨gb131,0,none⟩=some (.string a0_0):=zc_ BK131.out 0;have hcz21_1:w20.cell? ⟨gb131,1,none⟩=some (.string a0_1):=zc_ BK131.out 1;have hcz21_2:w20.cell? ⟨gb131,2,none⟩=some (.int .i64 a0_2):=zc_ BK131.out 2;have hcz21_3:w20.cell? ⟨gb131,3,none⟩=some (.slice A0_3 l0_3.length c0_3):=zc_ BK131.out 3;have hcz21_4:w20.cell? ⟨gb131,4,none⟩=some (.int .i64 a0_4):=zc_ BK131.out 4;have hfz21_0:=blk_frozen BK131.out 0;have hfz21_1:=blk_frozen BK131.out 1;have hfz21_2:=blk_frozen BK131.out 2;have hfz21_3:=blk_frozen BK131.out 3;have hfz21_4:=blk_frozen BK131.out 4))
    (try simp only [Act.put,List.setIfInBounds_toArray,List.set_cons_zero,List.set_cons_succ])
    go_cut [24] (fun v24 wc=>∃ (kq:Nat) (x24_18:Bool),v24=.bool x24_18∧Aside0 (tree_Text.j0 kq a0_0 x24_18 a0_0 a0_1 a0_2 l0_3 a0_4=some r)∧Aside0 (kq≤k)∧Aside0 (wc.heap[gb131]?=some (.cells #[.string a0_0,.string a0_1,.int .i64 a0_2,(.slice A0_3 l0_3.length c0_3),.int .i64 a0_4] 33 (0,0)))∧Aside0 (Below w.heap.size w wc))
    case first=>
     have H:=HC19.out
     clear HC19
     by_cases c22:a0_0.toList=([116,114,117,101]:List UInt8)
     ·rw [if_pos c22] at H
      have c22b0:(a0_0.toList == ([116,114,117,101]:List UInt8))=true:=beq_iff_eq.mpr c22
      have c22b1:(a0_0.toList != ([116,114,117,101]:List UInt8))=false:=bne_eq_false_iff_eq.mpr c22
      clear c22
      (first|rw [c22b0]|(simp only [i64_w,i32_w];rw [c22b0])|skip)
      have H':=Aside0.mk H
      clear H
      go_wp2
      go_meet
      case rel=>exact ⟨_,((a0_0.toList == ([116,114,117,101]:List UInt8))),rf_,H',⟨by first|omega|exact Nat.le_refl _⟩,⟨kb_ BK131.out⟩,⟨bl_ HB.out⟩⟩
     ·rw [if_neg c22] at H
      have c22b0:(a0_0.toList == ([116,114,117,101]:List UInt8))=false:=beq_eq_false_iff_ne.mpr c22
      have c22b1:(a0_0.toList != ([116,114,117,101]:List UInt8))=true:=bne_iff_ne.mpr c22
      (first|rw [c22b0]|(simp only [i64_w,i32_w];rw [c22b0])|skip)
      have H':=Aside0.mk H
      clear H
      go_wp2
      go_meet
      case rel=>exact ⟨_,((a0_0.toList == ([102,97,108,115,101]:List UInt8))),rf_,H',⟨by first|omega|exact Nat.le_refl _⟩,⟨kb_ BK131.out⟩,⟨bl_ HB.out⟩⟩
    case rest=>
     clear HC19
     (try clear c1);(try clear c2);(try clear c2b0);(try clear c2b1);(try clear p2);(try clear c3);(try clear c7);(try clear c7b0);(try clear c7b1);(try clear c10);(try clear c10b0);(try clear c10b1);(try clear c11);(try clear c11b0);(try clear c11b1);(try clear c11b2);(try clear c12);(try clear c13);(try clear c13b0);(try clear c13b1);(try clear c13b2);(try clear c14);(try clear c14b0);(try clear c14b1);(try clear c14b2);(try clear c22);(try clear c22b0);(try clear c22b1);(try clear hcz16_0);(try clear hcz16_1);(try clear hcz16_2);(try clear hcz16_3);(try clear hcz16_4);(try clear hcz21_0);(try clear hcz21_1);(try clear hcz21_2);(try clear hcz21_3);(try clear hcz21_4);(try clear hcz5_0);(try clear hcz5_1);(try clear hcz5_2);(try clear hcz5_3);(try clear hcz5_4);(try clear hcz9_0);(try clear hcz9_1);(try clear hcz9_2);(try clear hcz9_3);(try clear hcz9_4);(try clear hfz16_0);(try clear hfz16_1);(try clear hfz16_2);(try clear hfz16_3);(try clear hfz16_4);(try clear hfz21_0);(try clear hfz21_1);(try clear hfz21_2);(try clear hfz21_3);(try clear hfz21_4);(try clear hfz5_0);(try clear hfz5_1);(try clear hfz5_2);(try clear hfz5_3);(try clear hfz5_4);(try clear hfz9_0);(try clear hfz9_1);(try clear hfz9_2);(try clear hfz9_3);(try clear hfz9_4)
     obtain ⟨kq,x24_18,rfl,HA,HJ18,BK131,HB⟩:=hcut
     cases kq with
     | zero=>exact absurd HA.out (by simp [tree_Text.j0])
     | succ kj18=>
      have H:=HA.out
      clear HA
      simp only [tree_Text.j0] at H
      by_cases c23:x24_18=true
      ·subst c23
       have H1:(some a0_0)=some r:=by rw [if_pos rfl] at H;exact H
       clear H
       have H:=H1
       clear H1
       obtain rfl:=Option.some.inj H
       have hcz24_0:wc.cell? ⟨gb131,0,none⟩=some (.string a0_0):=zc_ BK131.out 0
       have hcz24_1:wc.cell? ⟨gb131,1,none⟩=some (.string a0_1):=zc_ BK131.out 1
       have hcz24_2:wc.cell? ⟨gb131,2,none⟩=some (.int .i64 a0_2):=zc_ BK131.out 2
       have hcz24_3:wc.cell? ⟨gb131,3,none⟩=some (.slice A0_3 l0_3.length c0_3):=zc_ BK131.out 3
       have hcz24_4:wc.cell? ⟨gb131,4,none⟩=some (.int .i64 a0_4):=zc_ BK131.out 4
       have hfz24_0:=blk_frozen BK131.out 0
       have hfz24_1:=blk_frozen BK131.out 1
       have hfz24_2:=blk_frozen BK131.out 2
       have hfz24_3:=blk_frozen BK131.out 3
       have hfz24_4:=blk_frozen BK131.out 4
       go_wp2
       go_ret
       exact ⟨rt_,bl_ HB.out⟩
      ·replace c23:=Bool.eq_false_iff.mpr c23
       subst c23
       have H1:(if a0_0.toList=([110,101,103]:List UInt8) then ((tree_closed.f kj18 l0_3 0).bind fun t134=>(if 1+t134.size≤9223372036854775807 then (some ((⟨#[45]⟩:ByteArray)++t134)) else (none))) else (if a0_0.toList=([110,111,116]:List UInt8) then ((tree_closed.f kj18 l0_3 0).bind fun t135=>(if 1+t135.size≤9223372036854775807 then (some ((⟨#[33]⟩:ByteArray)++t135)) else (none))) else ((tree_closed.f kj18 l0_3 0).bind fun t136=>(if t136.size+1≤9223372036854775807 then (if (t136++(⟨#[32]⟩:ByteArray)).size+a0_0.size≤9223372036854775807 then (if ((t136++(⟨#[32]⟩:ByteArray))++a0_0).size+1≤9223372036854775807 then ((tree_closed.f kj18 l0_3 1).bind fun t137=>(if (((t136++(⟨#[32]⟩:ByteArray))++a0_0)++(⟨#[32]⟩:ByteArray)).size+t137.size≤9223372036854775807 then (some ((((t136++(⟨#[32]⟩:ByteArray))++a0_0)++(⟨#[32]⟩:ByteArray))++t137)) else (none))) else (none)) else (none)) else (none)))))=some r:=by rw [if_neg (show ¬ (false=true) by decide)] at H;exact H
       clear H
       have H:=H1
       clear H1
       by_cases c25:a0_0.toList=([110,101,103]:List UInt8)
       ·rw [if_pos c25] at H
        have c25b0:(a0_0.toList == ([110,101,103]:List UInt8))=true:=beq_iff_eq.mpr c25
        have c25b1:(a0_0.toList != ([110,101,103]:List UInt8))=false:=bne_eq_false_iff_eq.mpr c25
        clear c25
        replace H:=Option.bind_eq_some_iff.mp H
        obtain ⟨t134,A260,H⟩:=H
        replace H:(if 1+t134.size≤9223372036854775807 then (some ((⟨#[45]⟩:ByteArray)++t134)) else (none))=some r:=H
        have A26:=Aside0.mk A260
        clear A260
        by_cases c27:1+t134.size≤9223372036854775807
        ·rw [if_pos c27] at H
         have c27b0:=eq_true c27
         have c27b1:decide (1+t134.size≤9223372036854775807)=true:=decide_eq_true c27
         try have c27b2:(9223372036854775807 < 1+t134.size)=False:=eq_false (Nat.not_lt.2 c27)
         obtain rfl:=Option.some.inj H
         have hcz28_0:wc.cell? ⟨gb131,0,none⟩=some (.string a0_0):=zc_ BK131.out 0
         have hcz28_1:wc.cell? ⟨gb131,1,none⟩=some (.string a0_1):=zc_ BK131.out 1
         have hcz28_2:wc.cell? ⟨gb131,2,none⟩=some (.int .i64 a0_2):=zc_ BK131.out 2
         have hcz28_3:wc.cell? ⟨gb131,3,none⟩=some (.slice A0_3 l0_3.length c0_3):=zc_ BK131.out 3
         have hcz28_4:wc.cell? ⟨gb131,4,none⟩=some (.int .i64 a0_4):=zc_ BK131.out 4
         have hfz28_0:=blk_frozen BK131.out 0
         have hfz28_1:=blk_frozen BK131.out 1
         have hfz28_2:=blk_frozen BK131.out 2
         have hfz28_3:=blk_frozen BK131.out 3
         have hfz28_4:=blk_frozen BK131.out 4
         go_wp2_with (first|((with_reducible refine gate_callee (f:=33) rfl ?_);refine goesL_ (some 33) rfl rfl Tryd.func33 (by kernel_rfl) rfl #[.slice A0_3 l0_3.length c0_3,.int .i64 0] rfl ar_ ?_;(with_reducible refine (ih33 kj18 (by have:=HJ18.out;omega) _ _ l0_3 0 t134 _ ?side1 ?side2 ?side3 A26.out).mono ?_);(case side1=>exact hT.later (bl_ HB.out));(case side2=>exact kc_ HR0_3.out HB.out);(case side3=>exact HC0_3.out);rintro e w29 ⟨rfl,hb⟩;refine ⟨_,rfl,?_⟩;have n0_:=Aside0.mk (bb_ BK131.out hb);have n1_:=Aside0.mk (below_step (bl_ HB.out) hb);clear BK131;clear HB;have BK131:=n0_;have HB:=n1_;clear n0_ n1_;(try clear hb);(try clear hb2);(try clear hk);(try clear hi)))
         go_ret
         exact ⟨rt_,bl_ HB.out⟩
        ·rw [if_neg c27] at H
         exact absurd H (by simp)
       ·rw [if_neg c25] at H
        have c25b0:(a0_0.toList == ([110,101,103]:List UInt8))=false:=beq_eq_false_iff_ne.mpr c25
        have c25b1:(a0_0.toList != ([110,101,103]:List UInt8))=true:=bne_iff_ne.mpr c25
        by_cases c30:a0_0.toList=([110,111,116]:List UInt8)
        ·rw [if_pos c30] at H
         have c30b0:(a0_0.toList == ([110,111,116]:List UInt8))=true:=beq_iff_eq.mpr c30
         have c30b1:(a0_0.toList != ([110,111,116]:List UInt8))=false:=bne_eq_false_iff_eq.mpr c30
         clear c30
         replace H:=Option.bind_eq_some_iff.mp H
         obtain ⟨t135,A310,H⟩:=H
         replace H:(if 1+t135.size≤9223372036854775807 then (some ((⟨#[33]⟩:ByteArray)++t135)) else (none))=some r:=H
         have A31:=Aside0.mk A310
         clear A310
         by_cases c32:1+t135.size≤9223372036854775807
         ·rw [if_pos c32] at H
          have c32b0:=eq_true c32
          have c32b1:decide (1+t135.size≤9223372036854775807)=true:=decide_eq_true c32
          try have c32b2:(9223372036854775807 < 1+t135.size)=False:=eq_false (Nat.not_lt.2 c32)
          obtain rfl:=Option.some.inj H
          have hcz33_0:wc.cell? ⟨gb131,0,none⟩=some (.string a0_0):=zc_ BK131.out 0
          have hcz33_1:wc.cell? ⟨gb131,1,none⟩=some (.string a0_1):=zc_ BK131.out 1
          have hcz33_2:wc.cell? ⟨gb131,2,none⟩=some (.int .i64 a0_2):=zc_ BK131.out 2
          have hcz33_3:wc.cell? ⟨gb131,3,none⟩=some (.slice A0_3 l0_3.length c0_3):=zc_ BK131.out 3
          have hcz33_4:wc.cell? ⟨gb131,4,none⟩=some (.int .i64 a0_4):=zc_ BK131.out 4
          have hfz33_0:=blk_frozen BK131.out 0
          have hfz33_1:=blk_frozen BK131.out 1
          have hfz33_2:=blk_frozen BK131.out 2
          have hfz33_3:=blk_frozen BK131.out 3
          have hfz33_4:=blk_frozen BK131.out 4
          go_wp2_with (first|((with_reducible refine gate_callee (f:=33) rfl ?_);refine goesL_ (some 39) rfl rfl Tryd.func33 (by kernel_rfl) rfl #[.slice A0_3 l0_3.length c0_3,.int .i64 0] rfl ar_ ?_;(with_reducible refine (ih33 kj18 (by have:=HJ18.out;omega) _ _ l0_3 0 t135 _ ?side1 ?side2 ?side3 A31.out).mono ?_);(case side1=>exact hT.later (bl_ HB.out));(case side2=>exact kc_ HR0_3.out HB.out);(case side3=>exact HC0_3.out);rintro e w34 ⟨rfl,hb⟩;refine ⟨_,rfl,?_⟩;have n0_:=Aside0.mk (bb_ BK131.out hb);have n1_:=Aside0.mk (below_step (bl_ HB.out) hb);clear BK131;clear HB;have BK131:=n0_;have HB:=n1_;clear n0_ n1_;(try clear hb);(try clear hb2);(try clear hk);(try clear hi)))
          go_ret
          exact ⟨rt_,bl_ HB.out⟩
         ·rw [if_neg c32] at H
          exact absurd H (by simp)
        ·rw [if_neg c30] at H
         have c30b0:(a0_0.toList == ([110,111,116]:List UInt8))=false:=beq_eq_false_iff_ne.mpr c30
         have c30b1:(a0_0.toList != ([110,111,116]:List UInt8))=true:=bne_iff_ne.mpr c30
         replace H:=Option.bind_eq_some_iff.mp H
         obtain ⟨t136,A350,H⟩:=H
         replace H:(if t136.size+1≤9223372036854775807 then (if (t136++(⟨#[32]⟩:ByteArray)).size+a0_0.size≤9223372036854775807 then (if ((t136++(⟨#[32]⟩:ByteArray))++a0_0).size+1≤9223372036854775807 then ((tree_closed.f kj18 l0_3 1).bind fun t137=>(if (((t136++(⟨#[32]⟩:ByteArray))++a0_0)++(⟨#[32]⟩:ByteArray)).size+t137.size≤9223372036854775807 then (some ((((t136++(⟨#[32]⟩:ByteArray))++a0_0)++(⟨#[32]⟩:ByteArray))++t137)) else (none))) else (none)) else (none)) else (none))=some r:=H
         have A35:=Aside0.mk A350
         clear A350
         by_cases c36:t136.size+1≤9223372036854775807
         ·rw [if_pos c36] at H
          have c36b0:=eq_true c36
          have c36b1:decide (t136.size+1≤9223372036854775807)=true:=decide_eq_true c36
          try have c36b2:(9223372036854775807 < t136.size+1)=False:=eq_false (Nat.not_lt.2 c36)
          by_cases c37:(t136++(⟨#[32]⟩:ByteArray)).size+a0_0.size≤9223372036854775807
          ·rw [if_pos c37] at H
           have c37b0:=eq_true c37
           have c37b1:decide ((t136++(⟨#[32]⟩:ByteArray)).size+a0_0.size≤9223372036854775807)=true:=decide_eq_true c37
           try have c37b2:(9223372036854775807 < (t136++(⟨#[32]⟩:ByteArray)).size+a0_0.size)=False:=eq_false (Nat.not_lt.2 c37)
           try have c37b3:(9223372036854775807 < t136.size+1+a0_0.size)=False:=by have h_:=c37b2;simp only [ByteArray.size_append] at h_;exact h_
           try have c37b4:(t136.size+1+a0_0.size≤9223372036854775807)=True:=by have h_:=c37b0;simp only [ByteArray.size_append] at h_;exact h_
           by_cases c38:((t136++(⟨#[32]⟩:ByteArray))++a0_0).size+1≤9223372036854775807
           ·rw [if_pos c38] at H
            have c38b0:=eq_true c38
            have c38b1:decide (((t136++(⟨#[32]⟩:ByteArray))++a0_0).size+1≤9223372036854775807)=true:=decide_eq_true c38
            try have c38b2:(9223372036854775807 < ((t136++(⟨#[32]⟩:ByteArray))++a0_0).size+1)=False:=eq_false (Nat.not_lt.2 c38)
            try have c38b3:(9223372036854775807 < t136.size+1+a0_0.size+1)=False:=by have h_:=c38b2;simp only [ByteArray.size_append] at h_;exact h_
            try have c38b4:(t136.size+1+a0_0.size+1≤9223372036854775807)=True:=by have h_:=c38b0;simp only [ByteArray.size_append] at h_;exact h_
            replace H:=Option.bind_eq_some_iff.mp H
            obtain ⟨t137,A390,H⟩:=H
            replace H:(if (((t136++(⟨#[32]⟩:ByteArray))++a0_0)++(⟨#[32]⟩:ByteArray)).size+t137.size≤9223372036854775807 then (some ((((t136++(⟨#[32]⟩:ByteArray))++a0_0)++(⟨#[32]⟩:ByteArray))++t137)) else (none))=some r:=H
            have A39:=Aside0.mk A390
            clear A390
            by_cases c40:(((t136++(⟨#[32]⟩:ByteArray))++a0_0)++(⟨#[32]⟩:ByteArray)).size+t137.size≤9223372036854775807
            ·rw [if_pos c40] at H
             have c40b0:=eq_true c40
             have c40b1:decide ((((t136++(⟨#[32]⟩:ByteArray))++a0_0)++(⟨#[32]⟩:ByteArray)).size+t137.size≤9223372036854775807)=true:=decide_eq_true c40
             try have c40b2:(9223372036854775807 < (((t136++(⟨#[32]⟩:ByteArray))++a0_0)++(⟨#[32]⟩:ByteArray)).size+t137.size)=False:=eq_false (Nat.not_lt.2 c40)
             try have c40b3:(9223372036854775807 < t136.size+1+a0_0.size+1+t137.size)=False:=by have h_:=c40b2;simp only [ByteArray.size_append] at h_;exact h_
             try have c40b4:(t136.size+1+a0_0.size+1+t137.size≤9223372036854775807)=True:=by have h_:=c40b0;simp only [ByteArray.size_append] at h_;exact h_
             obtain rfl:=Option.some.inj H
             try go_wp2
             have n0_:=Aside0.mk (blk_drew BK131.out)
             have n1_:=Aside0.mk (below_drew1 HB.out)
             clear BK131
             clear HB
             have BK131:=n0_
             have HB:=n1_
             clear n0_ n1_
             refine start_ (n:=13) (S:=fun w'=>w'.cell? ⟨gb131,0,none⟩=some (.string a0_0)∧w'.cell? ⟨gb131,1,none⟩=some (.string a0_1)∧w'.cell? ⟨gb131,2,none⟩=some (.int .i64 a0_2)∧w'.cell? ⟨gb131,3,none⟩=some (.slice A0_3 l0_3.length c0_3)∧w'.cell? ⟨gb131,4,none⟩=some (.int .i64 a0_4)) (ds:=[]) (flg 13 0) (by kernel_rfl) rfl (by kernel_rfl) ⟨zc_ BK131.out 0,zc_ BK131.out 1,zc_ BK131.out 2,zc_ BK131.out 3,zc_ BK131.out 4⟩ (fun hHeld=>?_);refine with_tabW tree_Text.tab15 tree_Text.bits15 (fun HT_ HW_=>?_)
             generalize wc.drew=w41 at BK131 HB hHeld ⊢
             refine pur_ 0 41 (flg 13 1) rfl rfl (any_of HT_.out (by kernel_rfl)) (fun _ _ _ h=>h) ?_
             refine pur_ 4 45 (flg 13 17) rfl rfl (any_of HT_.out (by kernel_rfl)) (fun _ _ _ h=>h) ?_
             refine pur_ 8 49 (flg 13 273) rfl rfl (any_of HT_.out (by kernel_rfl)) (fun _ _ _ h=>h) ?_
             refine tak_ 1 42 (flg 13 275) rfl rfl (take_ofW HT_.out HW_.out (by kernel_rfl)) (fun _ _ _ h=>h) hHeld ?_
             refine tak_ 5 46 (flg 13 307) rfl rfl (take_ofW HT_.out HW_.out (by kernel_rfl)) (fun _ _ _ h=>h) hHeld ?_
             refine tak_ 9 50 (flg 13 819) rfl rfl (take_ofW HT_.out HW_.out (by kernel_rfl)) (fun _ _ _ h=>h) hHeld ?_
             refine one_ (i:=2) (N:=some 43) (flg 13 823) rfl rfl (one_of HT_.out (by kernel_rfl)) (by decide) (fun K hK=>?_)
             refine goes_ Tryd.func33 (by kernel_rfl) rfl #[.slice A0_3 l0_3.length c0_3,.int .i64 0] (by rfl) rfl rfl ar_ ?_
             with_reducible refine (ih33 kj18 (by have:=HJ18.out;omega) _ _ l0_3 0 t136 _ ?side1 ?side2 ?side3 A35.out).mono ?_
             (case side1=>exact hT.later (bl_ HB.out))
             (case side2=>exact kc_ HR0_3.out HB.out)
             (case side3=>exact HC0_3.out)
             rintro e w42 ⟨rfl,hb⟩
             refine ⟨_,rfl,?_⟩
             have n0_:=Aside0.mk (bb_ BK131.out hb)
             have n1_:=Aside0.mk (below_step (bl_ HB.out) hb)
             clear BK131
             clear HB
             have BK131:=n0_
             have HB:=n1_
             clear n0_ n1_
             (try clear hb)
             (try clear hb2)
             (try clear hk)
             (try clear hi)
             refine hK.out _ _ ⟨zc_ BK131.out 0,zc_ BK131.out 1,zc_ BK131.out 2,zc_ BK131.out 3,zc_ BK131.out 4⟩ (fun hHeld=>?_)
             clear hK K
             refine norm_ (a':=?_) ?_ ?_
             rotate_left
             ·show Act.put _ (some 43) _=_
              simp only [Act.put,List.setIfInBounds_toArray,List.set_cons_zero,List.set_cons_succ,i64_w,i32_w]
              rfl
             refine pur_ 3 44 (flg 13 831) rfl rfl (any_of HT_.out (by kernel_rfl)) (fun _ _ _ h=>h) ?_
             refine pur_ 6 47 (flg 13 895) rfl rfl (any_of HT_.out (by kernel_rfl)) (fun _ _ _ h=>h) ?_
             refine pur_ 7 48 (flg 13 1023) rfl rfl (any_of HT_.out (by kernel_rfl)) (fun _ _ _ h=>h) ?_
             refine one_ (i:=10) (N:=some 51) (flg 13 2047) rfl rfl (one_of HT_.out (by kernel_rfl)) (by decide) (fun K hK=>?_)
             refine goes_ Tryd.func33 (by kernel_rfl) rfl #[.slice A0_3 l0_3.length c0_3,.int .i64 1] (by rfl) rfl rfl ar_ ?_
             with_reducible refine (ih33 kj18 (by have:=HJ18.out;omega) _ _ l0_3 1 t137 _ ?side1 ?side2 ?side3 A39.out).mono ?_
             (case side1=>exact hT.later (bl_ HB.out))
             (case side2=>exact kc_ HR0_3.out HB.out)
             (case side3=>exact HC0_3.out)
             rintro e w43 ⟨rfl,hb⟩
             refine ⟨_,rfl,?_⟩
             have n0_:=Aside0.mk (bb_ BK131.out hb)
             have n1_:=Aside0.mk (below_step (bl_ HB.out) hb)
             clear BK131
             clear HB
             have BK131:=n0_
             have HB:=n1_
             clear n0_ n1_
             (try clear hb)
             (try clear hb2)
             (try clear hk)
             (try clear hi)
             refine hK.out _ _ ⟨zc_ BK131.out 0,zc_ BK131.out 1,zc_ BK131.out 2,zc_ BK131.out 3,zc_ BK131.out 4⟩ (fun hHeld=>?_)
             clear hK K
             refine norm_ (a':=?_) ?_ ?_
             rotate_left
             ·show Act.put _ (some 51) _=_
              simp only [Act.put,List.setIfInBounds_toArray,List.set_cons_zero,List.set_cons_succ,i64_w,i32_w]
              rfl
             refine pur_ 11 52 (flg 13 4095) rfl rfl (any_of HT_.out (by kernel_rfl)) (fun _ _ _ h=>h) ?_
             refine pur_ 12 2 (flg 13 8191) rfl rfl (any_of HT_.out (by kernel_rfl)) (fun _ _ _ h=>h) ?_
             refine done_ (done_of HT_.out (by kernel_rfl)) ?_
             try go_wp2
             go_ret
             exact ⟨rt_,bl_ HB.out⟩
            ·rw [if_neg c40] at H
             exact absurd H (by simp)
           ·rw [if_neg c38] at H
            exact absurd H (by simp)
          ·rw [if_neg c37] at H
           exact absurd H (by simp)
         ·rw [if_neg c36] at H
          exact absurd H (by simp)
end Go.Proofs.YtnnbbeloifhofaaDoor.P
end
section
namespace Go.Proofs.YtnnbbeloifhofaaDoor.P
open Go.RowKit Go.Proofs.YtnnbbeloifhofaaDoorW.PrintWords Go.Proofs.YtnnbbeloifhofaaDoorW.PrintLast Go.Proofs.YtnnbbeloifhofaaDoorW.PrintMore
attribute [local go_sem] max2_int min2_int max_two min_two max_three min_three max_four min_four
set_option linter.unusedVariables false
set_option linter.unusedSimpArgs false
set_option maxHeartbeats 8000000 in
set_option maxRecDepth 100000 in
theorem tree_part.step (k:Nat) (ih12 : ∀ m_,m_ < k→tree_Text.Stmt m_) (ih32 : ∀ m_,m_ < k→tree_part.Stmt m_) (ih33 : ∀ m_,m_ < k→tree_closed.Stmt m_):tree_part.Stmt k:=by
 intro A0 c0 l0 a1 r w hT hr0 hc0 h
 cases k with
 | zero=>exact absurd h (by simp [tree_part.f])
 | succ k=>
 simp only [tree_part.f] at h
 have hu33:=Tryd.underlying33
 have HR0:=Aside0.mk hr0
 have HC0:=Aside0.mk hc0
 clear hr0 hc0
 have HB:=Aside0.mk (Below.refl w.heap.size w)
 have H:(if a1≥(l0.length:Int) then (some (⟨#[]⟩:ByteArray)) else (if 0≤a1 then (if a1 < (l0.length:Int) then ((tree_Text.f k ((rd_T33 l0 a1).f0) ((rd_T33 l0 a1).f1) ((rd_T33 l0 a1).f2) ((rd_T33 l0 a1).f3) ((rd_T33 l0 a1).f4)).bind fun t139=>(some t139)) else (none)) else (none)))=some r:=h
 clear h
 by_cases c3:a1≥(l0.length:Int)
 ·rw [if_pos c3] at H
  have c3b0:decide ((l0.length:Int)≤a1)=true:=decide_eq_true c3
  clear c3
  obtain rfl:=Option.some.inj H
  go_enter Tryd.func32,Tryd.ntmps32
  go_wp2
  go_ret
  exact ⟨rt_,bl_ HB.out⟩
 ·rw [if_neg c3] at H
  have c3b0:decide ((l0.length:Int)≤a1)=false:=decide_eq_false c3
  clear c3
  by_cases c4:0≤a1
  ·rw [if_pos c4] at H
   have c4b0:decide (0≤a1)=true:=decide_eq_true c4
   clear c4
   by_cases c5:a1 < (l0.length:Int)
   ·rw [if_pos c5] at H
    have c5b0:decide (a1 < (l0.length:Int))=true:=decide_eq_true c5
    clear c5
    replace H:=Option.bind_eq_some_iff.mp H
    obtain ⟨t139,A60,H⟩:=H
    replace H:(some t139)=some r:=H
    have A6:=Aside0.mk A60
    clear A60
    obtain rfl:=Option.some.inj H
    have p138:0≤(a1:Int):=of_decide_eq_true as_
    have q138:a1 < (l0.length:Int):=of_decide_eq_true as_
    obtain ⟨ad138,A138_3,c138_3,e138,hx138_0,hx138_1,hx138_2,hx138_3,hx138_4,hl138_3,hi138_3⟩:=at_T33 HR0.out a1 p138 q138
    cases e138
    have HR138_3:=Aside0.mk hi138_3
    have HC138_3:=Aside0.mk hl138_3
    clear hi138_3 hl138_3
    replace p138:=eq_true p138
    replace q138:=eq_true q138
    go_enter Tryd.func32,Tryd.ntmps32
    go_wp2_with (first|((with_reducible refine gate_callee (f:=12) rfl ?_);refine goesL_ (some 13) rfl rfl Tryd.func12 (by kernel_rfl) rfl #[.agg #[.string ((rd_T33 l0 a1).f0),.string ((rd_T33 l0 a1).f1),.int .i64 ((rd_T33 l0 a1).f2),.slice A138_3 ((rd_T33 l0 a1).f3).length c138_3,.int .i64 ((rd_T33 l0 a1).f4)]] rfl ar_ ?_;(with_reducible refine (ih12 k (by omega) ((rd_T33 l0 a1).f0) ((rd_T33 l0 a1).f1) ((rd_T33 l0 a1).f2) _ _ ((rd_T33 l0 a1).f3) ((rd_T33 l0 a1).f4) t139 _ ?side1 ?side2 ?side3 A6.out).mono ?_);(case side1=>exact hT.later (bl_ HB.out));(case side2=>repeat (first|exact HR138_3.out|(with_reducible refine Kd.C_alloc ?_ _)|(with_reducible refine Kd.C_drewN ?_ _)|(with_reducible refine Kd.C_drew ?_)));(case side3=>exact HC138_3.out);rintro e w7 ⟨rfl,hb⟩;refine ⟨_,rfl,?_⟩;have n0_:=Aside0.mk (below_step (bl_ HB.out) hb);clear HB;have HB:=n0_;clear n0_;(try clear hb);(try clear hb2);(try clear hk);(try clear hi)))
    go_ret
    exact ⟨rt_,bl_ HB.out⟩
   ·rw [if_neg c5] at H
    exact absurd H (by simp)
  ·rw [if_neg c4] at H
   exact absurd H (by simp)
end Go.Proofs.YtnnbbeloifhofaaDoor.P
end
section
namespace Go.Proofs.YtnnbbeloifhofaaDoor.P
open Go.RowKit Go.Proofs.YtnnbbeloifhofaaDoorW.PrintWords Go.Proofs.YtnnbbeloifhofaaDoorW.PrintLast Go.Proofs.YtnnbbeloifhofaaDoorW.PrintMore
attribute [local go_sem] max2_int min2_int max_two min_two max_three min_three max_four min_four
set_option linter.unusedVariables false
set_option linter.unusedSimpArgs false
set_option maxHeartbeats 8000000 in
set_option maxRecDepth 100000 in
theorem tree_closed.step (k:Nat) (ih12 : ∀ m_,m_ < k→tree_Text.Stmt m_) (ih32 : ∀ m_,m_ < k→tree_part.Stmt m_) (ih33 : ∀ m_,m_ < k→tree_closed.Stmt m_):tree_closed.Stmt k:=by
 intro A0 c0 l0 a1 r w hT hr0 hc0 h
 cases k with
 | zero=>exact absurd h (by simp [tree_closed.f])
 | succ k=>
 simp only [tree_closed.f] at h
 have HR0:=Aside0.mk hr0
 have HC0:=Aside0.mk hc0
 clear hr0 hc0
 have HB:=Aside0.mk (Below.refl w.heap.size w)
 have H:((tree_part.f k l0 a1).bind fun t140=>(if a1≥(l0.length:Int) then (some t140) else (if 0≤a1 then (if a1 < (l0.length:Int) then ((slices_Contains_string_string.f k (([(⟨#[110,117,109]⟩:ByteArray),(⟨#[110,97,109,101]⟩:ByteArray),(⟨#[97,116]⟩:ByteArray),(⟨#[116,114,117,101]⟩:ByteArray),(⟨#[102,97,108,115,101]⟩:ByteArray)]:List ByteArray)) ((rd_T33 l0 a1).f0)).bind fun t145=>(if t145=true then (some t140) else (if 1+t140.size≤9223372036854775807 then (if ((⟨#[40]⟩:ByteArray)++t140).size+1≤9223372036854775807 then (some (((⟨#[40]⟩:ByteArray)++t140)++(⟨#[41]⟩:ByteArray))) else (none)) else (none)))) else (none)) else (none))))=some r:=h
 clear h
 replace H:=Option.bind_eq_some_iff.mp H
 obtain ⟨t140,A30,H⟩:=H
 replace H:(if a1≥(l0.length:Int) then (some t140) else (if 0≤a1 then (if a1 < (l0.length:Int) then ((slices_Contains_string_string.f k (([(⟨#[110,117,109]⟩:ByteArray),(⟨#[110,97,109,101]⟩:ByteArray),(⟨#[97,116]⟩:ByteArray),(⟨#[116,114,117,101]⟩:ByteArray),(⟨#[102,97,108,115,101]⟩:ByteArray)]:List ByteArray)) ((rd_T33 l0 a1).f0)).bind fun t145=>(if t145=true then (some t140) else (if 1+t140.size≤9223372036854775807 then (if ((⟨#[40]⟩:ByteArray)++t140).size+1≤9223372036854775807 then (some (((⟨#[40]⟩:ByteArray)++t140)++(⟨#[41]⟩:ByteArray))) else (none)) else (none)))) else (none)) else (none)))=some r:=H
 have A3:=Aside0.mk A30
 clear A30
 by_cases c4:a1≥(l0.length:Int)
 ·rw [if_pos c4] at H
  have c4b0:decide ((l0.length:Int)≤a1)=true:=decide_eq_true c4
  clear c4
  obtain rfl:=Option.some.inj H
  go_enter Tryd.func33,Tryd.ntmps33
  go_wp2_with (first|((with_reducible refine gate_callee (f:=32) rfl ?_);refine goesL_ (some 8) rfl rfl Tryd.func32 (by kernel_rfl) rfl #[.slice A0 l0.length c0,.int .i64 a1] rfl ar_ ?_;(with_reducible refine (ih32 k (by omega) _ _ l0 a1 t140 _ ?side1 ?side2 ?side3 A3.out).mono ?_);(case side1=>exact hT.later (bl_ HB.out));(case side2=>repeat (first|exact HR0.out|(with_reducible refine Kd.C_alloc ?_ _)|(with_reducible refine Kd.C_drewN ?_ _)|(with_reducible refine Kd.C_drew ?_)));(case side3=>exact HC0.out);rintro e w5 ⟨rfl,hb⟩;refine ⟨_,rfl,?_⟩;have n0_:=Aside0.mk (below_step (bl_ HB.out) hb);clear HB;have HB:=n0_;clear n0_;(try clear hb);(try clear hb2);(try clear hk);(try clear hi)))
  go_ret
  exact ⟨rt_,bl_ HB.out⟩
 ·rw [if_neg c4] at H
  have c4b0:decide ((l0.length:Int)≤a1)=false:=decide_eq_false c4
  clear c4
  obtain ⟨y141,hy141⟩ : ∃ y_:List ByteArray,y_=(([(⟨#[110,117,109]⟩:ByteArray),(⟨#[110,97,109,101]⟩:ByteArray),(⟨#[97,116]⟩:ByteArray),(⟨#[116,114,117,101]⟩:ByteArray),(⟨#[102,97,108,115,101]⟩:ByteArray)]:List ByteArray)):=⟨_,rfl⟩
  replace H:(if 0≤a1 then (if a1 < (l0.length:Int) then ((slices_Contains_string_string.f k y141 ((rd_T33 l0 a1).f0)).bind fun t145=>(if t145=true then (some t140) else (if 1+t140.size≤9223372036854775807 then (if ((⟨#[40]⟩:ByteArray)++t140).size+1≤9223372036854775807 then (some (((⟨#[40]⟩:ByteArray)++t140)++(⟨#[41]⟩:ByteArray))) else (none)) else (none)))) else (none)) else (none))=some r:=by first|(rw [hy141];with_reducible exact H)|(have H2_:=(Option.bind_some _ _).symm.trans H;rw [hy141];with_reducible exact H2_)|(have H2_:=(Option.bind_some _ _).symm.trans H;with_reducible exact H2_)|with_reducible exact H|(rw [hy141];exact H)|exact H
  have Ny141:=Aside0.mk hy141
  clear hy141
  by_cases c6:0≤a1
  ·rw [if_pos c6] at H
   have c6b0:decide (0≤a1)=true:=decide_eq_true c6
   clear c6
   by_cases c7:a1 < (l0.length:Int)
   ·rw [if_pos c7] at H
    have c7b0:decide (a1 < (l0.length:Int))=true:=decide_eq_true c7
    clear c7
    replace H:=Option.bind_eq_some_iff.mp H
    obtain ⟨t145,A80,H⟩:=H
    replace H:(if t145=true then (some t140) else (if 1+t140.size≤9223372036854775807 then (if ((⟨#[40]⟩:ByteArray)++t140).size+1≤9223372036854775807 then (some (((⟨#[40]⟩:ByteArray)++t140)++(⟨#[41]⟩:ByteArray))) else (none)) else (none)))=some r:=H
    have A8:=Aside0.mk A80
    clear A80
    by_cases c9:t145=true
    ·subst c9
     have H1:(some t140)=some r:=by rw [if_pos rfl] at H;exact H
     clear H
     have H:=H1
     clear H1
     obtain rfl:=Option.some.inj H
     go_enter Tryd.func33,Tryd.ntmps33
     go_wp2_with (first|((with_reducible refine gate_callee (f:=32) rfl ?_);refine goesL_ (some 8) rfl rfl Tryd.func32 (by kernel_rfl) rfl #[.slice A0 l0.length c0,.int .i64 a1] rfl ar_ ?_;(with_reducible refine (ih32 k (by omega) _ _ l0 a1 t140 _ ?side1 ?side2 ?side3 A3.out).mono ?_);(case side1=>exact hT.later (bl_ HB.out));(case side2=>repeat (first|exact HR0.out|(with_reducible refine Kd.C_alloc ?_ _)|(with_reducible refine Kd.C_drewN ?_ _)|(with_reducible refine Kd.C_drew ?_)));(case side3=>exact HC0.out);rintro e w10 ⟨rfl,hb⟩;refine ⟨_,rfl,?_⟩;have n0_:=Aside0.mk (below_step (bl_ HB.out) hb);clear HB;have HB:=n0_;clear n0_;(try clear hb);(try clear hb2);(try clear hk);(try clear hi))|((with_reducible refine gate_dst (N:=14) rfl ?_);(try (refine gate_guard (by rfl) ?_;dsimp only));refine Kd.R_lit Kd.string _ 9 ?hg (N:=14) ?hd (xs:=([(⟨#[110,117,109]⟩:ByteArray),(⟨#[110,97,109,101]⟩:ByteArray),(⟨#[97,116]⟩:ByteArray),(⟨#[116,114,117,101]⟩:ByteArray),(⟨#[102,97,108,115,101]⟩:ByteArray)]:List ByteArray)) (inner:=[.string (⟨#[110,117,109]⟩:ByteArray),.string (⟨#[110,97,109,101]⟩:ByteArray),.string (⟨#[97,116]⟩:ByteArray),.string (⟨#[116,114,117,101]⟩:ByteArray),.string (⟨#[102,97,108,115,101]⟩:ByteArray)]) (ok:=fun _=>True) (okp:=fun _=>True) ?hr ?hp (fun _ hk=>hk) trivial (Below.refl _ _) (Nat.le_refl _) (by simp) ?_;(case hd=>rfl);(case hg=>rfl);(case hr=>first|(go_simp;done)|(go_simp;rfl));(case hp=>exact (Reps.one (show Kd.M Kd.string _ _ _ (⟨#[110,117,109]⟩:ByteArray) [.string (⟨#[110,117,109]⟩:ByteArray)] from rfl) (Reps.one (show Kd.M Kd.string _ _ _ (⟨#[110,97,109,101]⟩:ByteArray) [.string (⟨#[110,97,109,101]⟩:ByteArray)] from rfl) (Reps.one (show Kd.M Kd.string _ _ _ (⟨#[97,116]⟩:ByteArray) [.string (⟨#[97,116]⟩:ByteArray)] from rfl) (Reps.one (show Kd.M Kd.string _ _ _ (⟨#[116,114,117,101]⟩:ByteArray) [.string (⟨#[116,114,117,101]⟩:ByteArray)] from rfl) (Reps.one (show Kd.M Kd.string _ _ _ (⟨#[102,97,108,115,101]⟩:ByteArray) [.string (⟨#[102,97,108,115,101]⟩:ByteArray)] from rfl) (Reps.none _ _)))))));intro v142 w11 ho12 hb hg_ hnew_;clear hg_ hnew_;(first|rw [← Ny141.out] at ho12|(simp only [Int.reduceToNat] at ho12;rw [← Ny141.out] at ho12));have n0_:=Aside0.mk (Kd.R_lower ho12 (below_size (bl_ HB.out)));have n1_:=Aside0.mk (below_step (bl_ HB.out) hb);clear HB;have HO143:=n0_;have HB:=n1_;clear n0_ n1_;clear hb ho12;have p144:0≤(a1:Int):=of_decide_eq_true as_;have q144:a1 < (l0.length:Int):=of_decide_eq_true as_;obtain ⟨ad144,A144_3,c144_3,e144,hx144_0,hx144_1,hx144_2,hx144_3,hx144_4,hl144_3,hi144_3⟩:=at_T33 HR0.out a1 p144 q144;cases e144;replace hx144_0:=(cb_ HB.out hx144_0:_);replace hx144_1:=(cb_ HB.out hx144_1:_);replace hx144_2:=(cb_ HB.out hx144_2:_);replace hx144_3:=(cb_ HB.out hx144_3:_);replace hx144_4:=(cb_ HB.out hx144_4:_);have HR144_3:=Aside0.mk hi144_3;have HC144_3:=Aside0.mk hl144_3;clear hi144_3 hl144_3;replace p144:=eq_true p144;replace q144:=eq_true q144;obtain ⟨Ao13,co13,eo13⟩:=Kd.R_slice HO143.out;subst eo13)|(go_at_call 54;(with_reducible refine (slices_Contains_string_string.calls k _ _ y141 ((rd_T33 l0 a1).f0) true _ ?side1 ?side2 A8.out).mono ?_);(case side1=>repeat (first|exact (Kd.R_reads' HO143.out).2.2|(with_reducible refine Kd.C_alloc ?_ _)|(with_reducible refine Kd.C_drewN ?_ _)|(with_reducible refine Kd.C_drew ?_)));(case side2=>exact (Kd.R_reads' HO143.out).2.1);rintro e w' ⟨rfl,⟨nd,rfl⟩⟩))
     go_ret
     exact ⟨rt_,bl_ HB.out⟩
    ·replace c9:=Bool.eq_false_iff.mpr c9
     subst c9
     have H1:(if 1+t140.size≤9223372036854775807 then (if ((⟨#[40]⟩:ByteArray)++t140).size+1≤9223372036854775807 then (some (((⟨#[40]⟩:ByteArray)++t140)++(⟨#[41]⟩:ByteArray))) else (none)) else (none))=some r:=by rw [if_neg (show ¬ (false=true) by decide)] at H;exact H
     clear H
     have H:=H1
     clear H1
     by_cases c14:1+t140.size≤9223372036854775807
     ·rw [if_pos c14] at H
      have c14b0:=eq_true c14
      have c14b1:decide (1+t140.size≤9223372036854775807)=true:=decide_eq_true c14
      try have c14b2:(9223372036854775807 < 1+t140.size)=False:=eq_false (Nat.not_lt.2 c14)
      by_cases c15:((⟨#[40]⟩:ByteArray)++t140).size+1≤9223372036854775807
      ·rw [if_pos c15] at H
       have c15b0:=eq_true c15
       have c15b1:decide (((⟨#[40]⟩:ByteArray)++t140).size+1≤9223372036854775807)=true:=decide_eq_true c15
       try have c15b2:(9223372036854775807 < ((⟨#[40]⟩:ByteArray)++t140).size+1)=False:=eq_false (Nat.not_lt.2 c15)
       try have c15b3:(9223372036854775807 < 1+t140.size+1)=False:=by have h_:=c15b2;simp only [ByteArray.size_append] at h_;exact h_
       try have c15b4:(1+t140.size+1≤9223372036854775807)=True:=by have h_:=c15b0;simp only [ByteArray.size_append] at h_;exact h_
       obtain rfl:=Option.some.inj H
       go_enter Tryd.func33,Tryd.ntmps33
       go_wp2_with (first|((with_reducible refine gate_callee (f:=32) rfl ?_);refine goesL_ (some 8) rfl rfl Tryd.func32 (by kernel_rfl) rfl #[.slice A0 l0.length c0,.int .i64 a1] rfl ar_ ?_;(with_reducible refine (ih32 k (by omega) _ _ l0 a1 t140 _ ?side1 ?side2 ?side3 A3.out).mono ?_);(case side1=>exact hT.later (bl_ HB.out));(case side2=>repeat (first|exact HR0.out|(with_reducible refine Kd.C_alloc ?_ _)|(with_reducible refine Kd.C_drewN ?_ _)|(with_reducible refine Kd.C_drew ?_)));(case side3=>exact HC0.out);rintro e w16 ⟨rfl,hb⟩;refine ⟨_,rfl,?_⟩;have n0_:=Aside0.mk (below_step (bl_ HB.out) hb);clear HB;have HB:=n0_;clear n0_;(try clear hb);(try clear hb2);(try clear hk);(try clear hi))|((with_reducible refine gate_dst (N:=14) rfl ?_);(try (refine gate_guard (by rfl) ?_;dsimp only));refine Kd.R_lit Kd.string _ 9 ?hg (N:=14) ?hd (xs:=([(⟨#[110,117,109]⟩:ByteArray),(⟨#[110,97,109,101]⟩:ByteArray),(⟨#[97,116]⟩:ByteArray),(⟨#[116,114,117,101]⟩:ByteArray),(⟨#[102,97,108,115,101]⟩:ByteArray)]:List ByteArray)) (inner:=[.string (⟨#[110,117,109]⟩:ByteArray),.string (⟨#[110,97,109,101]⟩:ByteArray),.string (⟨#[97,116]⟩:ByteArray),.string (⟨#[116,114,117,101]⟩:ByteArray),.string (⟨#[102,97,108,115,101]⟩:ByteArray)]) (ok:=fun _=>True) (okp:=fun _=>True) ?hr ?hp (fun _ hk=>hk) trivial (Below.refl _ _) (Nat.le_refl _) (by simp) ?_;(case hd=>rfl);(case hg=>rfl);(case hr=>first|(go_simp;done)|(go_simp;rfl));(case hp=>exact (Reps.one (show Kd.M Kd.string _ _ _ (⟨#[110,117,109]⟩:ByteArray) [.string (⟨#[110,117,109]⟩:ByteArray)] from rfl) (Reps.one (show Kd.M Kd.string _ _ _ (⟨#[110,97,109,101]⟩:ByteArray) [.string (⟨#[110,97,109,101]⟩:ByteArray)] from rfl) (Reps.one (show Kd.M Kd.string _ _ _ (⟨#[97,116]⟩:ByteArray) [.string (⟨#[97,116]⟩:ByteArray)] from rfl) (Reps.one (show Kd.M Kd.string _ _ _ (⟨#[116,114,117,101]⟩:ByteArray) [.string (⟨#[116,114,117,101]⟩:ByteArray)] from rfl) (Reps.one (show Kd.M Kd.string _ _ _ (⟨#[102,97,108,115,101]⟩:ByteArray) [.string (⟨#[102,97,108,115,101]⟩:ByteArray)] from rfl) (Reps.none _ _)))))));intro v142 w17 ho18 hb hg_ hnew_;clear hg_ hnew_;(first|rw [← Ny141.out] at ho18|(simp only [Int.reduceToNat] at ho18;rw [← Ny141.out] at ho18));have n0_:=Aside0.mk (Kd.R_lower ho18 (below_size (bl_ HB.out)));have n1_:=Aside0.mk (below_step (bl_ HB.out) hb);clear HB;have HO143:=n0_;have HB:=n1_;clear n0_ n1_;clear hb ho18;have p144:0≤(a1:Int):=of_decide_eq_true as_;have q144:a1 < (l0.length:Int):=of_decide_eq_true as_;obtain ⟨ad144,A144_3,c144_3,e144,hx144_0,hx144_1,hx144_2,hx144_3,hx144_4,hl144_3,hi144_3⟩:=at_T33 HR0.out a1 p144 q144;cases e144;replace hx144_0:=(cb_ HB.out hx144_0:_);replace hx144_1:=(cb_ HB.out hx144_1:_);replace hx144_2:=(cb_ HB.out hx144_2:_);replace hx144_3:=(cb_ HB.out hx144_3:_);replace hx144_4:=(cb_ HB.out hx144_4:_);have HR144_3:=Aside0.mk hi144_3;have HC144_3:=Aside0.mk hl144_3;clear hi144_3 hl144_3;replace p144:=eq_true p144;replace q144:=eq_true q144;obtain ⟨Ao19,co19,eo19⟩:=Kd.R_slice HO143.out;subst eo19)|(go_at_call 54;(with_reducible refine (slices_Contains_string_string.calls k _ _ y141 ((rd_T33 l0 a1).f0) false _ ?side1 ?side2 A8.out).mono ?_);(case side1=>repeat (first|exact (Kd.R_reads' HO143.out).2.2|(with_reducible refine Kd.C_alloc ?_ _)|(with_reducible refine Kd.C_drewN ?_ _)|(with_reducible refine Kd.C_drew ?_)));(case side2=>exact (Kd.R_reads' HO143.out).2.1);rintro e w' ⟨rfl,⟨nd,rfl⟩⟩))
       go_ret
       exact ⟨rt_,bl_ HB.out⟩
      ·rw [if_neg c15] at H
       exact absurd H (by simp)
     ·rw [if_neg c14] at H
      exact absurd H (by simp)
   ·rw [if_neg c7] at H
    exact absurd H (by simp)
  ·rw [if_neg c6] at H
   exact absurd H (by simp)
end Go.Proofs.YtnnbbeloifhofaaDoor.P
end
section
namespace Go.Proofs.YtnnbbeloifhofaaDoor.P
open Go.RowKit Go.Proofs.YtnnbbeloifhofaaDoorW.PrintWords Go.Proofs.YtnnbbeloifhofaaDoorW.PrintLast Go.Proofs.YtnnbbeloifhofaaDoorW.PrintMore
attribute [local go_sem] max2_int min2_int max_two min_two max_three min_three max_four min_four
set_option linter.unusedVariables false
set_option linter.unusedSimpArgs false
theorem tree_Text_ring.all (k:Nat):tree_Text.Stmt k∧tree_part.Stmt k∧tree_closed.Stmt k:=by
  induction k using Nat.strongRecOn with
  | _ k ih=>
  exact ⟨tree_Text.step k (fun m_ h_=>(ih m_ h_).1) (fun m_ h_=>(ih m_ h_).2.1) (fun m_ h_=>(ih m_ h_).2.2),tree_part.step k (fun m_ h_=>(ih m_ h_).1) (fun m_ h_=>(ih m_ h_).2.1) (fun m_ h_=>(ih m_ h_).2.2),tree_closed.step k (fun m_ h_=>(ih m_ h_).1) (fun m_ h_=>(ih m_ h_).2.1) (fun m_ h_=>(ih m_ h_).2.2)⟩
theorem tree_Text.calls (k:Nat):tree_Text.Stmt k:=(tree_Text_ring.all k).1
theorem tree_part.calls (k:Nat):tree_part.Stmt k:=(tree_Text_ring.all k).2.1
end Go.Proofs.YtnnbbeloifhofaaDoor.P
end
section
namespace Go.Proofs.YtnnbbeloifhofaaDoor.P
open Go Go.RowKit Go.Proofs
open Go.Proofs.YtnnbbeloifhofaaDoorW.PrintWords Go.Proofs.YtnnbbeloifhofaaDoorW.PrintLast Go.Proofs.YtnnbbeloifhofaaDoorW.PrintMore
def okI (n:Int):Prop:=-9223372036854775808≤n∧n≤9223372036854775807
mutual
def okE:RE→Prop
  | ⟨_,_,n,l,_⟩=>okI n∧okEs l
def okEs:List RE→Prop
  | []=>True
  | x :: xs=>okE x∧okEs xs
end
theorem okE_eq (x:RE):okE x=(okI x.f2∧okEs x.f3):=by cases x;rfl
theorem okEs_mem {x:RE} : ∀ {l:List RE},okEs l→x ∈ l→okE x
  | [],_,h=>by cases h
  | y :: ys,h,hx=>by
    rcases List.mem_cons.1 hx with e|hx
    · exact e ▸ h.1
    · exact okEs_mem h.2 hx
abbrev opNum:List UInt8:=[110,117,109]
abbrev opName:List UInt8:=[110,97,109,101]
abbrev opAt:List UInt8:=[97,116]
abbrev opTrue:List UInt8:=[116,114,117,101]
abbrev opFalse:List UInt8:=[102,97,108,115,101]
abbrev opNeg:List UInt8:=[110,101,103]
abbrev opNot:List UInt8:=[110,111,116]
def simpB (op:ByteArray):Bool:=op.toList == opNum || (op.toList == opName || (op.toList == opAt || (op.toList == opTrue || op.toList == opFalse)))
def cloB (op t:ByteArray):ByteArray:=if simpB op=true then t else ((⟨#[40]⟩:ByteArray)++t)++(⟨#[41]⟩:ByteArray)
def nth (l:List ByteArray) (i:Nat):ByteArray:=l.getD i ⟨#[]⟩
def textF (op name:ByteArray) (n:Int) (ts cs:List ByteArray):ByteArray:=
  if op.toList=opNum then itoaB n
  else if op.toList=opName then name
  else if op.toList=opAt then ((name++(⟨#[91]⟩:ByteArray))++nth ts 0)++(⟨#[93]⟩:ByteArray)
  else if op.toList=opTrue then op
  else if op.toList=opFalse then op
  else if op.toList=opNeg then (⟨#[45]⟩:ByteArray)++nth cs 0
  else if op.toList=opNot then (⟨#[33]⟩:ByteArray)++nth cs 0
  else (((nth cs 0++(⟨#[32]⟩:ByteArray))++op)++(⟨#[32]⟩:ByteArray))++nth cs 1
mutual
def textE:RE→ByteArray
  | ⟨op,name,n,l,_⟩=>textF op name n (textEs l) (cloEs l)
def textEs:List RE→List ByteArray
  | []=>[]
  | x :: xs=>textE x :: textEs xs
def cloE:RE→ByteArray
  | ⟨op,name,n,l,_⟩=>cloB op (textF op name n (textEs l) (cloEs l))
def cloEs:List RE→List ByteArray
  | []=>[]
  | x :: xs=>cloE x :: cloEs xs
end
theorem textE_eq (x:RE):textE x=textF x.f0 x.f1 x.f2 (textEs x.f3) (cloEs x.f3):=by cases x;rw [textE]
theorem cloE_eq (x:RE):cloE x=cloB x.f0 (textE x):=by cases x;rw [cloE,textE]
theorem textEs_map (l:List RE):textEs l=l.map textE:=by
  induction l with
  | nil=>rfl
  | cons x xs ih=>rw [textEs,ih];rfl
theorem cloEs_map (l:List RE):cloEs l=l.map cloE:=by
  induction l with
  | nil=>rfl
  | cons x xs ih=>rw [cloEs,ih];rfl
theorem size_lit (l:List UInt8):(⟨l.toArray⟩:ByteArray).size=l.length:=by simp [ByteArray.size]
theorem itoaB_size {n:Int} (h:okI n):(itoaB n).size≤21:=by unfold itoaB;rw [strOf_size];exact Lib.itoa_length_le n h.1 h.2
theorem nth_zero_le {l:List RE} {f:RE→ByteArray} {c:Nat} (h : ∀ x ∈ l,(f x).size≤c * bulkE x):(nth (l.map f) 0).size≤c * bulkEs l:=by
  cases l with
  | nil=>exact Nat.zero_le _
  | cons x xs=>rw [bulkEs,Nat.mul_add];exact Nat.le_trans (h x (List.mem_cons_self ..)) (Nat.le_add_right _ _)
theorem nth_two_le {l:List RE} {f:RE→ByteArray} {c:Nat} (h : ∀ x ∈ l,(f x).size≤c * bulkE x):(nth (l.map f) 0).size+(nth (l.map f) 1).size≤c * bulkEs l:=by
  match l,h with
  | [],_=>exact Nat.zero_le _
  | [x],h=>
    rw [bulkEs,Nat.mul_add];have:=h x (List.mem_cons_self ..)
    exact (show (f x).size+0≤_ by omega)
  | x :: y :: r,h=>
    rw [bulkEs,bulkEs,Nat.mul_add,Nat.mul_add]
    have h1:=h x (List.mem_cons_self ..)
    have h2:=h y (List.mem_cons_of_mem _ (List.mem_cons_self ..))
    exact (show (f x).size+(f y).size≤_ by omega)
theorem cloB_size (op t:ByteArray):(cloB op t).size≤t.size+2:=by
  unfold cloB;split
  · omega
  · rw [ByteArray.size_append,ByteArray.size_append];exact (show 1+t.size+1≤_ by omega)
theorem textE_size : ∀ x:RE,okE x→(textE x).size+2≤24 * bulkE x:=RE.all fun x ih ho=>by
  rw [okE_eq] at ho
  have h1 : ∀ y ∈ x.f3,(textE y).size≤24 * bulkE y:=fun y hy=>by have:=ih y hy (okEs_mem ho.2 hy);omega
  have h2 : ∀ y ∈ x.f3,(cloE y).size≤24 * bulkE y:=fun y hy=>by rw [cloE_eq];have:=ih y hy (okEs_mem ho.2 hy);have:=cloB_size y.f0 (textE y);omega
  have a0:=nth_zero_le h1
  have a1:=nth_zero_le h2
  have a2:=nth_two_le h2
  have hi:=itoaB_size ho.1
  rw [textE_eq,bulkE_eq,textEs_map,cloEs_map]
  unfold textF
  repeat' split
  · omega
  · omega
  · rw [ByteArray.size_append,ByteArray.size_append,ByteArray.size_append];exact (show x.f1.size+1+_+1+2≤_ by omega)
  · omega
  · omega
  · rw [ByteArray.size_append];exact (show 1+_+2≤_ by omega)
  · rw [ByteArray.size_append];exact (show 1+_+2≤_ by omega)
  · rw [ByteArray.size_append,ByteArray.size_append,ByteArray.size_append,ByteArray.size_append];exact (show _+1+x.f0.size+1+_+2≤_ by omega)
theorem cloE_size (x:RE) (ho:okE x):(cloE x).size≤24 * bulkE x:=by rw [cloE_eq];have:=textE_size x ho;have:=cloB_size x.f0 (textE x);omega
theorem index_any (a:ByteArray) : ∀ (xs pre:List ByteArray) (n:Int),n=((pre++xs).length:Int)→(pre++xs).length < 4611686018427387904→
    ∃ i,Ev (fun k=>slices_Index_string_string.l0 k (pre++xs) a n pre.length) i∧decide (i≥0)=xs.any (fun y=>a.toList == y.toList):=by
  intro xs
  induction xs with
  | nil=>
    intro pre n hn _
    subst hn
    exact ⟨-1,Ev.step (fun k=>slices_Index_string_string.l0.eq_2 _ _ _ _ k) (Ev.no (end_not pre) (Ev.now _)),rfl⟩
  | cons x xs ih=>
    intro pre n hn hl
    subst hn
    by_cases h:a.toList=x.toList
    · refine ⟨pre.length,Ev.step (fun k=>slices_Index_string_string.l0.eq_2 _ _ _ _ k) (Ev.yes (mid_lt pre x xs) (Ev.yes (by omega) (Ev.yes (mid_lt pre x xs) ?_))),?_⟩
      · rw [show rdOf ByteArray.empty (pre++x :: xs) (pre.length:Int)=x from getD_mid ..]
        exact Ev.yes h (Ev.now _)
      · rw [List.any_cons,beq_iff_eq.2 h,Bool.true_or];exact decide_eq_true (by omega)
    · obtain ⟨i,hi,e⟩:=ih (pre++[x]) _ rfl (by rw [← snoc];exact hl)
      refine ⟨i,Ev.step (fun k=>slices_Index_string_string.l0.eq_2 _ _ _ _ k) (Ev.yes (mid_lt pre x xs) (Ev.yes (by omega) (Ev.yes (mid_lt pre x xs) ?_))),?_⟩
      · rw [show rdOf ByteArray.empty (pre++x :: xs) (pre.length:Int)=x from getD_mid ..]
        refine Ev.no h ?_
        rw [next_len pre x xs hl]
        rw [← snoc] at hi
        exact hi
      · rw [List.any_cons,show (a.toList == x.toList)=false from beq_eq_false_iff_ne.2 h,Bool.false_or];exact e
theorem contains_any (l:List ByteArray) (a:ByteArray) (hl:l.length < 4611686018427387904):Ev (fun k=>slices_Contains_string_string.f k l a) (l.any (fun y=>a.toList == y.toList)):=by
  obtain ⟨i,hi,e⟩:=index_any a l [] (l.length:Int) rfl hl
  rw [← e]
  exact Ev.bind hi (Ev.now _)
theorem lit_list (l:List UInt8):(⟨l.toArray⟩:ByteArray).toList=l:=by rw [toList_data]
abbrev simpL:List ByteArray:=[(⟨#[110,117,109]⟩:ByteArray),(⟨#[110,97,109,101]⟩:ByteArray),(⟨#[97,116]⟩:ByteArray),(⟨#[116,114,117,101]⟩:ByteArray),(⟨#[102,97,108,115,101]⟩:ByteArray)]
theorem simpL_any (op:ByteArray):simpL.any (fun y=>op.toList == y.toList)=simpB op:=by
  unfold simpB simpL
  simp only [List.any_cons,List.any_nil,Bool.or_false]
  rw [show (⟨#[110,117,109]⟩:ByteArray).toList=opNum from lit_list _,show (⟨#[110,97,109,101]⟩:ByteArray).toList=opName from lit_list _,show (⟨#[97,116]⟩:ByteArray).toList=opAt from lit_list _,show (⟨#[116,114,117,101]⟩:ByteArray).toList=opTrue from lit_list _,show (⟨#[102,97,108,115,101]⟩:ByteArray).toList=opFalse from lit_list _]
theorem contains_ev (op:ByteArray):Ev (fun k=>slices_Contains_string_string.f k simpL op) (simpB op):=by
  rw [← simpL_any];exact contains_any simpL op (by decide)
theorem convEs_nth {l:List RE} {i:Nat} (h:i < l.length):rd_T33 (convEs l) (i:Int)=convE l[i]:=by
  rw [show rd_T33 (convEs l) (i:Int)=(convEs l).getD i z33 from rfl,convEs_map,List.getD_eq_getElem?_getD,List.getElem?_map,List.getElem?_eq_getElem h];rfl
theorem nth_map {l:List RE} {f:RE→ByteArray} {i:Nat} (h:i < l.length):nth (l.map f) i=f l[i]:=by
  unfold nth;rw [List.getD_eq_getElem?_getD,List.getElem?_map,List.getElem?_eq_getElem h];rfl
theorem nth_none {l:List ByteArray} {i:Nat} (h : ¬ i < l.length):nth l i=⟨#[]⟩:=by
  unfold nth;rw [List.getD_eq_getElem?_getD,List.getElem?_eq_none (by omega)];rfl
abbrev TextOk (x:RE):Prop:=Ev (fun k=>tree_Text.f k (convE x).f0 (convE x).f1 (convE x).f2 (convE x).f3 (convE x).f4) (textE x)
theorem part_of (l:List RE) (i:Nat) (h : ∀ y ∈ l,TextOk y):Ev (fun k=>tree_part.f k (convEs l) (i:Int)) (nth (textEs l) i):=by
  refine Ev.step (fun k=>tree_part.f.eq_2 _ _ k) ?_
  rw [convEs_len]
  by_cases hi:i < l.length
  · refine Ev.no (by omega) (Ev.yes (by omega) (Ev.yes (by omega) ?_))
    rw [convEs_nth hi,textEs_map,nth_map hi]
    exact Ev.bind (h _ (List.getElem_mem hi)) (Ev.now _)
  · refine Ev.yes (by omega) ?_
    rw [nth_none (by rw [textEs_map,List.length_map];exact hi)]
    exact Ev.now _
theorem closed_of (l:List RE) (i:Nat) (h : ∀ y ∈ l,TextOk y) (hz : ∀ y ∈ l,(textE y).size < 4611686018427387904):Ev (fun k=>tree_closed.f k (convEs l) (i:Int)) (nth (cloEs l) i):=by
  refine Ev.step (fun k=>tree_closed.f.eq_2 _ _ k) (Ev.bind (part_of l i h) ?_)
  rw [convEs_len]
  by_cases hi:i < l.length
  · refine Ev.no (by omega) (Ev.yes (by omega) (Ev.yes (by omega) ?_))
    rw [convEs_nth hi,textEs_map,nth_map hi,cloEs_map,nth_map hi,cloE_eq,convE_eq]
    refine Ev.bind (contains_ev _) ?_
    have:=hz _ (List.getElem_mem hi)
    unfold cloB
    cases e:simpB l[i].f0 with
    | true=>exact Ev.yes rfl (Ev.now _)
    | false=>exact Ev.no (by simp) (Ev.yes (by omega) (Ev.yes (by rw [ByteArray.size_append];exact (show 1+_+1≤_ by omega)) (Ev.now _)))
  · refine Ev.yes (by omega) ?_
    rw [nth_none (by rw [textEs_map,List.length_map];exact hi),nth_none (by rw [cloEs_map,List.length_map];exact hi)]
    exact Ev.now _
theorem itoa_some (n:Int) (h:okI n):strconv_Itoa_31.f n=some (itoaB n):=by
  unfold strconv_Itoa_31.f strconv_Itoa_53.f strconv_FormatInt.f
  rw [if_pos ⟨rfl,h.1,h.2⟩];rfl
theorem text_ev : ∀ x:RE,okE x→bulkE x < 1099511627776→TextOk x:=RE.all fun x ih ho hb=>by
  rw [okE_eq] at ho
  rw [bulkE_eq] at hb
  have hz : ∀ y ∈ x.f3,(textE y).size < 4611686018427387904:=fun y hy=>by
    have:=textE_size y (okEs_mem ho.2 hy);have:=mem_bulkEs hy;omega
  have hT : ∀ y ∈ x.f3,TextOk y:=fun y hy=>ih y hy (okEs_mem ho.2 hy) (by have:=mem_bulkEs hy;omega)
  have h1 : ∀ y ∈ x.f3,(textE y).size≤24 * bulkE y:=fun y hy=>by have:=textE_size y (okEs_mem ho.2 hy);omega
  have h2 : ∀ y ∈ x.f3,(cloE y).size≤24 * bulkE y:=fun y hy=>cloE_size y (okEs_mem ho.2 hy)
  have a0:=nth_zero_le h1
  have a1:=nth_zero_le h2
  have a2:=nth_two_le h2
  have hp:=part_of x.f3 0 hT
  have hc:=closed_of x.f3 0 hT hz
  have hc1:=closed_of x.f3 1 hT hz
  rw [textEs_map] at hp
  rw [cloEs_map] at hc hc1
  unfold TextOk
  rw [convE_eq,textE_eq,textEs_map,cloEs_map]
  revert a0 a1 a2 hp hc hc1
  generalize x.f3.map textE=ts
  generalize x.f3.map cloE=cs
  intro a0 a1 a2 hp hc hc1
  unfold textF
  refine Ev.step (fun k=>tree_Text.f.eq_2 _ _ _ _ _ k) ?_
  by_cases c1:x.f0.toList=opNum
  · rw [if_pos c1]
    exact Ev.yes c1 (Ev.then (itoa_some _ ho.1) (Ev.now _))
  rw [if_neg c1]
  refine Ev.no c1 ?_
  by_cases c2:x.f0.toList=opName
  · rw [if_pos c2]
    exact Ev.yes c2 (Ev.now _)
  rw [if_neg c2]
  refine Ev.no c2 ?_
  by_cases c3:x.f0.toList=opAt
  · rw [if_pos c3]
    refine Ev.yes c3 (Ev.yes (show x.f1.size+1≤_ by omega) (Ev.bind hp ?_))
    refine Ev.yes (by rw [ByteArray.size_append];exact (show x.f1.size+1+_≤_ by omega)) (Ev.yes (by rw [ByteArray.size_append,ByteArray.size_append];exact (show x.f1.size+1+_+1≤_ by omega)) (Ev.now _))
  rw [if_neg c3]
  refine Ev.no c3 ?_
  by_cases c4:x.f0.toList=opTrue
  · rw [if_pos c4]
    refine Ev.yes c4 (Ev.step (fun k=>tree_Text.j0.eq_2 _ _ _ _ _ _ _ k) (Ev.yes ?_ (Ev.now _)))
    rw [c4];rfl
  rw [if_neg c4]
  refine Ev.no c4 (Ev.step (fun k=>tree_Text.j0.eq_2 _ _ _ _ _ _ _ k) ?_)
  by_cases c5:x.f0.toList=opFalse
  · rw [if_pos c5]
    refine Ev.yes ?_ (Ev.now _)
    rw [c5];rfl
  rw [if_neg c5]
  refine Ev.no (by rw [beq_iff_eq];exact c5) ?_
  by_cases c6:x.f0.toList=opNeg
  · rw [if_pos c6]
    exact Ev.yes c6 (Ev.bind hc (Ev.yes (by omega) (Ev.now _)))
  rw [if_neg c6]
  refine Ev.no c6 ?_
  by_cases c7:x.f0.toList=opNot
  · rw [if_pos c7]
    exact Ev.yes c7 (Ev.bind hc (Ev.yes (by omega) (Ev.now _)))
  rw [if_neg c7]
  refine Ev.no c7 (Ev.bind hc (Ev.yes (by omega) (Ev.yes (by rw [ByteArray.size_append];exact (show _+1+x.f0.size≤_ by omega)) (Ev.yes (by rw [ByteArray.size_append,ByteArray.size_append];exact (show _+1+x.f0.size+1≤_ by omega)) (Ev.bind hc1 ?_)))))
  refine Ev.yes (by rw [ByteArray.size_append,ByteArray.size_append,ByteArray.size_append];exact (show _+1+x.f0.size+1+_≤_ by omega)) (Ev.now _)
theorem part_ev (l:List RE) (i:Nat) (ho:okEs l) (hb:bulkEs l < 1099511627775):Ev (fun k=>tree_part.f k (convEs l) (i:Int)) (nth (textEs l) i):=
  part_of l i (fun y hy=>text_ev y (okEs_mem ho hy) (by have:=mem_bulkEs hy;omega))
end Go.Proofs.YtnnbbeloifhofaaDoor.P
end
section
namespace Go.Proofs.YtnnbbeloifhofaaDoor.P
open Go Go.RowKit Go.Proofs
open Go.Proofs.YtnnbbeloifhofaaDoorW.PrintWords Go.Proofs.YtnnbbeloifhofaaDoorW.PrintLast Go.Proofs.YtnnbbeloifhofaaDoorW.PrintMore
abbrev oSet:List UInt8:=[115,101,116]
abbrev oPut:List UInt8:=[112,117,116]
abbrev oInput:List UInt8:=[105,110,112,117,116]
abbrev oIf:List UInt8:=[105,102]
abbrev oWhile:List UInt8:=[119,104,105,108,101]
abbrev oAssert:List UInt8:=[97,115,115,101,114,116]
abbrev oAssume:List UInt8:=[97,115,115,117,109,101]
abbrev oCall:List UInt8:=[99,97,108,108]
def lit (l:List UInt8):ByteArray:=⟨l.toArray⟩
def stmtF (d:Int) (op name:ByteArray) (e:List RE) (a m:List UInt8) (els:Bool):List UInt8:=
  if op.toList=oSet then lineB d [name,lit [32,61,32],nth (textEs e) 0,lit [59]]
  else if op.toList=oPut then lineB d [name,lit [91],nth (textEs e) 0,lit [93,32,61,32],nth (textEs e) 1,lit [59]]
  else if op.toList=oInput then
    if e.length=0 then lineB d [name,lit [32,61,32,105,110,112,117,116,59]]
    else lineB d [name,lit [32,61,32,105,110,112,117,116,40],nth (textEs e) 0,lit [44,32],nth (textEs e) 1,lit [41,59]]
  else if op.toList=oIf∨op.toList=oWhile then
    lineB d [op,lit [32],nth (textEs e) 0,lit [32,123]]++a++(if op.toList=oIf∧els=true then lineB d [lit [125,32,101,108,115,101,32,123]]++m else [])++lineB d [lit [125]]
  else if op.toList=oAssert∨op.toList=oAssume then lineB d [op,lit [32],nth (textEs e) 0,lit [59]]
  else if op.toList=oCall then lineB d [lit [99,97,108,108,32],name,lit [59]]
  else lineB d [op,lit [59]]
mutual
def stmtB:RS→Int→List UInt8
  | ⟨op,name,e,a,m,_⟩,d=>stmtF d op name e (stmtsB a (d+1)) (stmtsB m (d+1)) (decide (m.length > 0))
def stmtsB:List RS→Int→List UInt8
  | [],_=>[]
  | x :: xs,d=>stmtB x d++stmtsB xs d
end
theorem stmtB_eq (x:RS) (d:Int):stmtB x d=stmtF d x.f0 x.f1 x.f2 (stmtsB x.f3 (d+1)) (stmtsB x.f4 (d+1)) (decide (x.f4.length > 0)):=by cases x;rw [stmtB]
theorem stmtsB_app (l m:List RS) (d:Int):stmtsB (l++m) d=stmtsB l d++stmtsB m d:=by
  induction l with
  | nil=>rfl
  | cons x xs ih=>rw [List.cons_append,stmtsB,stmtsB,ih,List.append_assoc]
mutual
def okS:RS→Prop
  | ⟨_,_,e,a,m,_⟩=>okEs e∧okSs a∧okSs m
def okSs:List RS→Prop
  | []=>True
  | x :: xs=>okS x∧okSs xs
end
theorem okS_eq (x:RS):okS x=(okEs x.f2∧okSs x.f3∧okSs x.f4):=by cases x;rfl
theorem okSs_mem {x:RS} : ∀ {l:List RS},okSs l→x ∈ l→okS x
  | [],_,h=>by cases h
  | y :: ys,h,hx=>by
    rcases List.mem_cons.1 hx with e|hx
    · exact e ▸ h.1
    · exact okSs_mem h.2 hx
def StmtOk (s:RS):Prop:=∀ (b:Nat) (t:List UInt8) (d:Int) (A2 A3 A4:Option Addr) (c2 c3 c4:Nat) (w0 w:World),IsPr w0.heap.size b (Lib.byteCells t) d w→Below w0.heap.size w0 w→TabT w0→
  Kd.C k33 w0 A2 (convEs s.f2).length (convEs s.f2)→(convEs s.f2).length≤c2→Kd.C k76 w0 A3 (convSs s.f3).length (convSs s.f3)→(convSs s.f3).length≤c3→Kd.C k76 w0 A4 (convSs s.f4).length (convSs s.f4)→(convSs s.f4).length≤c4→
  okS s→0≤d→d+bulkS s≤1099511627770→t.length+(stmtB s d).length≤140737488355328→
  Calls Tryd.prog 61 #[.pointer (some ⟨b,0,none⟩),.agg #[.string s.f0,.string s.f1,.slice A2 (convEs s.f2).length c2,.slice A3 (convSs s.f3).length c3,.slice A4 (convSs s.f4).length c4,.int .i64 s.f5]] w fun e w'=>
    e=.returned (.tuple #[])∧IsPr w0.heap.size b (Lib.byteCells (t++stmtB s d)) d w'∧Below w0.heap.size w w'∧Beside b w w'
end Go.Proofs.YtnnbbeloifhofaaDoor.P
end
section
namespace Go.Proofs.YtnnbbeloifhofaaDoor.P
open Go Go.RowKit Go.Proofs
open Go.Proofs.YtnnbbeloifhofaaDoorW.PrintWords Go.Proofs.YtnnbbeloifhofaaDoorW.PrintLast Go.Proofs.YtnnbbeloifhofaaDoorW.PrintMore
set_option linter.unusedVariables false
theorem convSs_nth {l:List RS} {i:Nat} (h:i < l.length):rd_T76 (convSs l) (i:Int)=convS l[i]:=by
  rw [show rd_T76 (convSs l) (i:Int)=(convSs l).getD i z76 from rfl,convSs_map,List.getD_eq_getElem?_getD,List.getElem?_map,List.getElem?_eq_getElem h];rfl
set_option maxHeartbeats 2000000 in
set_option maxRecDepth 100000 in
theorem block_pr (l:List RS) (hS : ∀ s ∈ l,StmtOk s) (b:Nat) (t:List UInt8) (d:Int) (A:Option Addr) (c:Nat) (w0 w:World) (hP:IsPr w0.heap.size b (Lib.byteCells t) d w) (hB:Below w0.heap.size w0 w) (hT:TabT w0)
    (hC:Kd.C k76 w0 A (convSs l).length (convSs l)) (hc:(convSs l).length≤c) (ho:okSs l) (hd0:0≤d) (hd:d+1+bulkSs l≤1099511627770) (hlen:t.length+(stmtsB l (d+1)).length≤140737488355328) :
    Calls Tryd.prog 40 #[.pointer (some ⟨b,0,none⟩),.slice A (convSs l).length c] w fun e w'=>
      e=.returned (.tuple #[])∧IsPr w0.heap.size b (Lib.byteCells (t++stmtsB l (d+1))) d w'∧Below w0.heap.size w w'∧Beside b w w':=by
  have hdeep:=hP.deep
  have hfz:w.frozen? ⟨b,2,none⟩=false:=by
    rcases hP with ⟨_,v,hb,_⟩ | ⟨_,v,hb,_⟩ <;> exact Lib.frozen_of_heap hb 2
  have hw1:wrap64 (d+1)=d+1:=wrap64_small (by omega) (by omega)
  have hP1:IsPr w0.heap.size b (Lib.byteCells t) (d+1) (w.setCell ⟨b,2,none⟩ (.int .i64 (d+1))):=hP.imp (fun h=>h.setDeep _) (fun h=>h.setDeep _)
  have hBb:w0.heap.size≤b:=by rcases hP with h|h <;> exact h.1
  have hB1:Below w0.heap.size w (w.setCell ⟨b,2,none⟩ (.int .i64 (d+1))):=(Below.refl _ w).setCell (p:=⟨b,2,none⟩) hBb _
  have hs1:Beside b w (w.setCell ⟨b,2,none⟩ (.int .i64 (d+1))):=Beside.set b 2 _ w
  have hN:=len_bulkSs l
  go_enter Tryd.func40,Tryd.ntmps40
  go_wp2
  (try simp only [Act.put,List.setIfInBounds_toArray,List.set_cons_succ,List.set_cons_zero])
  generalize hw1e:w.setCell ⟨b,2,none⟩ (.int .i64 (d+1))=w1 at hP1 hB1 hs1 ⊢
  have HP1:=Aside0.mk hP1
  have HB1:=Aside0.mk hB1
  have HS1:=Aside0.mk hs1
  have HN:=Aside0.mk hN
  have HL:=Aside0.mk hlen
  have HC:=Aside0.mk hC
  have HD:=Aside0.mk hd
  have HBB:=Aside0.mk hB
  clear hP1 hB1 hs1 hN hlen hdeep hfz hw1 hw1e hP hC hd hB
  go_loopg [15] (l.length+1) (fun kq v15 w'=>∃ i:Nat,v15=.int .i64 (i:Int)∧Aside0 (i+kq=l.length+1∧i≤l.length)∧Aside0 (IsPr w0.heap.size b (Lib.byteCells (t++stmtsB (l.take i) (d+1))) (d+1) w')∧Aside0 (Below w0.heap.size w w')∧Aside0 (Beside b w w'))
  case atStart=>exact ⟨0,rfl,⟨by omega,by omega⟩,⟨by rw [List.take_zero,stmtsB,List.append_nil];exact HP1.out⟩,HB1,HS1⟩
  case round=>
    obtain ⟨i,rfl,HI,HP,HB,HS⟩:=hrel
    by_cases hi:i < l.length
    · have c0:decide ((i:Int) < ((convSs l).length:Int))=true:=decide_eq_true (by rw [convSs_len];omega)
      cases gk with
      | zero=>exact absurd HI.out (by omega)
      | succ k1=>
      obtain ⟨ad,A2,c2,A3,c3,A4,c4,rfl,x0,x1,x2,x3,x4,x5,l2,g2,l3,g3,l4,g4⟩:=at_T76 HC.out (i:Int) (by omega) (by rw [convSs_len];omega)
      have hm:l[i] ∈ l:=List.getElem_mem hi
      have hbu:=mem_bulkSs hm
      rw [convSs_nth hi] at x0 x1 x2 x3 x4 x5 l2 g2 l3 g3 l4 g4
      have hSi:=hS _ hm
      have hoi:=okSs_mem ho hm
      have hnx:stmtsB (l.take (i+1)) (d+1)=stmtsB (l.take i) (d+1)++stmtB l[i] (d+1):=by
        rw [List.take_succ_eq_append_getElem hi,stmtsB_app,stmtsB,stmtsB,List.append_nil]
      have hle:(stmtsB (l.take (i+1)) (d+1)).length≤(stmtsB l (d+1)).length:=by
        conv=>rhs;rw [← List.take_append_drop (i+1) l,stmtsB_app,List.length_append]
        omega
      rw [hnx,List.length_append] at hle
      generalize hse:l[i]=s at x0 x1 x2 x3 x4 x5 l2 g2 l3 g3 l4 g4 hSi hoi hnx hle hbu hm
      clear hse hS
      rw [convS_eq] at x0 x1 x2 x3 x4 x5 l2 g2 l3 g3 l4 g4
      dsimp only at x0 x1 x2 x3 x4 x5 l2 g2 l3 g3 l4 g4
      simp only [Int.toNat_natCast] at x0 x1 x2 x3 x4 x5
      have hW:=HBB.out.trans HB.out
      replace x0:=(hW.cell (World.block_lt_of_cell? w0 _ x0)).trans x0
      replace x1:=(hW.cell (World.block_lt_of_cell? w0 _ x1)).trans x1
      replace x2:=(hW.cell (World.block_lt_of_cell? w0 _ x2)).trans x2
      replace x3:=(hW.cell (World.block_lt_of_cell? w0 _ x3)).trans x3
      replace x4:=(hW.cell (World.block_lt_of_cell? w0 _ x4)).trans x4
      replace x5:=(hW.cell (World.block_lt_of_cell? w0 _ x5)).trans x5
      have G2:=Aside0.mk g2
      have L2:=Aside0.mk l2
      have G3:=Aside0.mk g3
      have L3:=Aside0.mk l3
      have G4:=Aside0.mk g4
      have L4:=Aside0.mk l4
      have HSI:=Aside0.mk hSi
      have HLE:=Aside0.mk hle
      have HNX:=Aside0.mk hnx
      have HWW:=Aside0.mk hW
      have HBU:=Aside0.mk hbu
      clear g2 l2 g3 l3 g4 l4 hSi hle hnx hW hbu
      have p0:(0≤(i:Int))=True:=eq_true (by omega)
      have q0:((i:Int) < ((convSs l).length:Int))=True:=eq_true (by rw [convSs_len];omega)
      go_wp2_with (first|((with_reducible refine gate_dst (N:=5) rfl ?_);refine box_event ?hg (N:=5) ?hd (cs:=#[.string (⟨#[]⟩:ByteArray),.string (⟨#[]⟩:ByteArray),.slice none 0 0,.slice none 0 0,.slice none 0 0,.int .i64 0]) (t:=76) ?hr ?_;(case hd=>rfl);(case hg=>rfl);(case hr=>first|(go_simp;done)|(go_simp;rfl));intro gb hg w8 hbox hb;have BK:=Aside0.mk hbox;have GW:=Aside0.mk hg;have HB8:=Aside0.mk hb;clear hb hbox hg;have z0:w8.cell? ⟨gb,0,none⟩=some (.string (⟨#[]⟩:ByteArray)):=(blk_cell BK.out 0).trans rfl;have z1:w8.cell? ⟨gb,1,none⟩=some (.string (⟨#[]⟩:ByteArray)):=(blk_cell BK.out 1).trans rfl;have z2:w8.cell? ⟨gb,2,none⟩=some (.slice none 0 0):=(blk_cell BK.out 2).trans rfl;have z3:w8.cell? ⟨gb,3,none⟩=some (.slice none 0 0):=(blk_cell BK.out 3).trans rfl;have z4:w8.cell? ⟨gb,4,none⟩=some (.slice none 0 0):=(blk_cell BK.out 4).trans rfl;have z5:w8.cell? ⟨gb,5,none⟩=some (.int .i64 0):=(blk_cell BK.out 5).trans rfl;have y0:=blk_frozen BK.out 0;have y1:=blk_frozen BK.out 1;have y2:=blk_frozen BK.out 2;have y3:=blk_frozen BK.out 3;have y4:=blk_frozen BK.out 4;have y5:=blk_frozen BK.out 5))
      have hge:wr.heap.size≤gb:=Nat.le_of_eq GW.out.symm
      have e9:Below wr.heap.size wr ((((((w8.setCell ⟨gb,0,none⟩ (.string s.f0)).setCell ⟨gb,1,none⟩ (.string s.f1)).setCell ⟨gb,2,none⟩ (.slice A2 (convEs s.f2).length c2)).setCell ⟨gb,3,none⟩ (.slice A3 (convSs s.f3).length c3)).setCell ⟨gb,4,none⟩ (.slice A4 (convSs s.f4).length c4)).setCell ⟨gb,5,none⟩ (.int .i64 s.f5)):=
        (((((HB8.out.setCell (p:=⟨gb,0,none⟩) hge _).setCell (p:=⟨gb,1,none⟩) hge _).setCell (p:=⟨gb,2,none⟩) hge _).setCell (p:=⟨gb,3,none⟩) hge _).setCell (p:=⟨gb,4,none⟩) hge _).setCell (p:=⟨gb,5,none⟩) hge _
      generalize ((((((w8.setCell ⟨gb,0,none⟩ (.string s.f0)).setCell ⟨gb,1,none⟩ (.string s.f1)).setCell ⟨gb,2,none⟩ (.slice A2 (convEs s.f2).length c2)).setCell ⟨gb,3,none⟩ (.slice A3 (convSs s.f3).length c3)).setCell ⟨gb,4,none⟩ (.slice A4 (convSs s.f4).length c4)).setCell ⟨gb,5,none⟩ (.int .i64 s.f5))=w9 at e9 ⊢
      clear z0 z1 z2 z3 z4 z5 y0 y1 y2 y3 y4 y5
      have s0:=HWW.out.size
      have hlen9:(t++stmtsB (l.take i) (d+1)).length+(stmtB s (d+1)).length≤140737488355328:=by have:=HLE.out;have:=HL.out;rw [List.length_append];omega
      have hbs:d+1+bulkS s≤1099511627770:=by have:=HBU.out;have:=HD.out;omega
      have hwi:wrap64 ((i:Int)+1)=((i+1:Nat):Int):=by rw [wrap64_small (by have:=HN.out;have:=HD.out;omega) (by have:=HN.out;have:=HD.out;omega)];rfl
      have HWI:=Aside0.mk hwi
      clear hwi
      refine (HSI.out b _ (d+1) A2 A3 A4 c2 c3 c4 w0 w9 (HP.out.kept e9) (HWW.out.trans (e9.mono (by omega))) hT G2.out L2.out G3.out L3.out G4.out L4.out hoi (by omega) hbs hlen9).mono ?_
      rintro e w10 ⟨rfl,hP',hB',hs'⟩
      have HP10:Aside0 (IsPr w0.heap.size b (Lib.byteCells (t++stmtsB (l.take (i+1)) (d+1))) (d+1) w10):=⟨by rw [HNX.out,← List.append_assoc];exact hP'⟩
      have HB10:Aside0 (Below w0.heap.size w w10):=⟨HB.out.trans ((e9.mono (by omega)).trans hB')⟩
      have HS10:Aside0 (Beside b w w10):=⟨HS.out.trans ((Beside.of e9).trans hs')⟩
      clear hP' hB' hs' e9 HP HB HS
      go_wp2
      go_roundg k1
      case measure=>omega
      case rel=>exact ⟨i+1,congrArg (Value.int IntKind.i64) HWI.out,⟨by have:=HI.out;omega,by omega⟩,HP10,HB10,HS10⟩
    · have c0:decide ((i:Int) < ((convSs l).length:Int))=false:=decide_eq_false (by rw [convSs_len];omega)
      have hi':i=l.length:=by have:=HI.out;omega
      subst hi'
      rw [List.take_length] at HP
      have c1:decide (l.length < (convSs l).length)=false:=decide_eq_false (by rw [convSs_len];omega)
      have c2:(l.length < (convSs l).length)=False:=eq_false (by rw [convSs_len];omega)
      have hdeep:=HP.out.deep
      have hfz:wr.frozen? ⟨b,2,none⟩=false:=by
        rcases HP.out with ⟨_,v,hb,_⟩ | ⟨_,v,hb,_⟩ <;> exact Lib.frozen_of_heap hb 2
      have hw2:wrap64 d=d:=wrap64_small (by omega) (by have:=HD.out;omega)
      have hP2:IsPr w0.heap.size b (Lib.byteCells (t++stmtsB l (d+1))) d (wr.setCell ⟨b,2,none⟩ (.int .i64 d)):=HP.out.imp (fun h=>h.setDeep _) (fun h=>h.setDeep _)
      go_wp2
      go_end0
      exact ⟨rfl,hP2,HB.out.setCell (p:=⟨b,2,none⟩) hBb _,HS.out.trans (Beside.set b 2 _ wr)⟩
end Go.Proofs.YtnnbbeloifhofaaDoor.P
end
section
namespace Go.Proofs.YtnnbbeloifhofaaDoor.P
open Go Go.RowKit Go.Proofs
open Go.Proofs.YtnnbbeloifhofaaDoorW.PrintWords Go.Proofs.YtnnbbeloifhofaaDoorW.PrintLast Go.Proofs.YtnnbbeloifhofaaDoorW.PrintMore
set_option linter.unusedVariables false
theorem part_k (l:List RE) (i:Nat) (ho:okEs l) (hb:bulkEs l < 1099511627775) : ∃ k,tree_part.f k (convEs l) (i:Int)=some (nth (textEs l) i):=(part_ev l i ho hb).rounds
theorem opIs {op:ByteArray} {l:List UInt8} (h:op.toList=l):(op.toList == l)=true:=beq_iff_eq.mpr h
theorem opNo {op:ByteArray} {l:List UInt8} (h : ¬ op.toList=l):(op.toList == l)=false:=beq_eq_false_iff_ne.mpr h
end Go.Proofs.YtnnbbeloifhofaaDoor.P
end
