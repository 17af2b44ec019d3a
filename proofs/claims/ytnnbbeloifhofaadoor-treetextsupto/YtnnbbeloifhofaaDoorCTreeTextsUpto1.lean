/- Texts of this claim, joined. -/
import Derived.Test.YtnnbbeloifhofaaDoorCTreeTextsUpto0
section
namespace Go.Proofs.YtnnbbeloifhofaaDoor.P
open Go.RowKit Go.Proofs.YtnnbbeloifhofaaDoorW.PrintWords Go.Proofs.YtnnbbeloifhofaaDoorW.PrintLast Go.Proofs.YtnnbbeloifhofaaDoorW.PrintMore
attribute [local go_sem] max2_int min2_int max_two min_two max_three min_three max_four min_four
set_option linter.unusedVariables false
set_option linter.unusedSimpArgs false
def tree_Enum_at_tree_Same_1.l0:Nat→List (S79)→List (S79)→Int→Int→Option (Bool)
 | 0,_,_,_,_=>none
 | k+1,x1,x15,x16,x17=>if x17 < x16 then (if 0≤x17 then (if x17 < (x15.length:Int) then (if x17 < (x1.length:Int) then ((tree_Same_1.f k ((rd_T79 x15 x17).f0) ((rd_T79 x15 x17).f1) ((rd_T79 x1 x17).f0) ((rd_T79 x1 x17).f1)).bind fun t355=>(if t355=true then (tree_Enum_at_tree_Same_1.l0 k x1 x15 x16 (wrap64 (x17+1))) else (some false))) else (none)) else (none)) else (none)) else (some true)
def tree_Enum_at_tree_Same_1.f (k:Nat) (l0:List (S79)) (l1:List (S79))  : Option (Bool):=if (l0.length:Int)=(l1.length:Int) then (tree_Enum_at_tree_Same_1.l0 k l1 l0 (l0.length:Int) 0) else (some false)
set_option maxHeartbeats 8000000 in
set_option maxRecDepth 100000 in
theorem tree_Enum_at_tree_Same_1.calls (k:Nat) (A0:Option Addr) (c0:Nat) (l0:List (S79)) (A1:Option Addr) (c1:Nat) (l1:List (S79))  (r:Bool) (w:World) (hr0:Kd.C k79 w A0 l0.length l0) (hc0:l0.length≤c0) (hr1:Kd.C k79 w A1 l1.length l1) (hc1:l1.length≤c1) (h:tree_Enum_at_tree_Same_1.f k l0 l1=some r) :
  Calls Tryd.prog 49 #[.slice A0 l0.length c0,.slice A1 l1.length c1,.func (.func 44) #[] #[]] w fun e w'=>e=.returned (.bool r)∧Below w.heap.size w w':=by
 have hu79:=Tryd.underlying79
 have HR0:=Aside0.mk hr0
 have HC0:=Aside0.mk hc0
 clear hr0 hc0
 have HR1:=Aside0.mk hr1
 have HC1:=Aside0.mk hc1
 clear hr1 hc1
 have HB:=Aside0.mk (Below.refl w.heap.size w)
 have H:(if (l0.length:Int)=(l1.length:Int) then (tree_Enum_at_tree_Same_1.l0 k l1 l0 (l0.length:Int) 0) else (some false))=some r:=h
 clear h
 by_cases c4:(l0.length:Int)=(l1.length:Int)
 ·rw [if_pos c4] at H
  have c4b0:((l0.length:Int) == (l1.length:Int))=true:=beq_iff_eq.mpr c4
  have c4b1:((l0.length:Int) != (l1.length:Int))=false:=bne_eq_false_iff_eq.mpr c4
  have c4b2:(l0.length == l1.length)=true:=by first|simpa using c4|(simp at c4 ⊢;omega)
  clear c4
  have H':=Aside0.mk H
  clear H
  go_enter Tryd.func49,Tryd.ntmps49
  go_wp2
  (try simp only [Act.put,List.setIfInBounds_toArray,List.set_cons_succ,List.set_cons_zero])
  go_loopg [17] k (fun kq v17 w'=>∃ (x17_1:Int),v17=.int .i64 x17_1∧Aside0 (tree_Enum_at_tree_Same_1.l0 kq l1 l0 (l0.length:Int) x17_1=some r)∧Aside0 (kq≤k)∧Aside0 (Below w.heap.size w w'))
  case atStart=>exact ⟨(0),rf_,H',⟨Nat.le_refl _⟩,⟨bl_ HB.out⟩⟩
  case round=>
   clear H'
   (try clear c1);(try clear p2);(try clear c4);(try clear c4b0);(try clear c4b1);(try clear c4b2)
   obtain ⟨x17_1,rfl,HA,HK1,HB⟩:=hrel
   cases gk with
   | zero=>exact absurd HA.out (by simp [tree_Enum_at_tree_Same_1.l0])
   | succ k1=>
    have H:=HA.out
    clear HA
    simp only [tree_Enum_at_tree_Same_1.l0] at H
    by_cases c5:x17_1 < (l0.length:Int)
    ·rw [if_pos c5] at H
     have c5b0:decide (x17_1 < (l0.length:Int))=true:=decide_eq_true c5
     clear c5
     by_cases c6:0≤x17_1
     ·rw [if_pos c6] at H
      have c6b0:decide (0≤x17_1)=true:=decide_eq_true c6
      clear c6
      by_cases c7:x17_1 < (l0.length:Int)
      ·rw [if_pos c7] at H
       have c7b0:decide (x17_1 < (l0.length:Int))=true:=decide_eq_true c7
       clear c7
       by_cases c8:x17_1 < (l1.length:Int)
       ·rw [if_pos c8] at H
        have c8b0:decide (x17_1 < (l1.length:Int))=true:=decide_eq_true c8
        clear c8
        replace H:=Option.bind_eq_some_iff.mp H
        obtain ⟨t355,A90,H⟩:=H
        replace H:(if t355=true then (tree_Enum_at_tree_Same_1.l0 k1 l1 l0 (l0.length:Int) (wrap64 (x17_1+1))) else (some false))=some r:=H
        have A9:=Aside0.mk A90
        clear A90
        by_cases c10:t355=true
        ·subst c10
         have H1:(tree_Enum_at_tree_Same_1.l0 k1 l1 l0 (l0.length:Int) (wrap64 (x17_1+1)))=some r:=by rw [if_pos rfl] at H;exact H
         clear H
         have H:=H1
         clear H1
         have H':=Aside0.mk H
         clear H
         have p351:0≤(x17_1:Int):=of_decide_eq_true as_
         have q351:x17_1 < (l0.length:Int):=of_decide_eq_true as_
         obtain ⟨ad351,A351_1,c351_1,e351,hx351_0,hx351_1,hl351_1,hi351_1⟩:=at_T79 HR0.out x17_1 p351 q351
         cases e351
         replace hx351_0:=(cb_ HB.out hx351_0:_)
         replace hx351_1:=(cb_ HB.out hx351_1:_)
         have HR351_1:=Aside0.mk hi351_1
         have HC351_1:=Aside0.mk hl351_1
         clear hi351_1 hl351_1
         replace p351:=eq_true p351
         replace q351:=eq_true q351
         go_wp2_with (first|((with_reducible refine gate_dst (N:=8) rfl ?_);refine box_event ?hg (N:=8) ?hd (cs:=#[.string (⟨#[]⟩:ByteArray),.slice none 0 0]) (t:=79) ?hr ?_;(case hd=>rfl);(case hg=>rfl);(case hr=>first|(go_simp;done)|(go_simp;rfl));intro gb352 hg w11 hbox hb;have n0_:=Aside0.mk (below_step (bl_ HB.out) hb);have n1_:=Aside0.mk (hbox);have n2_:=Aside0.mk ((gs_ hg (bl_ HB.out):w.heap.size≤gb352));have n3_:=Aside0.mk ((gs_ hg (bl_ HB.out):w.heap.size≤gb352));clear HB;have HB:=n0_;have BK352:=n1_;have GW352:=n2_;have GE352:=n3_;clear n0_ n1_ n2_ n3_;clear hb hbox hg;have hcz12_0:w11.cell? ⟨gb352,0,none⟩=some (.string (⟨#[]⟩:ByteArray)):=zc_ BK352.out 0;have hcz12_1:w11.cell? ⟨gb352,1,none⟩=some (.slice none 0 0):=zc_ BK352.out 1;have hfz12_0:=blk_frozen BK352.out 0;have hfz12_1:=blk_frozen BK352.out 1;have p353:0≤(x17_1:Int):=of_decide_eq_true as_;have q353:x17_1 < (l1.length:Int):=of_decide_eq_true as_;obtain ⟨ad353,A353_1,c353_1,e353,hx353_0,hx353_1,hl353_1,hi353_1⟩:=at_T79 HR1.out x17_1 p353 q353;cases e353;have hn353_0:ad353.block≠gb352:=Nat.ne_of_lt (Nat.lt_of_lt_of_le (by have:=World.block_lt_of_cell? _ _ hx353_0;first|rwa [add_block] at this|exact this) GW352.out);have hn353_1:ad353.block≠gb352:=Nat.ne_of_lt (Nat.lt_of_lt_of_le (by have:=World.block_lt_of_cell? _ _ hx353_0;first|rwa [add_block] at this|exact this) GW352.out);replace hx353_0:=(cb_ HB.out hx353_0:_);replace hx353_1:=(cb_ HB.out hx353_1:_);have HR353_1:=Aside0.mk hi353_1;have HC353_1:=Aside0.mk hl353_1;clear hi353_1 hl353_1;replace hx353_0:=(cell_far (p:=⟨gb352,0,none⟩) (ab_ hn353_0) (.string ((rd_T79 l0 x17_1).f0))).trans hx353_0;replace hx353_1:=(cell_far (p:=⟨gb352,0,none⟩) (ab_ hn353_0) (.string ((rd_T79 l0 x17_1).f0))).trans hx353_1;replace hx353_0:=(cell_far (p:=⟨gb352,1,none⟩) (ab_ hn353_1) (.slice A351_1 ((rd_T79 l0 x17_1).f1).length c351_1)).trans hx353_0;replace hx353_1:=(cell_far (p:=⟨gb352,1,none⟩) (ab_ hn353_1) (.slice A351_1 ((rd_T79 l0 x17_1).f1).length c351_1)).trans hx353_1;clear hn353_0;clear hn353_1;replace p353:=eq_true p353;replace q353:=eq_true q353)|((with_reducible refine gate_dst (N:=9) rfl ?_);refine box_event ?hg (N:=9) ?hd (cs:=#[.string (⟨#[]⟩:ByteArray),.slice none 0 0]) (t:=79) ?hr ?_;(case hd=>rfl);(case hg=>rfl);(case hr=>first|(go_simp;done)|(go_simp;rfl));intro gb354 hg w13 hbox hb;have n0_:=Aside0.mk (blk_below (g:=gb352) (o:=.cells #[.string ((rd_T79 l0 x17_1).f0),.slice A351_1 ((rd_T79 l0 x17_1).f1).length c351_1] 79 (0,0)) (kbc_ BK352.out) hb);have n1_:=Aside0.mk (below_step (bl_ HB.out) hb);have n2_:=Aside0.mk (hbox);have n3_:=Aside0.mk ((gs_ hg (bl_ HB.out):w.heap.size≤gb354));have n4_:=Aside0.mk ((gs_ hg (bl_ HB.out):w.heap.size≤gb354));have n5_:=Aside0.mk ((by rw [hg];exact Nat.ne_of_lt (blk_lt (g:=gb352) (o:=.cells #[.string ((rd_T79 l0 x17_1).f0),.slice A351_1 ((rd_T79 l0 x17_1).f1).length c351_1] 79 (0,0)) (kbc_ BK352.out)):gb352≠gb354));have n6_:=Aside0.mk ((by rw [hg];exact Nat.ne_of_gt (blk_lt (g:=gb352) (o:=.cells #[.string ((rd_T79 l0 x17_1).f0),.slice A351_1 ((rd_T79 l0 x17_1).f1).length c351_1] 79 (0,0)) (kbc_ BK352.out)):gb354≠gb352));clear BK352;clear HB;have BK352:=n0_;have HB:=n1_;have BK354:=n2_;have GW354:=n3_;have GE354:=n4_;have NB352_354:=n5_;have NB354_352:=n6_;clear n0_ n1_ n2_ n3_ n4_ n5_ n6_;clear hb hbox hg;have hnb14:=NB354_352.out;have hnc14:=NB352_354.out;have hcz15_0:w13.cell? ⟨gb354,0,none⟩=some (.string (⟨#[]⟩:ByteArray)):=zc_ BK354.out 0;have hcz15_1:w13.cell? ⟨gb354,1,none⟩=some (.slice none 0 0):=zc_ BK354.out 1;have hfz15_0:=blk_frozen BK354.out 0;have hfz15_1:=blk_frozen BK354.out 1;have hcz16_0:w13.cell? ⟨gb352,0,none⟩=some (.string ((rd_T79 l0 x17_1).f0)):=zc_ BK352.out 0;have hcz16_1:w13.cell? ⟨gb352,1,none⟩=some (.slice A351_1 ((rd_T79 l0 x17_1).f1).length c351_1):=zc_ BK352.out 1;have hfz16_0:=blk_frozen BK352.out 0;have hfz16_1:=blk_frozen BK352.out 1)|((with_reducible refine (tree_Same_1.calls k1 ((rd_T79 l0 x17_1).f0) _ _ ((rd_T79 l0 x17_1).f1) ((rd_T79 l1 x17_1).f0) _ _ ((rd_T79 l1 x17_1).f1) true _ ?side1 ?side2 ?side3 ?side4 A9.out).mono ?_);(case side1=>exact Kd.C_below HR351_1.out (bl_ HB.out));(case side2=>exact HC351_1.out);(case side3=>exact Kd.C_below HR353_1.out (bl_ HB.out));(case side4=>exact HC353_1.out);rintro e w17 ⟨rfl,hb⟩;have n0_:=Aside0.mk (blk_below (g:=gb352) (o:=.cells #[.string ((rd_T79 l0 x17_1).f0),.slice A351_1 ((rd_T79 l0 x17_1).f1).length c351_1] 79 (0,0)) (kbc_ BK352.out) hb);have n1_:=Aside0.mk (blk_below (g:=gb354) (o:=.cells #[.string ((rd_T79 l1 x17_1).f0),.slice A353_1 ((rd_T79 l1 x17_1).f1).length c353_1] 79 (0,0)) (kbc_ BK354.out) hb);have n2_:=Aside0.mk (below_step (bl_ HB.out) hb);clear BK352;clear BK354;clear HB;have BK352:=n0_;have BK354:=n1_;have HB:=n2_;clear n0_ n1_ n2_;(try clear hb);(try clear hb2);(try clear hk);(try clear hi)))
         go_roundg k1
         case measure=>have:=HK1.out;omega
         case rel=>exact ⟨(wrap64 (x17_1+1)),rf_,H',⟨by have:=HK1.out;omega⟩,⟨bl_ HB.out⟩⟩
        ·replace c10:=Bool.eq_false_iff.mpr c10
         subst c10
         have H1:(some false)=some r:=by rw [if_neg (show ¬ (false=true) by decide)] at H;exact H
         clear H
         have H:=H1
         clear H1
         obtain rfl:=Option.some.inj H
         have p351:0≤(x17_1:Int):=of_decide_eq_true as_
         have q351:x17_1 < (l0.length:Int):=of_decide_eq_true as_
         obtain ⟨ad351,A351_1,c351_1,e351,hx351_0,hx351_1,hl351_1,hi351_1⟩:=at_T79 HR0.out x17_1 p351 q351
         cases e351
         replace hx351_0:=(cb_ HB.out hx351_0:_)
         replace hx351_1:=(cb_ HB.out hx351_1:_)
         have HR351_1:=Aside0.mk hi351_1
         have HC351_1:=Aside0.mk hl351_1
         clear hi351_1 hl351_1
         replace p351:=eq_true p351
         replace q351:=eq_true q351
         go_wp2_with (first|((with_reducible refine gate_dst (N:=8) rfl ?_);refine box_event ?hg (N:=8) ?hd (cs:=#[.string (⟨#[]⟩:ByteArray),.slice none 0 0]) (t:=79) ?hr ?_;(case hd=>rfl);(case hg=>rfl);(case hr=>first|(go_simp;done)|(go_simp;rfl));intro gb352 hg w18 hbox hb;have n0_:=Aside0.mk (below_step (bl_ HB.out) hb);have n1_:=Aside0.mk (hbox);have n2_:=Aside0.mk ((gs_ hg (bl_ HB.out):w.heap.size≤gb352));have n3_:=Aside0.mk ((gs_ hg (bl_ HB.out):w.heap.size≤gb352));clear HB;have HB:=n0_;have BK352:=n1_;have GW352:=n2_;have GE352:=n3_;clear n0_ n1_ n2_ n3_;clear hb hbox hg;have hcz19_0:w18.cell? ⟨gb352,0,none⟩=some (.string (⟨#[]⟩:ByteArray)):=zc_ BK352.out 0;have hcz19_1:w18.cell? ⟨gb352,1,none⟩=some (.slice none 0 0):=zc_ BK352.out 1;have hfz19_0:=blk_frozen BK352.out 0;have hfz19_1:=blk_frozen BK352.out 1;have p353:0≤(x17_1:Int):=of_decide_eq_true as_;have q353:x17_1 < (l1.length:Int):=of_decide_eq_true as_;obtain ⟨ad353,A353_1,c353_1,e353,hx353_0,hx353_1,hl353_1,hi353_1⟩:=at_T79 HR1.out x17_1 p353 q353;cases e353;have hn353_0:ad353.block≠gb352:=Nat.ne_of_lt (Nat.lt_of_lt_of_le (by have:=World.block_lt_of_cell? _ _ hx353_0;first|rwa [add_block] at this|exact this) GW352.out);have hn353_1:ad353.block≠gb352:=Nat.ne_of_lt (Nat.lt_of_lt_of_le (by have:=World.block_lt_of_cell? _ _ hx353_0;first|rwa [add_block] at this|exact this) GW352.out);replace hx353_0:=(cb_ HB.out hx353_0:_);replace hx353_1:=(cb_ HB.out hx353_1:_);have HR353_1:=Aside0.mk hi353_1;have HC353_1:=Aside0.mk hl353_1;clear hi353_1 hl353_1;replace hx353_0:=(cell_far (p:=⟨gb352,0,none⟩) (ab_ hn353_0) (.string ((rd_T79 l0 x17_1).f0))).trans hx353_0;replace hx353_1:=(cell_far (p:=⟨gb352,0,none⟩) (ab_ hn353_0) (.string ((rd_T79 l0 x17_1).f0))).trans hx353_1;replace hx353_0:=(cell_far (p:=⟨gb352,1,none⟩) (ab_ hn353_1) (.slice A351_1 ((rd_T79 l0 x17_1).f1).length c351_1)).trans hx353_0;replace hx353_1:=(cell_far (p:=⟨gb352,1,none⟩) (ab_ hn353_1) (.slice A351_1 ((rd_T79 l0 x17_1).f1).length c351_1)).trans hx353_1;clear hn353_0;clear hn353_1;replace p353:=eq_true p353;replace q353:=eq_true q353)|((with_reducible refine gate_dst (N:=9) rfl ?_);refine box_event ?hg (N:=9) ?hd (cs:=#[.string (⟨#[]⟩:ByteArray),.slice none 0 0]) (t:=79) ?hr ?_;(case hd=>rfl);(case hg=>rfl);(case hr=>first|(go_simp;done)|(go_simp;rfl));intro gb354 hg w20 hbox hb;have n0_:=Aside0.mk (blk_below (g:=gb352) (o:=.cells #[.string ((rd_T79 l0 x17_1).f0),.slice A351_1 ((rd_T79 l0 x17_1).f1).length c351_1] 79 (0,0)) (kbc_ BK352.out) hb);have n1_:=Aside0.mk (below_step (bl_ HB.out) hb);have n2_:=Aside0.mk (hbox);have n3_:=Aside0.mk ((gs_ hg (bl_ HB.out):w.heap.size≤gb354));have n4_:=Aside0.mk ((gs_ hg (bl_ HB.out):w.heap.size≤gb354));have n5_:=Aside0.mk ((by rw [hg];exact Nat.ne_of_lt (blk_lt (g:=gb352) (o:=.cells #[.string ((rd_T79 l0 x17_1).f0),.slice A351_1 ((rd_T79 l0 x17_1).f1).length c351_1] 79 (0,0)) (kbc_ BK352.out)):gb352≠gb354));have n6_:=Aside0.mk ((by rw [hg];exact Nat.ne_of_gt (blk_lt (g:=gb352) (o:=.cells #[.string ((rd_T79 l0 x17_1).f0),.slice A351_1 ((rd_T79 l0 x17_1).f1).length c351_1] 79 (0,0)) (kbc_ BK352.out)):gb354≠gb352));clear BK352;clear HB;have BK352:=n0_;have HB:=n1_;have BK354:=n2_;have GW354:=n3_;have GE354:=n4_;have NB352_354:=n5_;have NB354_352:=n6_;clear n0_ n1_ n2_ n3_ n4_ n5_ n6_;clear hb hbox hg;have hnb21:=NB354_352.out;have hnc21:=NB352_354.out;have hcz22_0:w20.cell? ⟨gb354,0,none⟩=some (.string (⟨#[]⟩:ByteArray)):=zc_ BK354.out 0;have hcz22_1:w20.cell? ⟨gb354,1,none⟩=some (.slice none 0 0):=zc_ BK354.out 1;have hfz22_0:=blk_frozen BK354.out 0;have hfz22_1:=blk_frozen BK354.out 1;have hcz23_0:w20.cell? ⟨gb352,0,none⟩=some (.string ((rd_T79 l0 x17_1).f0)):=zc_ BK352.out 0;have hcz23_1:w20.cell? ⟨gb352,1,none⟩=some (.slice A351_1 ((rd_T79 l0 x17_1).f1).length c351_1):=zc_ BK352.out 1;have hfz23_0:=blk_frozen BK352.out 0;have hfz23_1:=blk_frozen BK352.out 1)|((with_reducible refine (tree_Same_1.calls k1 ((rd_T79 l0 x17_1).f0) _ _ ((rd_T79 l0 x17_1).f1) ((rd_T79 l1 x17_1).f0) _ _ ((rd_T79 l1 x17_1).f1) false _ ?side1 ?side2 ?side3 ?side4 A9.out).mono ?_);(case side1=>exact Kd.C_below HR351_1.out (bl_ HB.out));(case side2=>exact HC351_1.out);(case side3=>exact Kd.C_below HR353_1.out (bl_ HB.out));(case side4=>exact HC353_1.out);rintro e w24 ⟨rfl,hb⟩;have n0_:=Aside0.mk (blk_below (g:=gb352) (o:=.cells #[.string ((rd_T79 l0 x17_1).f0),.slice A351_1 ((rd_T79 l0 x17_1).f1).length c351_1] 79 (0,0)) (kbc_ BK352.out) hb);have n1_:=Aside0.mk (blk_below (g:=gb354) (o:=.cells #[.string ((rd_T79 l1 x17_1).f0),.slice A353_1 ((rd_T79 l1 x17_1).f1).length c353_1] 79 (0,0)) (kbc_ BK354.out) hb);have n2_:=Aside0.mk (below_step (bl_ HB.out) hb);clear BK352;clear BK354;clear HB;have BK352:=n0_;have BK354:=n1_;have HB:=n2_;clear n0_ n1_ n2_;(try clear hb);(try clear hb2);(try clear hk);(try clear hi)))
         go_ret
         exact ⟨rt_,bl_ HB.out⟩
       ·rw [if_neg c8] at H
        exact absurd H (by simp)
      ·rw [if_neg c7] at H
       exact absurd H (by simp)
     ·rw [if_neg c6] at H
      exact absurd H (by simp)
    ·rw [if_neg c5] at H
     have c5b0:decide (x17_1 < (l0.length:Int))=false:=decide_eq_false c5
     clear c5
     obtain rfl:=Option.some.inj H
     go_wp2
     go_ret
     exact ⟨rt_,bl_ HB.out⟩
 ·rw [if_neg c4] at H
  have c4b0:((l0.length:Int) == (l1.length:Int))=false:=beq_eq_false_iff_ne.mpr c4
  have c4b1:((l0.length:Int) != (l1.length:Int))=true:=bne_iff_ne.mpr c4
  have c4b2:(l0.length == l1.length)=false:=by first|simpa using c4|(simp at c4 ⊢;omega)
  obtain rfl:=Option.some.inj H
  go_enter Tryd.func49,Tryd.ntmps49
  go_wp2
  go_ret
  exact ⟨rt_,bl_ HB.out⟩
end Go.Proofs.YtnnbbeloifhofaaDoor.P
end
section
namespace Go.Proofs.YtnnbbeloifhofaaDoor.P
open Go.RowKit Go.Proofs.YtnnbbeloifhofaaDoorW.PrintWords Go.Proofs.YtnnbbeloifhofaaDoorW.PrintLast Go.Proofs.YtnnbbeloifhofaaDoorW.PrintMore
attribute [local go_sem] max2_int min2_int max_two min_two max_three min_three max_four min_four
set_option linter.unusedVariables false
set_option linter.unusedSimpArgs false
theorem eqA80 (d:Nat) (w:World) (x0 y0:ByteArray) (x1 y1:ByteArray) (x2 y2:Int) :
    (Op.equalIn (d+2) 80 (.agg #[.string x0,.string x1,.int .i64 x2]) (.agg #[.string y0,.string y1,.int .i64 y2])).run Tryd.prog w=.ok (x0.toList == y0.toList && (x1.toList == y1.toList && (x2 == y2))) w:=by
  refine eqA_of Tryd.underlying80 (by kernel_rfl) ?_
  refine eqf_cons (by rfl) (by go_simp;rfl) (by go_simp;rfl) (by go_simp) ?_
  refine eqf_cons (by rfl) (by go_simp;rfl) (by go_simp;rfl) (by go_simp) ?_
  exact eqf_last (by rfl) (by go_simp;rfl) (by go_simp;rfl) (by go_simp)
end Go.Proofs.YtnnbbeloifhofaaDoor.P
end
section
namespace Go.Proofs.YtnnbbeloifhofaaDoor.P
open Go.RowKit Go.Proofs.YtnnbbeloifhofaaDoorW.PrintWords Go.Proofs.YtnnbbeloifhofaaDoorW.PrintLast Go.Proofs.YtnnbbeloifhofaaDoorW.PrintMore
attribute [local go_sem] max2_int min2_int max_two min_two max_three min_three max_four min_four
set_option linter.unusedVariables false
set_option linter.unusedSimpArgs false
attribute [local go_sem high] eqA80
def tree_Var.l0:Nat→List (S80)→List (S80)→Int→Int→Option (Bool)
 | 0,_,_,_,_=>none
 | k+1,x0,x1,x12,x13=>if x13 < x12 then (if 0≤x13 then (if x13 < (x0.length:Int) then (if x13 < (x1.length:Int) then (if (!((((rd_T80 x0 x13).f0).toList) == (((rd_T80 x1 x13).f0).toList)) || (!((((rd_T80 x0 x13).f1).toList) == (((rd_T80 x1 x13).f1).toList)) || (!(((rd_T80 x0 x13).f2) == ((rd_T80 x1 x13).f2)))))=true then (some false) else (tree_Var.l0 k x0 x1 x12 (wrap64 (x13+1)))) else (none)) else (none)) else (none)) else (some true)
def tree_Var.f (k:Nat) (l0:List (S80)) (l1:List (S80)):Option (Bool):=if (l0.length:Int)=(l1.length:Int) then (tree_Var.l0 k l0 l1 (l0.length:Int) 0) else (some false)
set_option maxHeartbeats 8000000 in
set_option maxRecDepth 100000 in
theorem tree_Var.calls (k:Nat) (A0:Option Addr) (c0:Nat) (l0:List (S80)) (A1:Option Addr) (c1:Nat) (l1:List (S80)) (r:Bool) (w:World) (hr0:Kd.C k80 w A0 l0.length l0) (hc0:l0.length≤c0) (hr1:Kd.C k80 w A1 l1.length l1) (hc1:l1.length≤c1) (h:tree_Var.f k l0 l1=some r) :
  Calls Tryd.prog 50 #[.slice A0 l0.length c0,.slice A1 l1.length c1] w fun e w'=>e=.returned (.bool r)∧Drawn0 w w':=by
 have hu80:=Tryd.underlying80
 have HR0:=Aside0.mk hr0
 have HC0:=Aside0.mk hc0
 clear hr0 hc0
 have HR1:=Aside0.mk hr1
 have HC1:=Aside0.mk hc1
 clear hr1 hc1
 have H:(if (l0.length:Int)=(l1.length:Int) then (tree_Var.l0 k l0 l1 (l0.length:Int) 0) else (some false))=some r:=h
 clear h
 by_cases c3:(l0.length:Int)=(l1.length:Int)
 ·rw [if_pos c3] at H
  have c3b0:((l0.length:Int) == (l1.length:Int))=true:=beq_iff_eq.mpr c3
  have c3b1:((l0.length:Int) != (l1.length:Int))=false:=bne_eq_false_iff_eq.mpr c3
  have c3b2:(l0.length == l1.length)=true:=by first|simpa using c3|(simp at c3 ⊢;omega)
  clear c3
  have H':=Aside0.mk H
  clear H
  go_enter Tryd.func50,Tryd.ntmps50
  go_wp2
  repeat (go_quiet (fail);try go_wp2)
  (try simp only [Act.put,List.setIfInBounds_toArray,List.set_cons_succ,List.set_cons_zero])
  go_loopg [13] k (fun kq v13 w'=>∃ (x13_1:Int),v13=.int .i64 x13_1∧Aside0 (tree_Var.l0 kq l0 l1 (l0.length:Int) x13_1=some r)∧Aside0 (kq≤k)∧Drawn0 w w')
  case atStart=>exact ⟨(0),rf_,H',⟨Nat.le_refl _⟩,by repeat (first|exact Drawn0.refl _|apply Drawn0.step)⟩
  case round=>
   clear H'
   (try clear c1);(try clear p2);(try clear c3);(try clear c3b0);(try clear c3b1);(try clear c3b2)
   obtain ⟨x13_1,rfl,HA,HK1,⟨m1,rfl⟩⟩:=hrel
   cases gk with
   | zero=>exact absurd HA.out (by simp [tree_Var.l0])
   | succ k1=>
    have H:=HA.out
    clear HA
    simp only [tree_Var.l0] at H
    by_cases c4:x13_1 < (l0.length:Int)
    ·rw [if_pos c4] at H
     have c4b0:decide (x13_1 < (l0.length:Int))=true:=decide_eq_true c4
     clear c4
     by_cases c5:0≤x13_1
     ·rw [if_pos c5] at H
      have c5b0:decide (0≤x13_1)=true:=decide_eq_true c5
      clear c5
      by_cases c6:x13_1 < (l0.length:Int)
      ·rw [if_pos c6] at H
       have c6b0:decide (x13_1 < (l0.length:Int))=true:=decide_eq_true c6
       clear c6
       by_cases c7:x13_1 < (l1.length:Int)
       ·rw [if_pos c7] at H
        have c7b0:decide (x13_1 < (l1.length:Int))=true:=decide_eq_true c7
        clear c7
        by_cases c8:(!((((rd_T80 l0 x13_1).f0).toList) == (((rd_T80 l1 x13_1).f0).toList)) || (!((((rd_T80 l0 x13_1).f1).toList) == (((rd_T80 l1 x13_1).f1).toList)) || (!(((rd_T80 l0 x13_1).f2) == ((rd_T80 l1 x13_1).f2)))))=true
        ·rw [if_pos c8] at H
         have c8b0:(!((((rd_T80 l0 x13_1).f0).toList) == (((rd_T80 l1 x13_1).f0).toList)) || (!((((rd_T80 l0 x13_1).f1).toList) == (((rd_T80 l1 x13_1).f1).toList)) || (!(((rd_T80 l0 x13_1).f2) == ((rd_T80 l1 x13_1).f2)))))=true:=c8
         clear c8
         obtain rfl:=Option.some.inj H
         have p356:0≤(x13_1:Int):=of_decide_eq_true as_
         have q356:x13_1 < (l0.length:Int):=of_decide_eq_true as_
         obtain ⟨ad356,e356,hx356_0,hx356_1,hx356_2⟩:=at_T80 HR0.out x13_1 p356 q356
         cases e356
         replace p356:=eq_true p356
         replace q356:=eq_true q356
         have p357:0≤(x13_1:Int):=of_decide_eq_true as_
         have q357:x13_1 < (l1.length:Int):=of_decide_eq_true as_
         obtain ⟨ad357,e357,hx357_0,hx357_1,hx357_2⟩:=at_T80 HR1.out x13_1 p357 q357
         cases e357
         replace p357:=eq_true p357
         replace q357:=eq_true q357
         go_wp2
         repeat (go_quiet (fail);try go_wp2)
         go_ret
         exact ⟨by first|rfl|(simp;done)|(simp [*];done),by repeat (first|exact Drawn0.refl _|apply Drawn0.step)⟩
        ·rw [if_neg c8] at H
         have c8b0:(!((((rd_T80 l0 x13_1).f0).toList) == (((rd_T80 l1 x13_1).f0).toList)) || (!((((rd_T80 l0 x13_1).f1).toList) == (((rd_T80 l1 x13_1).f1).toList)) || (!(((rd_T80 l0 x13_1).f2) == ((rd_T80 l1 x13_1).f2)))))=false:=by simpa using c8
         clear c8
         have H':=Aside0.mk H
         clear H
         have p356:0≤(x13_1:Int):=of_decide_eq_true as_
         have q356:x13_1 < (l0.length:Int):=of_decide_eq_true as_
         obtain ⟨ad356,e356,hx356_0,hx356_1,hx356_2⟩:=at_T80 HR0.out x13_1 p356 q356
         cases e356
         replace p356:=eq_true p356
         replace q356:=eq_true q356
         have p357:0≤(x13_1:Int):=of_decide_eq_true as_
         have q357:x13_1 < (l1.length:Int):=of_decide_eq_true as_
         obtain ⟨ad357,e357,hx357_0,hx357_1,hx357_2⟩:=at_T80 HR1.out x13_1 p357 q357
         cases e357
         replace p357:=eq_true p357
         replace q357:=eq_true q357
         go_wp2
         repeat (go_quiet (fail);try go_wp2)
         go_roundg k1
         case measure=>have:=HK1.out;omega
         case rel=>exact ⟨(wrap64 (x13_1+1)),rf_,H',⟨by have:=HK1.out;omega⟩,by repeat (first|exact Drawn0.refl _|apply Drawn0.step)⟩
       ·rw [if_neg c7] at H
        exact absurd H (by simp)
      ·rw [if_neg c6] at H
       exact absurd H (by simp)
     ·rw [if_neg c5] at H
      exact absurd H (by simp)
    ·rw [if_neg c4] at H
     have c4b0:decide (x13_1 < (l0.length:Int))=false:=decide_eq_false c4
     clear c4
     obtain rfl:=Option.some.inj H
     go_wp2
     repeat (go_quiet (fail);try go_wp2)
     go_ret
     exact ⟨by first|rfl|(simp;done)|(simp [*];done),by repeat (first|exact Drawn0.refl _|apply Drawn0.step)⟩
 ·rw [if_neg c3] at H
  have c3b0:((l0.length:Int) == (l1.length:Int))=false:=beq_eq_false_iff_ne.mpr c3
  have c3b1:((l0.length:Int) != (l1.length:Int))=true:=bne_iff_ne.mpr c3
  have c3b2:(l0.length == l1.length)=false:=by first|simpa using c3|(simp at c3 ⊢;omega)
  obtain rfl:=Option.some.inj H
  go_enter Tryd.func50,Tryd.ntmps50
  go_wp2
  repeat (go_quiet (fail);try go_wp2)
  go_ret
  exact ⟨by first|rfl|(simp;done)|(simp [*];done),by repeat (first|exact Drawn0.refl _|apply Drawn0.step)⟩
end Go.Proofs.YtnnbbeloifhofaaDoor.P
end
section
namespace Go.Proofs.YtnnbbeloifhofaaDoor.P
open Go.RowKit Go.Proofs.YtnnbbeloifhofaaDoorW.PrintWords Go.Proofs.YtnnbbeloifhofaaDoorW.PrintLast Go.Proofs.YtnnbbeloifhofaaDoorW.PrintMore
attribute [local go_sem] max2_int min2_int max_two min_two max_three min_three max_four min_four
set_option linter.unusedVariables false
set_option linter.unusedSimpArgs false
mutual
def tree_SameExpr.f:Nat→ByteArray→ByteArray→Int→List (S33)→Int→ByteArray→ByteArray→Int→List (S33)→Int→Option (Bool)
 | 0,_,_,_,_,_,_,_,_,_,_=>none
 | k+1,a0_0,a0_1,a0_2,l0_3,a0_4,a1_0,a1_1,a1_2,l1_3,a1_4=>if a0_0.toList=a1_0.toList then (if a0_1.toList=a1_1.toList then (if a0_2=a1_2 then ((tree_Expr_at_tree_SameExpr.f k l0_3 l1_3).bind fun t340=>(some t340)) else (some false)) else (some false)) else (some false)
def tree_Expr_at_tree_SameExpr.l0:Nat→List (S33)→List (S33)→Int→Int→Option (Bool)
 | 0,_,_,_,_=>none
 | k+1,x1,x15,x16,x17=>if x17 < x16 then (if 0≤x17 then (if x17 < (x15.length:Int) then (if x17 < (x1.length:Int) then ((tree_SameExpr.f k ((rd_T33 x15 x17).f0) ((rd_T33 x15 x17).f1) ((rd_T33 x15 x17).f2) ((rd_T33 x15 x17).f3) ((rd_T33 x15 x17).f4) ((rd_T33 x1 x17).f0) ((rd_T33 x1 x17).f1) ((rd_T33 x1 x17).f2) ((rd_T33 x1 x17).f3) ((rd_T33 x1 x17).f4)).bind fun t345=>(if t345=true then (tree_Expr_at_tree_SameExpr.l0 k x1 x15 x16 (wrap64 (x17+1))) else (some false))) else (none)) else (none)) else (none)) else (some true)
def tree_Expr_at_tree_SameExpr.f:Nat→List (S33)→List (S33)→Option (Bool)
 | 0,_,_=>none
 | k+1,l0,l1=>if (l0.length:Int)=(l1.length:Int) then (tree_Expr_at_tree_SameExpr.l0 k l1 l0 (l0.length:Int) 0) else (some false)
end
abbrev tree_SameExpr.Stmt (k:Nat):Prop:=∀ (a0_0:ByteArray) (a0_1:ByteArray) (a0_2:Int) (A0_3:Option Addr) (c0_3:Nat) (l0_3:List (S33)) (a0_4:Int) (a1_0:ByteArray) (a1_1:ByteArray) (a1_2:Int) (A1_3:Option Addr) (c1_3:Nat) (l1_3:List (S33)) (a1_4:Int) (r:Bool) (w:World) (hr0_3:Kd.C k33 w A0_3 l0_3.length l0_3) (hc0_3:l0_3.length≤c0_3) (hr1_3:Kd.C k33 w A1_3 l1_3.length l1_3) (hc1_3:l1_3.length≤c1_3) (h:tree_SameExpr.f k a0_0 a0_1 a0_2 l0_3 a0_4 a1_0 a1_1 a1_2 l1_3 a1_4=some r),
  Calls Tryd.prog 26 #[.agg #[.string a0_0,.string a0_1,.int .i64 a0_2,.slice A0_3 l0_3.length c0_3,.int .i64 a0_4],.agg #[.string a1_0,.string a1_1,.int .i64 a1_2,.slice A1_3 l1_3.length c1_3,.int .i64 a1_4]] w fun e w'=>e=.returned (.bool r)∧Below w.heap.size w w'
abbrev tree_Expr_at_tree_SameExpr.Stmt (k:Nat):Prop:=∀ (A0:Option Addr) (c0:Nat) (l0:List (S33)) (A1:Option Addr) (c1:Nat) (l1:List (S33))  (r:Bool) (w:World) (hr0:Kd.C k33 w A0 l0.length l0) (hc0:l0.length≤c0) (hr1:Kd.C k33 w A1 l1.length l1) (hc1:l1.length≤c1) (h:tree_Expr_at_tree_SameExpr.f k l0 l1=some r),
  Calls Tryd.prog 43 #[.slice A0 l0.length c0,.slice A1 l1.length c1,.func (.func 26) #[] #[]] w fun e w'=>e=.returned (.bool r)∧Below w.heap.size w w'
end Go.Proofs.YtnnbbeloifhofaaDoor.P
end
section
namespace Go.Proofs.YtnnbbeloifhofaaDoor.P
open Go.RowKit Go.Proofs.YtnnbbeloifhofaaDoorW.PrintWords Go.Proofs.YtnnbbeloifhofaaDoorW.PrintLast Go.Proofs.YtnnbbeloifhofaaDoorW.PrintMore
attribute [local go_sem] max2_int min2_int max_two min_two max_three min_three max_four min_four
set_option linter.unusedVariables false
set_option linter.unusedSimpArgs false
mutual
def tree_Stmt_at_tree_sameStmt.l0:Nat→List (S76)→List (S76)→Int→Int→Option (Bool)
 | 0,_,_,_,_=>none
 | k+1,x1,x15,x16,x17=>if x17 < x16 then (if 0≤x17 then (if x17 < (x15.length:Int) then (if x17 < (x1.length:Int) then ((tree_sameStmt.f k ((rd_T76 x15 x17).f0) ((rd_T76 x15 x17).f1) ((rd_T76 x15 x17).f2) ((rd_T76 x15 x17).f3) ((rd_T76 x15 x17).f4) ((rd_T76 x15 x17).f5) ((rd_T76 x1 x17).f0) ((rd_T76 x1 x17).f1) ((rd_T76 x1 x17).f2) ((rd_T76 x1 x17).f3) ((rd_T76 x1 x17).f4) ((rd_T76 x1 x17).f5)).bind fun t362=>(if t362=true then (tree_Stmt_at_tree_sameStmt.l0 k x1 x15 x16 (wrap64 (x17+1))) else (some false))) else (none)) else (none)) else (none)) else (some true)
def tree_Stmt_at_tree_sameStmt.f:Nat→List (S76)→List (S76)→Option (Bool)
 | 0,_,_=>none
 | k+1,l0,l1=>if (l0.length:Int)=(l1.length:Int) then (tree_Stmt_at_tree_sameStmt.l0 k l1 l0 (l0.length:Int) 0) else (some false)
def tree_sameStmt.f:Nat→ByteArray→ByteArray→List (S33)→List (S76)→List (S76)→Int→ByteArray→ByteArray→List (S33)→List (S76)→List (S76)→Int→Option (Bool)
 | 0,_,_,_,_,_,_,_,_,_,_,_,_=>none
 | k+1,a0_0,a0_1,l0_2,l0_3,l0_4,a0_5,a1_0,a1_1,l1_2,l1_3,l1_4,a1_5=>if a0_0.toList=a1_0.toList then (if a0_1.toList=a1_1.toList then ((tree_Expr_at_tree_SameExpr.f k l0_2 l1_2).bind fun t365=>(if t365=true then ((tree_Stmt_at_tree_sameStmt.f k l0_3 l1_3).bind fun t366=>(if t366=true then ((tree_Stmt_at_tree_sameStmt.f k l0_4 l1_4).bind fun t367=>(some t367)) else (some false))) else (some false))) else (some false)) else (some false)
end
abbrev tree_Stmt_at_tree_sameStmt.Stmt (k:Nat):Prop:=∀ (A0:Option Addr) (c0:Nat) (l0:List (S76)) (A1:Option Addr) (c1:Nat) (l1:List (S76))  (r:Bool) (w:World) (hr0:Kd.C k76 w A0 l0.length l0) (hc0:l0.length≤c0) (hr1:Kd.C k76 w A1 l1.length l1) (hc1:l1.length≤c1) (h:tree_Stmt_at_tree_sameStmt.f k l0 l1=some r),
  Calls Tryd.prog 47 #[.slice A0 l0.length c0,.slice A1 l1.length c1,.func (.func 48) #[] #[]] w fun e w'=>e=.returned (.bool r)∧Below w.heap.size w w'
abbrev tree_sameStmt.Stmt (k:Nat):Prop:=∀ (a0_0:ByteArray) (a0_1:ByteArray) (A0_2:Option Addr) (c0_2:Nat) (l0_2:List (S33)) (A0_3:Option Addr) (c0_3:Nat) (l0_3:List (S76)) (A0_4:Option Addr) (c0_4:Nat) (l0_4:List (S76)) (a0_5:Int) (a1_0:ByteArray) (a1_1:ByteArray) (A1_2:Option Addr) (c1_2:Nat) (l1_2:List (S33)) (A1_3:Option Addr) (c1_3:Nat) (l1_3:List (S76)) (A1_4:Option Addr) (c1_4:Nat) (l1_4:List (S76)) (a1_5:Int) (r:Bool) (w:World) (hr0_2:Kd.C k33 w A0_2 l0_2.length l0_2) (hc0_2:l0_2.length≤c0_2) (hr0_3:Kd.C k76 w A0_3 l0_3.length l0_3) (hc0_3:l0_3.length≤c0_3) (hr0_4:Kd.C k76 w A0_4 l0_4.length l0_4) (hc0_4:l0_4.length≤c0_4) (hr1_2:Kd.C k33 w A1_2 l1_2.length l1_2) (hc1_2:l1_2.length≤c1_2) (hr1_3:Kd.C k76 w A1_3 l1_3.length l1_3) (hc1_3:l1_3.length≤c1_3) (hr1_4:Kd.C k76 w A1_4 l1_4.length l1_4) (hc1_4:l1_4.length≤c1_4) (h:tree_sameStmt.f k a0_0 a0_1 l0_2 l0_3 l0_4 a0_5 a1_0 a1_1 l1_2 l1_3 l1_4 a1_5=some r),
  Calls Tryd.prog 48 #[.agg #[.string a0_0,.string a0_1,.slice A0_2 l0_2.length c0_2,.slice A0_3 l0_3.length c0_3,.slice A0_4 l0_4.length c0_4,.int .i64 a0_5],.agg #[.string a1_0,.string a1_1,.slice A1_2 l1_2.length c1_2,.slice A1_3 l1_3.length c1_3,.slice A1_4 l1_4.length c1_4,.int .i64 a1_5]] w fun e w'=>e=.returned (.bool r)∧Below w.heap.size w w'
end Go.Proofs.YtnnbbeloifhofaaDoor.P
end
section
namespace Go.Proofs.YtnnbbeloifhofaaDoor.P
open Go.RowKit Go.Proofs.YtnnbbeloifhofaaDoorW.PrintWords Go.Proofs.YtnnbbeloifhofaaDoorW.PrintLast Go.Proofs.YtnnbbeloifhofaaDoorW.PrintMore
attribute [local go_sem] max2_int min2_int max_two min_two max_three min_three max_four min_four
set_option linter.unusedVariables false
set_option linter.unusedSimpArgs false
set_option maxHeartbeats 8000000 in
set_option maxRecDepth 100000 in
theorem tree_Stmt_at_tree_sameStmt.step (k:Nat) (ih47 : ∀ m_,m_ < k→tree_Stmt_at_tree_sameStmt.Stmt m_) (ih48 : ∀ m_,m_ < k→tree_sameStmt.Stmt m_):tree_Stmt_at_tree_sameStmt.Stmt k:=by
 intro A0 c0 l0 A1 c1 l1 r w hr0 hc0 hr1 hc1 h
 cases k with
 | zero=>exact absurd h (by simp [tree_Stmt_at_tree_sameStmt.f])
 | succ k=>
 simp only [tree_Stmt_at_tree_sameStmt.f] at h
 have hu76:=Tryd.underlying76
 have HR0:=Aside0.mk hr0
 have HC0:=Aside0.mk hc0
 clear hr0 hc0
 have HR1:=Aside0.mk hr1
 have HC1:=Aside0.mk hc1
 clear hr1 hc1
 have HB:=Aside0.mk (Below.refl w.heap.size w)
 have H:(if (l0.length:Int)=(l1.length:Int) then (tree_Stmt_at_tree_sameStmt.l0 k l1 l0 (l0.length:Int) 0) else (some false))=some r:=h
 clear h
 by_cases c4:(l0.length:Int)=(l1.length:Int)
 ·rw [if_pos c4] at H
  have c4b0:((l0.length:Int) == (l1.length:Int))=true:=beq_iff_eq.mpr c4
  have c4b1:((l0.length:Int) != (l1.length:Int))=false:=bne_eq_false_iff_eq.mpr c4
  have c4b2:(l0.length == l1.length)=true:=by first|simpa using c4|(simp at c4 ⊢;omega)
  clear c4
  have H':=Aside0.mk H
  clear H
  go_enter Tryd.func47,Tryd.ntmps47
  go_wp2
  (try simp only [Act.put,List.setIfInBounds_toArray,List.set_cons_succ,List.set_cons_zero])
  go_loopg [17] k (fun kq v17 w'=>∃ (x17_1:Int),v17=.int .i64 x17_1∧Aside0 (tree_Stmt_at_tree_sameStmt.l0 kq l1 l0 (l0.length:Int) x17_1=some r)∧Aside0 (kq≤k)∧Aside0 (Below w.heap.size w w'))
  case atStart=>exact ⟨(0),rf_,H',⟨Nat.le_refl _⟩,⟨bl_ HB.out⟩⟩
  case round=>
   clear H'
   (try clear c1);(try clear p2);(try clear c4);(try clear c4b0);(try clear c4b1);(try clear c4b2)
   obtain ⟨x17_1,rfl,HA,HK1,HB⟩:=hrel
   cases gk with
   | zero=>exact absurd HA.out (by simp [tree_Stmt_at_tree_sameStmt.l0])
   | succ k1=>
    have H:=HA.out
    clear HA
    simp only [tree_Stmt_at_tree_sameStmt.l0] at H
    by_cases c5:x17_1 < (l0.length:Int)
    ·rw [if_pos c5] at H
     have c5b0:decide (x17_1 < (l0.length:Int))=true:=decide_eq_true c5
     clear c5
     by_cases c6:0≤x17_1
     ·rw [if_pos c6] at H
      have c6b0:decide (0≤x17_1)=true:=decide_eq_true c6
      clear c6
      by_cases c7:x17_1 < (l0.length:Int)
      ·rw [if_pos c7] at H
       have c7b0:decide (x17_1 < (l0.length:Int))=true:=decide_eq_true c7
       clear c7
       by_cases c8:x17_1 < (l1.length:Int)
       ·rw [if_pos c8] at H
        have c8b0:decide (x17_1 < (l1.length:Int))=true:=decide_eq_true c8
        clear c8
        replace H:=Option.bind_eq_some_iff.mp H
        obtain ⟨t362,A90,H⟩:=H
        replace H:(if t362=true then (tree_Stmt_at_tree_sameStmt.l0 k1 l1 l0 (l0.length:Int) (wrap64 (x17_1+1))) else (some false))=some r:=H
        have A9:=Aside0.mk A90
        clear A90
        by_cases c10:t362=true
        ·subst c10
         have H1:(tree_Stmt_at_tree_sameStmt.l0 k1 l1 l0 (l0.length:Int) (wrap64 (x17_1+1)))=some r:=by rw [if_pos rfl] at H;exact H
         clear H
         have H:=H1
         clear H1
         have H':=Aside0.mk H
         clear H
         have p358:0≤(x17_1:Int):=of_decide_eq_true as_
         have q358:x17_1 < (l0.length:Int):=of_decide_eq_true as_
         obtain ⟨ad358,A358_2,c358_2,A358_3,c358_3,A358_4,c358_4,e358,hx358_0,hx358_1,hx358_2,hx358_3,hx358_4,hx358_5,hl358_2,hi358_2,hl358_3,hi358_3,hl358_4,hi358_4⟩:=at_T76 HR0.out x17_1 p358 q358
         cases e358
         replace hx358_0:=(cb_ HB.out hx358_0:_)
         replace hx358_1:=(cb_ HB.out hx358_1:_)
         replace hx358_2:=(cb_ HB.out hx358_2:_)
         replace hx358_3:=(cb_ HB.out hx358_3:_)
         replace hx358_4:=(cb_ HB.out hx358_4:_)
         replace hx358_5:=(cb_ HB.out hx358_5:_)
         have HR358_2:=Aside0.mk hi358_2
         have HC358_2:=Aside0.mk hl358_2
         clear hi358_2 hl358_2
         have HR358_3:=Aside0.mk hi358_3
         have HC358_3:=Aside0.mk hl358_3
         clear hi358_3 hl358_3
         have HR358_4:=Aside0.mk hi358_4
         have HC358_4:=Aside0.mk hl358_4
         clear hi358_4 hl358_4
         replace p358:=eq_true p358
         replace q358:=eq_true q358
         go_wp2_with (first|((with_reducible refine gate_dst (N:=8) rfl ?_);refine box_event ?hg (N:=8) ?hd (cs:=#[.string (⟨#[]⟩:ByteArray),.string (⟨#[]⟩:ByteArray),.slice none 0 0,.slice none 0 0,.slice none 0 0,.int .i64 0]) (t:=76) ?hr ?_;(case hd=>rfl);(case hg=>rfl);(case hr=>first|(go_simp;done)|(go_simp;rfl));intro gb359 hg w11 hbox hb;have n0_:=Aside0.mk (below_step (bl_ HB.out) hb);have n1_:=Aside0.mk (hbox);have n2_:=Aside0.mk ((gs_ hg (bl_ HB.out):w.heap.size≤gb359));have n3_:=Aside0.mk ((gs_ hg (bl_ HB.out):w.heap.size≤gb359));clear HB;have HB:=n0_;have BK359:=n1_;have GW359:=n2_;have GE359:=n3_;clear n0_ n1_ n2_ n3_;clear hb hbox hg;have hcz12_0:w11.cell? ⟨gb359,0,none⟩=some (.string (⟨#[]⟩:ByteArray)):=zc_ BK359.out 0;have hcz12_1:w11.cell? ⟨gb359,1,none⟩=some (.string (⟨#[]⟩:ByteArray)):=zc_ BK359.out 1;have hcz12_2:w11.cell? ⟨gb359,2,none⟩=some (.slice none 0 0):=zc_ BK359.out 2;have hcz12_3:w11.cell? ⟨gb359,3,none⟩=some (.slice none 0 0):=zc_ BK359.out 3;have hcz12_4:w11.cell? ⟨gb359,4,none⟩=some (.slice none 0 0):=zc_ BK359.out 4;have hcz12_5:w11.cell? ⟨gb359,5,none⟩=some (.int .i64 0):=zc_ BK359.out 5;have hfz12_0:=blk_frozen BK359.out 0;have hfz12_1:=blk_frozen BK359.out 1;have hfz12_2:=blk_frozen BK359.out 2;have hfz12_3:=blk_frozen BK359.out 3;have hfz12_4:=blk_frozen BK359.out 4;have hfz12_5:=blk_frozen BK359.out 5;have p360:0≤(x17_1:Int):=of_decide_eq_true as_;have q360:x17_1 < (l1.length:Int):=of_decide_eq_true as_;obtain ⟨ad360,A360_2,c360_2,A360_3,c360_3,A360_4,c360_4,e360,hx360_0,hx360_1,hx360_2,hx360_3,hx360_4,hx360_5,hl360_2,hi360_2,hl360_3,hi360_3,hl360_4,hi360_4⟩:=at_T76 HR1.out x17_1 p360 q360;cases e360;have hn360_0:ad360.block≠gb359:=Nat.ne_of_lt (Nat.lt_of_lt_of_le (by have:=World.block_lt_of_cell? _ _ hx360_0;first|rwa [add_block] at this|exact this) GW359.out);have hn360_1:ad360.block≠gb359:=Nat.ne_of_lt (Nat.lt_of_lt_of_le (by have:=World.block_lt_of_cell? _ _ hx360_0;first|rwa [add_block] at this|exact this) GW359.out);have hn360_2:ad360.block≠gb359:=Nat.ne_of_lt (Nat.lt_of_lt_of_le (by have:=World.block_lt_of_cell? _ _ hx360_0;first|rwa [add_block] at this|exact this) GW359.out);have hn360_3:ad360.block≠gb359:=Nat.ne_of_lt (Nat.lt_of_lt_of_le (by have:=World.block_lt_of_cell? _ _ hx360_0;first|rwa [add_block] at this|exact this) GW359.out);have hn360_4:ad360.block≠gb359:=Nat.ne_of_lt (Nat.lt_of_lt_of_le (by have:=World.block_lt_of_cell? _ _ hx360_0;first|rwa [add_block] at this|exact this) GW359.out);have hn360_5:ad360.block≠gb359:=Nat.ne_of_lt (Nat.lt_of_lt_of_le (by have:=World.block_lt_of_cell? _ _ hx360_0;first|rwa [add_block] at this|exact this) GW359.out);replace hx360_0:=(cb_ HB.out hx360_0:_);replace hx360_1:=(cb_ HB.out hx360_1:_);replace hx360_2:=(cb_ HB.out hx360_2:_);replace hx360_3:=(cb_ HB.out hx360_3:_);replace hx360_4:=(cb_ HB.out hx360_4:_);replace hx360_5:=(cb_ HB.out hx360_5:_);have HR360_2:=Aside0.mk hi360_2;have HC360_2:=Aside0.mk hl360_2;clear hi360_2 hl360_2;have HR360_3:=Aside0.mk hi360_3;have HC360_3:=Aside0.mk hl360_3;clear hi360_3 hl360_3;have HR360_4:=Aside0.mk hi360_4;have HC360_4:=Aside0.mk hl360_4;clear hi360_4 hl360_4;replace hx360_0:=(cell_far (p:=⟨gb359,0,none⟩) (ab_ hn360_0) (.string ((rd_T76 l0 x17_1).f0))).trans hx360_0;replace hx360_1:=(cell_far (p:=⟨gb359,0,none⟩) (ab_ hn360_0) (.string ((rd_T76 l0 x17_1).f0))).trans hx360_1;replace hx360_2:=(cell_far (p:=⟨gb359,0,none⟩) (ab_ hn360_0) (.string ((rd_T76 l0 x17_1).f0))).trans hx360_2;replace hx360_3:=(cell_far (p:=⟨gb359,0,none⟩) (ab_ hn360_0) (.string ((rd_T76 l0 x17_1).f0))).trans hx360_3;replace hx360_4:=(cell_far (p:=⟨gb359,0,none⟩) (ab_ hn360_0) (.string ((rd_T76 l0 x17_1).f0))).trans hx360_4;replace hx360_5:=(cell_far (p:=⟨gb359,0,none⟩) (ab_ hn360_0) (.string ((rd_T76 l0 x17_1).f0))).trans hx360_5;replace hx360_0:=(cell_far (p:=⟨gb359,1,none⟩) (ab_ hn360_1) (.string ((rd_T76 l0 x17_1).f1))).trans hx360_0;replace hx360_1:=(cell_far (p:=⟨gb359,1,none⟩) (ab_ hn360_1) (.string ((rd_T76 l0 x17_1).f1))).trans hx360_1;replace hx360_2:=(cell_far (p:=⟨gb359,1,none⟩) (ab_ hn360_1) (.string ((rd_T76 l0 x17_1).f1))).trans hx360_2;replace hx360_3:=(cell_far (p:=⟨gb359,1,none⟩) (ab_ hn360_1) (.string ((rd_T76 l0 x17_1).f1))).trans hx360_3;replace hx360_4:=(cell_far (p:=⟨gb359,1,none⟩) (ab_ hn360_1) (.string ((rd_T76 l0 x17_1).f1))).trans hx360_4;replace hx360_5:=(cell_far (p:=⟨gb359,1,none⟩) (ab_ hn360_1) (.string ((rd_T76 l0 x17_1).f1))).trans hx360_5;replace hx360_0:=(cell_far (p:=⟨gb359,2,none⟩) (ab_ hn360_2) (.slice A358_2 ((rd_T76 l0 x17_1).f2).length c358_2)).trans hx360_0;replace hx360_1:=(cell_far (p:=⟨gb359,2,none⟩) (ab_ hn360_2) (.slice A358_2 ((rd_T76 l0 x17_1).f2).length c358_2)).trans hx360_1;replace hx360_2:=(cell_far (p:=⟨gb359,2,none⟩) (ab_ hn360_2) (.slice A358_2 ((rd_T76 l0 x17_1).f2).length c358_2)).trans hx360_2;replace hx360_3:=(cell_far (p:=⟨gb359,2,none⟩) (ab_ hn360_2) (.slice A358_2 ((rd_T76 l0 x17_1).f2).length c358_2)).trans hx360_3;replace hx360_4:=(cell_far (p:=⟨gb359,2,none⟩) (ab_ hn360_2) (.slice A358_2 ((rd_T76 l0 x17_1).f2).length c358_2)).trans hx360_4;replace hx360_5:=(cell_far (p:=⟨gb359,2,none⟩) (ab_ hn360_2) (.slice A358_2 ((rd_T76 l0 x17_1).f2).length c358_2)).trans hx360_5;replace hx360_0:=(cell_far (p:=⟨gb359,3,none⟩) (ab_ hn360_3) (.slice A358_3 ((rd_T76 l0 x17_1).f3).length c358_3)).trans hx360_0;replace hx360_1:=(cell_far (p:=⟨gb359,3,none⟩) (ab_ hn360_3) (.slice A358_3 ((rd_T76 l0 x17_1).f3).length c358_3)).trans hx360_1;replace hx360_2:=(cell_far (p:=⟨gb359,3,none⟩) (ab_ hn360_3) (.slice A358_3 ((rd_T76 l0 x17_1).f3).length c358_3)).trans hx360_2;replace hx360_3:=(cell_far (p:=⟨gb359,3,none⟩) (ab_ hn360_3) (.slice A358_3 ((rd_T76 l0 x17_1).f3).length c358_3)).trans hx360_3;replace hx360_4:=(cell_far (p:=⟨gb359,3,none⟩) (ab_ hn360_3) (.slice A358_3 ((rd_T76 l0 x17_1).f3).length c358_3)).trans hx360_4;replace hx360_5:=(cell_far (p:=⟨gb359,3,none⟩) (ab_ hn360_3) (.slice A358_3 ((rd_T76 l0 x17_1).f3).length c358_3)).trans hx360_5;replace hx360_0:=(cell_far (p:=⟨gb359,4,none⟩) (ab_ hn360_4) (.slice A358_4 ((rd_T76 l0 x17_1).f4).length c358_4)).trans hx360_0;replace hx360_1:=(cell_far (p:=⟨gb359,4,none⟩) (ab_ hn360_4) (.slice A358_4 ((rd_T76 l0 x17_1).f4).length c358_4)).trans hx360_1;replace hx360_2:=(cell_far (p:=⟨gb359,4,none⟩) (ab_ hn360_4) (.slice A358_4 ((rd_T76 l0 x17_1).f4).length c358_4)).trans hx360_2;replace hx360_3:=(cell_far (p:=⟨gb359,4,none⟩) (ab_ hn360_4) (.slice A358_4 ((rd_T76 l0 x17_1).f4).length c358_4)).trans hx360_3;replace hx360_4:=(cell_far (p:=⟨gb359,4,none⟩) (ab_ hn360_4) (.slice A358_4 ((rd_T76 l0 x17_1).f4).length c358_4)).trans hx360_4;replace hx360_5:=(cell_far (p:=⟨gb359,4,none⟩) (ab_ hn360_4) (.slice A358_4 ((rd_T76 l0 x17_1).f4).length c358_4)).trans hx360_5;replace hx360_0:=(cell_far (p:=⟨gb359,5,none⟩) (ab_ hn360_5) (.int .i64 ((rd_T76 l0 x17_1).f5))).trans hx360_0;replace hx360_1:=(cell_far (p:=⟨gb359,5,none⟩) (ab_ hn360_5) (.int .i64 ((rd_T76 l0 x17_1).f5))).trans hx360_1;replace hx360_2:=(cell_far (p:=⟨gb359,5,none⟩) (ab_ hn360_5) (.int .i64 ((rd_T76 l0 x17_1).f5))).trans hx360_2;replace hx360_3:=(cell_far (p:=⟨gb359,5,none⟩) (ab_ hn360_5) (.int .i64 ((rd_T76 l0 x17_1).f5))).trans hx360_3;replace hx360_4:=(cell_far (p:=⟨gb359,5,none⟩) (ab_ hn360_5) (.int .i64 ((rd_T76 l0 x17_1).f5))).trans hx360_4;replace hx360_5:=(cell_far (p:=⟨gb359,5,none⟩) (ab_ hn360_5) (.int .i64 ((rd_T76 l0 x17_1).f5))).trans hx360_5;clear hn360_0;clear hn360_1;clear hn360_2;clear hn360_3;clear hn360_4;clear hn360_5;replace p360:=eq_true p360;replace q360:=eq_true q360)|((with_reducible refine gate_dst (N:=9) rfl ?_);refine box_event ?hg (N:=9) ?hd (cs:=#[.string (⟨#[]⟩:ByteArray),.string (⟨#[]⟩:ByteArray),.slice none 0 0,.slice none 0 0,.slice none 0 0,.int .i64 0]) (t:=76) ?hr ?_;(case hd=>rfl);(case hg=>rfl);(case hr=>first|(go_simp;done)|(go_simp;rfl));intro gb361 hg w13 hbox hb;have n0_:=Aside0.mk (blk_below (g:=gb359) (o:=.cells #[.string ((rd_T76 l0 x17_1).f0),.string ((rd_T76 l0 x17_1).f1),.slice A358_2 ((rd_T76 l0 x17_1).f2).length c358_2,.slice A358_3 ((rd_T76 l0 x17_1).f3).length c358_3,.slice A358_4 ((rd_T76 l0 x17_1).f4).length c358_4,.int .i64 ((rd_T76 l0 x17_1).f5)] 76 (0,0)) (kbc_ BK359.out) hb);have n1_:=Aside0.mk (below_step (bl_ HB.out) hb);have n2_:=Aside0.mk (hbox);have n3_:=Aside0.mk ((gs_ hg (bl_ HB.out):w.heap.size≤gb361));have n4_:=Aside0.mk ((gs_ hg (bl_ HB.out):w.heap.size≤gb361));have n5_:=Aside0.mk ((by rw [hg];exact Nat.ne_of_lt (blk_lt (g:=gb359) (o:=.cells #[.string ((rd_T76 l0 x17_1).f0),.string ((rd_T76 l0 x17_1).f1),.slice A358_2 ((rd_T76 l0 x17_1).f2).length c358_2,.slice A358_3 ((rd_T76 l0 x17_1).f3).length c358_3,.slice A358_4 ((rd_T76 l0 x17_1).f4).length c358_4,.int .i64 ((rd_T76 l0 x17_1).f5)] 76 (0,0)) (kbc_ BK359.out)):gb359≠gb361));have n6_:=Aside0.mk ((by rw [hg];exact Nat.ne_of_gt (blk_lt (g:=gb359) (o:=.cells #[.string ((rd_T76 l0 x17_1).f0),.string ((rd_T76 l0 x17_1).f1),.slice A358_2 ((rd_T76 l0 x17_1).f2).length c358_2,.slice A358_3 ((rd_T76 l0 x17_1).f3).length c358_3,.slice A358_4 ((rd_T76 l0 x17_1).f4).length c358_4,.int .i64 ((rd_T76 l0 x17_1).f5)] 76 (0,0)) (kbc_ BK359.out)):gb361≠gb359));clear BK359;clear HB;have BK359:=n0_;have HB:=n1_;have BK361:=n2_;have GW361:=n3_;have GE361:=n4_;have NB359_361:=n5_;have NB361_359:=n6_;clear n0_ n1_ n2_ n3_ n4_ n5_ n6_;clear hb hbox hg;have hnb14:=NB361_359.out;have hnc14:=NB359_361.out;have hcz15_0:w13.cell? ⟨gb361,0,none⟩=some (.string (⟨#[]⟩:ByteArray)):=zc_ BK361.out 0;have hcz15_1:w13.cell? ⟨gb361,1,none⟩=some (.string (⟨#[]⟩:ByteArray)):=zc_ BK361.out 1;have hcz15_2:w13.cell? ⟨gb361,2,none⟩=some (.slice none 0 0):=zc_ BK361.out 2;have hcz15_3:w13.cell? ⟨gb361,3,none⟩=some (.slice none 0 0):=zc_ BK361.out 3;have hcz15_4:w13.cell? ⟨gb361,4,none⟩=some (.slice none 0 0):=zc_ BK361.out 4;have hcz15_5:w13.cell? ⟨gb361,5,none⟩=some (.int .i64 0):=zc_ BK361.out 5;have hfz15_0:=blk_frozen BK361.out 0;have hfz15_1:=blk_frozen BK361.out 1;have hfz15_2:=blk_frozen BK361.out 2;have hfz15_3:=blk_frozen BK361.out 3;have hfz15_4:=blk_frozen BK361.out 4;have hfz15_5:=blk_frozen BK361.out 5;have hcz16_0:w13.cell? ⟨gb359,0,none⟩=some (.string ((rd_T76 l0 x17_1).f0)):=zc_ BK359.out 0;have hcz16_1:w13.cell? ⟨gb359,1,none⟩=some (.string ((rd_T76 l0 x17_1).f1)):=zc_ BK359.out 1;have hcz16_2:w13.cell? ⟨gb359,2,none⟩=some (.slice A358_2 ((rd_T76 l0 x17_1).f2).length c358_2):=zc_ BK359.out 2;have hcz16_3:w13.cell? ⟨gb359,3,none⟩=some (.slice A358_3 ((rd_T76 l0 x17_1).f3).length c358_3):=zc_ BK359.out 3;have hcz16_4:w13.cell? ⟨gb359,4,none⟩=some (.slice A358_4 ((rd_T76 l0 x17_1).f4).length c358_4):=zc_ BK359.out 4;have hcz16_5:w13.cell? ⟨gb359,5,none⟩=some (.int .i64 ((rd_T76 l0 x17_1).f5)):=zc_ BK359.out 5;have hfz16_0:=blk_frozen BK359.out 0;have hfz16_1:=blk_frozen BK359.out 1;have hfz16_2:=blk_frozen BK359.out 2;have hfz16_3:=blk_frozen BK359.out 3;have hfz16_4:=blk_frozen BK359.out 4;have hfz16_5:=blk_frozen BK359.out 5)|((with_reducible refine (ih48 k1 (by have:=HK1.out;omega) ((rd_T76 l0 x17_1).f0) ((rd_T76 l0 x17_1).f1) _ _ ((rd_T76 l0 x17_1).f2) _ _ ((rd_T76 l0 x17_1).f3) _ _ ((rd_T76 l0 x17_1).f4) ((rd_T76 l0 x17_1).f5) ((rd_T76 l1 x17_1).f0) ((rd_T76 l1 x17_1).f1) _ _ ((rd_T76 l1 x17_1).f2) _ _ ((rd_T76 l1 x17_1).f3) _ _ ((rd_T76 l1 x17_1).f4) ((rd_T76 l1 x17_1).f5) true _ ?side1 ?side2 ?side3 ?side4 ?side5 ?side6 ?side7 ?side8 ?side9 ?side10 ?side11 ?side12 A9.out).mono ?_);(case side1=>exact Kd.C_below HR358_2.out (bl_ HB.out));(case side2=>exact HC358_2.out);(case side3=>exact Kd.C_below HR358_3.out (bl_ HB.out));(case side4=>exact HC358_3.out);(case side5=>exact Kd.C_below HR358_4.out (bl_ HB.out));(case side6=>exact HC358_4.out);(case side7=>exact Kd.C_below HR360_2.out (bl_ HB.out));(case side8=>exact HC360_2.out);(case side9=>exact Kd.C_below HR360_3.out (bl_ HB.out));(case side10=>exact HC360_3.out);(case side11=>exact Kd.C_below HR360_4.out (bl_ HB.out));(case side12=>exact HC360_4.out);rintro e w17 ⟨rfl,hb⟩;have n0_:=Aside0.mk (blk_below (g:=gb359) (o:=.cells #[.string ((rd_T76 l0 x17_1).f0),.string ((rd_T76 l0 x17_1).f1),.slice A358_2 ((rd_T76 l0 x17_1).f2).length c358_2,.slice A358_3 ((rd_T76 l0 x17_1).f3).length c358_3,.slice A358_4 ((rd_T76 l0 x17_1).f4).length c358_4,.int .i64 ((rd_T76 l0 x17_1).f5)] 76 (0,0)) (kbc_ BK359.out) hb);have n1_:=Aside0.mk (blk_below (g:=gb361) (o:=.cells #[.string ((rd_T76 l1 x17_1).f0),.string ((rd_T76 l1 x17_1).f1),.slice A360_2 ((rd_T76 l1 x17_1).f2).length c360_2,.slice A360_3 ((rd_T76 l1 x17_1).f3).length c360_3,.slice A360_4 ((rd_T76 l1 x17_1).f4).length c360_4,.int .i64 ((rd_T76 l1 x17_1).f5)] 76 (0,0)) (kbc_ BK361.out) hb);have n2_:=Aside0.mk (below_step (bl_ HB.out) hb);clear BK359;clear BK361;clear HB;have BK359:=n0_;have BK361:=n1_;have HB:=n2_;clear n0_ n1_ n2_;(try clear hb);(try clear hb2);(try clear hk);(try clear hi)))
         go_roundg k1
         case measure=>have:=HK1.out;omega
         case rel=>exact ⟨(wrap64 (x17_1+1)),rf_,H',⟨by have:=HK1.out;omega⟩,⟨bl_ HB.out⟩⟩
        ·replace c10:=Bool.eq_false_iff.mpr c10
         subst c10
         have H1:(some false)=some r:=by rw [if_neg (show ¬ (false=true) by decide)] at H;exact H
         clear H
         have H:=H1
         clear H1
         obtain rfl:=Option.some.inj H
         have p358:0≤(x17_1:Int):=of_decide_eq_true as_
         have q358:x17_1 < (l0.length:Int):=of_decide_eq_true as_
         obtain ⟨ad358,A358_2,c358_2,A358_3,c358_3,A358_4,c358_4,e358,hx358_0,hx358_1,hx358_2,hx358_3,hx358_4,hx358_5,hl358_2,hi358_2,hl358_3,hi358_3,hl358_4,hi358_4⟩:=at_T76 HR0.out x17_1 p358 q358
         cases e358
         replace hx358_0:=(cb_ HB.out hx358_0:_)
         replace hx358_1:=(cb_ HB.out hx358_1:_)
         replace hx358_2:=(cb_ HB.out hx358_2:_)
         replace hx358_3:=(cb_ HB.out hx358_3:_)
         replace hx358_4:=(cb_ HB.out hx358_4:_)
         replace hx358_5:=(cb_ HB.out hx358_5:_)
         have HR358_2:=Aside0.mk hi358_2
         have HC358_2:=Aside0.mk hl358_2
         clear hi358_2 hl358_2
         have HR358_3:=Aside0.mk hi358_3
         have HC358_3:=Aside0.mk hl358_3
         clear hi358_3 hl358_3
         have HR358_4:=Aside0.mk hi358_4
         have HC358_4:=Aside0.mk hl358_4
         clear hi358_4 hl358_4
         replace p358:=eq_true p358
         replace q358:=eq_true q358
         go_wp2_with (first|((with_reducible refine gate_dst (N:=8) rfl ?_);refine box_event ?hg (N:=8) ?hd (cs:=#[.string (⟨#[]⟩:ByteArray),.string (⟨#[]⟩:ByteArray),.slice none 0 0,.slice none 0 0,.slice none 0 0,.int .i64 0]) (t:=76) ?hr ?_;(case hd=>rfl);(case hg=>rfl);(case hr=>first|(go_simp;done)|(go_simp;rfl));intro gb359 hg w18 hbox hb;have n0_:=Aside0.mk (below_step (bl_ HB.out) hb);have n1_:=Aside0.mk (hbox);have n2_:=Aside0.mk ((gs_ hg (bl_ HB.out):w.heap.size≤gb359));have n3_:=Aside0.mk ((gs_ hg (bl_ HB.out):w.heap.size≤gb359));clear HB;have HB:=n0_;have BK359:=n1_;have GW359:=n2_;have GE359:=n3_;clear n0_ n1_ n2_ n3_;clear hb hbox hg;have hcz19_0:w18.cell? ⟨gb359,0,none⟩=some (.string (⟨#[]⟩:ByteArray)):=zc_ BK359.out 0;have hcz19_1:w18.cell? ⟨gb359,1,none⟩=some (.string (⟨#[]⟩:ByteArray)):=zc_ BK359.out 1;have hcz19_2:w18.cell? ⟨gb359,2,none⟩=some (.slice none 0 0):=zc_ BK359.out 2;have hcz19_3:w18.cell? ⟨gb359,3,none⟩=some (.slice none 0 0):=zc_ BK359.out 3;have hcz19_4:w18.cell? ⟨gb359,4,none⟩=some (.slice none 0 0):=zc_ BK359.out 4;have hcz19_5:w18.cell? ⟨gb359,5,none⟩=some (.int .i64 0):=zc_ BK359.out 5;have hfz19_0:=blk_frozen BK359.out 0;have hfz19_1:=blk_frozen BK359.out 1;have hfz19_2:=blk_frozen BK359.out 2;have hfz19_3:=blk_frozen BK359.out 3;have hfz19_4:=blk_frozen BK359.out 4;have hfz19_5:=blk_frozen BK359.out 5;have p360:0≤(x17_1:Int):=of_decide_eq_true as_;have q360:x17_1 < (l1.length:Int):=of_decide_eq_true as_;obtain ⟨ad360,A360_2,c360_2,A360_3,c360_3,A360_4,c360_4,e360,hx360_0,hx360_1,hx360_2,hx360_3,hx360_4,hx360_5,hl360_2,hi360_2,hl360_3,hi360_3,hl360_4,hi360_4⟩:=at_T76 HR1.out x17_1 p360 q360;cases e360;have hn360_0:ad360.block≠gb359:=Nat.ne_of_lt (Nat.lt_of_lt_of_le (by have:=World.block_lt_of_cell? _ _ hx360_0;first|rwa [add_block] at this|exact this) GW359.out);have hn360_1:ad360.block≠gb359:=Nat.ne_of_lt (Nat.lt_of_lt_of_le (by have:=World.block_lt_of_cell? _ _ hx360_0;first|rwa [add_block] at this|exact this) GW359.out);have hn360_2:ad360.block≠gb359:=Nat.ne_of_lt (Nat.lt_of_lt_of_le (by have:=World.block_lt_of_cell? _ _ hx360_0;first|rwa [add_block] at this|exact this) GW359.out);have hn360_3:ad360.block≠gb359:=Nat.ne_of_lt (Nat.lt_of_lt_of_le (by have:=World.block_lt_of_cell? _ _ hx360_0;first|rwa [add_block] at this|exact this) GW359.out);have hn360_4:ad360.block≠gb359:=Nat.ne_of_lt (Nat.lt_of_lt_of_le (by have:=World.block_lt_of_cell? _ _ hx360_0;first|rwa [add_block] at this|exact this) GW359.out);have hn360_5:ad360.block≠gb359:=Nat.ne_of_lt (Nat.lt_of_lt_of_le (by have:=World.block_lt_of_cell? _ _ hx360_0;first|rwa [add_block] at this|exact this) GW359.out);replace hx360_0:=(cb_ HB.out hx360_0:_);replace hx360_1:=(cb_ HB.out hx360_1:_);replace hx360_2:=(cb_ HB.out hx360_2:_);replace hx360_3:=(cb_ HB.out hx360_3:_);replace hx360_4:=(cb_ HB.out hx360_4:_);replace hx360_5:=(cb_ HB.out hx360_5:_);have HR360_2:=Aside0.mk hi360_2;have HC360_2:=Aside0.mk hl360_2;clear hi360_2 hl360_2;have HR360_3:=Aside0.mk hi360_3;have HC360_3:=Aside0.mk hl360_3;clear hi360_3 hl360_3;have HR360_4:=Aside0.mk hi360_4;have HC360_4:=Aside0.mk hl360_4;clear hi360_4 hl360_4;replace hx360_0:=(cell_far (p:=⟨gb359,0,none⟩) (ab_ hn360_0) (.string ((rd_T76 l0 x17_1).f0))).trans hx360_0;replace hx360_1:=(cell_far (p:=⟨gb359,0,none⟩) (ab_ hn360_0) (.string ((rd_T76 l0 x17_1).f0))).trans hx360_1;replace hx360_2:=(cell_far (p:=⟨gb359,0,none⟩) (ab_ hn360_0) (.string ((rd_T76 l0 x17_1).f0))).trans hx360_2;replace hx360_3:=(cell_far (p:=⟨gb359,0,none⟩) (ab_ hn360_0) (.string ((rd_T76 l0 x17_1).f0))).trans hx360_3;replace hx360_4:=(cell_far (p:=⟨gb359,0,none⟩) (ab_ hn360_0) (.string ((rd_T76 l0 x17_1).f0))).trans hx360_4;replace hx360_5:=(cell_far (p:=⟨gb359,0,none⟩) (ab_ hn360_0) (.string ((rd_T76 l0 x17_1).f0))).trans hx360_5;replace hx360_0:=(cell_far (p:=⟨gb359,1,none⟩) (ab_ hn360_1) (.string ((rd_T76 l0 x17_1).f1))).trans hx360_0;replace hx360_1:=(cell_far (p:=⟨gb359,1,none⟩) (ab_ hn360_1) (.string ((rd_T76 l0 x17_1).f1))).trans hx360_1;replace hx360_2:=(cell_far (p:=⟨gb359,1,none⟩) (ab_ hn360_1) (.string ((rd_T76 l0 x17_1).f1))).trans hx360_2;replace hx360_3:=(cell_far (p:=⟨gb359,1,none⟩) (ab_ hn360_1) (.string ((rd_T76 l0 x17_1).f1))).trans hx360_3;replace hx360_4:=(cell_far (p:=⟨gb359,1,none⟩) (ab_ hn360_1) (.string ((rd_T76 l0 x17_1).f1))).trans hx360_4;replace hx360_5:=(cell_far (p:=⟨gb359,1,none⟩) (ab_ hn360_1) (.string ((rd_T76 l0 x17_1).f1))).trans hx360_5;replace hx360_0:=(cell_far (p:=⟨gb359,2,none⟩) (ab_ hn360_2) (.slice A358_2 ((rd_T76 l0 x17_1).f2).length c358_2)).trans hx360_0;replace hx360_1:=(cell_far (p:=⟨gb359,2,none⟩) (ab_ hn360_2) (.slice A358_2 ((rd_T76 l0 x17_1).f2).length c358_2)).trans hx360_1;replace hx360_2:=(cell_far (p:=⟨gb359,2,none⟩) (ab_ hn360_2) (.slice A358_2 ((rd_T76 l0 x17_1).f2).length c358_2)).trans hx360_2;replace hx360_3:=(cell_far (p:=⟨gb359,2,none⟩) (ab_ hn360_2) (.slice A358_2 ((rd_T76 l0 x17_1).f2).length c358_2)).trans hx360_3;replace hx360_4:=(cell_far (p:=⟨gb359,2,none⟩) (ab_ hn360_2) (.slice A358_2 ((rd_T76 l0 x17_1).f2).length c358_2)).trans hx360_4;replace hx360_5:=(cell_far (p:=⟨gb359,2,none⟩) (ab_ hn360_2) (.slice A358_2 ((rd_T76 l0 x17_1).f2).length c358_2)).trans hx360_5;replace hx360_0:=(cell_far (p:=⟨gb359,3,none⟩) (ab_ hn360_3) (.slice A358_3 ((rd_T76 l0 x17_1).f3).length c358_3)).trans hx360_0;replace hx360_1:=(cell_far (p:=⟨gb359,3,none⟩) (ab_ hn360_3) (.slice A358_3 ((rd_T76 l0 x17_1).f3).length c358_3)).trans hx360_1;replace hx360_2:=(cell_far (p:=⟨gb359,3,none⟩) (ab_ hn360_3) (.slice A358_3 ((rd_T76 l0 x17_1).f3).length c358_3)).trans hx360_2;replace hx360_3:=(cell_far (p:=⟨gb359,3,none⟩) (ab_ hn360_3) (.slice A358_3 ((rd_T76 l0 x17_1).f3).length c358_3)).trans hx360_3;replace hx360_4:=(cell_far (p:=⟨gb359,3,none⟩) (ab_ hn360_3) (.slice A358_3 ((rd_T76 l0 x17_1).f3).length c358_3)).trans hx360_4;replace hx360_5:=(cell_far (p:=⟨gb359,3,none⟩) (ab_ hn360_3) (.slice A358_3 ((rd_T76 l0 x17_1).f3).length c358_3)).trans hx360_5;replace hx360_0:=(cell_far (p:=⟨gb359,4,none⟩) (ab_ hn360_4) (.slice A358_4 ((rd_T76 l0 x17_1).f4).length c358_4)).trans hx360_0;replace hx360_1:=(cell_far (p:=⟨gb359,4,none⟩) (ab_ hn360_4) (.slice A358_4 ((rd_T76 l0 x17_1).f4).length c358_4)).trans hx360_1;replace hx360_2:=(cell_far (p:=⟨gb359,4,none⟩) (ab_ hn360_4) (.slice A358_4 ((rd_T76 l0 x17_1).f4).length c358_4)).trans hx360_2;replace hx360_3:=(cell_far (p:=⟨gb359,4,none⟩) (ab_ hn360_4) (.slice A358_4 ((rd_T76 l0 x17_1).f4).length c358_4)).trans hx360_3;replace hx360_4:=(cell_far (p:=⟨gb359,4,none⟩) (ab_ hn360_4) (.slice A358_4 ((rd_T76 l0 x17_1).f4).length c358_4)).trans hx360_4;replace hx360_5:=(cell_far (p:=⟨gb359,4,none⟩) (ab_ hn360_4) (.slice A358_4 ((rd_T76 l0 x17_1).f4).length c358_4)).trans hx360_5;replace hx360_0:=(cell_far (p:=⟨gb359,5,none⟩) (ab_ hn360_5) (.int .i64 ((rd_T76 l0 x17_1).f5))).trans hx360_0;replace hx360_1:=(cell_far (p:=⟨gb359,5,none⟩) (ab_ hn360_5) (.int .i64 ((rd_T76 l0 x17_1).f5))).trans hx360_1;replace hx360_2:=(cell_far (p:=⟨gb359,5,none⟩) (ab_ hn360_5) (.int .i64 ((rd_T76 l0 x17_1).f5))).trans hx360_2;replace hx360_3:=(cell_far (p:=⟨gb359,5,none⟩) (ab_ hn360_5) (.int .i64 ((rd_T76 l0 x17_1).f5))).trans hx360_3;replace hx360_4:=(cell_far (p:=⟨gb359,5,none⟩) (ab_ hn360_5) (.int .i64 ((rd_T76 l0 x17_1).f5))).trans hx360_4;replace hx360_5:=(cell_far (p:=⟨gb359,5,none⟩) (ab_ hn360_5) (.int .i64 ((rd_T76 l0 x17_1).f5))).trans hx360_5;clear hn360_0;clear hn360_1;clear hn360_2;clear hn360_3;clear hn360_4;clear hn360_5;replace p360:=eq_true p360;replace q360:=eq_true q360)|((with_reducible refine gate_dst (N:=9) rfl ?_);refine box_event ?hg (N:=9) ?hd (cs:=#[.string (⟨#[]⟩:ByteArray),.string (⟨#[]⟩:ByteArray),.slice none 0 0,.slice none 0 0,.slice none 0 0,.int .i64 0]) (t:=76) ?hr ?_;(case hd=>rfl);(case hg=>rfl);(case hr=>first|(go_simp;done)|(go_simp;rfl));intro gb361 hg w20 hbox hb;have n0_:=Aside0.mk (blk_below (g:=gb359) (o:=.cells #[.string ((rd_T76 l0 x17_1).f0),.string ((rd_T76 l0 x17_1).f1),.slice A358_2 ((rd_T76 l0 x17_1).f2).length c358_2,.slice A358_3 ((rd_T76 l0 x17_1).f3).length c358_3,.slice A358_4 ((rd_T76 l0 x17_1).f4).length c358_4,.int .i64 ((rd_T76 l0 x17_1).f5)] 76 (0,0)) (kbc_ BK359.out) hb);have n1_:=Aside0.mk (below_step (bl_ HB.out) hb);have n2_:=Aside0.mk (hbox);have n3_:=Aside0.mk ((gs_ hg (bl_ HB.out):w.heap.size≤gb361));have n4_:=Aside0.mk ((gs_ hg (bl_ HB.out):w.heap.size≤gb361));have n5_:=Aside0.mk ((by rw [hg];exact Nat.ne_of_lt (blk_lt (g:=gb359) (o:=.cells #[.string ((rd_T76 l0 x17_1).f0),.string ((rd_T76 l0 x17_1).f1),.slice A358_2 ((rd_T76 l0 x17_1).f2).length c358_2,.slice A358_3 ((rd_T76 l0 x17_1).f3).length c358_3,.slice A358_4 ((rd_T76 l0 x17_1).f4).length c358_4,.int .i64 ((rd_T76 l0 x17_1).f5)] 76 (0,0)) (kbc_ BK359.out)):gb359≠gb361));have n6_:=Aside0.mk ((by rw [hg];exact Nat.ne_of_gt (blk_lt (g:=gb359) (o:=.cells #[.string ((rd_T76 l0 x17_1).f0),.string ((rd_T76 l0 x17_1).f1),.slice A358_2 ((rd_T76 l0 x17_1).f2).length c358_2,.slice A358_3 ((rd_T76 l0 x17_1).f3).length c358_3,.slice A358_4 ((rd_T76 l0 x17_1).f4).length c358_4,.int .i64 ((rd_T76 l0 x17_1).f5)] 76 (0,0)) (kbc_ BK359.out)):gb361≠gb359));clear BK359;clear HB;have BK359:=n0_;have HB:=n1_;have BK361:=n2_;have GW361:=n3_;have GE361:=n4_;have NB359_361:=n5_;have NB361_359:=n6_;clear n0_ n1_ n2_ n3_ n4_ n5_ n6_;clear hb hbox hg;have hnb21:=NB361_359.out;have hnc21:=NB359_361.out;have hcz22_0:w20.cell? ⟨gb361,0,none⟩=some (.string (⟨#[]⟩:ByteArray)):=zc_ BK361.out 0;have hcz22_1:w20.cell? ⟨gb361,1,none⟩=some (.string (⟨#[]⟩:ByteArray)):=zc_ BK361.out 1;have hcz22_2:w20.cell? ⟨gb361,2,none⟩=some (.slice none 0 0):=zc_ BK361.out 2;have hcz22_3:w20.cell? ⟨gb361,3,none⟩=some (.slice none 0 0):=zc_ BK361.out 3;have hcz22_4:w20.cell? ⟨gb361,4,none⟩=some (.slice none 0 0):=zc_ BK361.out 4;have hcz22_5:w20.cell? ⟨gb361,5,none⟩=some (.int .i64 0):=zc_ BK361.out 5;have hfz22_0:=blk_frozen BK361.out 0;have hfz22_1:=blk_frozen BK361.out 1;have hfz22_2:=blk_frozen BK361.out 2;have hfz22_3:=blk_frozen BK361.out 3;have hfz22_4:=blk_frozen BK361.out 4;have hfz22_5:=blk_frozen BK361.out 5;have hcz23_0:w20.cell? ⟨gb359,0,none⟩=some (.string ((rd_T76 l0 x17_1).f0)):=zc_ BK359.out 0;have hcz23_1:w20.cell? ⟨gb359,1,none⟩=some (.string ((rd_T76 l0 x17_1).f1)):=zc_ BK359.out 1;have hcz23_2:w20.cell? ⟨gb359,2,none⟩=some (.slice A358_2 ((rd_T76 l0 x17_1).f2).length c358_2):=zc_ BK359.out 2;have hcz23_3:w20.cell? ⟨gb359,3,none⟩=some (.slice A358_3 ((rd_T76 l0 x17_1).f3).length c358_3):=zc_ BK359.out 3;have hcz23_4:w20.cell? ⟨gb359,4,none⟩=some (.slice A358_4 ((rd_T76 l0 x17_1).f4).length c358_4):=zc_ BK359.out 4;have hcz23_5:w20.cell? ⟨gb359,5,none⟩=some (.int .i64 ((rd_T76 l0 x17_1).f5)):=zc_ BK359.out 5;have hfz23_0:=blk_frozen BK359.out 0;have hfz23_1:=blk_frozen BK359.out 1;have hfz23_2:=blk_frozen BK359.out 2;have hfz23_3:=blk_frozen BK359.out 3;have hfz23_4:=blk_frozen BK359.out 4;have hfz23_5:=blk_frozen BK359.out 5)|((with_reducible refine (ih48 k1 (by have:=HK1.out;omega) ((rd_T76 l0 x17_1).f0) ((rd_T76 l0 x17_1).f1) _ _ ((rd_T76 l0 x17_1).f2) _ _ ((rd_T76 l0 x17_1).f3) _ _ ((rd_T76 l0 x17_1).f4) ((rd_T76 l0 x17_1).f5) ((rd_T76 l1 x17_1).f0) ((rd_T76 l1 x17_1).f1) _ _ ((rd_T76 l1 x17_1).f2) _ _ ((rd_T76 l1 x17_1).f3) _ _ ((rd_T76 l1 x17_1).f4) ((rd_T76 l1 x17_1).f5) false _ ?side1 ?side2 ?side3 ?side4 ?side5 ?side6 ?side7 ?side8 ?side9 ?side10 ?side11 ?side12 A9.out).mono ?_);(case side1=>exact Kd.C_below HR358_2.out (bl_ HB.out));(case side2=>exact HC358_2.out);(case side3=>exact Kd.C_below HR358_3.out (bl_ HB.out));(case side4=>exact HC358_3.out);(case side5=>exact Kd.C_below HR358_4.out (bl_ HB.out));(case side6=>exact HC358_4.out);(case side7=>exact Kd.C_below HR360_2.out (bl_ HB.out));(case side8=>exact HC360_2.out);(case side9=>exact Kd.C_below HR360_3.out (bl_ HB.out));(case side10=>exact HC360_3.out);(case side11=>exact Kd.C_below HR360_4.out (bl_ HB.out));(case side12=>exact HC360_4.out);rintro e w24 ⟨rfl,hb⟩;have n0_:=Aside0.mk (blk_below (g:=gb359) (o:=.cells #[.string ((rd_T76 l0 x17_1).f0),.string ((rd_T76 l0 x17_1).f1),.slice A358_2 ((rd_T76 l0 x17_1).f2).length c358_2,.slice A358_3 ((rd_T76 l0 x17_1).f3).length c358_3,.slice A358_4 ((rd_T76 l0 x17_1).f4).length c358_4,.int .i64 ((rd_T76 l0 x17_1).f5)] 76 (0,0)) (kbc_ BK359.out) hb);have n1_:=Aside0.mk (blk_below (g:=gb361) (o:=.cells #[.string ((rd_T76 l1 x17_1).f0),.string ((rd_T76 l1 x17_1).f1),.slice A360_2 ((rd_T76 l1 x17_1).f2).length c360_2,.slice A360_3 ((rd_T76 l1 x17_1).f3).length c360_3,.slice A360_4 ((rd_T76 l1 x17_1).f4).length c360_4,.int .i64 ((rd_T76 l1 x17_1).f5)] 76 (0,0)) (kbc_ BK361.out) hb);have n2_:=Aside0.mk (below_step (bl_ HB.out) hb);clear BK359;clear BK361;clear HB;have BK359:=n0_;have BK361:=n1_;have HB:=n2_;clear n0_ n1_ n2_;(try clear hb);(try clear hb2);(try clear hk);(try clear hi)))
         go_ret
         exact ⟨rt_,bl_ HB.out⟩
       ·rw [if_neg c8] at H
        exact absurd H (by simp)
      ·rw [if_neg c7] at H
       exact absurd H (by simp)
     ·rw [if_neg c6] at H
      exact absurd H (by simp)
    ·rw [if_neg c5] at H
     have c5b0:decide (x17_1 < (l0.length:Int))=false:=decide_eq_false c5
     clear c5
     obtain rfl:=Option.some.inj H
     go_wp2
     go_ret
     exact ⟨rt_,bl_ HB.out⟩
 ·rw [if_neg c4] at H
  have c4b0:((l0.length:Int) == (l1.length:Int))=false:=beq_eq_false_iff_ne.mpr c4
  have c4b1:((l0.length:Int) != (l1.length:Int))=true:=bne_iff_ne.mpr c4
  have c4b2:(l0.length == l1.length)=false:=by first|simpa using c4|(simp at c4 ⊢;omega)
  obtain rfl:=Option.some.inj H
  go_enter Tryd.func47,Tryd.ntmps47
  go_wp2
  go_ret
  exact ⟨rt_,bl_ HB.out⟩
end Go.Proofs.YtnnbbeloifhofaaDoor.P
end
section
namespace Go.Proofs.YtnnbbeloifhofaaDoor.P
open Go.RowKit Go.Proofs.YtnnbbeloifhofaaDoorW.PrintWords Go.Proofs.YtnnbbeloifhofaaDoorW.PrintLast Go.Proofs.YtnnbbeloifhofaaDoorW.PrintMore
attribute [local go_sem] max2_int min2_int max_two min_two max_three min_three max_four min_four
set_option linter.unusedVariables false
set_option linter.unusedSimpArgs false
set_option maxHeartbeats 8000000 in
set_option maxRecDepth 100000 in
theorem tree_SameExpr.step (k:Nat) (ih26 : ∀ m_,m_ < k→tree_SameExpr.Stmt m_) (ih43 : ∀ m_,m_ < k→tree_Expr_at_tree_SameExpr.Stmt m_):tree_SameExpr.Stmt k:=by
 intro a0_0 a0_1 a0_2 A0_3 c0_3 l0_3 a0_4 a1_0 a1_1 a1_2 A1_3 c1_3 l1_3 a1_4 r w hr0_3 hc0_3 hr1_3 hc1_3 h
 cases k with
 | zero=>exact absurd h (by simp [tree_SameExpr.f])
 | succ k=>
 simp only [tree_SameExpr.f] at h
 have hu33:=Tryd.underlying33
 have HR0_3:=Aside0.mk hr0_3
 have HC0_3:=Aside0.mk hc0_3
 clear hr0_3 hc0_3
 have HR1_3:=Aside0.mk hr1_3
 have HC1_3:=Aside0.mk hc1_3
 clear hr1_3 hc1_3
 have HB:=Aside0.mk (Below.refl w.heap.size w)
 have H:(if a0_0.toList=a1_0.toList then (if a0_1.toList=a1_1.toList then (if a0_2=a1_2 then ((tree_Expr_at_tree_SameExpr.f k l0_3 l1_3).bind fun t340=>(some t340)) else (some false)) else (some false)) else (some false))=some r:=h
 clear h
 by_cases c3:a0_0.toList=a1_0.toList
 ·rw [if_pos c3] at H
  have c3b0:(a0_0.toList == a1_0.toList)=true:=beq_iff_eq.mpr c3
  have c3b1:(a0_0.toList != a1_0.toList)=false:=bne_eq_false_iff_eq.mpr c3
  clear c3
  by_cases c4:a0_1.toList=a1_1.toList
  ·rw [if_pos c4] at H
   have c4b0:(a0_1.toList == a1_1.toList)=true:=beq_iff_eq.mpr c4
   have c4b1:(a0_1.toList != a1_1.toList)=false:=bne_eq_false_iff_eq.mpr c4
   clear c4
   by_cases c5:a0_2=a1_2
   ·rw [if_pos c5] at H
    have c5b0:(a0_2 == a1_2)=true:=beq_iff_eq.mpr c5
    have c5b1:(a0_2 != a1_2)=false:=bne_eq_false_iff_eq.mpr c5
    clear c5
    replace H:=Option.bind_eq_some_iff.mp H
    obtain ⟨t340,A60,H⟩:=H
    replace H:(some t340)=some r:=H
    have A6:=Aside0.mk A60
    clear A60
    obtain rfl:=Option.some.inj H
    go_enter Tryd.func26,Tryd.ntmps26
    go_wp2_with (first|((with_reducible refine gate_dst (N:=2) rfl ?_);refine box_event ?hg (N:=2) ?hd (cs:=#[.string a0_0,.string a0_1,.int .i64 a0_2,.slice A0_3 l0_3.length c0_3,.int .i64 a0_4]) (t:=33) ?hr ?_;(case hd=>rfl);(case hg=>rfl);(case hr=>first|(go_simp;done)|(go_simp;rfl));intro gb338 hg w7 hbox hb;have n0_:=Aside0.mk (below_step (bl_ HB.out) hb);have n1_:=Aside0.mk (hbox);have n2_:=Aside0.mk ((gs_ hg (bl_ HB.out):w.heap.size≤gb338));have n3_:=Aside0.mk ((gs_ hg (bl_ HB.out):w.heap.size≤gb338));clear HB;have HB:=n0_;have BK338:=n1_;have GW338:=n2_;have GE338:=n3_;clear n0_ n1_ n2_ n3_;clear hb hbox hg)|((with_reducible refine gate_dst (N:=3) rfl ?_);refine box_event ?hg (N:=3) ?hd (cs:=#[.string a1_0,.string a1_1,.int .i64 a1_2,.slice A1_3 l1_3.length c1_3,.int .i64 a1_4]) (t:=33) ?hr ?_;(case hd=>rfl);(case hg=>rfl);(case hr=>first|(go_simp;done)|(go_simp;rfl));intro gb339 hg w8 hbox hb;have n0_:=Aside0.mk (bb_ BK338.out hb);have n1_:=Aside0.mk (below_step (bl_ HB.out) hb);have n2_:=Aside0.mk (hbox);have n3_:=Aside0.mk ((gs_ hg (bl_ HB.out):w.heap.size≤gb339));have n4_:=Aside0.mk ((gs_ hg (bl_ HB.out):w.heap.size≤gb339));have n5_:=Aside0.mk ((nl_ hg BK338.out:gb338≠gb339));have n6_:=Aside0.mk ((nr_ hg BK338.out:gb339≠gb338));clear BK338;clear HB;have BK338:=n0_;have HB:=n1_;have BK339:=n2_;have GW339:=n3_;have GE339:=n4_;have NB338_339:=n5_;have NB339_338:=n6_;clear n0_ n1_ n2_ n3_ n4_ n5_ n6_;clear hb hbox hg;have hnb9:=NB338_339.out;have hnc9:=NB339_338.out;have hcz10_0:w8.cell? ⟨gb338,0,none⟩=some (.string a0_0):=zc_ BK338.out 0;have hcz10_1:w8.cell? ⟨gb338,1,none⟩=some (.string a0_1):=zc_ BK338.out 1;have hcz10_2:w8.cell? ⟨gb338,2,none⟩=some (.int .i64 a0_2):=zc_ BK338.out 2;have hcz10_3:w8.cell? ⟨gb338,3,none⟩=some (.slice A0_3 l0_3.length c0_3):=zc_ BK338.out 3;have hcz10_4:w8.cell? ⟨gb338,4,none⟩=some (.int .i64 a0_4):=zc_ BK338.out 4;have hfz10_0:=blk_frozen BK338.out 0;have hfz10_1:=blk_frozen BK338.out 1;have hfz10_2:=blk_frozen BK338.out 2;have hfz10_3:=blk_frozen BK338.out 3;have hfz10_4:=blk_frozen BK338.out 4;have hcz11_0:w8.cell? ⟨gb339,0,none⟩=some (.string a1_0):=zc_ BK339.out 0;have hcz11_1:w8.cell? ⟨gb339,1,none⟩=some (.string a1_1):=zc_ BK339.out 1;have hcz11_2:w8.cell? ⟨gb339,2,none⟩=some (.int .i64 a1_2):=zc_ BK339.out 2;have hcz11_3:w8.cell? ⟨gb339,3,none⟩=some (.slice A1_3 l1_3.length c1_3):=zc_ BK339.out 3;have hcz11_4:w8.cell? ⟨gb339,4,none⟩=some (.int .i64 a1_4):=zc_ BK339.out 4;have hfz11_0:=blk_frozen BK339.out 0;have hfz11_1:=blk_frozen BK339.out 1;have hfz11_2:=blk_frozen BK339.out 2;have hfz11_3:=blk_frozen BK339.out 3;have hfz11_4:=blk_frozen BK339.out 4)|(go_at_call 43;(with_reducible refine (ih43 k (by omega) _ _ l0_3 _ _ l1_3 t340 _ ?side1 ?side2 ?side3 ?side4 A6.out).mono ?_);(case side1=>exact kc_ HR0_3.out HB.out);(case side2=>exact HC0_3.out);(case side3=>exact kc_ HR1_3.out HB.out);(case side4=>exact HC1_3.out);rintro e w12 ⟨rfl,hb⟩;have n0_:=Aside0.mk (bb_ BK338.out hb);have n1_:=Aside0.mk (bb_ BK339.out hb);have n2_:=Aside0.mk (below_step (bl_ HB.out) hb);clear BK338;clear BK339;clear HB;have BK338:=n0_;have BK339:=n1_;have HB:=n2_;clear n0_ n1_ n2_;(try clear hb);(try clear hb2);(try clear hk);(try clear hi)))
    go_ret
    exact ⟨rt_,bl_ HB.out⟩
   ·rw [if_neg c5] at H
    have c5b0:(a0_2 == a1_2)=false:=beq_eq_false_iff_ne.mpr c5
    have c5b1:(a0_2 != a1_2)=true:=bne_iff_ne.mpr c5
    obtain rfl:=Option.some.inj H
    go_enter Tryd.func26,Tryd.ntmps26
    go_wp2_with (first|((with_reducible refine gate_dst (N:=2) rfl ?_);refine box_event ?hg (N:=2) ?hd (cs:=#[.string a0_0,.string a0_1,.int .i64 a0_2,.slice A0_3 l0_3.length c0_3,.int .i64 a0_4]) (t:=33) ?hr ?_;(case hd=>rfl);(case hg=>rfl);(case hr=>first|(go_simp;done)|(go_simp;rfl));intro gb338 hg w13 hbox hb;have n0_:=Aside0.mk (below_step (bl_ HB.out) hb);have n1_:=Aside0.mk (hbox);have n2_:=Aside0.mk ((gs_ hg (bl_ HB.out):w.heap.size≤gb338));have n3_:=Aside0.mk ((gs_ hg (bl_ HB.out):w.heap.size≤gb338));clear HB;have HB:=n0_;have BK338:=n1_;have GW338:=n2_;have GE338:=n3_;clear n0_ n1_ n2_ n3_;clear hb hbox hg)|((with_reducible refine gate_dst (N:=3) rfl ?_);refine box_event ?hg (N:=3) ?hd (cs:=#[.string a1_0,.string a1_1,.int .i64 a1_2,.slice A1_3 l1_3.length c1_3,.int .i64 a1_4]) (t:=33) ?hr ?_;(case hd=>rfl);(case hg=>rfl);(case hr=>first|(go_simp;done)|(go_simp;rfl));intro gb339 hg w14 hbox hb;have n0_:=Aside0.mk (bb_ BK338.out hb);have n1_:=Aside0.mk (below_step (bl_ HB.out) hb);have n2_:=Aside0.mk (hbox);have n3_:=Aside0.mk ((gs_ hg (bl_ HB.out):w.heap.size≤gb339));have n4_:=Aside0.mk ((gs_ hg (bl_ HB.out):w.heap.size≤gb339));have n5_:=Aside0.mk ((nl_ hg BK338.out:gb338≠gb339));have n6_:=Aside0.mk ((nr_ hg BK338.out:gb339≠gb338));clear BK338;clear HB;have BK338:=n0_;have HB:=n1_;have BK339:=n2_;have GW339:=n3_;have GE339:=n4_;have NB338_339:=n5_;have NB339_338:=n6_;clear n0_ n1_ n2_ n3_ n4_ n5_ n6_;clear hb hbox hg;have hnb15:=NB338_339.out;have hnc15:=NB339_338.out;have hcz16_0:w14.cell? ⟨gb338,0,none⟩=some (.string a0_0):=zc_ BK338.out 0;have hcz16_1:w14.cell? ⟨gb338,1,none⟩=some (.string a0_1):=zc_ BK338.out 1;have hcz16_2:w14.cell? ⟨gb338,2,none⟩=some (.int .i64 a0_2):=zc_ BK338.out 2;have hcz16_3:w14.cell? ⟨gb338,3,none⟩=some (.slice A0_3 l0_3.length c0_3):=zc_ BK338.out 3;have hcz16_4:w14.cell? ⟨gb338,4,none⟩=some (.int .i64 a0_4):=zc_ BK338.out 4;have hfz16_0:=blk_frozen BK338.out 0;have hfz16_1:=blk_frozen BK338.out 1;have hfz16_2:=blk_frozen BK338.out 2;have hfz16_3:=blk_frozen BK338.out 3;have hfz16_4:=blk_frozen BK338.out 4;have hcz17_0:w14.cell? ⟨gb339,0,none⟩=some (.string a1_0):=zc_ BK339.out 0;have hcz17_1:w14.cell? ⟨gb339,1,none⟩=some (.string a1_1):=zc_ BK339.out 1;have hcz17_2:w14.cell? ⟨gb339,2,none⟩=some (.int .i64 a1_2):=zc_ BK339.out 2;have hcz17_3:w14.cell? ⟨gb339,3,none⟩=some (.slice A1_3 l1_3.length c1_3):=zc_ BK339.out 3;have hcz17_4:w14.cell? ⟨gb339,4,none⟩=some (.int .i64 a1_4):=zc_ BK339.out 4;have hfz17_0:=blk_frozen BK339.out 0;have hfz17_1:=blk_frozen BK339.out 1;have hfz17_2:=blk_frozen BK339.out 2;have hfz17_3:=blk_frozen BK339.out 3;have hfz17_4:=blk_frozen BK339.out 4))
    go_ret
    exact ⟨rt_,bl_ HB.out⟩
  ·rw [if_neg c4] at H
   have c4b0:(a0_1.toList == a1_1.toList)=false:=beq_eq_false_iff_ne.mpr c4
   have c4b1:(a0_1.toList != a1_1.toList)=true:=bne_iff_ne.mpr c4
   obtain rfl:=Option.some.inj H
   go_enter Tryd.func26,Tryd.ntmps26
   go_wp2_with (first|((with_reducible refine gate_dst (N:=2) rfl ?_);refine box_event ?hg (N:=2) ?hd (cs:=#[.string a0_0,.string a0_1,.int .i64 a0_2,.slice A0_3 l0_3.length c0_3,.int .i64 a0_4]) (t:=33) ?hr ?_;(case hd=>rfl);(case hg=>rfl);(case hr=>first|(go_simp;done)|(go_simp;rfl));intro gb338 hg w18 hbox hb;have n0_:=Aside0.mk (below_step (bl_ HB.out) hb);have n1_:=Aside0.mk (hbox);have n2_:=Aside0.mk ((gs_ hg (bl_ HB.out):w.heap.size≤gb338));have n3_:=Aside0.mk ((gs_ hg (bl_ HB.out):w.heap.size≤gb338));clear HB;have HB:=n0_;have BK338:=n1_;have GW338:=n2_;have GE338:=n3_;clear n0_ n1_ n2_ n3_;clear hb hbox hg)|((with_reducible refine gate_dst (N:=3) rfl ?_);refine box_event ?hg (N:=3) ?hd (cs:=#[.string a1_0,.string a1_1,.int .i64 a1_2,.slice A1_3 l1_3.length c1_3,.int .i64 a1_4]) (t:=33) ?hr ?_;(case hd=>rfl);(case hg=>rfl);(case hr=>first|(go_simp;done)|(go_simp;rfl));intro gb339 hg w19 hbox hb;have n0_:=Aside0.mk (bb_ BK338.out hb);have n1_:=Aside0.mk (below_step (bl_ HB.out) hb);have n2_:=Aside0.mk (hbox);have n3_:=Aside0.mk ((gs_ hg (bl_ HB.out):w.heap.size≤gb339));have n4_:=Aside0.mk ((gs_ hg (bl_ HB.out):w.heap.size≤gb339));have n5_:=Aside0.mk ((nl_ hg BK338.out:gb338≠gb339));have n6_:=Aside0.mk ((nr_ hg BK338.out:gb339≠gb338));clear BK338;clear HB;have BK338:=n0_;have HB:=n1_;have BK339:=n2_;have GW339:=n3_;have GE339:=n4_;have NB338_339:=n5_;have NB339_338:=n6_;clear n0_ n1_ n2_ n3_ n4_ n5_ n6_;clear hb hbox hg;have hnb20:=NB338_339.out;have hnc20:=NB339_338.out;have hcz21_0:w19.cell? ⟨gb338,0,none⟩=some (.string a0_0):=zc_ BK338.out 0;have hcz21_1:w19.cell? ⟨gb338,1,none⟩=some (.string a0_1):=zc_ BK338.out 1;have hcz21_2:w19.cell? ⟨gb338,2,none⟩=some (.int .i64 a0_2):=zc_ BK338.out 2;have hcz21_3:w19.cell? ⟨gb338,3,none⟩=some (.slice A0_3 l0_3.length c0_3):=zc_ BK338.out 3;have hcz21_4:w19.cell? ⟨gb338,4,none⟩=some (.int .i64 a0_4):=zc_ BK338.out 4;have hfz21_0:=blk_frozen BK338.out 0;have hfz21_1:=blk_frozen BK338.out 1;have hfz21_2:=blk_frozen BK338.out 2;have hfz21_3:=blk_frozen BK338.out 3;have hfz21_4:=blk_frozen BK338.out 4;have hcz22_0:w19.cell? ⟨gb339,0,none⟩=some (.string a1_0):=zc_ BK339.out 0;have hcz22_1:w19.cell? ⟨gb339,1,none⟩=some (.string a1_1):=zc_ BK339.out 1;have hcz22_2:w19.cell? ⟨gb339,2,none⟩=some (.int .i64 a1_2):=zc_ BK339.out 2;have hcz22_3:w19.cell? ⟨gb339,3,none⟩=some (.slice A1_3 l1_3.length c1_3):=zc_ BK339.out 3;have hcz22_4:w19.cell? ⟨gb339,4,none⟩=some (.int .i64 a1_4):=zc_ BK339.out 4;have hfz22_0:=blk_frozen BK339.out 0;have hfz22_1:=blk_frozen BK339.out 1;have hfz22_2:=blk_frozen BK339.out 2;have hfz22_3:=blk_frozen BK339.out 3;have hfz22_4:=blk_frozen BK339.out 4))
   go_ret
   exact ⟨rt_,bl_ HB.out⟩
 ·rw [if_neg c3] at H
  have c3b0:(a0_0.toList == a1_0.toList)=false:=beq_eq_false_iff_ne.mpr c3
  have c3b1:(a0_0.toList != a1_0.toList)=true:=bne_iff_ne.mpr c3
  obtain rfl:=Option.some.inj H
  go_enter Tryd.func26,Tryd.ntmps26
  go_wp2_with (first|((with_reducible refine gate_dst (N:=2) rfl ?_);refine box_event ?hg (N:=2) ?hd (cs:=#[.string a0_0,.string a0_1,.int .i64 a0_2,.slice A0_3 l0_3.length c0_3,.int .i64 a0_4]) (t:=33) ?hr ?_;(case hd=>rfl);(case hg=>rfl);(case hr=>first|(go_simp;done)|(go_simp;rfl));intro gb338 hg w23 hbox hb;have n0_:=Aside0.mk (below_step (bl_ HB.out) hb);have n1_:=Aside0.mk (hbox);have n2_:=Aside0.mk ((gs_ hg (bl_ HB.out):w.heap.size≤gb338));have n3_:=Aside0.mk ((gs_ hg (bl_ HB.out):w.heap.size≤gb338));clear HB;have HB:=n0_;have BK338:=n1_;have GW338:=n2_;have GE338:=n3_;clear n0_ n1_ n2_ n3_;clear hb hbox hg)|((with_reducible refine gate_dst (N:=3) rfl ?_);refine box_event ?hg (N:=3) ?hd (cs:=#[.string a1_0,.string a1_1,.int .i64 a1_2,.slice A1_3 l1_3.length c1_3,.int .i64 a1_4]) (t:=33) ?hr ?_;(case hd=>rfl);(case hg=>rfl);(case hr=>first|(go_simp;done)|(go_simp;rfl));intro gb339 hg w24 hbox hb;have n0_:=Aside0.mk (bb_ BK338.out hb);have n1_:=Aside0.mk (below_step (bl_ HB.out) hb);have n2_:=Aside0.mk (hbox);have n3_:=Aside0.mk ((gs_ hg (bl_ HB.out):w.heap.size≤gb339));have n4_:=Aside0.mk ((gs_ hg (bl_ HB.out):w.heap.size≤gb339));have n5_:=Aside0.mk ((nl_ hg BK338.out:gb338≠gb339));have n6_:=Aside0.mk ((nr_ hg BK338.out:gb339≠gb338));clear BK338;clear HB;have BK338:=n0_;have HB:=n1_;have BK339:=n2_;have GW339:=n3_;have GE339:=n4_;have NB338_339:=n5_;have NB339_338:=n6_;clear n0_ n1_ n2_ n3_ n4_ n5_ n6_;clear hb hbox hg;have hnb25:=NB338_339.out;have hnc25:=NB339_338.out;have hcz26_0:w24.cell? ⟨gb338,0,none⟩=some (.string a0_0):=zc_ BK338.out 0;have hcz26_1:w24.cell? ⟨gb338,1,none⟩=some (.string a0_1):=zc_ BK338.out 1;have hcz26_2:w24.cell? ⟨gb338,2,none⟩=some (.int .i64 a0_2):=zc_ BK338.out 2;have hcz26_3:w24.cell? ⟨gb338,3,none⟩=some (.slice A0_3 l0_3.length c0_3):=zc_ BK338.out 3;have hcz26_4:w24.cell? ⟨gb338,4,none⟩=some (.int .i64 a0_4):=zc_ BK338.out 4;have hfz26_0:=blk_frozen BK338.out 0;have hfz26_1:=blk_frozen BK338.out 1;have hfz26_2:=blk_frozen BK338.out 2;have hfz26_3:=blk_frozen BK338.out 3;have hfz26_4:=blk_frozen BK338.out 4;have hcz27_0:w24.cell? ⟨gb339,0,none⟩=some (.string a1_0):=zc_ BK339.out 0;have hcz27_1:w24.cell? ⟨gb339,1,none⟩=some (.string a1_1):=zc_ BK339.out 1;have hcz27_2:w24.cell? ⟨gb339,2,none⟩=some (.int .i64 a1_2):=zc_ BK339.out 2;have hcz27_3:w24.cell? ⟨gb339,3,none⟩=some (.slice A1_3 l1_3.length c1_3):=zc_ BK339.out 3;have hcz27_4:w24.cell? ⟨gb339,4,none⟩=some (.int .i64 a1_4):=zc_ BK339.out 4;have hfz27_0:=blk_frozen BK339.out 0;have hfz27_1:=blk_frozen BK339.out 1;have hfz27_2:=blk_frozen BK339.out 2;have hfz27_3:=blk_frozen BK339.out 3;have hfz27_4:=blk_frozen BK339.out 4))
  go_ret
  exact ⟨rt_,bl_ HB.out⟩
end Go.Proofs.YtnnbbeloifhofaaDoor.P
end
section
namespace Go.Proofs.YtnnbbeloifhofaaDoor.P
open Go.RowKit Go.Proofs.YtnnbbeloifhofaaDoorW.PrintWords Go.Proofs.YtnnbbeloifhofaaDoorW.PrintLast Go.Proofs.YtnnbbeloifhofaaDoorW.PrintMore
attribute [local go_sem] max2_int min2_int max_two min_two max_three min_three max_four min_four
set_option linter.unusedVariables false
set_option linter.unusedSimpArgs false
set_option maxHeartbeats 8000000 in
set_option maxRecDepth 100000 in
theorem tree_Expr_at_tree_SameExpr.step (k:Nat) (ih26 : ∀ m_,m_ < k→tree_SameExpr.Stmt m_) (ih43 : ∀ m_,m_ < k→tree_Expr_at_tree_SameExpr.Stmt m_):tree_Expr_at_tree_SameExpr.Stmt k:=by
 intro A0 c0 l0 A1 c1 l1 r w hr0 hc0 hr1 hc1 h
 cases k with
 | zero=>exact absurd h (by simp [tree_Expr_at_tree_SameExpr.f])
 | succ k=>
 simp only [tree_Expr_at_tree_SameExpr.f] at h
 have hu33:=Tryd.underlying33
 have HR0:=Aside0.mk hr0
 have HC0:=Aside0.mk hc0
 clear hr0 hc0
 have HR1:=Aside0.mk hr1
 have HC1:=Aside0.mk hc1
 clear hr1 hc1
 have HB:=Aside0.mk (Below.refl w.heap.size w)
 have H:(if (l0.length:Int)=(l1.length:Int) then (tree_Expr_at_tree_SameExpr.l0 k l1 l0 (l0.length:Int) 0) else (some false))=some r:=h
 clear h
 by_cases c4:(l0.length:Int)=(l1.length:Int)
 ·rw [if_pos c4] at H
  have c4b0:((l0.length:Int) == (l1.length:Int))=true:=beq_iff_eq.mpr c4
  have c4b1:((l0.length:Int) != (l1.length:Int))=false:=bne_eq_false_iff_eq.mpr c4
  have c4b2:(l0.length == l1.length)=true:=by first|simpa using c4|(simp at c4 ⊢;omega)
  clear c4
  have H':=Aside0.mk H
  clear H
  go_enter Tryd.func43,Tryd.ntmps43
  go_wp2
  (try simp only [Act.put,List.setIfInBounds_toArray,List.set_cons_succ,List.set_cons_zero])
  go_loopg [17] k (fun kq v17 w'=>∃ (x17_1:Int),v17=.int .i64 x17_1∧Aside0 (tree_Expr_at_tree_SameExpr.l0 kq l1 l0 (l0.length:Int) x17_1=some r)∧Aside0 (kq≤k)∧Aside0 (Below w.heap.size w w'))
  case atStart=>exact ⟨(0),rf_,H',⟨Nat.le_refl _⟩,⟨bl_ HB.out⟩⟩
  case round=>
   clear H'
   (try clear c1);(try clear p2);(try clear c4);(try clear c4b0);(try clear c4b1);(try clear c4b2)
   obtain ⟨x17_1,rfl,HA,HK1,HB⟩:=hrel
   cases gk with
   | zero=>exact absurd HA.out (by simp [tree_Expr_at_tree_SameExpr.l0])
   | succ k1=>
    have H:=HA.out
    clear HA
    simp only [tree_Expr_at_tree_SameExpr.l0] at H
    by_cases c5:x17_1 < (l0.length:Int)
    ·rw [if_pos c5] at H
     have c5b0:decide (x17_1 < (l0.length:Int))=true:=decide_eq_true c5
     clear c5
     by_cases c6:0≤x17_1
     ·rw [if_pos c6] at H
      have c6b0:decide (0≤x17_1)=true:=decide_eq_true c6
      clear c6
      by_cases c7:x17_1 < (l0.length:Int)
      ·rw [if_pos c7] at H
       have c7b0:decide (x17_1 < (l0.length:Int))=true:=decide_eq_true c7
       clear c7
       by_cases c8:x17_1 < (l1.length:Int)
       ·rw [if_pos c8] at H
        have c8b0:decide (x17_1 < (l1.length:Int))=true:=decide_eq_true c8
        clear c8
        replace H:=Option.bind_eq_some_iff.mp H
        obtain ⟨t345,A90,H⟩:=H
        replace H:(if t345=true then (tree_Expr_at_tree_SameExpr.l0 k1 l1 l0 (l0.length:Int) (wrap64 (x17_1+1))) else (some false))=some r:=H
        have A9:=Aside0.mk A90
        clear A90
        by_cases c10:t345=true
        ·subst c10
         have H1:(tree_Expr_at_tree_SameExpr.l0 k1 l1 l0 (l0.length:Int) (wrap64 (x17_1+1)))=some r:=by rw [if_pos rfl] at H;exact H
         clear H
         have H:=H1
         clear H1
         have H':=Aside0.mk H
         clear H
         have p341:0≤(x17_1:Int):=of_decide_eq_true as_
         have q341:x17_1 < (l0.length:Int):=of_decide_eq_true as_
         obtain ⟨ad341,A341_3,c341_3,e341,hx341_0,hx341_1,hx341_2,hx341_3,hx341_4,hl341_3,hi341_3⟩:=at_T33 HR0.out x17_1 p341 q341
         cases e341
         replace hx341_0:=(cb_ HB.out hx341_0:_)
         replace hx341_1:=(cb_ HB.out hx341_1:_)
         replace hx341_2:=(cb_ HB.out hx341_2:_)
         replace hx341_3:=(cb_ HB.out hx341_3:_)
         replace hx341_4:=(cb_ HB.out hx341_4:_)
         have HR341_3:=Aside0.mk hi341_3
         have HC341_3:=Aside0.mk hl341_3
         clear hi341_3 hl341_3
         replace p341:=eq_true p341
         replace q341:=eq_true q341
         go_wp2_with (first|((with_reducible refine gate_dst (N:=8) rfl ?_);refine box_event ?hg (N:=8) ?hd (cs:=#[.string (⟨#[]⟩:ByteArray),.string (⟨#[]⟩:ByteArray),.int .i64 0,.slice none 0 0,.int .i64 0]) (t:=33) ?hr ?_;(case hd=>rfl);(case hg=>rfl);(case hr=>first|(go_simp;done)|(go_simp;rfl));intro gb342 hg w11 hbox hb;have n0_:=Aside0.mk (below_step (bl_ HB.out) hb);have n1_:=Aside0.mk (hbox);have n2_:=Aside0.mk ((gs_ hg (bl_ HB.out):w.heap.size≤gb342));have n3_:=Aside0.mk ((gs_ hg (bl_ HB.out):w.heap.size≤gb342));clear HB;have HB:=n0_;have BK342:=n1_;have GW342:=n2_;have GE342:=n3_;clear n0_ n1_ n2_ n3_;clear hb hbox hg;have hcz12_0:w11.cell? ⟨gb342,0,none⟩=some (.string (⟨#[]⟩:ByteArray)):=zc_ BK342.out 0;have hcz12_1:w11.cell? ⟨gb342,1,none⟩=some (.string (⟨#[]⟩:ByteArray)):=zc_ BK342.out 1;have hcz12_2:w11.cell? ⟨gb342,2,none⟩=some (.int .i64 0):=zc_ BK342.out 2;have hcz12_3:w11.cell? ⟨gb342,3,none⟩=some (.slice none 0 0):=zc_ BK342.out 3;have hcz12_4:w11.cell? ⟨gb342,4,none⟩=some (.int .i64 0):=zc_ BK342.out 4;have hfz12_0:=blk_frozen BK342.out 0;have hfz12_1:=blk_frozen BK342.out 1;have hfz12_2:=blk_frozen BK342.out 2;have hfz12_3:=blk_frozen BK342.out 3;have hfz12_4:=blk_frozen BK342.out 4;have p343:0≤(x17_1:Int):=of_decide_eq_true as_;have q343:x17_1 < (l1.length:Int):=of_decide_eq_true as_;obtain ⟨ad343,A343_3,c343_3,e343,hx343_0,hx343_1,hx343_2,hx343_3,hx343_4,hl343_3,hi343_3⟩:=at_T33 HR1.out x17_1 p343 q343;cases e343;have hn343_0:ad343.block≠gb342:=Nat.ne_of_lt (Nat.lt_of_lt_of_le (by have:=World.block_lt_of_cell? _ _ hx343_0;first|rwa [add_block] at this|exact this) GW342.out);have hn343_1:ad343.block≠gb342:=Nat.ne_of_lt (Nat.lt_of_lt_of_le (by have:=World.block_lt_of_cell? _ _ hx343_0;first|rwa [add_block] at this|exact this) GW342.out);have hn343_2:ad343.block≠gb342:=Nat.ne_of_lt (Nat.lt_of_lt_of_le (by have:=World.block_lt_of_cell? _ _ hx343_0;first|rwa [add_block] at this|exact this) GW342.out);have hn343_3:ad343.block≠gb342:=Nat.ne_of_lt (Nat.lt_of_lt_of_le (by have:=World.block_lt_of_cell? _ _ hx343_0;first|rwa [add_block] at this|exact this) GW342.out);have hn343_4:ad343.block≠gb342:=Nat.ne_of_lt (Nat.lt_of_lt_of_le (by have:=World.block_lt_of_cell? _ _ hx343_0;first|rwa [add_block] at this|exact this) GW342.out);replace hx343_0:=(cb_ HB.out hx343_0:_);replace hx343_1:=(cb_ HB.out hx343_1:_);replace hx343_2:=(cb_ HB.out hx343_2:_);replace hx343_3:=(cb_ HB.out hx343_3:_);replace hx343_4:=(cb_ HB.out hx343_4:_);have HR343_3:=Aside0.mk hi343_3;have HC343_3:=Aside0.mk hl343_3;clear hi343_3 hl343_3;replace hx343_0:=(cell_far (p:=⟨gb342,0,none⟩) (ab_ hn343_0) (.string ((rd_T33 l0 x17_1).f0))).trans hx343_0;replace hx343_1:=(cell_far (p:=⟨gb342,0,none⟩) (ab_ hn343_0) (.string ((rd_T33 l0 x17_1).f0))).trans hx343_1;replace hx343_2:=(cell_far (p:=⟨gb342,0,none⟩) (ab_ hn343_0) (.string ((rd_T33 l0 x17_1).f0))).trans hx343_2;replace hx343_3:=(cell_far (p:=⟨gb342,0,none⟩) (ab_ hn343_0) (.string ((rd_T33 l0 x17_1).f0))).trans hx343_3;replace hx343_4:=(cell_far (p:=⟨gb342,0,none⟩) (ab_ hn343_0) (.string ((rd_T33 l0 x17_1).f0))).trans hx343_4;replace hx343_0:=(cell_far (p:=⟨gb342,1,none⟩) (ab_ hn343_1) (.string ((rd_T33 l0 x17_1).f1))).trans hx343_0;replace hx343_1:=(cell_far (p:=⟨gb342,1,none⟩) (ab_ hn343_1) (.string ((rd_T33 l0 x17_1).f1))).trans hx343_1;replace hx343_2:=(cell_far (p:=⟨gb342,1,none⟩) (ab_ hn343_1) (.string ((rd_T33 l0 x17_1).f1))).trans hx343_2;replace hx343_3:=(cell_far (p:=⟨gb342,1,none⟩) (ab_ hn343_1) (.string ((rd_T33 l0 x17_1).f1))).trans hx343_3;replace hx343_4:=(cell_far (p:=⟨gb342,1,none⟩) (ab_ hn343_1) (.string ((rd_T33 l0 x17_1).f1))).trans hx343_4;replace hx343_0:=(cell_far (p:=⟨gb342,2,none⟩) (ab_ hn343_2) (.int .i64 ((rd_T33 l0 x17_1).f2))).trans hx343_0;replace hx343_1:=(cell_far (p:=⟨gb342,2,none⟩) (ab_ hn343_2) (.int .i64 ((rd_T33 l0 x17_1).f2))).trans hx343_1;replace hx343_2:=(cell_far (p:=⟨gb342,2,none⟩) (ab_ hn343_2) (.int .i64 ((rd_T33 l0 x17_1).f2))).trans hx343_2;replace hx343_3:=(cell_far (p:=⟨gb342,2,none⟩) (ab_ hn343_2) (.int .i64 ((rd_T33 l0 x17_1).f2))).trans hx343_3;replace hx343_4:=(cell_far (p:=⟨gb342,2,none⟩) (ab_ hn343_2) (.int .i64 ((rd_T33 l0 x17_1).f2))).trans hx343_4;replace hx343_0:=(cell_far (p:=⟨gb342,3,none⟩) (ab_ hn343_3) (.slice A341_3 ((rd_T33 l0 x17_1).f3).length c341_3)).trans hx343_0;replace hx343_1:=(cell_far (p:=⟨gb342,3,none⟩) (ab_ hn343_3) (.slice A341_3 ((rd_T33 l0 x17_1).f3).length c341_3)).trans hx343_1;replace hx343_2:=(cell_far (p:=⟨gb342,3,none⟩) (ab_ hn343_3) (.slice A341_3 ((rd_T33 l0 x17_1).f3).length c341_3)).trans hx343_2;replace hx343_3:=(cell_far (p:=⟨gb342,3,none⟩) (ab_ hn343_3) (.slice A341_3 ((rd_T33 l0 x17_1).f3).length c341_3)).trans hx343_3;replace hx343_4:=(cell_far (p:=⟨gb342,3,none⟩) (ab_ hn343_3) (.slice A341_3 ((rd_T33 l0 x17_1).f3).length c341_3)).trans hx343_4;replace hx343_0:=(cell_far (p:=⟨gb342,4,none⟩) (ab_ hn343_4) (.int .i64 ((rd_T33 l0 x17_1).f4))).trans hx343_0;replace hx343_1:=(cell_far (p:=⟨gb342,4,none⟩) (ab_ hn343_4) (.int .i64 ((rd_T33 l0 x17_1).f4))).trans hx343_1;replace hx343_2:=(cell_far (p:=⟨gb342,4,none⟩) (ab_ hn343_4) (.int .i64 ((rd_T33 l0 x17_1).f4))).trans hx343_2;replace hx343_3:=(cell_far (p:=⟨gb342,4,none⟩) (ab_ hn343_4) (.int .i64 ((rd_T33 l0 x17_1).f4))).trans hx343_3;replace hx343_4:=(cell_far (p:=⟨gb342,4,none⟩) (ab_ hn343_4) (.int .i64 ((rd_T33 l0 x17_1).f4))).trans hx343_4;clear hn343_0;clear hn343_1;clear hn343_2;clear hn343_3;clear hn343_4;replace p343:=eq_true p343;replace q343:=eq_true q343)|((with_reducible refine gate_dst (N:=9) rfl ?_);refine box_event ?hg (N:=9) ?hd (cs:=#[.string (⟨#[]⟩:ByteArray),.string (⟨#[]⟩:ByteArray),.int .i64 0,.slice none 0 0,.int .i64 0]) (t:=33) ?hr ?_;(case hd=>rfl);(case hg=>rfl);(case hr=>first|(go_simp;done)|(go_simp;rfl));intro gb344 hg w13 hbox hb;have n0_:=Aside0.mk (blk_below (g:=gb342) (o:=.cells #[.string ((rd_T33 l0 x17_1).f0),.string ((rd_T33 l0 x17_1).f1),.int .i64 ((rd_T33 l0 x17_1).f2),.slice A341_3 ((rd_T33 l0 x17_1).f3).length c341_3,.int .i64 ((rd_T33 l0 x17_1).f4)] 33 (0,0)) (kbc_ BK342.out) hb);have n1_:=Aside0.mk (below_step (bl_ HB.out) hb);have n2_:=Aside0.mk (hbox);have n3_:=Aside0.mk ((gs_ hg (bl_ HB.out):w.heap.size≤gb344));have n4_:=Aside0.mk ((gs_ hg (bl_ HB.out):w.heap.size≤gb344));have n5_:=Aside0.mk ((by rw [hg];exact Nat.ne_of_lt (blk_lt (g:=gb342) (o:=.cells #[.string ((rd_T33 l0 x17_1).f0),.string ((rd_T33 l0 x17_1).f1),.int .i64 ((rd_T33 l0 x17_1).f2),.slice A341_3 ((rd_T33 l0 x17_1).f3).length c341_3,.int .i64 ((rd_T33 l0 x17_1).f4)] 33 (0,0)) (kbc_ BK342.out)):gb342≠gb344));have n6_:=Aside0.mk ((by rw [hg];exact Nat.ne_of_gt (blk_lt (g:=gb342) (o:=.cells #[.string ((rd_T33 l0 x17_1).f0),.string ((rd_T33 l0 x17_1).f1),.int .i64 ((rd_T33 l0 x17_1).f2),.slice A341_3 ((rd_T33 l0 x17_1).f3).length c341_3,.int .i64 ((rd_T33 l0 x17_1).f4)] 33 (0,0)) (kbc_ BK342.out)):gb344≠gb342));clear BK342;clear HB;have BK342:=n0_;have HB:=n1_;have BK344:=n2_;have GW344:=n3_;have GE344:=n4_;have NB342_344:=n5_;have NB344_342:=n6_;clear n0_ n1_ n2_ n3_ n4_ n5_ n6_;clear hb hbox hg;have hnb14:=NB344_342.out;have hnc14:=NB342_344.out;have hcz15_0:w13.cell? ⟨gb344,0,none⟩=some (.string (⟨#[]⟩:ByteArray)):=zc_ BK344.out 0;have hcz15_1:w13.cell? ⟨gb344,1,none⟩=some (.string (⟨#[]⟩:ByteArray)):=zc_ BK344.out 1;have hcz15_2:w13.cell? ⟨gb344,2,none⟩=some (.int .i64 0):=zc_ BK344.out 2;have hcz15_3:w13.cell? ⟨gb344,3,none⟩=some (.slice none 0 0):=zc_ BK344.out 3;have hcz15_4:w13.cell? ⟨gb344,4,none⟩=some (.int .i64 0):=zc_ BK344.out 4;have hfz15_0:=blk_frozen BK344.out 0;have hfz15_1:=blk_frozen BK344.out 1;have hfz15_2:=blk_frozen BK344.out 2;have hfz15_3:=blk_frozen BK344.out 3;have hfz15_4:=blk_frozen BK344.out 4;have hcz16_0:w13.cell? ⟨gb342,0,none⟩=some (.string ((rd_T33 l0 x17_1).f0)):=zc_ BK342.out 0;have hcz16_1:w13.cell? ⟨gb342,1,none⟩=some (.string ((rd_T33 l0 x17_1).f1)):=zc_ BK342.out 1;have hcz16_2:w13.cell? ⟨gb342,2,none⟩=some (.int .i64 ((rd_T33 l0 x17_1).f2)):=zc_ BK342.out 2;have hcz16_3:w13.cell? ⟨gb342,3,none⟩=some (.slice A341_3 ((rd_T33 l0 x17_1).f3).length c341_3):=zc_ BK342.out 3;have hcz16_4:w13.cell? ⟨gb342,4,none⟩=some (.int .i64 ((rd_T33 l0 x17_1).f4)):=zc_ BK342.out 4;have hfz16_0:=blk_frozen BK342.out 0;have hfz16_1:=blk_frozen BK342.out 1;have hfz16_2:=blk_frozen BK342.out 2;have hfz16_3:=blk_frozen BK342.out 3;have hfz16_4:=blk_frozen BK342.out 4)|((with_reducible refine (ih26 k1 (by have:=HK1.out;omega) ((rd_T33 l0 x17_1).f0) ((rd_T33 l0 x17_1).f1) ((rd_T33 l0 x17_1).f2) _ _ ((rd_T33 l0 x17_1).f3) ((rd_T33 l0 x17_1).f4) ((rd_T33 l1 x17_1).f0) ((rd_T33 l1 x17_1).f1) ((rd_T33 l1 x17_1).f2) _ _ ((rd_T33 l1 x17_1).f3) ((rd_T33 l1 x17_1).f4) true _ ?side1 ?side2 ?side3 ?side4 A9.out).mono ?_);(case side1=>exact Kd.C_below HR341_3.out (bl_ HB.out));(case side2=>exact HC341_3.out);(case side3=>exact Kd.C_below HR343_3.out (bl_ HB.out));(case side4=>exact HC343_3.out);rintro e w17 ⟨rfl,hb⟩;have n0_:=Aside0.mk (blk_below (g:=gb342) (o:=.cells #[.string ((rd_T33 l0 x17_1).f0),.string ((rd_T33 l0 x17_1).f1),.int .i64 ((rd_T33 l0 x17_1).f2),.slice A341_3 ((rd_T33 l0 x17_1).f3).length c341_3,.int .i64 ((rd_T33 l0 x17_1).f4)] 33 (0,0)) (kbc_ BK342.out) hb);have n1_:=Aside0.mk (blk_below (g:=gb344) (o:=.cells #[.string ((rd_T33 l1 x17_1).f0),.string ((rd_T33 l1 x17_1).f1),.int .i64 ((rd_T33 l1 x17_1).f2),.slice A343_3 ((rd_T33 l1 x17_1).f3).length c343_3,.int .i64 ((rd_T33 l1 x17_1).f4)] 33 (0,0)) (kbc_ BK344.out) hb);have n2_:=Aside0.mk (below_step (bl_ HB.out) hb);clear BK342;clear BK344;clear HB;have BK342:=n0_;have BK344:=n1_;have HB:=n2_;clear n0_ n1_ n2_;(try clear hb);(try clear hb2);(try clear hk);(try clear hi)))
         go_roundg k1
         case measure=>have:=HK1.out;omega
         case rel=>exact ⟨(wrap64 (x17_1+1)),rf_,H',⟨by have:=HK1.out;omega⟩,⟨bl_ HB.out⟩⟩
        ·replace c10:=Bool.eq_false_iff.mpr c10
         subst c10
         have H1:(some false)=some r:=by rw [if_neg (show ¬ (false=true) by decide)] at H;exact H
         clear H
         have H:=H1
         clear H1
         obtain rfl:=Option.some.inj H
         have p341:0≤(x17_1:Int):=of_decide_eq_true as_
         have q341:x17_1 < (l0.length:Int):=of_decide_eq_true as_
         obtain ⟨ad341,A341_3,c341_3,e341,hx341_0,hx341_1,hx341_2,hx341_3,hx341_4,hl341_3,hi341_3⟩:=at_T33 HR0.out x17_1 p341 q341
         cases e341
         replace hx341_0:=(cb_ HB.out hx341_0:_)
         replace hx341_1:=(cb_ HB.out hx341_1:_)
         replace hx341_2:=(cb_ HB.out hx341_2:_)
         replace hx341_3:=(cb_ HB.out hx341_3:_)
         replace hx341_4:=(cb_ HB.out hx341_4:_)
         have HR341_3:=Aside0.mk hi341_3
         have HC341_3:=Aside0.mk hl341_3
         clear hi341_3 hl341_3
         replace p341:=eq_true p341
         replace q341:=eq_true q341
         go_wp2_with (first|((with_reducible refine gate_dst (N:=8) rfl ?_);refine box_event ?hg (N:=8) ?hd (cs:=#[.string (⟨#[]⟩:ByteArray),.string (⟨#[]⟩:ByteArray),.int .i64 0,.slice none 0 0,.int .i64 0]) (t:=33) ?hr ?_;(case hd=>rfl);(case hg=>rfl);(case hr=>first|(go_simp;done)|(go_simp;rfl));intro gb342 hg w18 hbox hb;have n0_:=Aside0.mk (below_step (bl_ HB.out) hb);have n1_:=Aside0.mk (hbox);have n2_:=Aside0.mk ((gs_ hg (bl_ HB.out):w.heap.size≤gb342));have n3_:=Aside0.mk ((gs_ hg (bl_ HB.out):w.heap.size≤gb342));clear HB;have HB:=n0_;have BK342:=n1_;have GW342:=n2_;have GE342:=n3_;clear n0_ n1_ n2_ n3_;clear hb hbox hg;have hcz19_0:w18.cell? ⟨gb342,0,none⟩=some (.string (⟨#[]⟩:ByteArray)):=zc_ BK342.out 0;have hcz19_1:w18.cell? ⟨gb342,1,none⟩=some (.string (⟨#[]⟩:ByteArray)):=zc_ BK342.out 1;have hcz19_2:w18.cell? ⟨gb342,2,none⟩=some (.int .i64 0):=zc_ BK342.out 2;have hcz19_3:w18.cell? ⟨gb342,3,none⟩=some (.slice none 0 0):=zc_ BK342.out 3;have hcz19_4:w18.cell? ⟨gb342,4,none⟩=some (.int .i64 0):=zc_ BK342.out 4;have hfz19_0:=blk_frozen BK342.out 0;have hfz19_1:=blk_frozen BK342.out 1;have hfz19_2:=blk_frozen BK342.out 2;have hfz19_3:=blk_frozen BK342.out 3;have hfz19_4:=blk_frozen BK342.out 4;have p343:0≤(x17_1:Int):=of_decide_eq_true as_;have q343:x17_1 < (l1.length:Int):=of_decide_eq_true as_;obtain ⟨ad343,A343_3,c343_3,e343,hx343_0,hx343_1,hx343_2,hx343_3,hx343_4,hl343_3,hi343_3⟩:=at_T33 HR1.out x17_1 p343 q343;cases e343;have hn343_0:ad343.block≠gb342:=Nat.ne_of_lt (Nat.lt_of_lt_of_le (by have:=World.block_lt_of_cell? _ _ hx343_0;first|rwa [add_block] at this|exact this) GW342.out);have hn343_1:ad343.block≠gb342:=Nat.ne_of_lt (Nat.lt_of_lt_of_le (by have:=World.block_lt_of_cell? _ _ hx343_0;first|rwa [add_block] at this|exact this) GW342.out);have hn343_2:ad343.block≠gb342:=Nat.ne_of_lt (Nat.lt_of_lt_of_le (by have:=World.block_lt_of_cell? _ _ hx343_0;first|rwa [add_block] at this|exact this) GW342.out);have hn343_3:ad343.block≠gb342:=Nat.ne_of_lt (Nat.lt_of_lt_of_le (by have:=World.block_lt_of_cell? _ _ hx343_0;first|rwa [add_block] at this|exact this) GW342.out);have hn343_4:ad343.block≠gb342:=Nat.ne_of_lt (Nat.lt_of_lt_of_le (by have:=World.block_lt_of_cell? _ _ hx343_0;first|rwa [add_block] at this|exact this) GW342.out);replace hx343_0:=(cb_ HB.out hx343_0:_);replace hx343_1:=(cb_ HB.out hx343_1:_);replace hx343_2:=(cb_ HB.out hx343_2:_);replace hx343_3:=(cb_ HB.out hx343_3:_);replace hx343_4:=(cb_ HB.out hx343_4:_);have HR343_3:=Aside0.mk hi343_3;have HC343_3:=Aside0.mk hl343_3;clear hi343_3 hl343_3;replace hx343_0:=(cell_far (p:=⟨gb342,0,none⟩) (ab_ hn343_0) (.string ((rd_T33 l0 x17_1).f0))).trans hx343_0;replace hx343_1:=(cell_far (p:=⟨gb342,0,none⟩) (ab_ hn343_0) (.string ((rd_T33 l0 x17_1).f0))).trans hx343_1;replace hx343_2:=(cell_far (p:=⟨gb342,0,none⟩) (ab_ hn343_0) (.string ((rd_T33 l0 x17_1).f0))).trans hx343_2;replace hx343_3:=(cell_far (p:=⟨gb342,0,none⟩) (ab_ hn343_0) (.string ((rd_T33 l0 x17_1).f0))).trans hx343_3;replace hx343_4:=(cell_far (p:=⟨gb342,0,none⟩) (ab_ hn343_0) (.string ((rd_T33 l0 x17_1).f0))).trans hx343_4;replace hx343_0:=(cell_far (p:=⟨gb342,1,none⟩) (ab_ hn343_1) (.string ((rd_T33 l0 x17_1).f1))).trans hx343_0;replace hx343_1:=(cell_far (p:=⟨gb342,1,none⟩) (ab_ hn343_1) (.string ((rd_T33 l0 x17_1).f1))).trans hx343_1;replace hx343_2:=(cell_far (p:=⟨gb342,1,none⟩) (ab_ hn343_1) (.string ((rd_T33 l0 x17_1).f1))).trans hx343_2;replace hx343_3:=(cell_far (p:=⟨gb342,1,none⟩) (ab_ hn343_1) (.string ((rd_T33 l0 x17_1).f1))).trans hx343_3;replace hx343_4:=(cell_far (p:=⟨gb342,1,none⟩) (ab_ hn343_1) (.string ((rd_T33 l0 x17_1).f1))).trans hx343_4;replace hx343_0:=(cell_far (p:=⟨gb342,2,none⟩) (ab_ hn343_2) (.int .i64 ((rd_T33 l0 x17_1).f2))).trans hx343_0;replace hx343_1:=(cell_far (p:=⟨gb342,2,none⟩) (ab_ hn343_2) (.int .i64 ((rd_T33 l0 x17_1).f2))).trans hx343_1;replace hx343_2:=(cell_far (p:=⟨gb342,2,none⟩) (ab_ hn343_2) (.int .i64 ((rd_T33 l0 x17_1).f2))).trans hx343_2;replace hx343_3:=(cell_far (p:=⟨gb342,2,none⟩) (ab_ hn343_2) (.int .i64 ((rd_T33 l0 x17_1).f2))).trans hx343_3;replace hx343_4:=(cell_far (p:=⟨gb342,2,none⟩) (ab_ hn343_2) (.int .i64 ((rd_T33 l0 x17_1).f2))).trans hx343_4;replace hx343_0:=(cell_far (p:=⟨gb342,3,none⟩) (ab_ hn343_3) (.slice A341_3 ((rd_T33 l0 x17_1).f3).length c341_3)).trans hx343_0;replace hx343_1:=(cell_far (p:=⟨gb342,3,none⟩) (ab_ hn343_3) (.slice A341_3 ((rd_T33 l0 x17_1).f3).length c341_3)).trans hx343_1;replace hx343_2:=(cell_far (p:=⟨gb342,3,none⟩) (ab_ hn343_3) (.slice A341_3 ((rd_T33 l0 x17_1).f3).length c341_3)).trans hx343_2;replace hx343_3:=(cell_far (p:=⟨gb342,3,none⟩) (ab_ hn343_3) (.slice A341_3 ((rd_T33 l0 x17_1).f3).length c341_3)).trans hx343_3;replace hx343_4:=(cell_far (p:=⟨gb342,3,none⟩) (ab_ hn343_3) (.slice A341_3 ((rd_T33 l0 x17_1).f3).length c341_3)).trans hx343_4;replace hx343_0:=(cell_far (p:=⟨gb342,4,none⟩) (ab_ hn343_4) (.int .i64 ((rd_T33 l0 x17_1).f4))).trans hx343_0;replace hx343_1:=(cell_far (p:=⟨gb342,4,none⟩) (ab_ hn343_4) (.int .i64 ((rd_T33 l0 x17_1).f4))).trans hx343_1;replace hx343_2:=(cell_far (p:=⟨gb342,4,none⟩) (ab_ hn343_4) (.int .i64 ((rd_T33 l0 x17_1).f4))).trans hx343_2;replace hx343_3:=(cell_far (p:=⟨gb342,4,none⟩) (ab_ hn343_4) (.int .i64 ((rd_T33 l0 x17_1).f4))).trans hx343_3;replace hx343_4:=(cell_far (p:=⟨gb342,4,none⟩) (ab_ hn343_4) (.int .i64 ((rd_T33 l0 x17_1).f4))).trans hx343_4;clear hn343_0;clear hn343_1;clear hn343_2;clear hn343_3;clear hn343_4;replace p343:=eq_true p343;replace q343:=eq_true q343)|((with_reducible refine gate_dst (N:=9) rfl ?_);refine box_event ?hg (N:=9) ?hd (cs:=#[.string (⟨#[]⟩:ByteArray),.string (⟨#[]⟩:ByteArray),.int .i64 0,.slice none 0 0,.int .i64 0]) (t:=33) ?hr ?_;(case hd=>rfl);(case hg=>rfl);(case hr=>first|(go_simp;done)|(go_simp;rfl));intro gb344 hg w20 hbox hb;have n0_:=Aside0.mk (blk_below (g:=gb342) (o:=.cells #[.string ((rd_T33 l0 x17_1).f0),.string ((rd_T33 l0 x17_1).f1),.int .i64 ((rd_T33 l0 x17_1).f2),.slice A341_3 ((rd_T33 l0 x17_1).f3).length c341_3,.int .i64 ((rd_T33 l0 x17_1).f4)] 33 (0,0)) (kbc_ BK342.out) hb);have n1_:=Aside0.mk (below_step (bl_ HB.out) hb);have n2_:=Aside0.mk (hbox);have n3_:=Aside0.mk ((gs_ hg (bl_ HB.out):w.heap.size≤gb344));have n4_:=Aside0.mk ((gs_ hg (bl_ HB.out):w.heap.size≤gb344));have n5_:=Aside0.mk ((by rw [hg];exact Nat.ne_of_lt (blk_lt (g:=gb342) (o:=.cells #[.string ((rd_T33 l0 x17_1).f0),.string ((rd_T33 l0 x17_1).f1),.int .i64 ((rd_T33 l0 x17_1).f2),.slice A341_3 ((rd_T33 l0 x17_1).f3).length c341_3,.int .i64 ((rd_T33 l0 x17_1).f4)] 33 (0,0)) (kbc_ BK342.out)):gb342≠gb344));have n6_:=Aside0.mk ((by rw [hg];exact Nat.ne_of_gt (blk_lt (g:=gb342) (o:=.cells #[.string ((rd_T33 l0 x17_1).f0),.string ((rd_T33 l0 x17_1).f1),.int .i64 ((rd_T33 l0 x17_1).f2),.slice A341_3 ((rd_T33 l0 x17_1).f3).length c341_3,.int .i64 ((rd_T33 l0 x17_1).f4)] 33 (0,0)) (kbc_ BK342.out)):gb344≠gb342));clear BK342;clear HB;have BK342:=n0_;have HB:=n1_;have BK344:=n2_;have GW344:=n3_;have GE344:=n4_;have NB342_344:=n5_;have NB344_342:=n6_;clear n0_ n1_ n2_ n3_ n4_ n5_ n6_;clear hb hbox hg;have hnb21:=NB344_342.out;have hnc21:=NB342_344.out;have hcz22_0:w20.cell? ⟨gb344,0,none⟩=some (.string (⟨#[]⟩:ByteArray)):=zc_ BK344.out 0;have hcz22_1:w20.cell? ⟨gb344,1,none⟩=some (.string (⟨#[]⟩:ByteArray)):=zc_ BK344.out 1;have hcz22_2:w20.cell? ⟨gb344,2,none⟩=some (.int .i64 0):=zc_ BK344.out 2;have hcz22_3:w20.cell? ⟨gb344,3,none⟩=some (.slice none 0 0):=zc_ BK344.out 3;have hcz22_4:w20.cell? ⟨gb344,4,none⟩=some (.int .i64 0):=zc_ BK344.out 4;have hfz22_0:=blk_frozen BK344.out 0;have hfz22_1:=blk_frozen BK344.out 1;have hfz22_2:=blk_frozen BK344.out 2;have hfz22_3:=blk_frozen BK344.out 3;have hfz22_4:=blk_frozen BK344.out 4;have hcz23_0:w20.cell? ⟨gb342,0,none⟩=some (.string ((rd_T33 l0 x17_1).f0)):=zc_ BK342.out 0;have hcz23_1:w20.cell? ⟨gb342,1,none⟩=some (.string ((rd_T33 l0 x17_1).f1)):=zc_ BK342.out 1;have hcz23_2:w20.cell? ⟨gb342,2,none⟩=some (.int .i64 ((rd_T33 l0 x17_1).f2)):=zc_ BK342.out 2;have hcz23_3:w20.cell? ⟨gb342,3,none⟩=some (.slice A341_3 ((rd_T33 l0 x17_1).f3).length c341_3):=zc_ BK342.out 3;have hcz23_4:w20.cell? ⟨gb342,4,none⟩=some (.int .i64 ((rd_T33 l0 x17_1).f4)):=zc_ BK342.out 4;have hfz23_0:=blk_frozen BK342.out 0;have hfz23_1:=blk_frozen BK342.out 1;have hfz23_2:=blk_frozen BK342.out 2;have hfz23_3:=blk_frozen BK342.out 3;have hfz23_4:=blk_frozen BK342.out 4)|((with_reducible refine (ih26 k1 (by have:=HK1.out;omega) ((rd_T33 l0 x17_1).f0) ((rd_T33 l0 x17_1).f1) ((rd_T33 l0 x17_1).f2) _ _ ((rd_T33 l0 x17_1).f3) ((rd_T33 l0 x17_1).f4) ((rd_T33 l1 x17_1).f0) ((rd_T33 l1 x17_1).f1) ((rd_T33 l1 x17_1).f2) _ _ ((rd_T33 l1 x17_1).f3) ((rd_T33 l1 x17_1).f4) false _ ?side1 ?side2 ?side3 ?side4 A9.out).mono ?_);(case side1=>exact Kd.C_below HR341_3.out (bl_ HB.out));(case side2=>exact HC341_3.out);(case side3=>exact Kd.C_below HR343_3.out (bl_ HB.out));(case side4=>exact HC343_3.out);rintro e w24 ⟨rfl,hb⟩;have n0_:=Aside0.mk (blk_below (g:=gb342) (o:=.cells #[.string ((rd_T33 l0 x17_1).f0),.string ((rd_T33 l0 x17_1).f1),.int .i64 ((rd_T33 l0 x17_1).f2),.slice A341_3 ((rd_T33 l0 x17_1).f3).length c341_3,.int .i64 ((rd_T33 l0 x17_1).f4)] 33 (0,0)) (kbc_ BK342.out) hb);have n1_:=Aside0.mk (blk_below (g:=gb344) (o:=.cells #[.string ((rd_T33 l1 x17_1).f0),.string ((rd_T33 l1 x17_1).f1),.int .i64 ((rd_T33 l1 x17_1).f2),.slice A343_3 ((rd_T33 l1 x17_1).f3).length c343_3,.int .i64 ((rd_T33 l1 x17_1).f4)] 33 (0,0)) (kbc_ BK344.out) hb);have n2_:=Aside0.mk (below_step (bl_ HB.out) hb);clear BK342;clear BK344;clear HB;have BK342:=n0_;have BK344:=n1_;have HB:=n2_;clear n0_ n1_ n2_;(try clear hb);(try clear hb2);(try clear hk);(try clear hi)))
         go_ret
         exact ⟨rt_,bl_ HB.out⟩
       ·rw [if_neg c8] at H
        exact absurd H (by simp)
      ·rw [if_neg c7] at H
       exact absurd H (by simp)
     ·rw [if_neg c6] at H
      exact absurd H (by simp)
    ·rw [if_neg c5] at H
     have c5b0:decide (x17_1 < (l0.length:Int))=false:=decide_eq_false c5
     clear c5
     obtain rfl:=Option.some.inj H
     go_wp2
     go_ret
     exact ⟨rt_,bl_ HB.out⟩
 ·rw [if_neg c4] at H
  have c4b0:((l0.length:Int) == (l1.length:Int))=false:=beq_eq_false_iff_ne.mpr c4
  have c4b1:((l0.length:Int) != (l1.length:Int))=true:=bne_iff_ne.mpr c4
  have c4b2:(l0.length == l1.length)=false:=by first|simpa using c4|(simp at c4 ⊢;omega)
  obtain rfl:=Option.some.inj H
  go_enter Tryd.func43,Tryd.ntmps43
  go_wp2
  go_ret
  exact ⟨rt_,bl_ HB.out⟩
end Go.Proofs.YtnnbbeloifhofaaDoor.P
end
section
namespace Go.Proofs.YtnnbbeloifhofaaDoor.P
open Go.RowKit Go.Proofs.YtnnbbeloifhofaaDoorW.PrintWords Go.Proofs.YtnnbbeloifhofaaDoorW.PrintLast Go.Proofs.YtnnbbeloifhofaaDoorW.PrintMore
attribute [local go_sem] max2_int min2_int max_two min_two max_three min_three max_four min_four
set_option linter.unusedVariables false
set_option linter.unusedSimpArgs false
theorem tree_SameExpr_ring.all (k:Nat):tree_SameExpr.Stmt k∧tree_Expr_at_tree_SameExpr.Stmt k:=by
  induction k using Nat.strongRecOn with
  | _ k ih=>
  exact ⟨tree_SameExpr.step k (fun m_ h_=>(ih m_ h_).1) (fun m_ h_=>(ih m_ h_).2),tree_Expr_at_tree_SameExpr.step k (fun m_ h_=>(ih m_ h_).1) (fun m_ h_=>(ih m_ h_).2)⟩
theorem tree_SameExpr.calls (k:Nat):tree_SameExpr.Stmt k:=(tree_SameExpr_ring.all k).1
theorem tree_Expr_at_tree_SameExpr.calls (k:Nat):tree_Expr_at_tree_SameExpr.Stmt k:=(tree_SameExpr_ring.all k).2
end Go.Proofs.YtnnbbeloifhofaaDoor.P
end
section
namespace Go.Proofs.YtnnbbeloifhofaaDoor.P
open Go.RowKit Go.Proofs.YtnnbbeloifhofaaDoorW.PrintWords Go.Proofs.YtnnbbeloifhofaaDoorW.PrintLast Go.Proofs.YtnnbbeloifhofaaDoorW.PrintMore
attribute [local go_sem] max2_int min2_int max_two min_two max_three min_three max_four min_four
set_option linter.unusedVariables false
set_option linter.unusedSimpArgs false
set_option maxHeartbeats 8000000 in
set_option maxRecDepth 100000 in
theorem tree_sameStmt.step (k:Nat) (ih47 : ∀ m_,m_ < k→tree_Stmt_at_tree_sameStmt.Stmt m_) (ih48 : ∀ m_,m_ < k→tree_sameStmt.Stmt m_):tree_sameStmt.Stmt k:=by
 intro a0_0 a0_1 A0_2 c0_2 l0_2 A0_3 c0_3 l0_3 A0_4 c0_4 l0_4 a0_5 a1_0 a1_1 A1_2 c1_2 l1_2 A1_3 c1_3 l1_3 A1_4 c1_4 l1_4 a1_5 r w hr0_2 hc0_2 hr0_3 hc0_3 hr0_4 hc0_4 hr1_2 hc1_2 hr1_3 hc1_3 hr1_4 hc1_4 h
 cases k with
 | zero=>exact absurd h (by simp [tree_sameStmt.f])
 | succ k=>
 simp only [tree_sameStmt.f] at h
 have hu76:=Tryd.underlying76
 have HR0_2:=Aside0.mk hr0_2
 have HC0_2:=Aside0.mk hc0_2
 clear hr0_2 hc0_2
 have HR0_3:=Aside0.mk hr0_3
 have HC0_3:=Aside0.mk hc0_3
 clear hr0_3 hc0_3
 have HR0_4:=Aside0.mk hr0_4
 have HC0_4:=Aside0.mk hc0_4
 clear hr0_4 hc0_4
 have HR1_2:=Aside0.mk hr1_2
 have HC1_2:=Aside0.mk hc1_2
 clear hr1_2 hc1_2
 have HR1_3:=Aside0.mk hr1_3
 have HC1_3:=Aside0.mk hc1_3
 clear hr1_3 hc1_3
 have HR1_4:=Aside0.mk hr1_4
 have HC1_4:=Aside0.mk hc1_4
 clear hr1_4 hc1_4
 have HB:=Aside0.mk (Below.refl w.heap.size w)
 have H:(if a0_0.toList=a1_0.toList then (if a0_1.toList=a1_1.toList then ((tree_Expr_at_tree_SameExpr.f k l0_2 l1_2).bind fun t365=>(if t365=true then ((tree_Stmt_at_tree_sameStmt.f k l0_3 l1_3).bind fun t366=>(if t366=true then ((tree_Stmt_at_tree_sameStmt.f k l0_4 l1_4).bind fun t367=>(some t367)) else (some false))) else (some false))) else (some false)) else (some false))=some r:=h
 clear h
 by_cases c3:a0_0.toList=a1_0.toList
 ·rw [if_pos c3] at H
  have c3b0:(a0_0.toList == a1_0.toList)=true:=beq_iff_eq.mpr c3
  have c3b1:(a0_0.toList != a1_0.toList)=false:=bne_eq_false_iff_eq.mpr c3
  clear c3
  by_cases c4:a0_1.toList=a1_1.toList
  ·rw [if_pos c4] at H
   have c4b0:(a0_1.toList == a1_1.toList)=true:=beq_iff_eq.mpr c4
   have c4b1:(a0_1.toList != a1_1.toList)=false:=bne_eq_false_iff_eq.mpr c4
   clear c4
   replace H:=Option.bind_eq_some_iff.mp H
   obtain ⟨t365,A50,H⟩:=H
   replace H:(if t365=true then ((tree_Stmt_at_tree_sameStmt.f k l0_3 l1_3).bind fun t366=>(if t366=true then ((tree_Stmt_at_tree_sameStmt.f k l0_4 l1_4).bind fun t367=>(some t367)) else (some false))) else (some false))=some r:=H
   have A5:=Aside0.mk A50
   clear A50
   by_cases c6:t365=true
   ·subst c6
    have H1:((tree_Stmt_at_tree_sameStmt.f k l0_3 l1_3).bind fun t366=>(if t366=true then ((tree_Stmt_at_tree_sameStmt.f k l0_4 l1_4).bind fun t367=>(some t367)) else (some false)))=some r:=by rw [if_pos rfl] at H;exact H
    clear H
    have H:=H1
    clear H1
    replace H:=Option.bind_eq_some_iff.mp H
    obtain ⟨t366,A70,H⟩:=H
    replace H:(if t366=true then ((tree_Stmt_at_tree_sameStmt.f k l0_4 l1_4).bind fun t367=>(some t367)) else (some false))=some r:=H
    have A7:=Aside0.mk A70
    clear A70
    by_cases c8:t366=true
    ·subst c8
     have H1:((tree_Stmt_at_tree_sameStmt.f k l0_4 l1_4).bind fun t367=>(some t367))=some r:=by rw [if_pos rfl] at H;exact H
     clear H
     have H:=H1
     clear H1
     replace H:=Option.bind_eq_some_iff.mp H
     obtain ⟨t367,A90,H⟩:=H
     replace H:(some t367)=some r:=H
     have A9:=Aside0.mk A90
     clear A90
     obtain rfl:=Option.some.inj H
     go_enter Tryd.func48,Tryd.ntmps48
     go_wp2_with (first|((with_reducible refine gate_dst (N:=2) rfl ?_);refine box_event ?hg (N:=2) ?hd (cs:=#[.string a0_0,.string a0_1,.slice A0_2 l0_2.length c0_2,.slice A0_3 l0_3.length c0_3,.slice A0_4 l0_4.length c0_4,.int .i64 a0_5]) (t:=76) ?hr ?_;(case hd=>rfl);(case hg=>rfl);(case hr=>first|(go_simp;done)|(go_simp;rfl));intro gb363 hg w10 hbox hb;have n0_:=Aside0.mk (below_step (bl_ HB.out) hb);have n1_:=Aside0.mk (hbox);have n2_:=Aside0.mk ((gs_ hg (bl_ HB.out):w.heap.size≤gb363));have n3_:=Aside0.mk ((gs_ hg (bl_ HB.out):w.heap.size≤gb363));clear HB;have HB:=n0_;have BK363:=n1_;have GW363:=n2_;have GE363:=n3_;clear n0_ n1_ n2_ n3_;clear hb hbox hg)|((with_reducible refine gate_dst (N:=3) rfl ?_);refine box_event ?hg (N:=3) ?hd (cs:=#[.string a1_0,.string a1_1,.slice A1_2 l1_2.length c1_2,.slice A1_3 l1_3.length c1_3,.slice A1_4 l1_4.length c1_4,.int .i64 a1_5]) (t:=76) ?hr ?_;(case hd=>rfl);(case hg=>rfl);(case hr=>first|(go_simp;done)|(go_simp;rfl));intro gb364 hg w11 hbox hb;have n0_:=Aside0.mk (bb_ BK363.out hb);have n1_:=Aside0.mk (below_step (bl_ HB.out) hb);have n2_:=Aside0.mk (hbox);have n3_:=Aside0.mk ((gs_ hg (bl_ HB.out):w.heap.size≤gb364));have n4_:=Aside0.mk ((gs_ hg (bl_ HB.out):w.heap.size≤gb364));have n5_:=Aside0.mk ((nl_ hg BK363.out:gb363≠gb364));have n6_:=Aside0.mk ((nr_ hg BK363.out:gb364≠gb363));clear BK363;clear HB;have BK363:=n0_;have HB:=n1_;have BK364:=n2_;have GW364:=n3_;have GE364:=n4_;have NB363_364:=n5_;have NB364_363:=n6_;clear n0_ n1_ n2_ n3_ n4_ n5_ n6_;clear hb hbox hg;have hnb12:=NB363_364.out;have hnc12:=NB364_363.out;have hcz13_0:w11.cell? ⟨gb363,0,none⟩=some (.string a0_0):=zc_ BK363.out 0;have hcz13_1:w11.cell? ⟨gb363,1,none⟩=some (.string a0_1):=zc_ BK363.out 1;have hcz13_2:w11.cell? ⟨gb363,2,none⟩=some (.slice A0_2 l0_2.length c0_2):=zc_ BK363.out 2;have hcz13_3:w11.cell? ⟨gb363,3,none⟩=some (.slice A0_3 l0_3.length c0_3):=zc_ BK363.out 3;have hcz13_4:w11.cell? ⟨gb363,4,none⟩=some (.slice A0_4 l0_4.length c0_4):=zc_ BK363.out 4;have hcz13_5:w11.cell? ⟨gb363,5,none⟩=some (.int .i64 a0_5):=zc_ BK363.out 5;have hfz13_0:=blk_frozen BK363.out 0;have hfz13_1:=blk_frozen BK363.out 1;have hfz13_2:=blk_frozen BK363.out 2;have hfz13_3:=blk_frozen BK363.out 3;have hfz13_4:=blk_frozen BK363.out 4;have hfz13_5:=blk_frozen BK363.out 5;have hcz14_0:w11.cell? ⟨gb364,0,none⟩=some (.string a1_0):=zc_ BK364.out 0;have hcz14_1:w11.cell? ⟨gb364,1,none⟩=some (.string a1_1):=zc_ BK364.out 1;have hcz14_2:w11.cell? ⟨gb364,2,none⟩=some (.slice A1_2 l1_2.length c1_2):=zc_ BK364.out 2;have hcz14_3:w11.cell? ⟨gb364,3,none⟩=some (.slice A1_3 l1_3.length c1_3):=zc_ BK364.out 3;have hcz14_4:w11.cell? ⟨gb364,4,none⟩=some (.slice A1_4 l1_4.length c1_4):=zc_ BK364.out 4;have hcz14_5:w11.cell? ⟨gb364,5,none⟩=some (.int .i64 a1_5):=zc_ BK364.out 5;have hfz14_0:=blk_frozen BK364.out 0;have hfz14_1:=blk_frozen BK364.out 1;have hfz14_2:=blk_frozen BK364.out 2;have hfz14_3:=blk_frozen BK364.out 3;have hfz14_4:=blk_frozen BK364.out 4;have hfz14_5:=blk_frozen BK364.out 5)|(go_at_call 43;(with_reducible refine (tree_Expr_at_tree_SameExpr.calls k _ _ l0_2 _ _ l1_2 true _ ?side1 ?side2 ?side3 ?side4 A5.out).mono ?_);(case side1=>exact kc_ HR0_2.out HB.out);(case side2=>exact HC0_2.out);(case side3=>exact kc_ HR1_2.out HB.out);(case side4=>exact HC1_2.out);rintro e w15 ⟨rfl,hb⟩;have n0_:=Aside0.mk (bb_ BK363.out hb);have n1_:=Aside0.mk (bb_ BK364.out hb);have n2_:=Aside0.mk (below_step (bl_ HB.out) hb);clear BK363;clear BK364;clear HB;have BK363:=n0_;have BK364:=n1_;have HB:=n2_;clear n0_ n1_ n2_;(try clear hb);(try clear hb2);(try clear hk);(try clear hi);have hcz16_0:w15.cell? ⟨gb363,0,none⟩=some (.string a0_0):=zc_ BK363.out 0;have hcz16_1:w15.cell? ⟨gb363,1,none⟩=some (.string a0_1):=zc_ BK363.out 1;have hcz16_2:w15.cell? ⟨gb363,2,none⟩=some (.slice A0_2 l0_2.length c0_2):=zc_ BK363.out 2;have hcz16_3:w15.cell? ⟨gb363,3,none⟩=some (.slice A0_3 l0_3.length c0_3):=zc_ BK363.out 3;have hcz16_4:w15.cell? ⟨gb363,4,none⟩=some (.slice A0_4 l0_4.length c0_4):=zc_ BK363.out 4;have hcz16_5:w15.cell? ⟨gb363,5,none⟩=some (.int .i64 a0_5):=zc_ BK363.out 5;have hfz16_0:=blk_frozen BK363.out 0;have hfz16_1:=blk_frozen BK363.out 1;have hfz16_2:=blk_frozen BK363.out 2;have hfz16_3:=blk_frozen BK363.out 3;have hfz16_4:=blk_frozen BK363.out 4;have hfz16_5:=blk_frozen BK363.out 5;have hcz17_0:w15.cell? ⟨gb364,0,none⟩=some (.string a1_0):=zc_ BK364.out 0;have hcz17_1:w15.cell? ⟨gb364,1,none⟩=some (.string a1_1):=zc_ BK364.out 1;have hcz17_2:w15.cell? ⟨gb364,2,none⟩=some (.slice A1_2 l1_2.length c1_2):=zc_ BK364.out 2;have hcz17_3:w15.cell? ⟨gb364,3,none⟩=some (.slice A1_3 l1_3.length c1_3):=zc_ BK364.out 3;have hcz17_4:w15.cell? ⟨gb364,4,none⟩=some (.slice A1_4 l1_4.length c1_4):=zc_ BK364.out 4;have hcz17_5:w15.cell? ⟨gb364,5,none⟩=some (.int .i64 a1_5):=zc_ BK364.out 5;have hfz17_0:=blk_frozen BK364.out 0;have hfz17_1:=blk_frozen BK364.out 1;have hfz17_2:=blk_frozen BK364.out 2;have hfz17_3:=blk_frozen BK364.out 3;have hfz17_4:=blk_frozen BK364.out 4;have hfz17_5:=blk_frozen BK364.out 5)|(go_at_call 47;(with_reducible refine (ih47 k (by omega) _ _ l0_3 _ _ l1_3 true _ ?side1 ?side2 ?side3 ?side4 A7.out).mono ?_);(case side1=>exact kc_ HR0_3.out HB.out);(case side2=>exact HC0_3.out);(case side3=>exact kc_ HR1_3.out HB.out);(case side4=>exact HC1_3.out);rintro e w18 ⟨rfl,hb⟩;have n0_:=Aside0.mk (bb_ BK363.out hb);have n1_:=Aside0.mk (bb_ BK364.out hb);have n2_:=Aside0.mk (below_step (bl_ HB.out) hb);clear BK363;clear BK364;clear HB;have BK363:=n0_;have BK364:=n1_;have HB:=n2_;clear n0_ n1_ n2_;(try clear hb);(try clear hb2);(try clear hk);(try clear hi);have hcz19_0:w18.cell? ⟨gb363,0,none⟩=some (.string a0_0):=zc_ BK363.out 0;have hcz19_1:w18.cell? ⟨gb363,1,none⟩=some (.string a0_1):=zc_ BK363.out 1;have hcz19_2:w18.cell? ⟨gb363,2,none⟩=some (.slice A0_2 l0_2.length c0_2):=zc_ BK363.out 2;have hcz19_3:w18.cell? ⟨gb363,3,none⟩=some (.slice A0_3 l0_3.length c0_3):=zc_ BK363.out 3;have hcz19_4:w18.cell? ⟨gb363,4,none⟩=some (.slice A0_4 l0_4.length c0_4):=zc_ BK363.out 4;have hcz19_5:w18.cell? ⟨gb363,5,none⟩=some (.int .i64 a0_5):=zc_ BK363.out 5;have hfz19_0:=blk_frozen BK363.out 0;have hfz19_1:=blk_frozen BK363.out 1;have hfz19_2:=blk_frozen BK363.out 2;have hfz19_3:=blk_frozen BK363.out 3;have hfz19_4:=blk_frozen BK363.out 4;have hfz19_5:=blk_frozen BK363.out 5;have hcz20_0:w18.cell? ⟨gb364,0,none⟩=some (.string a1_0):=zc_ BK364.out 0;have hcz20_1:w18.cell? ⟨gb364,1,none⟩=some (.string a1_1):=zc_ BK364.out 1;have hcz20_2:w18.cell? ⟨gb364,2,none⟩=some (.slice A1_2 l1_2.length c1_2):=zc_ BK364.out 2;have hcz20_3:w18.cell? ⟨gb364,3,none⟩=some (.slice A1_3 l1_3.length c1_3):=zc_ BK364.out 3;have hcz20_4:w18.cell? ⟨gb364,4,none⟩=some (.slice A1_4 l1_4.length c1_4):=zc_ BK364.out 4;have hcz20_5:w18.cell? ⟨gb364,5,none⟩=some (.int .i64 a1_5):=zc_ BK364.out 5;have hfz20_0:=blk_frozen BK364.out 0;have hfz20_1:=blk_frozen BK364.out 1;have hfz20_2:=blk_frozen BK364.out 2;have hfz20_3:=blk_frozen BK364.out 3;have hfz20_4:=blk_frozen BK364.out 4;have hfz20_5:=blk_frozen BK364.out 5)|(go_at_call 47;(with_reducible refine (ih47 k (by omega) _ _ l0_4 _ _ l1_4 t367 _ ?side1 ?side2 ?side3 ?side4 A9.out).mono ?_);(case side1=>exact kc_ HR0_4.out HB.out);(case side2=>exact HC0_4.out);(case side3=>exact kc_ HR1_4.out HB.out);(case side4=>exact HC1_4.out);rintro e w21 ⟨rfl,hb⟩;have n0_:=Aside0.mk (bb_ BK363.out hb);have n1_:=Aside0.mk (bb_ BK364.out hb);have n2_:=Aside0.mk (below_step (bl_ HB.out) hb);clear BK363;clear BK364;clear HB;have BK363:=n0_;have BK364:=n1_;have HB:=n2_;clear n0_ n1_ n2_;(try clear hb);(try clear hb2);(try clear hk);(try clear hi)))
     go_ret
     exact ⟨rt_,bl_ HB.out⟩
    ·replace c8:=Bool.eq_false_iff.mpr c8
     subst c8
     have H1:(some false)=some r:=by rw [if_neg (show ¬ (false=true) by decide)] at H;exact H
     clear H
     have H:=H1
     clear H1
     obtain rfl:=Option.some.inj H
     go_enter Tryd.func48,Tryd.ntmps48
     go_wp2_with (first|((with_reducible refine gate_dst (N:=2) rfl ?_);refine box_event ?hg (N:=2) ?hd (cs:=#[.string a0_0,.string a0_1,.slice A0_2 l0_2.length c0_2,.slice A0_3 l0_3.length c0_3,.slice A0_4 l0_4.length c0_4,.int .i64 a0_5]) (t:=76) ?hr ?_;(case hd=>rfl);(case hg=>rfl);(case hr=>first|(go_simp;done)|(go_simp;rfl));intro gb363 hg w22 hbox hb;have n0_:=Aside0.mk (below_step (bl_ HB.out) hb);have n1_:=Aside0.mk (hbox);have n2_:=Aside0.mk ((gs_ hg (bl_ HB.out):w.heap.size≤gb363));have n3_:=Aside0.mk ((gs_ hg (bl_ HB.out):w.heap.size≤gb363));clear HB;have HB:=n0_;have BK363:=n1_;have GW363:=n2_;have GE363:=n3_;clear n0_ n1_ n2_ n3_;clear hb hbox hg)|((with_reducible refine gate_dst (N:=3) rfl ?_);refine box_event ?hg (N:=3) ?hd (cs:=#[.string a1_0,.string a1_1,.slice A1_2 l1_2.length c1_2,.slice A1_3 l1_3.length c1_3,.slice A1_4 l1_4.length c1_4,.int .i64 a1_5]) (t:=76) ?hr ?_;(case hd=>rfl);(case hg=>rfl);(case hr=>first|(go_simp;done)|(go_simp;rfl));intro gb364 hg w23 hbox hb;have n0_:=Aside0.mk (bb_ BK363.out hb);have n1_:=Aside0.mk (below_step (bl_ HB.out) hb);have n2_:=Aside0.mk (hbox);have n3_:=Aside0.mk ((gs_ hg (bl_ HB.out):w.heap.size≤gb364));have n4_:=Aside0.mk ((gs_ hg (bl_ HB.out):w.heap.size≤gb364));have n5_:=Aside0.mk ((nl_ hg BK363.out:gb363≠gb364));have n6_:=Aside0.mk ((nr_ hg BK363.out:gb364≠gb363));clear BK363;clear HB;have BK363:=n0_;have HB:=n1_;have BK364:=n2_;have GW364:=n3_;have GE364:=n4_;have NB363_364:=n5_;have NB364_363:=n6_;clear n0_ n1_ n2_ n3_ n4_ n5_ n6_;clear hb hbox hg;have hnb24:=NB363_364.out;have hnc24:=NB364_363.out;have hcz25_0:w23.cell? ⟨gb363,0,none⟩=some (.string a0_0):=zc_ BK363.out 0;have hcz25_1:w23.cell? ⟨gb363,1,none⟩=some (.string a0_1):=zc_ BK363.out 1;have hcz25_2:w23.cell? ⟨gb363,2,none⟩=some (.slice A0_2 l0_2.length c0_2):=zc_ BK363.out 2;have hcz25_3:w23.cell? ⟨gb363,3,none⟩=some (.slice A0_3 l0_3.length c0_3):=zc_ BK363.out 3;have hcz25_4:w23.cell? ⟨gb363,4,none⟩=some (.slice A0_4 l0_4.length c0_4):=zc_ BK363.out 4;have hcz25_5:w23.cell? ⟨gb363,5,none⟩=some (.int .i64 a0_5):=zc_ BK363.out 5;have hfz25_0:=blk_frozen BK363.out 0;have hfz25_1:=blk_frozen BK363.out 1;have hfz25_2:=blk_frozen BK363.out 2;have hfz25_3:=blk_frozen BK363.out 3;have hfz25_4:=blk_frozen BK363.out 4;have hfz25_5:=blk_frozen BK363.out 5;have hcz26_0:w23.cell? ⟨gb364,0,none⟩=some (.string a1_0):=zc_ BK364.out 0;have hcz26_1:w23.cell? ⟨gb364,1,none⟩=some (.string a1_1):=zc_ BK364.out 1;have hcz26_2:w23.cell? ⟨gb364,2,none⟩=some (.slice A1_2 l1_2.length c1_2):=zc_ BK364.out 2;have hcz26_3:w23.cell? ⟨gb364,3,none⟩=some (.slice A1_3 l1_3.length c1_3):=zc_ BK364.out 3;have hcz26_4:w23.cell? ⟨gb364,4,none⟩=some (.slice A1_4 l1_4.length c1_4):=zc_ BK364.out 4;have hcz26_5:w23.cell? ⟨gb364,5,none⟩=some (.int .i64 a1_5):=zc_ BK364.out 5;have hfz26_0:=blk_frozen BK364.out 0;have hfz26_1:=blk_frozen BK364.out 1;have hfz26_2:=blk_frozen BK364.out 2;have hfz26_3:=blk_frozen BK364.out 3;have hfz26_4:=blk_frozen BK364.out 4;have hfz26_5:=blk_frozen BK364.out 5)|(go_at_call 43;(with_reducible refine (tree_Expr_at_tree_SameExpr.calls k _ _ l0_2 _ _ l1_2 true _ ?side1 ?side2 ?side3 ?side4 A5.out).mono ?_);(case side1=>exact kc_ HR0_2.out HB.out);(case side2=>exact HC0_2.out);(case side3=>exact kc_ HR1_2.out HB.out);(case side4=>exact HC1_2.out);rintro e w27 ⟨rfl,hb⟩;have n0_:=Aside0.mk (bb_ BK363.out hb);have n1_:=Aside0.mk (bb_ BK364.out hb);have n2_:=Aside0.mk (below_step (bl_ HB.out) hb);clear BK363;clear BK364;clear HB;have BK363:=n0_;have BK364:=n1_;have HB:=n2_;clear n0_ n1_ n2_;(try clear hb);(try clear hb2);(try clear hk);(try clear hi);have hcz28_0:w27.cell? ⟨gb363,0,none⟩=some (.string a0_0):=zc_ BK363.out 0;have hcz28_1:w27.cell? ⟨gb363,1,none⟩=some (.string a0_1):=zc_ BK363.out 1;have hcz28_2:w27.cell? ⟨gb363,2,none⟩=some (.slice A0_2 l0_2.length c0_2):=zc_ BK363.out 2;have hcz28_3:w27.cell? ⟨gb363,3,none⟩=some (.slice A0_3 l0_3.length c0_3):=zc_ BK363.out 3;have hcz28_4:w27.cell? ⟨gb363,4,none⟩=some (.slice A0_4 l0_4.length c0_4):=zc_ BK363.out 4;have hcz28_5:w27.cell? ⟨gb363,5,none⟩=some (.int .i64 a0_5):=zc_ BK363.out 5;have hfz28_0:=blk_frozen BK363.out 0;have hfz28_1:=blk_frozen BK363.out 1;have hfz28_2:=blk_frozen BK363.out 2;have hfz28_3:=blk_frozen BK363.out 3;have hfz28_4:=blk_frozen BK363.out 4;have hfz28_5:=blk_frozen BK363.out 5;have hcz29_0:w27.cell? ⟨gb364,0,none⟩=some (.string a1_0):=zc_ BK364.out 0;have hcz29_1:w27.cell? ⟨gb364,1,none⟩=some (.string a1_1):=zc_ BK364.out 1;have hcz29_2:w27.cell? ⟨gb364,2,none⟩=some (.slice A1_2 l1_2.length c1_2):=zc_ BK364.out 2;have hcz29_3:w27.cell? ⟨gb364,3,none⟩=some (.slice A1_3 l1_3.length c1_3):=zc_ BK364.out 3;have hcz29_4:w27.cell? ⟨gb364,4,none⟩=some (.slice A1_4 l1_4.length c1_4):=zc_ BK364.out 4;have hcz29_5:w27.cell? ⟨gb364,5,none⟩=some (.int .i64 a1_5):=zc_ BK364.out 5;have hfz29_0:=blk_frozen BK364.out 0;have hfz29_1:=blk_frozen BK364.out 1;have hfz29_2:=blk_frozen BK364.out 2;have hfz29_3:=blk_frozen BK364.out 3;have hfz29_4:=blk_frozen BK364.out 4;have hfz29_5:=blk_frozen BK364.out 5)|(go_at_call 47;(with_reducible refine (ih47 k (by omega) _ _ l0_3 _ _ l1_3 false _ ?side1 ?side2 ?side3 ?side4 A7.out).mono ?_);(case side1=>exact kc_ HR0_3.out HB.out);(case side2=>exact HC0_3.out);(case side3=>exact kc_ HR1_3.out HB.out);(case side4=>exact HC1_3.out);rintro e w30 ⟨rfl,hb⟩;have n0_:=Aside0.mk (bb_ BK363.out hb);have n1_:=Aside0.mk (bb_ BK364.out hb);have n2_:=Aside0.mk (below_step (bl_ HB.out) hb);clear BK363;clear BK364;clear HB;have BK363:=n0_;have BK364:=n1_;have HB:=n2_;clear n0_ n1_ n2_;(try clear hb);(try clear hb2);(try clear hk);(try clear hi)))
     go_ret
     exact ⟨rt_,bl_ HB.out⟩
   ·replace c6:=Bool.eq_false_iff.mpr c6
    subst c6
    have H1:(some false)=some r:=by rw [if_neg (show ¬ (false=true) by decide)] at H;exact H
    clear H
    have H:=H1
    clear H1
    obtain rfl:=Option.some.inj H
    go_enter Tryd.func48,Tryd.ntmps48
    go_wp2_with (first|((with_reducible refine gate_dst (N:=2) rfl ?_);refine box_event ?hg (N:=2) ?hd (cs:=#[.string a0_0,.string a0_1,.slice A0_2 l0_2.length c0_2,.slice A0_3 l0_3.length c0_3,.slice A0_4 l0_4.length c0_4,.int .i64 a0_5]) (t:=76) ?hr ?_;(case hd=>rfl);(case hg=>rfl);(case hr=>first|(go_simp;done)|(go_simp;rfl));intro gb363 hg w31 hbox hb;have n0_:=Aside0.mk (below_step (bl_ HB.out) hb);have n1_:=Aside0.mk (hbox);have n2_:=Aside0.mk ((gs_ hg (bl_ HB.out):w.heap.size≤gb363));have n3_:=Aside0.mk ((gs_ hg (bl_ HB.out):w.heap.size≤gb363));clear HB;have HB:=n0_;have BK363:=n1_;have GW363:=n2_;have GE363:=n3_;clear n0_ n1_ n2_ n3_;clear hb hbox hg)|((with_reducible refine gate_dst (N:=3) rfl ?_);refine box_event ?hg (N:=3) ?hd (cs:=#[.string a1_0,.string a1_1,.slice A1_2 l1_2.length c1_2,.slice A1_3 l1_3.length c1_3,.slice A1_4 l1_4.length c1_4,.int .i64 a1_5]) (t:=76) ?hr ?_;(case hd=>rfl);(case hg=>rfl);(case hr=>first|(go_simp;done)|(go_simp;rfl));intro gb364 hg w32 hbox hb;have n0_:=Aside0.mk (bb_ BK363.out hb);have n1_:=Aside0.mk (below_step (bl_ HB.out) hb);have n2_:=Aside0.mk (hbox);have n3_:=Aside0.mk ((gs_ hg (bl_ HB.out):w.heap.size≤gb364));have n4_:=Aside0.mk ((gs_ hg (bl_ HB.out):w.heap.size≤gb364));have n5_:=Aside0.mk ((nl_ hg BK363.out:gb363≠gb364));have n6_:=Aside0.mk ((nr_ hg BK363.out:gb364≠gb363));clear BK363;clear HB;have BK363:=n0_;have HB:=n1_;have BK364:=n2_;have GW364:=n3_;have GE364:=n4_;have NB363_364:=n5_;have NB364_363:=n6_;clear n0_ n1_ n2_ n3_ n4_ n5_ n6_;clear hb hbox hg;have hnb33:=NB363_364.out;have hnc33:=NB364_363.out;have hcz34_0:w32.cell? ⟨gb363,0,none⟩=some (.string a0_0):=zc_ BK363.out 0;have hcz34_1:w32.cell? ⟨gb363,1,none⟩=some (.string a0_1):=zc_ BK363.out 1;have hcz34_2:w32.cell? ⟨gb363,2,none⟩=some (.slice A0_2 l0_2.length c0_2):=zc_ BK363.out 2;have hcz34_3:w32.cell? ⟨gb363,3,none⟩=some (.slice A0_3 l0_3.length c0_3):=zc_ BK363.out 3;have hcz34_4:w32.cell? ⟨gb363,4,none⟩=some (.slice A0_4 l0_4.length c0_4):=zc_ BK363.out 4;have hcz34_5:w32.cell? ⟨gb363,5,none⟩=some (.int .i64 a0_5):=zc_ BK363.out 5;have hfz34_0:=blk_frozen BK363.out 0;have hfz34_1:=blk_frozen BK363.out 1;have hfz34_2:=blk_frozen BK363.out 2;have hfz34_3:=blk_frozen BK363.out 3;have hfz34_4:=blk_frozen BK363.out 4;have hfz34_5:=blk_frozen BK363.out 5;have hcz35_0:w32.cell? ⟨gb364,0,none⟩=some (.string a1_0):=zc_ BK364.out 0;have hcz35_1:w32.cell? ⟨gb364,1,none⟩=some (.string a1_1):=zc_ BK364.out 1;have hcz35_2:w32.cell? ⟨gb364,2,none⟩=some (.slice A1_2 l1_2.length c1_2):=zc_ BK364.out 2;have hcz35_3:w32.cell? ⟨gb364,3,none⟩=some (.slice A1_3 l1_3.length c1_3):=zc_ BK364.out 3;have hcz35_4:w32.cell? ⟨gb364,4,none⟩=some (.slice A1_4 l1_4.length c1_4):=zc_ BK364.out 4;have hcz35_5:w32.cell? ⟨gb364,5,none⟩=some (.int .i64 a1_5):=zc_ BK364.out 5;have hfz35_0:=blk_frozen BK364.out 0;have hfz35_1:=blk_frozen BK364.out 1;have hfz35_2:=blk_frozen BK364.out 2;have hfz35_3:=blk_frozen BK364.out 3;have hfz35_4:=blk_frozen BK364.out 4;have hfz35_5:=blk_frozen BK364.out 5)|(go_at_call 43;(with_reducible refine (tree_Expr_at_tree_SameExpr.calls k _ _ l0_2 _ _ l1_2 false _ ?side1 ?side2 ?side3 ?side4 A5.out).mono ?_);(case side1=>exact kc_ HR0_2.out HB.out);(case side2=>exact HC0_2.out);(case side3=>exact kc_ HR1_2.out HB.out);(case side4=>exact HC1_2.out);rintro e w36 ⟨rfl,hb⟩;have n0_:=Aside0.mk (bb_ BK363.out hb);have n1_:=Aside0.mk (bb_ BK364.out hb);have n2_:=Aside0.mk (below_step (bl_ HB.out) hb);clear BK363;clear BK364;clear HB;have BK363:=n0_;have BK364:=n1_;have HB:=n2_;clear n0_ n1_ n2_;(try clear hb);(try clear hb2);(try clear hk);(try clear hi)))
    go_ret
    exact ⟨rt_,bl_ HB.out⟩
  ·rw [if_neg c4] at H
   have c4b0:(a0_1.toList == a1_1.toList)=false:=beq_eq_false_iff_ne.mpr c4
   have c4b1:(a0_1.toList != a1_1.toList)=true:=bne_iff_ne.mpr c4
   obtain rfl:=Option.some.inj H
   go_enter Tryd.func48,Tryd.ntmps48
   go_wp2_with (first|((with_reducible refine gate_dst (N:=2) rfl ?_);refine box_event ?hg (N:=2) ?hd (cs:=#[.string a0_0,.string a0_1,.slice A0_2 l0_2.length c0_2,.slice A0_3 l0_3.length c0_3,.slice A0_4 l0_4.length c0_4,.int .i64 a0_5]) (t:=76) ?hr ?_;(case hd=>rfl);(case hg=>rfl);(case hr=>first|(go_simp;done)|(go_simp;rfl));intro gb363 hg w37 hbox hb;have n0_:=Aside0.mk (below_step (bl_ HB.out) hb);have n1_:=Aside0.mk (hbox);have n2_:=Aside0.mk ((gs_ hg (bl_ HB.out):w.heap.size≤gb363));have n3_:=Aside0.mk ((gs_ hg (bl_ HB.out):w.heap.size≤gb363));clear HB;have HB:=n0_;have BK363:=n1_;have GW363:=n2_;have GE363:=n3_;clear n0_ n1_ n2_ n3_;clear hb hbox hg)|((with_reducible refine gate_dst (N:=3) rfl ?_);refine box_event ?hg (N:=3) ?hd (cs:=#[.string a1_0,.string a1_1,.slice A1_2 l1_2.length c1_2,.slice A1_3 l1_3.length c1_3,.slice A1_4 l1_4.length c1_4,.int .i64 a1_5]) (t:=76) ?hr ?_;(case hd=>rfl);(case hg=>rfl);(case hr=>first|(go_simp;done)|(go_simp;rfl));intro gb364 hg w38 hbox hb;have n0_:=Aside0.mk (bb_ BK363.out hb);have n1_:=Aside0.mk (below_step (bl_ HB.out) hb);have n2_:=Aside0.mk (hbox);have n3_:=Aside0.mk ((gs_ hg (bl_ HB.out):w.heap.size≤gb364));have n4_:=Aside0.mk ((gs_ hg (bl_ HB.out):w.heap.size≤gb364));have n5_:=Aside0.mk ((nl_ hg BK363.out:gb363≠gb364));have n6_:=Aside0.mk ((nr_ hg BK363.out:gb364≠gb363));clear BK363;clear HB;have BK363:=n0_;have HB:=n1_;have BK364:=n2_;have GW364:=n3_;have GE364:=n4_;have NB363_364:=n5_;have NB364_363:=n6_;clear n0_ n1_ n2_ n3_ n4_ n5_ n6_;clear hb hbox hg;have hnb39:=NB363_364.out;have hnc39:=NB364_363.out;have hcz40_0:w38.cell? ⟨gb363,0,none⟩=some (.string a0_0):=zc_ BK363.out 0;have hcz40_1:w38.cell? ⟨gb363,1,none⟩=some (.string a0_1):=zc_ BK363.out 1;have hcz40_2:w38.cell? ⟨gb363,2,none⟩=some (.slice A0_2 l0_2.length c0_2):=zc_ BK363.out 2;have hcz40_3:w38.cell? ⟨gb363,3,none⟩=some (.slice A0_3 l0_3.length c0_3):=zc_ BK363.out 3;have hcz40_4:w38.cell? ⟨gb363,4,none⟩=some (.slice A0_4 l0_4.length c0_4):=zc_ BK363.out 4;have hcz40_5:w38.cell? ⟨gb363,5,none⟩=some (.int .i64 a0_5):=zc_ BK363.out 5;have hfz40_0:=blk_frozen BK363.out 0;have hfz40_1:=blk_frozen BK363.out 1;have hfz40_2:=blk_frozen BK363.out 2;have hfz40_3:=blk_frozen BK363.out 3;have hfz40_4:=blk_frozen BK363.out 4;have hfz40_5:=blk_frozen BK363.out 5;have hcz41_0:w38.cell? ⟨gb364,0,none⟩=some (.string a1_0):=zc_ BK364.out 0;have hcz41_1:w38.cell? ⟨gb364,1,none⟩=some (.string a1_1):=zc_ BK364.out 1;have hcz41_2:w38.cell? ⟨gb364,2,none⟩=some (.slice A1_2 l1_2.length c1_2):=zc_ BK364.out 2;have hcz41_3:w38.cell? ⟨gb364,3,none⟩=some (.slice A1_3 l1_3.length c1_3):=zc_ BK364.out 3;have hcz41_4:w38.cell? ⟨gb364,4,none⟩=some (.slice A1_4 l1_4.length c1_4):=zc_ BK364.out 4;have hcz41_5:w38.cell? ⟨gb364,5,none⟩=some (.int .i64 a1_5):=zc_ BK364.out 5;have hfz41_0:=blk_frozen BK364.out 0;have hfz41_1:=blk_frozen BK364.out 1;have hfz41_2:=blk_frozen BK364.out 2;have hfz41_3:=blk_frozen BK364.out 3;have hfz41_4:=blk_frozen BK364.out 4;have hfz41_5:=blk_frozen BK364.out 5))
   go_ret
   exact ⟨rt_,bl_ HB.out⟩
 ·rw [if_neg c3] at H
  have c3b0:(a0_0.toList == a1_0.toList)=false:=beq_eq_false_iff_ne.mpr c3
  have c3b1:(a0_0.toList != a1_0.toList)=true:=bne_iff_ne.mpr c3
  obtain rfl:=Option.some.inj H
  go_enter Tryd.func48,Tryd.ntmps48
  go_wp2_with (first|((with_reducible refine gate_dst (N:=2) rfl ?_);refine box_event ?hg (N:=2) ?hd (cs:=#[.string a0_0,.string a0_1,.slice A0_2 l0_2.length c0_2,.slice A0_3 l0_3.length c0_3,.slice A0_4 l0_4.length c0_4,.int .i64 a0_5]) (t:=76) ?hr ?_;(case hd=>rfl);(case hg=>rfl);(case hr=>first|(go_simp;done)|(go_simp;rfl));intro gb363 hg w42 hbox hb;have n0_:=Aside0.mk (below_step (bl_ HB.out) hb);have n1_:=Aside0.mk (hbox);have n2_:=Aside0.mk ((gs_ hg (bl_ HB.out):w.heap.size≤gb363));have n3_:=Aside0.mk ((gs_ hg (bl_ HB.out):w.heap.size≤gb363));clear HB;have HB:=n0_;have BK363:=n1_;have GW363:=n2_;have GE363:=n3_;clear n0_ n1_ n2_ n3_;clear hb hbox hg)|((with_reducible refine gate_dst (N:=3) rfl ?_);refine box_event ?hg (N:=3) ?hd (cs:=#[.string a1_0,.string a1_1,.slice A1_2 l1_2.length c1_2,.slice A1_3 l1_3.length c1_3,.slice A1_4 l1_4.length c1_4,.int .i64 a1_5]) (t:=76) ?hr ?_;(case hd=>rfl);(case hg=>rfl);(case hr=>first|(go_simp;done)|(go_simp;rfl));intro gb364 hg w43 hbox hb;have n0_:=Aside0.mk (bb_ BK363.out hb);have n1_:=Aside0.mk (below_step (bl_ HB.out) hb);have n2_:=Aside0.mk (hbox);have n3_:=Aside0.mk ((gs_ hg (bl_ HB.out):w.heap.size≤gb364));have n4_:=Aside0.mk ((gs_ hg (bl_ HB.out):w.heap.size≤gb364));have n5_:=Aside0.mk ((nl_ hg BK363.out:gb363≠gb364));have n6_:=Aside0.mk ((nr_ hg BK363.out:gb364≠gb363));clear BK363;clear HB;have BK363:=n0_;have HB:=n1_;have BK364:=n2_;have GW364:=n3_;have GE364:=n4_;have NB363_364:=n5_;have NB364_363:=n6_;clear n0_ n1_ n2_ n3_ n4_ n5_ n6_;clear hb hbox hg;have hnb44:=NB363_364.out;have hnc44:=NB364_363.out;have hcz45_0:w43.cell? ⟨gb363,0,none⟩=some (.string a0_0):=zc_ BK363.out 0;have hcz45_1:w43.cell? ⟨gb363,1,none⟩=some (.string a0_1):=zc_ BK363.out 1;have hcz45_2:w43.cell? ⟨gb363,2,none⟩=some (.slice A0_2 l0_2.length c0_2):=zc_ BK363.out 2;have hcz45_3:w43.cell? ⟨gb363,3,none⟩=some (.slice A0_3 l0_3.length c0_3):=zc_ BK363.out 3;have hcz45_4:w43.cell? ⟨gb363,4,none⟩=some (.slice A0_4 l0_4.length c0_4):=zc_ BK363.out 4;have hcz45_5:w43.cell? ⟨gb363,5,none⟩=some (.int .i64 a0_5):=zc_ BK363.out 5;have hfz45_0:=blk_frozen BK363.out 0;have hfz45_1:=blk_frozen BK363.out 1;have hfz45_2:=blk_frozen BK363.out 2;have hfz45_3:=blk_frozen BK363.out 3;have hfz45_4:=blk_frozen BK363.out 4;have hfz45_5:=blk_frozen BK363.out 5;have hcz46_0:w43.cell? ⟨gb364,0,none⟩=some (.string a1_0):=zc_ BK364.out 0;have hcz46_1:w43.cell? ⟨gb364,1,none⟩=some (.string a1_1):=zc_ BK364.out 1;have hcz46_2:w43.cell? ⟨gb364,2,none⟩=some (.slice A1_2 l1_2.length c1_2):=zc_ BK364.out 2;have hcz46_3:w43.cell? ⟨gb364,3,none⟩=some (.slice A1_3 l1_3.length c1_3):=zc_ BK364.out 3;have hcz46_4:w43.cell? ⟨gb364,4,none⟩=some (.slice A1_4 l1_4.length c1_4):=zc_ BK364.out 4;have hcz46_5:w43.cell? ⟨gb364,5,none⟩=some (.int .i64 a1_5):=zc_ BK364.out 5;have hfz46_0:=blk_frozen BK364.out 0;have hfz46_1:=blk_frozen BK364.out 1;have hfz46_2:=blk_frozen BK364.out 2;have hfz46_3:=blk_frozen BK364.out 3;have hfz46_4:=blk_frozen BK364.out 4;have hfz46_5:=blk_frozen BK364.out 5))
  go_ret
  exact ⟨rt_,bl_ HB.out⟩
end Go.Proofs.YtnnbbeloifhofaaDoor.P
end
section
namespace Go.Proofs.YtnnbbeloifhofaaDoor.P
open Go.RowKit Go.Proofs.YtnnbbeloifhofaaDoorW.PrintWords Go.Proofs.YtnnbbeloifhofaaDoorW.PrintLast Go.Proofs.YtnnbbeloifhofaaDoorW.PrintMore
attribute [local go_sem] max2_int min2_int max_two min_two max_three min_three max_four min_four
set_option linter.unusedVariables false
set_option linter.unusedSimpArgs false
theorem tree_Stmt_at_tree_sameStmt_ring.all (k:Nat):tree_Stmt_at_tree_sameStmt.Stmt k∧tree_sameStmt.Stmt k:=by
  induction k using Nat.strongRecOn with
  | _ k ih=>
  exact ⟨tree_Stmt_at_tree_sameStmt.step k (fun m_ h_=>(ih m_ h_).1) (fun m_ h_=>(ih m_ h_).2),tree_sameStmt.step k (fun m_ h_=>(ih m_ h_).1) (fun m_ h_=>(ih m_ h_).2)⟩
theorem tree_Stmt_at_tree_sameStmt.calls (k:Nat):tree_Stmt_at_tree_sameStmt.Stmt k:=(tree_Stmt_at_tree_sameStmt_ring.all k).1
end Go.Proofs.YtnnbbeloifhofaaDoor.P
end
section
namespace Go.Proofs.YtnnbbeloifhofaaDoor.P
open Go.RowKit Go.Proofs.YtnnbbeloifhofaaDoorW.PrintWords Go.Proofs.YtnnbbeloifhofaaDoorW.PrintLast Go.Proofs.YtnnbbeloifhofaaDoorW.PrintMore
attribute [local go_sem] max2_int min2_int max_two min_two max_three min_three max_four min_four
set_option linter.unusedVariables false
set_option linter.unusedSimpArgs false
def tree_Same_2.f (k:Nat) (a0_0:ByteArray) (l0_1:List (S76)) (a1_0:ByteArray) (l1_1:List (S76)):Option (Bool):=if a0_0.toList=a1_0.toList then ((tree_Stmt_at_tree_sameStmt.f k l0_1 l1_1).bind fun t370=>(some t370)) else (some false)
set_option maxHeartbeats 8000000 in
set_option maxRecDepth 100000 in
theorem tree_Same_2.calls (k:Nat) (a0_0:ByteArray) (A0_1:Option Addr) (c0_1:Nat) (l0_1:List (S76)) (a1_0:ByteArray) (A1_1:Option Addr) (c1_1:Nat) (l1_1:List (S76)) (r:Bool) (w:World) (hr0_1:Kd.C k76 w A0_1 l0_1.length l0_1) (hc0_1:l0_1.length≤c0_1) (hr1_1:Kd.C k76 w A1_1 l1_1.length l1_1) (hc1_1:l1_1.length≤c1_1) (h:tree_Same_2.f k a0_0 l0_1 a1_0 l1_1=some r) :
  Calls Tryd.prog 46 #[.agg #[.string a0_0,.slice A0_1 l0_1.length c0_1],.agg #[.string a1_0,.slice A1_1 l1_1.length c1_1]] w fun e w'=>e=.returned (.bool r)∧Below w.heap.size w w':=by
 have hu66:=Tryd.underlying66
 have HR0_1:=Aside0.mk hr0_1
 have HC0_1:=Aside0.mk hc0_1
 clear hr0_1 hc0_1
 have HR1_1:=Aside0.mk hr1_1
 have HC1_1:=Aside0.mk hc1_1
 clear hr1_1 hc1_1
 have HB:=Aside0.mk (Below.refl w.heap.size w)
 have H:(if a0_0.toList=a1_0.toList then ((tree_Stmt_at_tree_sameStmt.f k l0_1 l1_1).bind fun t370=>(some t370)) else (some false))=some r:=h
 clear h
 by_cases c3:a0_0.toList=a1_0.toList
 ·rw [if_pos c3] at H
  have c3b0:(a0_0.toList == a1_0.toList)=true:=beq_iff_eq.mpr c3
  have c3b1:(a0_0.toList != a1_0.toList)=false:=bne_eq_false_iff_eq.mpr c3
  clear c3
  replace H:=Option.bind_eq_some_iff.mp H
  obtain ⟨t370,A40,H⟩:=H
  replace H:(some t370)=some r:=H
  have A4:=Aside0.mk A40
  clear A40
  obtain rfl:=Option.some.inj H
  go_enter Tryd.func46,Tryd.ntmps46
  go_wp2_with (first|((with_reducible refine gate_dst (N:=2) rfl ?_);refine box_event ?hg (N:=2) ?hd (cs:=#[.string a0_0,.slice A0_1 l0_1.length c0_1]) (t:=66) ?hr ?_;(case hd=>rfl);(case hg=>rfl);(case hr=>first|(go_simp;done)|(go_simp;rfl));intro gb368 hg w5 hbox hb;have n0_:=Aside0.mk (below_step (bl_ HB.out) hb);have n1_:=Aside0.mk (hbox);have n2_:=Aside0.mk ((gs_ hg (bl_ HB.out):w.heap.size≤gb368));have n3_:=Aside0.mk ((gs_ hg (bl_ HB.out):w.heap.size≤gb368));clear HB;have HB:=n0_;have BK368:=n1_;have GW368:=n2_;have GE368:=n3_;clear n0_ n1_ n2_ n3_;clear hb hbox hg)|((with_reducible refine gate_dst (N:=3) rfl ?_);refine box_event ?hg (N:=3) ?hd (cs:=#[.string a1_0,.slice A1_1 l1_1.length c1_1]) (t:=66) ?hr ?_;(case hd=>rfl);(case hg=>rfl);(case hr=>first|(go_simp;done)|(go_simp;rfl));intro gb369 hg w6 hbox hb;have n0_:=Aside0.mk (bb_ BK368.out hb);have n1_:=Aside0.mk (below_step (bl_ HB.out) hb);have n2_:=Aside0.mk (hbox);have n3_:=Aside0.mk ((gs_ hg (bl_ HB.out):w.heap.size≤gb369));have n4_:=Aside0.mk ((gs_ hg (bl_ HB.out):w.heap.size≤gb369));have n5_:=Aside0.mk ((nl_ hg BK368.out:gb368≠gb369));have n6_:=Aside0.mk ((nr_ hg BK368.out:gb369≠gb368));clear BK368;clear HB;have BK368:=n0_;have HB:=n1_;have BK369:=n2_;have GW369:=n3_;have GE369:=n4_;have NB368_369:=n5_;have NB369_368:=n6_;clear n0_ n1_ n2_ n3_ n4_ n5_ n6_;clear hb hbox hg;have hnb7:=NB368_369.out;have hnc7:=NB369_368.out;have hcz8_0:w6.cell? ⟨gb368,0,none⟩=some (.string a0_0):=zc_ BK368.out 0;have hcz8_1:w6.cell? ⟨gb368,1,none⟩=some (.slice A0_1 l0_1.length c0_1):=zc_ BK368.out 1;have hfz8_0:=blk_frozen BK368.out 0;have hfz8_1:=blk_frozen BK368.out 1;have hcz9_0:w6.cell? ⟨gb369,0,none⟩=some (.string a1_0):=zc_ BK369.out 0;have hcz9_1:w6.cell? ⟨gb369,1,none⟩=some (.slice A1_1 l1_1.length c1_1):=zc_ BK369.out 1;have hfz9_0:=blk_frozen BK369.out 0;have hfz9_1:=blk_frozen BK369.out 1)|(go_at_call 47;(with_reducible refine (tree_Stmt_at_tree_sameStmt.calls k _ _ l0_1 _ _ l1_1 t370 _ ?side1 ?side2 ?side3 ?side4 A4.out).mono ?_);(case side1=>exact kc_ HR0_1.out HB.out);(case side2=>exact HC0_1.out);(case side3=>exact kc_ HR1_1.out HB.out);(case side4=>exact HC1_1.out);rintro e w10 ⟨rfl,hb⟩;have n0_:=Aside0.mk (bb_ BK368.out hb);have n1_:=Aside0.mk (bb_ BK369.out hb);have n2_:=Aside0.mk (below_step (bl_ HB.out) hb);clear BK368;clear BK369;clear HB;have BK368:=n0_;have BK369:=n1_;have HB:=n2_;clear n0_ n1_ n2_;(try clear hb);(try clear hb2);(try clear hk);(try clear hi)))
  go_ret
  exact ⟨rt_,bl_ HB.out⟩
 ·rw [if_neg c3] at H
  have c3b0:(a0_0.toList == a1_0.toList)=false:=beq_eq_false_iff_ne.mpr c3
  have c3b1:(a0_0.toList != a1_0.toList)=true:=bne_iff_ne.mpr c3
  obtain rfl:=Option.some.inj H
  go_enter Tryd.func46,Tryd.ntmps46
  go_wp2_with (first|((with_reducible refine gate_dst (N:=2) rfl ?_);refine box_event ?hg (N:=2) ?hd (cs:=#[.string a0_0,.slice A0_1 l0_1.length c0_1]) (t:=66) ?hr ?_;(case hd=>rfl);(case hg=>rfl);(case hr=>first|(go_simp;done)|(go_simp;rfl));intro gb368 hg w11 hbox hb;have n0_:=Aside0.mk (below_step (bl_ HB.out) hb);have n1_:=Aside0.mk (hbox);have n2_:=Aside0.mk ((gs_ hg (bl_ HB.out):w.heap.size≤gb368));have n3_:=Aside0.mk ((gs_ hg (bl_ HB.out):w.heap.size≤gb368));clear HB;have HB:=n0_;have BK368:=n1_;have GW368:=n2_;have GE368:=n3_;clear n0_ n1_ n2_ n3_;clear hb hbox hg)|((with_reducible refine gate_dst (N:=3) rfl ?_);refine box_event ?hg (N:=3) ?hd (cs:=#[.string a1_0,.slice A1_1 l1_1.length c1_1]) (t:=66) ?hr ?_;(case hd=>rfl);(case hg=>rfl);(case hr=>first|(go_simp;done)|(go_simp;rfl));intro gb369 hg w12 hbox hb;have n0_:=Aside0.mk (bb_ BK368.out hb);have n1_:=Aside0.mk (below_step (bl_ HB.out) hb);have n2_:=Aside0.mk (hbox);have n3_:=Aside0.mk ((gs_ hg (bl_ HB.out):w.heap.size≤gb369));have n4_:=Aside0.mk ((gs_ hg (bl_ HB.out):w.heap.size≤gb369));have n5_:=Aside0.mk ((nl_ hg BK368.out:gb368≠gb369));have n6_:=Aside0.mk ((nr_ hg BK368.out:gb369≠gb368));clear BK368;clear HB;have BK368:=n0_;have HB:=n1_;have BK369:=n2_;have GW369:=n3_;have GE369:=n4_;have NB368_369:=n5_;have NB369_368:=n6_;clear n0_ n1_ n2_ n3_ n4_ n5_ n6_;clear hb hbox hg;have hnb13:=NB368_369.out;have hnc13:=NB369_368.out;have hcz14_0:w12.cell? ⟨gb368,0,none⟩=some (.string a0_0):=zc_ BK368.out 0;have hcz14_1:w12.cell? ⟨gb368,1,none⟩=some (.slice A0_1 l0_1.length c0_1):=zc_ BK368.out 1;have hfz14_0:=blk_frozen BK368.out 0;have hfz14_1:=blk_frozen BK368.out 1;have hcz15_0:w12.cell? ⟨gb369,0,none⟩=some (.string a1_0):=zc_ BK369.out 0;have hcz15_1:w12.cell? ⟨gb369,1,none⟩=some (.slice A1_1 l1_1.length c1_1):=zc_ BK369.out 1;have hfz15_0:=blk_frozen BK369.out 0;have hfz15_1:=blk_frozen BK369.out 1))
  go_ret
  exact ⟨rt_,bl_ HB.out⟩
end Go.Proofs.YtnnbbeloifhofaaDoor.P
end
section
namespace Go.Proofs.YtnnbbeloifhofaaDoor.P
open Go.RowKit Go.Proofs.YtnnbbeloifhofaaDoorW.PrintWords Go.Proofs.YtnnbbeloifhofaaDoorW.PrintLast Go.Proofs.YtnnbbeloifhofaaDoorW.PrintMore
attribute [local go_sem] max2_int min2_int max_two min_two max_three min_three max_four min_four
set_option linter.unusedVariables false
set_option linter.unusedSimpArgs false
def tree_Proc_at_tree_Same_2.l0:Nat→List (S66)→List (S66)→Int→Int→Option (Bool)
 | 0,_,_,_,_=>none
 | k+1,x1,x15,x16,x17=>if x17 < x16 then (if 0≤x17 then (if x17 < (x15.length:Int) then (if x17 < (x1.length:Int) then ((tree_Same_2.f k ((rd_T66 x15 x17).f0) ((rd_T66 x15 x17).f1) ((rd_T66 x1 x17).f0) ((rd_T66 x1 x17).f1)).bind fun t375=>(if t375=true then (tree_Proc_at_tree_Same_2.l0 k x1 x15 x16 (wrap64 (x17+1))) else (some false))) else (none)) else (none)) else (none)) else (some true)
def tree_Proc_at_tree_Same_2.f (k:Nat) (l0:List (S66)) (l1:List (S66))  : Option (Bool):=if (l0.length:Int)=(l1.length:Int) then (tree_Proc_at_tree_Same_2.l0 k l1 l0 (l0.length:Int) 0) else (some false)
set_option maxHeartbeats 8000000 in
set_option maxRecDepth 100000 in
theorem tree_Proc_at_tree_Same_2.calls (k:Nat) (A0:Option Addr) (c0:Nat) (l0:List (S66)) (A1:Option Addr) (c1:Nat) (l1:List (S66))  (r:Bool) (w:World) (hr0:Kd.C k66 w A0 l0.length l0) (hc0:l0.length≤c0) (hr1:Kd.C k66 w A1 l1.length l1) (hc1:l1.length≤c1) (h:tree_Proc_at_tree_Same_2.f k l0 l1=some r) :
  Calls Tryd.prog 51 #[.slice A0 l0.length c0,.slice A1 l1.length c1,.func (.func 46) #[] #[]] w fun e w'=>e=.returned (.bool r)∧Below w.heap.size w w':=by
 have hu66:=Tryd.underlying66
 have HR0:=Aside0.mk hr0
 have HC0:=Aside0.mk hc0
 clear hr0 hc0
 have HR1:=Aside0.mk hr1
 have HC1:=Aside0.mk hc1
 clear hr1 hc1
 have HB:=Aside0.mk (Below.refl w.heap.size w)
 have H:(if (l0.length:Int)=(l1.length:Int) then (tree_Proc_at_tree_Same_2.l0 k l1 l0 (l0.length:Int) 0) else (some false))=some r:=h
 clear h
 by_cases c4:(l0.length:Int)=(l1.length:Int)
 ·rw [if_pos c4] at H
  have c4b0:((l0.length:Int) == (l1.length:Int))=true:=beq_iff_eq.mpr c4
  have c4b1:((l0.length:Int) != (l1.length:Int))=false:=bne_eq_false_iff_eq.mpr c4
  have c4b2:(l0.length == l1.length)=true:=by first|simpa using c4|(simp at c4 ⊢;omega)
  clear c4
  have H':=Aside0.mk H
  clear H
  go_enter Tryd.func51,Tryd.ntmps51
  go_wp2
  (try simp only [Act.put,List.setIfInBounds_toArray,List.set_cons_succ,List.set_cons_zero])
  go_loopg [17] k (fun kq v17 w'=>∃ (x17_1:Int),v17=.int .i64 x17_1∧Aside0 (tree_Proc_at_tree_Same_2.l0 kq l1 l0 (l0.length:Int) x17_1=some r)∧Aside0 (kq≤k)∧Aside0 (Below w.heap.size w w'))
  case atStart=>exact ⟨(0),rf_,H',⟨Nat.le_refl _⟩,⟨bl_ HB.out⟩⟩
  case round=>
   clear H'
   (try clear c1);(try clear p2);(try clear c4);(try clear c4b0);(try clear c4b1);(try clear c4b2)
   obtain ⟨x17_1,rfl,HA,HK1,HB⟩:=hrel
   cases gk with
   | zero=>exact absurd HA.out (by simp [tree_Proc_at_tree_Same_2.l0])
   | succ k1=>
    have H:=HA.out
    clear HA
    simp only [tree_Proc_at_tree_Same_2.l0] at H
    by_cases c5:x17_1 < (l0.length:Int)
    ·rw [if_pos c5] at H
     have c5b0:decide (x17_1 < (l0.length:Int))=true:=decide_eq_true c5
     clear c5
     by_cases c6:0≤x17_1
     ·rw [if_pos c6] at H
      have c6b0:decide (0≤x17_1)=true:=decide_eq_true c6
      clear c6
      by_cases c7:x17_1 < (l0.length:Int)
      ·rw [if_pos c7] at H
       have c7b0:decide (x17_1 < (l0.length:Int))=true:=decide_eq_true c7
       clear c7
       by_cases c8:x17_1 < (l1.length:Int)
       ·rw [if_pos c8] at H
        have c8b0:decide (x17_1 < (l1.length:Int))=true:=decide_eq_true c8
        clear c8
        replace H:=Option.bind_eq_some_iff.mp H
        obtain ⟨t375,A90,H⟩:=H
        replace H:(if t375=true then (tree_Proc_at_tree_Same_2.l0 k1 l1 l0 (l0.length:Int) (wrap64 (x17_1+1))) else (some false))=some r:=H
        have A9:=Aside0.mk A90
        clear A90
        by_cases c10:t375=true
        ·subst c10
         have H1:(tree_Proc_at_tree_Same_2.l0 k1 l1 l0 (l0.length:Int) (wrap64 (x17_1+1)))=some r:=by rw [if_pos rfl] at H;exact H
         clear H
         have H:=H1
         clear H1
         have H':=Aside0.mk H
         clear H
         have p371:0≤(x17_1:Int):=of_decide_eq_true as_
         have q371:x17_1 < (l0.length:Int):=of_decide_eq_true as_
         obtain ⟨ad371,A371_1,c371_1,e371,hx371_0,hx371_1,hl371_1,hi371_1⟩:=at_T66 HR0.out x17_1 p371 q371
         cases e371
         replace hx371_0:=(cb_ HB.out hx371_0:_)
         replace hx371_1:=(cb_ HB.out hx371_1:_)
         have HR371_1:=Aside0.mk hi371_1
         have HC371_1:=Aside0.mk hl371_1
         clear hi371_1 hl371_1
         replace p371:=eq_true p371
         replace q371:=eq_true q371
         go_wp2_with (first|((with_reducible refine gate_dst (N:=8) rfl ?_);refine box_event ?hg (N:=8) ?hd (cs:=#[.string (⟨#[]⟩:ByteArray),.slice none 0 0]) (t:=66) ?hr ?_;(case hd=>rfl);(case hg=>rfl);(case hr=>first|(go_simp;done)|(go_simp;rfl));intro gb372 hg w11 hbox hb;have n0_:=Aside0.mk (below_step (bl_ HB.out) hb);have n1_:=Aside0.mk (hbox);have n2_:=Aside0.mk ((gs_ hg (bl_ HB.out):w.heap.size≤gb372));have n3_:=Aside0.mk ((gs_ hg (bl_ HB.out):w.heap.size≤gb372));clear HB;have HB:=n0_;have BK372:=n1_;have GW372:=n2_;have GE372:=n3_;clear n0_ n1_ n2_ n3_;clear hb hbox hg;have hcz12_0:w11.cell? ⟨gb372,0,none⟩=some (.string (⟨#[]⟩:ByteArray)):=zc_ BK372.out 0;have hcz12_1:w11.cell? ⟨gb372,1,none⟩=some (.slice none 0 0):=zc_ BK372.out 1;have hfz12_0:=blk_frozen BK372.out 0;have hfz12_1:=blk_frozen BK372.out 1;have p373:0≤(x17_1:Int):=of_decide_eq_true as_;have q373:x17_1 < (l1.length:Int):=of_decide_eq_true as_;obtain ⟨ad373,A373_1,c373_1,e373,hx373_0,hx373_1,hl373_1,hi373_1⟩:=at_T66 HR1.out x17_1 p373 q373;cases e373;have hn373_0:ad373.block≠gb372:=Nat.ne_of_lt (Nat.lt_of_lt_of_le (by have:=World.block_lt_of_cell? _ _ hx373_0;first|rwa [add_block] at this|exact this) GW372.out);have hn373_1:ad373.block≠gb372:=Nat.ne_of_lt (Nat.lt_of_lt_of_le (by have:=World.block_lt_of_cell? _ _ hx373_0;first|rwa [add_block] at this|exact this) GW372.out);replace hx373_0:=(cb_ HB.out hx373_0:_);replace hx373_1:=(cb_ HB.out hx373_1:_);have HR373_1:=Aside0.mk hi373_1;have HC373_1:=Aside0.mk hl373_1;clear hi373_1 hl373_1;replace hx373_0:=(cell_far (p:=⟨gb372,0,none⟩) (ab_ hn373_0) (.string ((rd_T66 l0 x17_1).f0))).trans hx373_0;replace hx373_1:=(cell_far (p:=⟨gb372,0,none⟩) (ab_ hn373_0) (.string ((rd_T66 l0 x17_1).f0))).trans hx373_1;replace hx373_0:=(cell_far (p:=⟨gb372,1,none⟩) (ab_ hn373_1) (.slice A371_1 ((rd_T66 l0 x17_1).f1).length c371_1)).trans hx373_0;replace hx373_1:=(cell_far (p:=⟨gb372,1,none⟩) (ab_ hn373_1) (.slice A371_1 ((rd_T66 l0 x17_1).f1).length c371_1)).trans hx373_1;clear hn373_0;clear hn373_1;replace p373:=eq_true p373;replace q373:=eq_true q373)|((with_reducible refine gate_dst (N:=9) rfl ?_);refine box_event ?hg (N:=9) ?hd (cs:=#[.string (⟨#[]⟩:ByteArray),.slice none 0 0]) (t:=66) ?hr ?_;(case hd=>rfl);(case hg=>rfl);(case hr=>first|(go_simp;done)|(go_simp;rfl));intro gb374 hg w13 hbox hb;have n0_:=Aside0.mk (blk_below (g:=gb372) (o:=.cells #[.string ((rd_T66 l0 x17_1).f0),.slice A371_1 ((rd_T66 l0 x17_1).f1).length c371_1] 66 (0,0)) (kbc_ BK372.out) hb);have n1_:=Aside0.mk (below_step (bl_ HB.out) hb);have n2_:=Aside0.mk (hbox);have n3_:=Aside0.mk ((gs_ hg (bl_ HB.out):w.heap.size≤gb374));have n4_:=Aside0.mk ((gs_ hg (bl_ HB.out):w.heap.size≤gb374));have n5_:=Aside0.mk ((by rw [hg];exact Nat.ne_of_lt (blk_lt (g:=gb372) (o:=.cells #[.string ((rd_T66 l0 x17_1).f0),.slice A371_1 ((rd_T66 l0 x17_1).f1).length c371_1] 66 (0,0)) (kbc_ BK372.out)):gb372≠gb374));have n6_:=Aside0.mk ((by rw [hg];exact Nat.ne_of_gt (blk_lt (g:=gb372) (o:=.cells #[.string ((rd_T66 l0 x17_1).f0),.slice A371_1 ((rd_T66 l0 x17_1).f1).length c371_1] 66 (0,0)) (kbc_ BK372.out)):gb374≠gb372));clear BK372;clear HB;have BK372:=n0_;have HB:=n1_;have BK374:=n2_;have GW374:=n3_;have GE374:=n4_;have NB372_374:=n5_;have NB374_372:=n6_;clear n0_ n1_ n2_ n3_ n4_ n5_ n6_;clear hb hbox hg;have hnb14:=NB374_372.out;have hnc14:=NB372_374.out;have hcz15_0:w13.cell? ⟨gb374,0,none⟩=some (.string (⟨#[]⟩:ByteArray)):=zc_ BK374.out 0;have hcz15_1:w13.cell? ⟨gb374,1,none⟩=some (.slice none 0 0):=zc_ BK374.out 1;have hfz15_0:=blk_frozen BK374.out 0;have hfz15_1:=blk_frozen BK374.out 1;have hcz16_0:w13.cell? ⟨gb372,0,none⟩=some (.string ((rd_T66 l0 x17_1).f0)):=zc_ BK372.out 0;have hcz16_1:w13.cell? ⟨gb372,1,none⟩=some (.slice A371_1 ((rd_T66 l0 x17_1).f1).length c371_1):=zc_ BK372.out 1;have hfz16_0:=blk_frozen BK372.out 0;have hfz16_1:=blk_frozen BK372.out 1)|((with_reducible refine (tree_Same_2.calls k1 ((rd_T66 l0 x17_1).f0) _ _ ((rd_T66 l0 x17_1).f1) ((rd_T66 l1 x17_1).f0) _ _ ((rd_T66 l1 x17_1).f1) true _ ?side1 ?side2 ?side3 ?side4 A9.out).mono ?_);(case side1=>exact Kd.C_below HR371_1.out (bl_ HB.out));(case side2=>exact HC371_1.out);(case side3=>exact Kd.C_below HR373_1.out (bl_ HB.out));(case side4=>exact HC373_1.out);rintro e w17 ⟨rfl,hb⟩;have n0_:=Aside0.mk (blk_below (g:=gb372) (o:=.cells #[.string ((rd_T66 l0 x17_1).f0),.slice A371_1 ((rd_T66 l0 x17_1).f1).length c371_1] 66 (0,0)) (kbc_ BK372.out) hb);have n1_:=Aside0.mk (blk_below (g:=gb374) (o:=.cells #[.string ((rd_T66 l1 x17_1).f0),.slice A373_1 ((rd_T66 l1 x17_1).f1).length c373_1] 66 (0,0)) (kbc_ BK374.out) hb);have n2_:=Aside0.mk (below_step (bl_ HB.out) hb);clear BK372;clear BK374;clear HB;have BK372:=n0_;have BK374:=n1_;have HB:=n2_;clear n0_ n1_ n2_;(try clear hb);(try clear hb2);(try clear hk);(try clear hi)))
         go_roundg k1
         case measure=>have:=HK1.out;omega
         case rel=>exact ⟨(wrap64 (x17_1+1)),rf_,H',⟨by have:=HK1.out;omega⟩,⟨bl_ HB.out⟩⟩
        ·replace c10:=Bool.eq_false_iff.mpr c10
         subst c10
         have H1:(some false)=some r:=by rw [if_neg (show ¬ (false=true) by decide)] at H;exact H
         clear H
         have H:=H1
         clear H1
         obtain rfl:=Option.some.inj H
         have p371:0≤(x17_1:Int):=of_decide_eq_true as_
         have q371:x17_1 < (l0.length:Int):=of_decide_eq_true as_
         obtain ⟨ad371,A371_1,c371_1,e371,hx371_0,hx371_1,hl371_1,hi371_1⟩:=at_T66 HR0.out x17_1 p371 q371
         cases e371
         replace hx371_0:=(cb_ HB.out hx371_0:_)
         replace hx371_1:=(cb_ HB.out hx371_1:_)
         have HR371_1:=Aside0.mk hi371_1
         have HC371_1:=Aside0.mk hl371_1
         clear hi371_1 hl371_1
         replace p371:=eq_true p371
         replace q371:=eq_true q371
         go_wp2_with (first|((with_reducible refine gate_dst (N:=8) rfl ?_);refine box_event ?hg (N:=8) ?hd (cs:=#[.string (⟨#[]⟩:ByteArray),.slice none 0 0]) (t:=66) ?hr ?_;(case hd=>rfl);(case hg=>rfl);(case hr=>first|(go_simp;done)|(go_simp;rfl));intro gb372 hg w18 hbox hb;have n0_:=Aside0.mk (below_step (bl_ HB.out) hb);have n1_:=Aside0.mk (hbox);have n2_:=Aside0.mk ((gs_ hg (bl_ HB.out):w.heap.size≤gb372));have n3_:=Aside0.mk ((gs_ hg (bl_ HB.out):w.heap.size≤gb372));clear HB;have HB:=n0_;have BK372:=n1_;have GW372:=n2_;have GE372:=n3_;clear n0_ n1_ n2_ n3_;clear hb hbox hg;have hcz19_0:w18.cell? ⟨gb372,0,none⟩=some (.string (⟨#[]⟩:ByteArray)):=zc_ BK372.out 0;have hcz19_1:w18.cell? ⟨gb372,1,none⟩=some (.slice none 0 0):=zc_ BK372.out 1;have hfz19_0:=blk_frozen BK372.out 0;have hfz19_1:=blk_frozen BK372.out 1;have p373:0≤(x17_1:Int):=of_decide_eq_true as_;have q373:x17_1 < (l1.length:Int):=of_decide_eq_true as_;obtain ⟨ad373,A373_1,c373_1,e373,hx373_0,hx373_1,hl373_1,hi373_1⟩:=at_T66 HR1.out x17_1 p373 q373;cases e373;have hn373_0:ad373.block≠gb372:=Nat.ne_of_lt (Nat.lt_of_lt_of_le (by have:=World.block_lt_of_cell? _ _ hx373_0;first|rwa [add_block] at this|exact this) GW372.out);have hn373_1:ad373.block≠gb372:=Nat.ne_of_lt (Nat.lt_of_lt_of_le (by have:=World.block_lt_of_cell? _ _ hx373_0;first|rwa [add_block] at this|exact this) GW372.out);replace hx373_0:=(cb_ HB.out hx373_0:_);replace hx373_1:=(cb_ HB.out hx373_1:_);have HR373_1:=Aside0.mk hi373_1;have HC373_1:=Aside0.mk hl373_1;clear hi373_1 hl373_1;replace hx373_0:=(cell_far (p:=⟨gb372,0,none⟩) (ab_ hn373_0) (.string ((rd_T66 l0 x17_1).f0))).trans hx373_0;replace hx373_1:=(cell_far (p:=⟨gb372,0,none⟩) (ab_ hn373_0) (.string ((rd_T66 l0 x17_1).f0))).trans hx373_1;replace hx373_0:=(cell_far (p:=⟨gb372,1,none⟩) (ab_ hn373_1) (.slice A371_1 ((rd_T66 l0 x17_1).f1).length c371_1)).trans hx373_0;replace hx373_1:=(cell_far (p:=⟨gb372,1,none⟩) (ab_ hn373_1) (.slice A371_1 ((rd_T66 l0 x17_1).f1).length c371_1)).trans hx373_1;clear hn373_0;clear hn373_1;replace p373:=eq_true p373;replace q373:=eq_true q373)|((with_reducible refine gate_dst (N:=9) rfl ?_);refine box_event ?hg (N:=9) ?hd (cs:=#[.string (⟨#[]⟩:ByteArray),.slice none 0 0]) (t:=66) ?hr ?_;(case hd=>rfl);(case hg=>rfl);(case hr=>first|(go_simp;done)|(go_simp;rfl));intro gb374 hg w20 hbox hb;have n0_:=Aside0.mk (blk_below (g:=gb372) (o:=.cells #[.string ((rd_T66 l0 x17_1).f0),.slice A371_1 ((rd_T66 l0 x17_1).f1).length c371_1] 66 (0,0)) (kbc_ BK372.out) hb);have n1_:=Aside0.mk (below_step (bl_ HB.out) hb);have n2_:=Aside0.mk (hbox);have n3_:=Aside0.mk ((gs_ hg (bl_ HB.out):w.heap.size≤gb374));have n4_:=Aside0.mk ((gs_ hg (bl_ HB.out):w.heap.size≤gb374));have n5_:=Aside0.mk ((by rw [hg];exact Nat.ne_of_lt (blk_lt (g:=gb372) (o:=.cells #[.string ((rd_T66 l0 x17_1).f0),.slice A371_1 ((rd_T66 l0 x17_1).f1).length c371_1] 66 (0,0)) (kbc_ BK372.out)):gb372≠gb374));have n6_:=Aside0.mk ((by rw [hg];exact Nat.ne_of_gt (blk_lt (g:=gb372) (o:=.cells #[.string ((rd_T66 l0 x17_1).f0),.slice A371_1 ((rd_T66 l0 x17_1).f1).length c371_1] 66 (0,0)) (kbc_ BK372.out)):gb374≠gb372));clear BK372;clear HB;have BK372:=n0_;have HB:=n1_;have BK374:=n2_;have GW374:=n3_;have GE374:=n4_;have NB372_374:=n5_;have NB374_372:=n6_;clear n0_ n1_ n2_ n3_ n4_ n5_ n6_;clear hb hbox hg;have hnb21:=NB374_372.out;have hnc21:=NB372_374.out;have hcz22_0:w20.cell? ⟨gb374,0,none⟩=some (.string (⟨#[]⟩:ByteArray)):=zc_ BK374.out 0;have hcz22_1:w20.cell? ⟨gb374,1,none⟩=some (.slice none 0 0):=zc_ BK374.out 1;have hfz22_0:=blk_frozen BK374.out 0;have hfz22_1:=blk_frozen BK374.out 1;have hcz23_0:w20.cell? ⟨gb372,0,none⟩=some (.string ((rd_T66 l0 x17_1).f0)):=zc_ BK372.out 0;have hcz23_1:w20.cell? ⟨gb372,1,none⟩=some (.slice A371_1 ((rd_T66 l0 x17_1).f1).length c371_1):=zc_ BK372.out 1;have hfz23_0:=blk_frozen BK372.out 0;have hfz23_1:=blk_frozen BK372.out 1)|((with_reducible refine (tree_Same_2.calls k1 ((rd_T66 l0 x17_1).f0) _ _ ((rd_T66 l0 x17_1).f1) ((rd_T66 l1 x17_1).f0) _ _ ((rd_T66 l1 x17_1).f1) false _ ?side1 ?side2 ?side3 ?side4 A9.out).mono ?_);(case side1=>exact Kd.C_below HR371_1.out (bl_ HB.out));(case side2=>exact HC371_1.out);(case side3=>exact Kd.C_below HR373_1.out (bl_ HB.out));(case side4=>exact HC373_1.out);rintro e w24 ⟨rfl,hb⟩;have n0_:=Aside0.mk (blk_below (g:=gb372) (o:=.cells #[.string ((rd_T66 l0 x17_1).f0),.slice A371_1 ((rd_T66 l0 x17_1).f1).length c371_1] 66 (0,0)) (kbc_ BK372.out) hb);have n1_:=Aside0.mk (blk_below (g:=gb374) (o:=.cells #[.string ((rd_T66 l1 x17_1).f0),.slice A373_1 ((rd_T66 l1 x17_1).f1).length c373_1] 66 (0,0)) (kbc_ BK374.out) hb);have n2_:=Aside0.mk (below_step (bl_ HB.out) hb);clear BK372;clear BK374;clear HB;have BK372:=n0_;have BK374:=n1_;have HB:=n2_;clear n0_ n1_ n2_;(try clear hb);(try clear hb2);(try clear hk);(try clear hi)))
         go_ret
         exact ⟨rt_,bl_ HB.out⟩
       ·rw [if_neg c8] at H
        exact absurd H (by simp)
      ·rw [if_neg c7] at H
       exact absurd H (by simp)
     ·rw [if_neg c6] at H
      exact absurd H (by simp)
    ·rw [if_neg c5] at H
     have c5b0:decide (x17_1 < (l0.length:Int))=false:=decide_eq_false c5
     clear c5
     obtain rfl:=Option.some.inj H
     go_wp2
     go_ret
     exact ⟨rt_,bl_ HB.out⟩
 ·rw [if_neg c4] at H
  have c4b0:((l0.length:Int) == (l1.length:Int))=false:=beq_eq_false_iff_ne.mpr c4
  have c4b1:((l0.length:Int) != (l1.length:Int))=true:=bne_iff_ne.mpr c4
  have c4b2:(l0.length == l1.length)=false:=by first|simpa using c4|(simp at c4 ⊢;omega)
  obtain rfl:=Option.some.inj H
  go_enter Tryd.func51,Tryd.ntmps51
  go_wp2
  go_ret
  exact ⟨rt_,bl_ HB.out⟩
end Go.Proofs.YtnnbbeloifhofaaDoor.P
end
section
namespace Go.Proofs.YtnnbbeloifhofaaDoor.P
open Go.RowKit Go.Proofs.YtnnbbeloifhofaaDoorW.PrintWords Go.Proofs.YtnnbbeloifhofaaDoorW.PrintLast Go.Proofs.YtnnbbeloifhofaaDoorW.PrintMore
attribute [local go_sem] max2_int min2_int max_two min_two max_three min_three max_four min_four
set_option linter.unusedVariables false
set_option linter.unusedSimpArgs false
def tree_Same.f (k:Nat) (l0_0:List (S79)) (l0_1:List (S80)) (l0_2:List (S66)) (l0_3:List (S76)) (l1_0:List (S79)) (l1_1:List (S80)) (l1_2:List (S66)) (l1_3:List (S76)):Option (Bool):=(tree_Enum_at_tree_Same_1.f k l0_0 l1_0).bind fun t378=>(if t378=true then ((tree_Var.f k l0_1 l1_1).bind fun t379=>(if t379=true then ((tree_Proc_at_tree_Same_2.f k l0_2 l1_2).bind fun t380=>(if t380=true then ((tree_Stmt_at_tree_sameStmt.f k l0_3 l1_3).bind fun t381=>(some t381)) else (some false))) else (some false))) else (some false))
set_option maxHeartbeats 8000000 in
set_option maxRecDepth 100000 in
theorem tree_Same.calls (k:Nat) (A0_0:Option Addr) (c0_0:Nat) (l0_0:List (S79)) (A0_1:Option Addr) (c0_1:Nat) (l0_1:List (S80)) (A0_2:Option Addr) (c0_2:Nat) (l0_2:List (S66)) (A0_3:Option Addr) (c0_3:Nat) (l0_3:List (S76)) (A1_0:Option Addr) (c1_0:Nat) (l1_0:List (S79)) (A1_1:Option Addr) (c1_1:Nat) (l1_1:List (S80)) (A1_2:Option Addr) (c1_2:Nat) (l1_2:List (S66)) (A1_3:Option Addr) (c1_3:Nat) (l1_3:List (S76)) (r:Bool) (w:World) (hr0_0:Kd.C k79 w A0_0 l0_0.length l0_0) (hc0_0:l0_0.length≤c0_0) (hr0_1:Kd.C k80 w A0_1 l0_1.length l0_1) (hc0_1:l0_1.length≤c0_1) (hr0_2:Kd.C k66 w A0_2 l0_2.length l0_2) (hc0_2:l0_2.length≤c0_2) (hr0_3:Kd.C k76 w A0_3 l0_3.length l0_3) (hc0_3:l0_3.length≤c0_3) (hr1_0:Kd.C k79 w A1_0 l1_0.length l1_0) (hc1_0:l1_0.length≤c1_0) (hr1_1:Kd.C k80 w A1_1 l1_1.length l1_1) (hc1_1:l1_1.length≤c1_1) (hr1_2:Kd.C k66 w A1_2 l1_2.length l1_2) (hc1_2:l1_2.length≤c1_2) (hr1_3:Kd.C k76 w A1_3 l1_3.length l1_3) (hc1_3:l1_3.length≤c1_3) (h:tree_Same.f k l0_0 l0_1 l0_2 l0_3 l1_0 l1_1 l1_2 l1_3=some r) :
  Calls Tryd.prog 28 #[.agg #[.slice A0_0 l0_0.length c0_0,.slice A0_1 l0_1.length c0_1,.slice A0_2 l0_2.length c0_2,.slice A0_3 l0_3.length c0_3],.agg #[.slice A1_0 l1_0.length c1_0,.slice A1_1 l1_1.length c1_1,.slice A1_2 l1_2.length c1_2,.slice A1_3 l1_3.length c1_3]] w fun e w'=>e=.returned (.bool r)∧Below w.heap.size w w':=by
 have hu50:=Tryd.underlying50
 have HR0_0:=Aside0.mk hr0_0
 have HC0_0:=Aside0.mk hc0_0
 clear hr0_0 hc0_0
 have HR0_1:=Aside0.mk hr0_1
 have HC0_1:=Aside0.mk hc0_1
 clear hr0_1 hc0_1
 have HR0_2:=Aside0.mk hr0_2
 have HC0_2:=Aside0.mk hc0_2
 clear hr0_2 hc0_2
 have HR0_3:=Aside0.mk hr0_3
 have HC0_3:=Aside0.mk hc0_3
 clear hr0_3 hc0_3
 have HR1_0:=Aside0.mk hr1_0
 have HC1_0:=Aside0.mk hc1_0
 clear hr1_0 hc1_0
 have HR1_1:=Aside0.mk hr1_1
 have HC1_1:=Aside0.mk hc1_1
 clear hr1_1 hc1_1
 have HR1_2:=Aside0.mk hr1_2
 have HC1_2:=Aside0.mk hc1_2
 clear hr1_2 hc1_2
 have HR1_3:=Aside0.mk hr1_3
 have HC1_3:=Aside0.mk hc1_3
 clear hr1_3 hc1_3
 have HB:=Aside0.mk (Below.refl w.heap.size w)
 have H:((tree_Enum_at_tree_Same_1.f k l0_0 l1_0).bind fun t378=>(if t378=true then ((tree_Var.f k l0_1 l1_1).bind fun t379=>(if t379=true then ((tree_Proc_at_tree_Same_2.f k l0_2 l1_2).bind fun t380=>(if t380=true then ((tree_Stmt_at_tree_sameStmt.f k l0_3 l1_3).bind fun t381=>(some t381)) else (some false))) else (some false))) else (some false)))=some r:=h
 clear h
 replace H:=Option.bind_eq_some_iff.mp H
 obtain ⟨t378,A30,H⟩:=H
 replace H:(if t378=true then ((tree_Var.f k l0_1 l1_1).bind fun t379=>(if t379=true then ((tree_Proc_at_tree_Same_2.f k l0_2 l1_2).bind fun t380=>(if t380=true then ((tree_Stmt_at_tree_sameStmt.f k l0_3 l1_3).bind fun t381=>(some t381)) else (some false))) else (some false))) else (some false))=some r:=H
 have A3:=Aside0.mk A30
 clear A30
 by_cases c4:t378=true
 ·subst c4
  have H1:((tree_Var.f k l0_1 l1_1).bind fun t379=>(if t379=true then ((tree_Proc_at_tree_Same_2.f k l0_2 l1_2).bind fun t380=>(if t380=true then ((tree_Stmt_at_tree_sameStmt.f k l0_3 l1_3).bind fun t381=>(some t381)) else (some false))) else (some false)))=some r:=by rw [if_pos rfl] at H;exact H
  clear H
  have H:=H1
  clear H1
  replace H:=Option.bind_eq_some_iff.mp H
  obtain ⟨t379,A50,H⟩:=H
  replace H:(if t379=true then ((tree_Proc_at_tree_Same_2.f k l0_2 l1_2).bind fun t380=>(if t380=true then ((tree_Stmt_at_tree_sameStmt.f k l0_3 l1_3).bind fun t381=>(some t381)) else (some false))) else (some false))=some r:=H
  have A5:=Aside0.mk A50
  clear A50
  by_cases c6:t379=true
  ·subst c6
   have H1:((tree_Proc_at_tree_Same_2.f k l0_2 l1_2).bind fun t380=>(if t380=true then ((tree_Stmt_at_tree_sameStmt.f k l0_3 l1_3).bind fun t381=>(some t381)) else (some false)))=some r:=by rw [if_pos rfl] at H;exact H
   clear H
   have H:=H1
   clear H1
   replace H:=Option.bind_eq_some_iff.mp H
   obtain ⟨t380,A70,H⟩:=H
   replace H:(if t380=true then ((tree_Stmt_at_tree_sameStmt.f k l0_3 l1_3).bind fun t381=>(some t381)) else (some false))=some r:=H
   have A7:=Aside0.mk A70
   clear A70
   by_cases c8:t380=true
   ·subst c8
    have H1:((tree_Stmt_at_tree_sameStmt.f k l0_3 l1_3).bind fun t381=>(some t381))=some r:=by rw [if_pos rfl] at H;exact H
    clear H
    have H:=H1
    clear H1
    replace H:=Option.bind_eq_some_iff.mp H
    obtain ⟨t381,A90,H⟩:=H
    replace H:(some t381)=some r:=H
    have A9:=Aside0.mk A90
    clear A90
    obtain rfl:=Option.some.inj H
    go_enter Tryd.func28,Tryd.ntmps28
    go_wp2_with (first|((with_reducible refine gate_dst (N:=2) rfl ?_);refine box_event ?hg (N:=2) ?hd (cs:=#[.slice A0_0 l0_0.length c0_0,.slice A0_1 l0_1.length c0_1,.slice A0_2 l0_2.length c0_2,.slice A0_3 l0_3.length c0_3]) (t:=50) ?hr ?_;(case hd=>rfl);(case hg=>rfl);(case hr=>first|(go_simp;done)|(go_simp;rfl));intro gb376 hg w10 hbox hb;have n0_:=Aside0.mk (below_step (bl_ HB.out) hb);have n1_:=Aside0.mk (hbox);have n2_:=Aside0.mk ((gs_ hg (bl_ HB.out):w.heap.size≤gb376));have n3_:=Aside0.mk ((gs_ hg (bl_ HB.out):w.heap.size≤gb376));clear HB;have HB:=n0_;have BK376:=n1_;have GW376:=n2_;have GE376:=n3_;clear n0_ n1_ n2_ n3_;clear hb hbox hg)|((with_reducible refine gate_dst (N:=3) rfl ?_);refine box_event ?hg (N:=3) ?hd (cs:=#[.slice A1_0 l1_0.length c1_0,.slice A1_1 l1_1.length c1_1,.slice A1_2 l1_2.length c1_2,.slice A1_3 l1_3.length c1_3]) (t:=50) ?hr ?_;(case hd=>rfl);(case hg=>rfl);(case hr=>first|(go_simp;done)|(go_simp;rfl));intro gb377 hg w11 hbox hb;have n0_:=Aside0.mk (bb_ BK376.out hb);have n1_:=Aside0.mk (below_step (bl_ HB.out) hb);have n2_:=Aside0.mk (hbox);have n3_:=Aside0.mk ((gs_ hg (bl_ HB.out):w.heap.size≤gb377));have n4_:=Aside0.mk ((gs_ hg (bl_ HB.out):w.heap.size≤gb377));have n5_:=Aside0.mk ((nl_ hg BK376.out:gb376≠gb377));have n6_:=Aside0.mk ((nr_ hg BK376.out:gb377≠gb376));clear BK376;clear HB;have BK376:=n0_;have HB:=n1_;have BK377:=n2_;have GW377:=n3_;have GE377:=n4_;have NB376_377:=n5_;have NB377_376:=n6_;clear n0_ n1_ n2_ n3_ n4_ n5_ n6_;clear hb hbox hg;have hnb12:=NB376_377.out;have hnc12:=NB377_376.out;have hcz13_0:w11.cell? ⟨gb376,0,none⟩=some (.slice A0_0 l0_0.length c0_0):=zc_ BK376.out 0;have hcz13_1:w11.cell? ⟨gb376,1,none⟩=some (.slice A0_1 l0_1.length c0_1):=zc_ BK376.out 1;have hcz13_2:w11.cell? ⟨gb376,2,none⟩=some (.slice A0_2 l0_2.length c0_2):=zc_ BK376.out 2;have hcz13_3:w11.cell? ⟨gb376,3,none⟩=some (.slice A0_3 l0_3.length c0_3):=zc_ BK376.out 3;have hfz13_0:=blk_frozen BK376.out 0;have hfz13_1:=blk_frozen BK376.out 1;have hfz13_2:=blk_frozen BK376.out 2;have hfz13_3:=blk_frozen BK376.out 3;have hcz14_0:w11.cell? ⟨gb377,0,none⟩=some (.slice A1_0 l1_0.length c1_0):=zc_ BK377.out 0;have hcz14_1:w11.cell? ⟨gb377,1,none⟩=some (.slice A1_1 l1_1.length c1_1):=zc_ BK377.out 1;have hcz14_2:w11.cell? ⟨gb377,2,none⟩=some (.slice A1_2 l1_2.length c1_2):=zc_ BK377.out 2;have hcz14_3:w11.cell? ⟨gb377,3,none⟩=some (.slice A1_3 l1_3.length c1_3):=zc_ BK377.out 3;have hfz14_0:=blk_frozen BK377.out 0;have hfz14_1:=blk_frozen BK377.out 1;have hfz14_2:=blk_frozen BK377.out 2;have hfz14_3:=blk_frozen BK377.out 3)|((with_reducible refine gate_callee (f:=49) rfl ?_);refine goesL_ (some 12) rfl rfl Tryd.func49 (by kernel_rfl) rfl #[.slice A0_0 l0_0.length c0_0,.slice A1_0 l1_0.length c1_0,.func (.func 44) #[] #[]] rfl ar_ ?_;(with_reducible refine (tree_Enum_at_tree_Same_1.calls k _ _ l0_0 _ _ l1_0 true _ ?side1 ?side2 ?side3 ?side4 A3.out).mono ?_);(case side1=>exact kc_ HR0_0.out HB.out);(case side2=>exact HC0_0.out);(case side3=>exact kc_ HR1_0.out HB.out);(case side4=>exact HC1_0.out);rintro e w15 ⟨rfl,hb⟩;refine ⟨_,rfl,?_⟩;have n0_:=Aside0.mk (bb_ BK376.out hb);have n1_:=Aside0.mk (bb_ BK377.out hb);have n2_:=Aside0.mk (below_step (bl_ HB.out) hb);clear BK376;clear BK377;clear HB;have BK376:=n0_;have BK377:=n1_;have HB:=n2_;clear n0_ n1_ n2_;(try clear hb);(try clear hb2);(try clear hk);(try clear hi);have hcz16_0:w15.cell? ⟨gb376,0,none⟩=some (.slice A0_0 l0_0.length c0_0):=zc_ BK376.out 0;have hcz16_1:w15.cell? ⟨gb376,1,none⟩=some (.slice A0_1 l0_1.length c0_1):=zc_ BK376.out 1;have hcz16_2:w15.cell? ⟨gb376,2,none⟩=some (.slice A0_2 l0_2.length c0_2):=zc_ BK376.out 2;have hcz16_3:w15.cell? ⟨gb376,3,none⟩=some (.slice A0_3 l0_3.length c0_3):=zc_ BK376.out 3;have hfz16_0:=blk_frozen BK376.out 0;have hfz16_1:=blk_frozen BK376.out 1;have hfz16_2:=blk_frozen BK376.out 2;have hfz16_3:=blk_frozen BK376.out 3;have hcz17_0:w15.cell? ⟨gb377,0,none⟩=some (.slice A1_0 l1_0.length c1_0):=zc_ BK377.out 0;have hcz17_1:w15.cell? ⟨gb377,1,none⟩=some (.slice A1_1 l1_1.length c1_1):=zc_ BK377.out 1;have hcz17_2:w15.cell? ⟨gb377,2,none⟩=some (.slice A1_2 l1_2.length c1_2):=zc_ BK377.out 2;have hcz17_3:w15.cell? ⟨gb377,3,none⟩=some (.slice A1_3 l1_3.length c1_3):=zc_ BK377.out 3;have hfz17_0:=blk_frozen BK377.out 0;have hfz17_1:=blk_frozen BK377.out 1;have hfz17_2:=blk_frozen BK377.out 2;have hfz17_3:=blk_frozen BK377.out 3)|(go_at_call 50;(with_reducible refine (tree_Var.calls k _ _ l0_1 _ _ l1_1 true _ ?side1 ?side2 ?side3 ?side4 A5.out).mono ?_);(case side1=>exact kc_ HR0_1.out HB.out);(case side2=>exact HC0_1.out);(case side3=>exact kc_ HR1_1.out HB.out);(case side4=>exact HC1_1.out);rintro e w' ⟨rfl,⟨nd,rfl⟩⟩)|(go_at_call 51;(with_reducible refine (tree_Proc_at_tree_Same_2.calls k _ _ l0_2 _ _ l1_2 true _ ?side1 ?side2 ?side3 ?side4 A7.out).mono ?_);(case side1=>repeat (first|exact (Kd.C_below HR0_2.out (bl_ HB.out))|(with_reducible refine Kd.C_alloc ?_ _)|(with_reducible refine Kd.C_drewN ?_ _)|(with_reducible refine Kd.C_drew ?_)));(case side2=>exact HC0_2.out);(case side3=>repeat (first|exact (Kd.C_below HR1_2.out (bl_ HB.out))|(with_reducible refine Kd.C_alloc ?_ _)|(with_reducible refine Kd.C_drewN ?_ _)|(with_reducible refine Kd.C_drew ?_)));(case side4=>exact HC1_2.out);rintro e w18 ⟨rfl,hb⟩;have n0_:=Aside0.mk (bb_ BK376.out hb);have n1_:=Aside0.mk (bb_ BK377.out hb);have n2_:=Aside0.mk (below_step (bl_ HB.out) hb);clear BK376;clear BK377;clear HB;have BK376:=n0_;have BK377:=n1_;have HB:=n2_;clear n0_ n1_ n2_;(try clear hb);(try clear hb2);(try clear hk);(try clear hi);have hcz19_0:w18.cell? ⟨gb376,0,none⟩=some (.slice A0_0 l0_0.length c0_0):=zc_ BK376.out 0;have hcz19_1:w18.cell? ⟨gb376,1,none⟩=some (.slice A0_1 l0_1.length c0_1):=zc_ BK376.out 1;have hcz19_2:w18.cell? ⟨gb376,2,none⟩=some (.slice A0_2 l0_2.length c0_2):=zc_ BK376.out 2;have hcz19_3:w18.cell? ⟨gb376,3,none⟩=some (.slice A0_3 l0_3.length c0_3):=zc_ BK376.out 3;have hfz19_0:=blk_frozen BK376.out 0;have hfz19_1:=blk_frozen BK376.out 1;have hfz19_2:=blk_frozen BK376.out 2;have hfz19_3:=blk_frozen BK376.out 3;have hcz20_0:w18.cell? ⟨gb377,0,none⟩=some (.slice A1_0 l1_0.length c1_0):=zc_ BK377.out 0;have hcz20_1:w18.cell? ⟨gb377,1,none⟩=some (.slice A1_1 l1_1.length c1_1):=zc_ BK377.out 1;have hcz20_2:w18.cell? ⟨gb377,2,none⟩=some (.slice A1_2 l1_2.length c1_2):=zc_ BK377.out 2;have hcz20_3:w18.cell? ⟨gb377,3,none⟩=some (.slice A1_3 l1_3.length c1_3):=zc_ BK377.out 3;have hfz20_0:=blk_frozen BK377.out 0;have hfz20_1:=blk_frozen BK377.out 1;have hfz20_2:=blk_frozen BK377.out 2;have hfz20_3:=blk_frozen BK377.out 3)|(go_at_call 47;(with_reducible refine (tree_Stmt_at_tree_sameStmt.calls k _ _ l0_3 _ _ l1_3 t381 _ ?side1 ?side2 ?side3 ?side4 A9.out).mono ?_);(case side1=>exact kc_ HR0_3.out HB.out);(case side2=>exact HC0_3.out);(case side3=>exact kc_ HR1_3.out HB.out);(case side4=>exact HC1_3.out);rintro e w21 ⟨rfl,hb⟩;have n0_:=Aside0.mk (bb_ BK376.out hb);have n1_:=Aside0.mk (bb_ BK377.out hb);have n2_:=Aside0.mk (below_step (bl_ HB.out) hb);clear BK376;clear BK377;clear HB;have BK376:=n0_;have BK377:=n1_;have HB:=n2_;clear n0_ n1_ n2_;(try clear hb);(try clear hb2);(try clear hk);(try clear hi)))
    go_ret
    exact ⟨rt_,bl_ HB.out⟩
   ·replace c8:=Bool.eq_false_iff.mpr c8
    subst c8
    have H1:(some false)=some r:=by rw [if_neg (show ¬ (false=true) by decide)] at H;exact H
    clear H
    have H:=H1
    clear H1
    obtain rfl:=Option.some.inj H
    go_enter Tryd.func28,Tryd.ntmps28
    go_wp2_with (first|((with_reducible refine gate_dst (N:=2) rfl ?_);refine box_event ?hg (N:=2) ?hd (cs:=#[.slice A0_0 l0_0.length c0_0,.slice A0_1 l0_1.length c0_1,.slice A0_2 l0_2.length c0_2,.slice A0_3 l0_3.length c0_3]) (t:=50) ?hr ?_;(case hd=>rfl);(case hg=>rfl);(case hr=>first|(go_simp;done)|(go_simp;rfl));intro gb376 hg w22 hbox hb;have n0_:=Aside0.mk (below_step (bl_ HB.out) hb);have n1_:=Aside0.mk (hbox);have n2_:=Aside0.mk ((gs_ hg (bl_ HB.out):w.heap.size≤gb376));have n3_:=Aside0.mk ((gs_ hg (bl_ HB.out):w.heap.size≤gb376));clear HB;have HB:=n0_;have BK376:=n1_;have GW376:=n2_;have GE376:=n3_;clear n0_ n1_ n2_ n3_;clear hb hbox hg)|((with_reducible refine gate_dst (N:=3) rfl ?_);refine box_event ?hg (N:=3) ?hd (cs:=#[.slice A1_0 l1_0.length c1_0,.slice A1_1 l1_1.length c1_1,.slice A1_2 l1_2.length c1_2,.slice A1_3 l1_3.length c1_3]) (t:=50) ?hr ?_;(case hd=>rfl);(case hg=>rfl);(case hr=>first|(go_simp;done)|(go_simp;rfl));intro gb377 hg w23 hbox hb;have n0_:=Aside0.mk (bb_ BK376.out hb);have n1_:=Aside0.mk (below_step (bl_ HB.out) hb);have n2_:=Aside0.mk (hbox);have n3_:=Aside0.mk ((gs_ hg (bl_ HB.out):w.heap.size≤gb377));have n4_:=Aside0.mk ((gs_ hg (bl_ HB.out):w.heap.size≤gb377));have n5_:=Aside0.mk ((nl_ hg BK376.out:gb376≠gb377));have n6_:=Aside0.mk ((nr_ hg BK376.out:gb377≠gb376));clear BK376;clear HB;have BK376:=n0_;have HB:=n1_;have BK377:=n2_;have GW377:=n3_;have GE377:=n4_;have NB376_377:=n5_;have NB377_376:=n6_;clear n0_ n1_ n2_ n3_ n4_ n5_ n6_;clear hb hbox hg;have hnb24:=NB376_377.out;have hnc24:=NB377_376.out;have hcz25_0:w23.cell? ⟨gb376,0,none⟩=some (.slice A0_0 l0_0.length c0_0):=zc_ BK376.out 0;have hcz25_1:w23.cell? ⟨gb376,1,none⟩=some (.slice A0_1 l0_1.length c0_1):=zc_ BK376.out 1;have hcz25_2:w23.cell? ⟨gb376,2,none⟩=some (.slice A0_2 l0_2.length c0_2):=zc_ BK376.out 2;have hcz25_3:w23.cell? ⟨gb376,3,none⟩=some (.slice A0_3 l0_3.length c0_3):=zc_ BK376.out 3;have hfz25_0:=blk_frozen BK376.out 0;have hfz25_1:=blk_frozen BK376.out 1;have hfz25_2:=blk_frozen BK376.out 2;have hfz25_3:=blk_frozen BK376.out 3;have hcz26_0:w23.cell? ⟨gb377,0,none⟩=some (.slice A1_0 l1_0.length c1_0):=zc_ BK377.out 0;have hcz26_1:w23.cell? ⟨gb377,1,none⟩=some (.slice A1_1 l1_1.length c1_1):=zc_ BK377.out 1;have hcz26_2:w23.cell? ⟨gb377,2,none⟩=some (.slice A1_2 l1_2.length c1_2):=zc_ BK377.out 2;have hcz26_3:w23.cell? ⟨gb377,3,none⟩=some (.slice A1_3 l1_3.length c1_3):=zc_ BK377.out 3;have hfz26_0:=blk_frozen BK377.out 0;have hfz26_1:=blk_frozen BK377.out 1;have hfz26_2:=blk_frozen BK377.out 2;have hfz26_3:=blk_frozen BK377.out 3)|((with_reducible refine gate_callee (f:=49) rfl ?_);refine goesL_ (some 12) rfl rfl Tryd.func49 (by kernel_rfl) rfl #[.slice A0_0 l0_0.length c0_0,.slice A1_0 l1_0.length c1_0,.func (.func 44) #[] #[]] rfl ar_ ?_;(with_reducible refine (tree_Enum_at_tree_Same_1.calls k _ _ l0_0 _ _ l1_0 true _ ?side1 ?side2 ?side3 ?side4 A3.out).mono ?_);(case side1=>exact kc_ HR0_0.out HB.out);(case side2=>exact HC0_0.out);(case side3=>exact kc_ HR1_0.out HB.out);(case side4=>exact HC1_0.out);rintro e w27 ⟨rfl,hb⟩;refine ⟨_,rfl,?_⟩;have n0_:=Aside0.mk (bb_ BK376.out hb);have n1_:=Aside0.mk (bb_ BK377.out hb);have n2_:=Aside0.mk (below_step (bl_ HB.out) hb);clear BK376;clear BK377;clear HB;have BK376:=n0_;have BK377:=n1_;have HB:=n2_;clear n0_ n1_ n2_;(try clear hb);(try clear hb2);(try clear hk);(try clear hi);have hcz28_0:w27.cell? ⟨gb376,0,none⟩=some (.slice A0_0 l0_0.length c0_0):=zc_ BK376.out 0;have hcz28_1:w27.cell? ⟨gb376,1,none⟩=some (.slice A0_1 l0_1.length c0_1):=zc_ BK376.out 1;have hcz28_2:w27.cell? ⟨gb376,2,none⟩=some (.slice A0_2 l0_2.length c0_2):=zc_ BK376.out 2;have hcz28_3:w27.cell? ⟨gb376,3,none⟩=some (.slice A0_3 l0_3.length c0_3):=zc_ BK376.out 3;have hfz28_0:=blk_frozen BK376.out 0;have hfz28_1:=blk_frozen BK376.out 1;have hfz28_2:=blk_frozen BK376.out 2;have hfz28_3:=blk_frozen BK376.out 3;have hcz29_0:w27.cell? ⟨gb377,0,none⟩=some (.slice A1_0 l1_0.length c1_0):=zc_ BK377.out 0;have hcz29_1:w27.cell? ⟨gb377,1,none⟩=some (.slice A1_1 l1_1.length c1_1):=zc_ BK377.out 1;have hcz29_2:w27.cell? ⟨gb377,2,none⟩=some (.slice A1_2 l1_2.length c1_2):=zc_ BK377.out 2;have hcz29_3:w27.cell? ⟨gb377,3,none⟩=some (.slice A1_3 l1_3.length c1_3):=zc_ BK377.out 3;have hfz29_0:=blk_frozen BK377.out 0;have hfz29_1:=blk_frozen BK377.out 1;have hfz29_2:=blk_frozen BK377.out 2;have hfz29_3:=blk_frozen BK377.out 3)|(go_at_call 50;(with_reducible refine (tree_Var.calls k _ _ l0_1 _ _ l1_1 true _ ?side1 ?side2 ?side3 ?side4 A5.out).mono ?_);(case side1=>exact kc_ HR0_1.out HB.out);(case side2=>exact HC0_1.out);(case side3=>exact kc_ HR1_1.out HB.out);(case side4=>exact HC1_1.out);rintro e w' ⟨rfl,⟨nd,rfl⟩⟩)|(go_at_call 51;(with_reducible refine (tree_Proc_at_tree_Same_2.calls k _ _ l0_2 _ _ l1_2 false _ ?side1 ?side2 ?side3 ?side4 A7.out).mono ?_);(case side1=>repeat (first|exact (Kd.C_below HR0_2.out (bl_ HB.out))|(with_reducible refine Kd.C_alloc ?_ _)|(with_reducible refine Kd.C_drewN ?_ _)|(with_reducible refine Kd.C_drew ?_)));(case side2=>exact HC0_2.out);(case side3=>repeat (first|exact (Kd.C_below HR1_2.out (bl_ HB.out))|(with_reducible refine Kd.C_alloc ?_ _)|(with_reducible refine Kd.C_drewN ?_ _)|(with_reducible refine Kd.C_drew ?_)));(case side4=>exact HC1_2.out);rintro e w30 ⟨rfl,hb⟩;have n0_:=Aside0.mk (bb_ BK376.out hb);have n1_:=Aside0.mk (bb_ BK377.out hb);have n2_:=Aside0.mk (below_step (bl_ HB.out) hb);clear BK376;clear BK377;clear HB;have BK376:=n0_;have BK377:=n1_;have HB:=n2_;clear n0_ n1_ n2_;(try clear hb);(try clear hb2);(try clear hk);(try clear hi)))
    go_ret
    exact ⟨rt_,bl_ HB.out⟩
  ·replace c6:=Bool.eq_false_iff.mpr c6
   subst c6
   have H1:(some false)=some r:=by rw [if_neg (show ¬ (false=true) by decide)] at H;exact H
   clear H
   have H:=H1
   clear H1
   obtain rfl:=Option.some.inj H
   go_enter Tryd.func28,Tryd.ntmps28
   go_wp2_with (first|((with_reducible refine gate_dst (N:=2) rfl ?_);refine box_event ?hg (N:=2) ?hd (cs:=#[.slice A0_0 l0_0.length c0_0,.slice A0_1 l0_1.length c0_1,.slice A0_2 l0_2.length c0_2,.slice A0_3 l0_3.length c0_3]) (t:=50) ?hr ?_;(case hd=>rfl);(case hg=>rfl);(case hr=>first|(go_simp;done)|(go_simp;rfl));intro gb376 hg w31 hbox hb;have n0_:=Aside0.mk (below_step (bl_ HB.out) hb);have n1_:=Aside0.mk (hbox);have n2_:=Aside0.mk ((gs_ hg (bl_ HB.out):w.heap.size≤gb376));have n3_:=Aside0.mk ((gs_ hg (bl_ HB.out):w.heap.size≤gb376));clear HB;have HB:=n0_;have BK376:=n1_;have GW376:=n2_;have GE376:=n3_;clear n0_ n1_ n2_ n3_;clear hb hbox hg)|((with_reducible refine gate_dst (N:=3) rfl ?_);refine box_event ?hg (N:=3) ?hd (cs:=#[.slice A1_0 l1_0.length c1_0,.slice A1_1 l1_1.length c1_1,.slice A1_2 l1_2.length c1_2,.slice A1_3 l1_3.length c1_3]) (t:=50) ?hr ?_;(case hd=>rfl);(case hg=>rfl);(case hr=>first|(go_simp;done)|(go_simp;rfl));intro gb377 hg w32 hbox hb;have n0_:=Aside0.mk (bb_ BK376.out hb);have n1_:=Aside0.mk (below_step (bl_ HB.out) hb);have n2_:=Aside0.mk (hbox);have n3_:=Aside0.mk ((gs_ hg (bl_ HB.out):w.heap.size≤gb377));have n4_:=Aside0.mk ((gs_ hg (bl_ HB.out):w.heap.size≤gb377));have n5_:=Aside0.mk ((nl_ hg BK376.out:gb376≠gb377));have n6_:=Aside0.mk ((nr_ hg BK376.out:gb377≠gb376));clear BK376;clear HB;have BK376:=n0_;have HB:=n1_;have BK377:=n2_;have GW377:=n3_;have GE377:=n4_;have NB376_377:=n5_;have NB377_376:=n6_;clear n0_ n1_ n2_ n3_ n4_ n5_ n6_;clear hb hbox hg;have hnb33:=NB376_377.out;have hnc33:=NB377_376.out;have hcz34_0:w32.cell? ⟨gb376,0,none⟩=some (.slice A0_0 l0_0.length c0_0):=zc_ BK376.out 0;have hcz34_1:w32.cell? ⟨gb376,1,none⟩=some (.slice A0_1 l0_1.length c0_1):=zc_ BK376.out 1;have hcz34_2:w32.cell? ⟨gb376,2,none⟩=some (.slice A0_2 l0_2.length c0_2):=zc_ BK376.out 2;have hcz34_3:w32.cell? ⟨gb376,3,none⟩=some (.slice A0_3 l0_3.length c0_3):=zc_ BK376.out 3;have hfz34_0:=blk_frozen BK376.out 0;have hfz34_1:=blk_frozen BK376.out 1;have hfz34_2:=blk_frozen BK376.out 2;have hfz34_3:=blk_frozen BK376.out 3;have hcz35_0:w32.cell? ⟨gb377,0,none⟩=some (.slice A1_0 l1_0.length c1_0):=zc_ BK377.out 0;have hcz35_1:w32.cell? ⟨gb377,1,none⟩=some (.slice A1_1 l1_1.length c1_1):=zc_ BK377.out 1;have hcz35_2:w32.cell? ⟨gb377,2,none⟩=some (.slice A1_2 l1_2.length c1_2):=zc_ BK377.out 2;have hcz35_3:w32.cell? ⟨gb377,3,none⟩=some (.slice A1_3 l1_3.length c1_3):=zc_ BK377.out 3;have hfz35_0:=blk_frozen BK377.out 0;have hfz35_1:=blk_frozen BK377.out 1;have hfz35_2:=blk_frozen BK377.out 2;have hfz35_3:=blk_frozen BK377.out 3)|((with_reducible refine gate_callee (f:=49) rfl ?_);refine goesL_ (some 12) rfl rfl Tryd.func49 (by kernel_rfl) rfl #[.slice A0_0 l0_0.length c0_0,.slice A1_0 l1_0.length c1_0,.func (.func 44) #[] #[]] rfl ar_ ?_;(with_reducible refine (tree_Enum_at_tree_Same_1.calls k _ _ l0_0 _ _ l1_0 true _ ?side1 ?side2 ?side3 ?side4 A3.out).mono ?_);(case side1=>exact kc_ HR0_0.out HB.out);(case side2=>exact HC0_0.out);(case side3=>exact kc_ HR1_0.out HB.out);(case side4=>exact HC1_0.out);rintro e w36 ⟨rfl,hb⟩;refine ⟨_,rfl,?_⟩;have n0_:=Aside0.mk (bb_ BK376.out hb);have n1_:=Aside0.mk (bb_ BK377.out hb);have n2_:=Aside0.mk (below_step (bl_ HB.out) hb);clear BK376;clear BK377;clear HB;have BK376:=n0_;have BK377:=n1_;have HB:=n2_;clear n0_ n1_ n2_;(try clear hb);(try clear hb2);(try clear hk);(try clear hi);have hcz37_0:w36.cell? ⟨gb376,0,none⟩=some (.slice A0_0 l0_0.length c0_0):=zc_ BK376.out 0;have hcz37_1:w36.cell? ⟨gb376,1,none⟩=some (.slice A0_1 l0_1.length c0_1):=zc_ BK376.out 1;have hcz37_2:w36.cell? ⟨gb376,2,none⟩=some (.slice A0_2 l0_2.length c0_2):=zc_ BK376.out 2;have hcz37_3:w36.cell? ⟨gb376,3,none⟩=some (.slice A0_3 l0_3.length c0_3):=zc_ BK376.out 3;have hfz37_0:=blk_frozen BK376.out 0;have hfz37_1:=blk_frozen BK376.out 1;have hfz37_2:=blk_frozen BK376.out 2;have hfz37_3:=blk_frozen BK376.out 3;have hcz38_0:w36.cell? ⟨gb377,0,none⟩=some (.slice A1_0 l1_0.length c1_0):=zc_ BK377.out 0;have hcz38_1:w36.cell? ⟨gb377,1,none⟩=some (.slice A1_1 l1_1.length c1_1):=zc_ BK377.out 1;have hcz38_2:w36.cell? ⟨gb377,2,none⟩=some (.slice A1_2 l1_2.length c1_2):=zc_ BK377.out 2;have hcz38_3:w36.cell? ⟨gb377,3,none⟩=some (.slice A1_3 l1_3.length c1_3):=zc_ BK377.out 3;have hfz38_0:=blk_frozen BK377.out 0;have hfz38_1:=blk_frozen BK377.out 1;have hfz38_2:=blk_frozen BK377.out 2;have hfz38_3:=blk_frozen BK377.out 3)|(go_at_call 50;(with_reducible refine (tree_Var.calls k _ _ l0_1 _ _ l1_1 false _ ?side1 ?side2 ?side3 ?side4 A5.out).mono ?_);(case side1=>exact kc_ HR0_1.out HB.out);(case side2=>exact HC0_1.out);(case side3=>exact kc_ HR1_1.out HB.out);(case side4=>exact HC1_1.out);rintro e w' ⟨rfl,⟨nd,rfl⟩⟩))
   go_ret
   exact ⟨rt_,bl_ HB.out⟩
 ·replace c4:=Bool.eq_false_iff.mpr c4
  subst c4
  have H1:(some false)=some r:=by rw [if_neg (show ¬ (false=true) by decide)] at H;exact H
  clear H
  have H:=H1
  clear H1
  obtain rfl:=Option.some.inj H
  go_enter Tryd.func28,Tryd.ntmps28
  go_wp2_with (first|((with_reducible refine gate_dst (N:=2) rfl ?_);refine box_event ?hg (N:=2) ?hd (cs:=#[.slice A0_0 l0_0.length c0_0,.slice A0_1 l0_1.length c0_1,.slice A0_2 l0_2.length c0_2,.slice A0_3 l0_3.length c0_3]) (t:=50) ?hr ?_;(case hd=>rfl);(case hg=>rfl);(case hr=>first|(go_simp;done)|(go_simp;rfl));intro gb376 hg w39 hbox hb;have n0_:=Aside0.mk (below_step (bl_ HB.out) hb);have n1_:=Aside0.mk (hbox);have n2_:=Aside0.mk ((gs_ hg (bl_ HB.out):w.heap.size≤gb376));have n3_:=Aside0.mk ((gs_ hg (bl_ HB.out):w.heap.size≤gb376));clear HB;have HB:=n0_;have BK376:=n1_;have GW376:=n2_;have GE376:=n3_;clear n0_ n1_ n2_ n3_;clear hb hbox hg)|((with_reducible refine gate_dst (N:=3) rfl ?_);refine box_event ?hg (N:=3) ?hd (cs:=#[.slice A1_0 l1_0.length c1_0,.slice A1_1 l1_1.length c1_1,.slice A1_2 l1_2.length c1_2,.slice A1_3 l1_3.length c1_3]) (t:=50) ?hr ?_;(case hd=>rfl);(case hg=>rfl);(case hr=>first|(go_simp;done)|(go_simp;rfl));intro gb377 hg w40 hbox hb;have n0_:=Aside0.mk (bb_ BK376.out hb);have n1_:=Aside0.mk (below_step (bl_ HB.out) hb);have n2_:=Aside0.mk (hbox);have n3_:=Aside0.mk ((gs_ hg (bl_ HB.out):w.heap.size≤gb377));have n4_:=Aside0.mk ((gs_ hg (bl_ HB.out):w.heap.size≤gb377));have n5_:=Aside0.mk ((nl_ hg BK376.out:gb376≠gb377));have n6_:=Aside0.mk ((nr_ hg BK376.out:gb377≠gb376));clear BK376;clear HB;have BK376:=n0_;have HB:=n1_;have BK377:=n2_;have GW377:=n3_;have GE377:=n4_;have NB376_377:=n5_;have NB377_376:=n6_;clear n0_ n1_ n2_ n3_ n4_ n5_ n6_;clear hb hbox hg;have hnb41:=NB376_377.out;have hnc41:=NB377_376.out;have hcz42_0:w40.cell? ⟨gb376,0,none⟩=some (.slice A0_0 l0_0.length c0_0):=zc_ BK376.out 0;have hcz42_1:w40.cell? ⟨gb376,1,none⟩=some (.slice A0_1 l0_1.length c0_1):=zc_ BK376.out 1;have hcz42_2:w40.cell? ⟨gb376,2,none⟩=some (.slice A0_2 l0_2.length c0_2):=zc_ BK376.out 2;have hcz42_3:w40.cell? ⟨gb376,3,none⟩=some (.slice A0_3 l0_3.length c0_3):=zc_ BK376.out 3;have hfz42_0:=blk_frozen BK376.out 0;have hfz42_1:=blk_frozen BK376.out 1;have hfz42_2:=blk_frozen BK376.out 2;have hfz42_3:=blk_frozen BK376.out 3;have hcz43_0:w40.cell? ⟨gb377,0,none⟩=some (.slice A1_0 l1_0.length c1_0):=zc_ BK377.out 0;have hcz43_1:w40.cell? ⟨gb377,1,none⟩=some (.slice A1_1 l1_1.length c1_1):=zc_ BK377.out 1;have hcz43_2:w40.cell? ⟨gb377,2,none⟩=some (.slice A1_2 l1_2.length c1_2):=zc_ BK377.out 2;have hcz43_3:w40.cell? ⟨gb377,3,none⟩=some (.slice A1_3 l1_3.length c1_3):=zc_ BK377.out 3;have hfz43_0:=blk_frozen BK377.out 0;have hfz43_1:=blk_frozen BK377.out 1;have hfz43_2:=blk_frozen BK377.out 2;have hfz43_3:=blk_frozen BK377.out 3)|((with_reducible refine gate_callee (f:=49) rfl ?_);refine goesL_ (some 12) rfl rfl Tryd.func49 (by kernel_rfl) rfl #[.slice A0_0 l0_0.length c0_0,.slice A1_0 l1_0.length c1_0,.func (.func 44) #[] #[]] rfl ar_ ?_;(with_reducible refine (tree_Enum_at_tree_Same_1.calls k _ _ l0_0 _ _ l1_0 false _ ?side1 ?side2 ?side3 ?side4 A3.out).mono ?_);(case side1=>exact kc_ HR0_0.out HB.out);(case side2=>exact HC0_0.out);(case side3=>exact kc_ HR1_0.out HB.out);(case side4=>exact HC1_0.out);rintro e w44 ⟨rfl,hb⟩;refine ⟨_,rfl,?_⟩;have n0_:=Aside0.mk (bb_ BK376.out hb);have n1_:=Aside0.mk (bb_ BK377.out hb);have n2_:=Aside0.mk (below_step (bl_ HB.out) hb);clear BK376;clear BK377;clear HB;have BK376:=n0_;have BK377:=n1_;have HB:=n2_;clear n0_ n1_ n2_;(try clear hb);(try clear hb2);(try clear hk);(try clear hi)))
  go_ret
  exact ⟨rt_,bl_ HB.out⟩
end Go.Proofs.YtnnbbeloifhofaaDoor.P
end
section
namespace Go.Proofs.YtnnbbeloifhofaaDoor.P
open Go Go.RowKit Go.Proofs
open Go.Proofs.YtnnbbeloifhofaaDoorW.PrintWords Go.Proofs.YtnnbbeloifhofaaDoorW.PrintLast Go.Proofs.YtnnbbeloifhofaaDoorW.PrintMore
theorem getD_mem' {α:Type} {l:List α} {i:Nat} (z:α) (h:i < l.length):l.getD i z ∈ l:=by
  rw [List.getD_eq_getElem?_getD,List.getElem?_eq_getElem h,Option.getD_some];exact List.getElem_mem h
end Go.Proofs.YtnnbbeloifhofaaDoor.P
end
section
namespace Go.Proofs.YtnnbbeloifhofaaDoor.P
open Go.RowKit Go.Proofs.YtnnbbeloifhofaaDoorW.PrintWords Go.Proofs.YtnnbbeloifhofaaDoorW.PrintLast Go.Proofs.YtnnbbeloifhofaaDoorW.PrintMore
attribute [local go_sem] max2_int min2_int max_two min_two max_three min_three max_four min_four
set_option linter.unusedVariables false
set_option linter.unusedSimpArgs false
mutual
def helmsmanlaw12_Expr.l0:Nat→List (S24)→Int→Int→ByteArray→ByteArray→Int→List (S33)→Int→Option (ByteArray × ByteArray × Int × (List (S33)) × Int)
 | 0,_,_,_,_,_,_,_,_=>none
 | k+1,x16,x17,x18,x115000,x115001,x115002,x115003,x115004=>if x18 < x17 then (if 0≤x18 then (if x18 < (x16.length:Int) then ((helmsmanlaw12_Expr.f k ((rd_T24 x16 x18).f0) ((rd_T24 x16 x18).f1) ((rd_T24 x16 x18).f2) ((rd_T24 x16 x18).f3) ((rd_T24 x16 x18).f4)).bind fun bt117=>(if x115003.length < 1954687338268 then (helmsmanlaw12_Expr.l0 k x16 x17 (wrap64 (x18+1)) x115000 x115001 x115002 (x115003++[(⟨bt117.1,bt117.2.1,bt117.2.2.1,bt117.2.2.2.1,bt117.2.2.2.2⟩:S33)]) x115004) else (none))) else (none)) else (none)) else (some (x115000,x115001,x115002,x115003,x115004))
def helmsmanlaw12_Expr.f:Nat→ByteArray→ByteArray→Int→List (S24)→Int→Option (ByteArray × ByteArray × Int × (List (S33)) × Int)
 | 0,_,_,_,_,_=>none
 | k+1,a0_0,a0_1,a0_2,l0_3,a0_4=>helmsmanlaw12_Expr.l0 k l0_3 (l0_3.length:Int) 0 a0_0 a0_1 a0_2 ([]:List (S33)) a0_4
end
def helmsmanlaw12_Expr.T5:Bool × List (List Nat × List Nat):=(true,[([],[]),([0],[0]),([],[]),([2],[2]),([3],[3]),([1,4,3],[1,4]),([0,1,2,3,4,5],[]),([6,5,5,0,1,2,3,4,5],[5,6])])
def helmsmanlaw12_Expr.B5:List Nat:=[0,1,0,4,12,31,63,127]
theorem helmsmanlaw12_Expr.tab5:rtab .any (opsOf Tryd.f11 5)=helmsmanlaw12_Expr.T5:=by kernel_rfl
theorem helmsmanlaw12_Expr.bits5:waitsOk helmsmanlaw12_Expr.T5.2 helmsmanlaw12_Expr.B5=true:=by kernel_rfl
set_option maxHeartbeats 8000000 in
set_option maxRecDepth 100000 in
theorem helmsmanlaw12_Expr.calls (k:Nat) : ∀ (a0_0:ByteArray) (a0_1:ByteArray) (a0_2:Int) (A0_3:Option Addr) (c0_3:Nat) (l0_3:List (S24)) (a0_4:Int) (r1:ByteArray) (r2:ByteArray) (r3:Int) (r4:List (S33)) (r5:Int) (w:World) (hr0_3:Kd.C k24 w A0_3 l0_3.length l0_3) (hc0_3:l0_3.length≤c0_3) (h:helmsmanlaw12_Expr.f k a0_0 a0_1 a0_2 l0_3 a0_4=some (r1,r2,r3,r4,r5)),
  Calls Tryd.prog 11 #[.agg #[.string a0_0,.string a0_1,.int .i64 a0_2,.slice A0_3 l0_3.length c0_3,.int .i64 a0_4]] w fun e w'=>∃ v3_:Value,e=.returned (.agg #[.string r1,.string r2,.int .i64 r3,v3_,.int .i64 r5])∧Kd.R k33 33 w' w.heap.size (fun _=>True) v3_ r4∧Below w.heap.size w w':=by
 induction k using Nat.strongRecOn with
 | _ k ih=>
 intro a0_0 a0_1 a0_2 A0_3 c0_3 l0_3 a0_4 r1 r2 r3 r4 r5 w hr0_3 hc0_3 h
 cases k with
 | zero=>exact absurd h (by simp [helmsmanlaw12_Expr.f])
 | succ k=>
 simp only [helmsmanlaw12_Expr.f] at h
 have hu24:=Tryd.underlying24
 have hu33:=Tryd.underlying33
 have HR0_3:=Aside0.mk hr0_3
 have HC0_3:=Aside0.mk hc0_3
 clear hr0_3 hc0_3
 have HB:=Aside0.mk (Below.refl w.heap.size w)
 have H:(helmsmanlaw12_Expr.l0 k l0_3 (l0_3.length:Int) 0 a0_0 a0_1 a0_2 ([]:List (S33)) a0_4)=some (r1,r2,r3,r4,r5):=h
 clear h
 have H':=Aside0.mk H
 clear H
 go_enter Tryd.func11,Tryd.ntmps11
 go_wp2_with (first|((with_reducible refine gate_dst (N:=1) rfl ?_);refine box_event ?hg (N:=1) ?hd (cs:=#[.string a0_0,.string a0_1,.int .i64 a0_2,.slice A0_3 l0_3.length c0_3,.int .i64 a0_4]) (t:=24) ?hr ?_;(case hd=>rfl);(case hg=>rfl);(case hr=>first|(go_simp;done)|(go_simp;rfl));intro gb112 hg w2 hbox hb;have n0_:=Aside0.mk (below_step (bl_ HB.out) hb);have n1_:=Aside0.mk (hbox);have n2_:=Aside0.mk ((gs_ hg (bl_ HB.out):w.heap.size≤gb112));have n3_:=Aside0.mk ((gs_ hg (bl_ HB.out):w.heap.size≤gb112));clear HB;have HB:=n0_;have BK112:=n1_;have GW112:=n2_;have GE112:=n3_;clear n0_ n1_ n2_ n3_;clear hb hbox hg)|((with_reducible refine gate_dst (N:=2) rfl ?_);refine box_event ?hg (N:=2) ?hd (cs:=#[.string (⟨#[]⟩:ByteArray),.string (⟨#[]⟩:ByteArray),.int .i64 0,.slice none 0 0,.int .i64 0]) (t:=33) ?hr ?_;(case hd=>rfl);(case hg=>rfl);(case hr=>first|(go_simp;done)|(go_simp;rfl));intro gb113 hg w3 hbox hb;have n0_:=Aside0.mk (bb_ BK112.out hb);have n1_:=Aside0.mk (below_step (bl_ HB.out) hb);have n2_:=Aside0.mk (hbox);have n3_:=Aside0.mk ((gs_ hg (bl_ HB.out):w.heap.size≤gb113));have n4_:=Aside0.mk ((gs_ hg (bl_ HB.out):w.heap.size≤gb113));have n5_:=Aside0.mk ((nl_ hg BK112.out:gb112≠gb113));have n6_:=Aside0.mk ((nr_ hg BK112.out:gb113≠gb112));clear BK112;clear HB;have BK112:=n0_;have HB:=n1_;have BK113:=n2_;have GW113:=n3_;have GE113:=n4_;have NB112_113:=n5_;have NB113_112:=n6_;clear n0_ n1_ n2_ n3_ n4_ n5_ n6_;clear hb hbox hg;have hnb4:=NB112_113.out;have hnc4:=NB113_112.out;have hcz5_0:w3.cell? ⟨gb112,0,none⟩=some (.string a0_0):=zc_ BK112.out 0;have hcz5_1:w3.cell? ⟨gb112,1,none⟩=some (.string a0_1):=zc_ BK112.out 1;have hcz5_2:w3.cell? ⟨gb112,2,none⟩=some (.int .i64 a0_2):=zc_ BK112.out 2;have hcz5_3:w3.cell? ⟨gb112,3,none⟩=some (.slice A0_3 l0_3.length c0_3):=zc_ BK112.out 3;have hcz5_4:w3.cell? ⟨gb112,4,none⟩=some (.int .i64 a0_4):=zc_ BK112.out 4;have hfz5_0:=blk_frozen BK112.out 0;have hfz5_1:=blk_frozen BK112.out 1;have hfz5_2:=blk_frozen BK112.out 2;have hfz5_3:=blk_frozen BK112.out 3;have hfz5_4:=blk_frozen BK112.out 4)|((with_reducible refine gate_dst (N:=3) rfl ?_);refine box_event ?hg (N:=3) ?hd (cs:=#[.string (⟨#[]⟩:ByteArray),.string (⟨#[]⟩:ByteArray),.int .i64 0,.slice none 0 0,.int .i64 0]) (t:=33) ?hr ?_;(case hd=>rfl);(case hg=>rfl);(case hr=>first|(go_simp;done)|(go_simp;rfl));intro gb114 hg w6 hbox hb;have n0_:=Aside0.mk (bb_ BK112.out hb);have n1_:=Aside0.mk (bb_ BK113.out hb);have n2_:=Aside0.mk (below_step (bl_ HB.out) hb);have n3_:=Aside0.mk (hbox);have n4_:=Aside0.mk ((gs_ hg (bl_ HB.out):w.heap.size≤gb114));have n5_:=Aside0.mk ((gs_ hg (bl_ HB.out):w.heap.size≤gb114));have n6_:=Aside0.mk ((nl_ hg BK112.out:gb112≠gb114));have n7_:=Aside0.mk ((nr_ hg BK112.out:gb114≠gb112));have n8_:=Aside0.mk ((nl_ hg BK113.out:gb113≠gb114));have n9_:=Aside0.mk ((nr_ hg BK113.out:gb114≠gb113));clear BK112;clear BK113;clear HB;have BK112:=n0_;have BK113:=n1_;have HB:=n2_;have BK114:=n3_;have GW114:=n4_;have GE114:=n5_;have NB112_114:=n6_;have NB114_112:=n7_;have NB113_114:=n8_;have NB114_113:=n9_;clear n0_ n1_ n2_ n3_ n4_ n5_ n6_ n7_ n8_ n9_;clear hb hbox hg;have hnb7:=NB114_112.out;have hnc7:=NB112_114.out;have hnb8:=NB114_113.out;have hnc8:=NB113_114.out;have hcz9_0:w6.cell? ⟨gb114,0,none⟩=some (.string (⟨#[]⟩:ByteArray)):=zc_ BK114.out 0;have hcz9_1:w6.cell? ⟨gb114,1,none⟩=some (.string (⟨#[]⟩:ByteArray)):=zc_ BK114.out 1;have hcz9_2:w6.cell? ⟨gb114,2,none⟩=some (.int .i64 0):=zc_ BK114.out 2;have hcz9_3:w6.cell? ⟨gb114,3,none⟩=some (.slice none 0 0):=zc_ BK114.out 3;have hcz9_4:w6.cell? ⟨gb114,4,none⟩=some (.int .i64 0):=zc_ BK114.out 4;have hfz9_0:=blk_frozen BK114.out 0;have hfz9_1:=blk_frozen BK114.out 1;have hfz9_2:=blk_frozen BK114.out 2;have hfz9_3:=blk_frozen BK114.out 3;have hfz9_4:=blk_frozen BK114.out 4;have hcz10_0:w6.cell? ⟨gb112,0,none⟩=some (.string a0_0):=zc_ BK112.out 0;have hcz10_1:w6.cell? ⟨gb112,1,none⟩=some (.string a0_1):=zc_ BK112.out 1;have hcz10_2:w6.cell? ⟨gb112,2,none⟩=some (.int .i64 a0_2):=zc_ BK112.out 2;have hcz10_3:w6.cell? ⟨gb112,3,none⟩=some (.slice A0_3 l0_3.length c0_3):=zc_ BK112.out 3;have hcz10_4:w6.cell? ⟨gb112,4,none⟩=some (.int .i64 a0_4):=zc_ BK112.out 4;have hfz10_0:=blk_frozen BK112.out 0;have hfz10_1:=blk_frozen BK112.out 1;have hfz10_2:=blk_frozen BK112.out 2;have hfz10_3:=blk_frozen BK112.out 3;have hfz10_4:=blk_frozen BK112.out 4))
 (try simp only [Act.put,List.setIfInBounds_toArray,List.set_cons_succ,List.set_cons_zero])
 go_loopg [18] k (fun kq v18 w'=>∃ (x18_1:Int) (x115003_1:List (S33)) (u115003:Value),v18=.int .i64 x18_1∧Aside0 (helmsmanlaw12_Expr.l0 kq l0_3 (l0_3.length:Int) x18_1 a0_0 a0_1 a0_2 x115003_1 a0_4=some (r1,r2,r3,r4,r5))∧Aside0 (kq≤k)∧Aside0 (Kd.R k33 33 w' w.heap.size (fun k_=>k_≠gb113∧k_≠gb114) u115003 x115003_1)∧Aside0 (w'.heap[gb112]?=some (.cells #[.string a0_0,.string a0_1,.int .i64 a0_2,(.slice A0_3 l0_3.length c0_3),.int .i64 a0_4] 24 (0,0)))∧Aside0 (w'.heap[gb113]?=some (.cells #[.string (⟨#[]⟩:ByteArray),.string (⟨#[]⟩:ByteArray),.int .i64 0,(.slice none 0 0),.int .i64 0] 33 (0,0)))∧Aside0 (w'.heap[gb114]?=some (.cells #[.string a0_0,.string a0_1,.int .i64 a0_2,u115003,.int .i64 a0_4] 33 (0,0)))∧Aside0 (Below w.heap.size w w'))
 case atStart=>exact ⟨(0),(([]:List (S33))),(.slice none 0 0),rf_,H',⟨Nat.le_refl _⟩,⟨by first|exact Kd.R_nil _ _ _ _ _|exact Kd.N_nil _ _ _ _ _|exact Kd.V_nil _ _ _ _ _|exact Kd.Q_nil _ _ _ _ _|exact Kd.S_nil _ _ _ _ _⟩,⟨kbc_ BK112.out⟩,⟨kbc_ BK113.out⟩,⟨kbc_ BK114.out⟩,⟨bl_ HB.out⟩⟩
 case round=>
  clear H'
  (try clear c1);(try clear p2);(try clear c4);(try clear c7);(try clear c8);(try clear hcz10_0);(try clear hcz10_1);(try clear hcz10_2);(try clear hcz10_3);(try clear hcz10_4);(try clear hcz5_0);(try clear hcz5_1);(try clear hcz5_2);(try clear hcz5_3);(try clear hcz5_4);(try clear hcz9_0);(try clear hcz9_1);(try clear hcz9_2);(try clear hcz9_3);(try clear hcz9_4);(try clear hfz10_0);(try clear hfz10_1);(try clear hfz10_2);(try clear hfz10_3);(try clear hfz10_4);(try clear hfz5_0);(try clear hfz5_1);(try clear hfz5_2);(try clear hfz5_3);(try clear hfz5_4);(try clear hfz9_0);(try clear hfz9_1);(try clear hfz9_2);(try clear hfz9_3);(try clear hfz9_4)
  obtain ⟨x18_1,x115003_1,u115003,rfl,HA,HK1,HO_115003,BK112,BK113,BK114,HB⟩:=hrel
  cases gk with
  | zero=>exact absurd HA.out (by simp [helmsmanlaw12_Expr.l0])
  | succ k1=>
   have H:=HA.out
   clear HA
   simp only [helmsmanlaw12_Expr.l0] at H
   by_cases c11:x18_1 < (l0_3.length:Int)
   ·rw [if_pos c11] at H
    have c11b0:decide (x18_1 < (l0_3.length:Int))=true:=decide_eq_true c11
    clear c11
    by_cases c12:0≤x18_1
    ·rw [if_pos c12] at H
     have c12b0:decide (0≤x18_1)=true:=decide_eq_true c12
     clear c12
     by_cases c13:x18_1 < (l0_3.length:Int)
     ·rw [if_pos c13] at H
      have c13b0:decide (x18_1 < (l0_3.length:Int))=true:=decide_eq_true c13
      clear c13
      replace H:=Option.bind_eq_some_iff.mp H
      obtain ⟨⟨t117,t118,t119,t120,t123⟩,A140,H⟩:=H
      replace H:(if x115003_1.length < 1954687338268 then (helmsmanlaw12_Expr.l0 k1 l0_3 (l0_3.length:Int) (wrap64 (x18_1+1)) a0_0 a0_1 a0_2 (x115003_1++[(⟨t117,t118,t119,t120,t123⟩:S33)]) a0_4) else (none))=some (r1,r2,r3,r4,r5):=H
      have A14:=Aside0.mk A140
      clear A140
      by_cases c15:x115003_1.length < 1954687338268
      ·rw [if_pos c15] at H
       have LMc15:=Aside0.mk c15
       clear c15
       obtain ⟨y124,hy124⟩ : ∃ y_:List (S33),y_=(x115003_1++[(⟨t117,t118,t119,t120,t123⟩:S33)]):=⟨_,rfl⟩
       replace H:(helmsmanlaw12_Expr.l0 k1 l0_3 (l0_3.length:Int) (wrap64 (x18_1+1)) a0_0 a0_1 a0_2 y124 a0_4)=some (r1,r2,r3,r4,r5):=by first|(rw [hy124];with_reducible exact H)|(have H2_:=(Option.bind_some _ _).symm.trans H;rw [hy124];with_reducible exact H2_)|(have H2_:=(Option.bind_some _ _).symm.trans H;with_reducible exact H2_)|with_reducible exact H|(rw [hy124];exact H)|exact H
       have Ny124:=Aside0.mk hy124
       clear hy124
       have H':=Aside0.mk H
       clear H
       have p115:0≤(x18_1:Int):=of_decide_eq_true as_
       have q115:x18_1 < (l0_3.length:Int):=of_decide_eq_true as_
       obtain ⟨ad115,A115_3,c115_3,e115,hx115_0,hx115_1,hx115_2,hx115_3,hx115_4,hl115_3,hi115_3⟩:=at_T24 HR0_3.out x18_1 p115 q115
       cases e115
       replace hx115_0:=(cb_ HB.out hx115_0:_)
       replace hx115_1:=(cb_ HB.out hx115_1:_)
       replace hx115_2:=(cb_ HB.out hx115_2:_)
       replace hx115_3:=(cb_ HB.out hx115_3:_)
       replace hx115_4:=(cb_ HB.out hx115_4:_)
       have HR115_3:=Aside0.mk hi115_3
       have HC115_3:=Aside0.mk hl115_3
       clear hi115_3 hl115_3
       replace p115:=eq_true p115
       replace q115:=eq_true q115
       try go_wp2_with (first|((with_reducible refine gate_dst (N:=5) rfl ?_);refine box_event ?hg (N:=5) ?hd (cs:=#[.string (⟨#[]⟩:ByteArray),.string (⟨#[]⟩:ByteArray),.int .i64 0,.slice none 0 0,.int .i64 0]) (t:=24) ?hr ?_;(case hd=>rfl);(case hg=>rfl);(case hr=>first|(go_simp;done)|(go_simp;rfl));intro gb116 hg w16 hbox hb;have n0_:=Aside0.mk (Kd.R_below (by (with_reducible repeat (first|apply Kd.R_alloc|apply Kd.R_drewN|apply Kd.R_drew));exact HO_115003.out) hb);have n1_:=Aside0.mk (bb_ BK112.out hb);have n2_:=Aside0.mk (bb_ BK113.out hb);have n3_:=Aside0.mk (bb_ BK114.out hb);have n4_:=Aside0.mk (below_step (bl_ HB.out) hb);have n5_:=Aside0.mk (hbox);have n6_:=Aside0.mk ((gs_ hg (bl_ HB.out):w.heap.size≤gb116));have n7_:=Aside0.mk ((gs_ hg (bl_ HB.out):w.heap.size≤gb116));have n8_:=Aside0.mk ((nl_ hg BK112.out:gb112≠gb116));have n9_:=Aside0.mk ((nr_ hg BK112.out:gb116≠gb112));have n10_:=Aside0.mk ((nl_ hg BK113.out:gb113≠gb116));have n11_:=Aside0.mk ((nr_ hg BK113.out:gb116≠gb113));have n12_:=Aside0.mk ((nl_ hg BK114.out:gb114≠gb116));have n13_:=Aside0.mk ((nr_ hg BK114.out:gb116≠gb114));clear HO_115003;clear BK112;clear BK113;clear BK114;clear HB;have HO_115003:=n0_;have BK112:=n1_;have BK113:=n2_;have BK114:=n3_;have HB:=n4_;have BK116:=n5_;have GW116:=n6_;have GE116:=n7_;have NB112_116:=n8_;have NB116_112:=n9_;have NB113_116:=n10_;have NB116_113:=n11_;have NB114_116:=n12_;have NB116_114:=n13_;clear n0_ n1_ n2_ n3_ n4_ n5_ n6_ n7_ n8_ n9_ n10_ n11_ n12_ n13_;clear hb hbox hg;have hnb17:=NB116_112.out;have hnc17:=NB112_116.out;have hnb18:=NB116_113.out;have hnc18:=NB113_116.out;have hnb19:=NB116_114.out;have hnc19:=NB114_116.out;have hcz20_0:w16.cell? ⟨gb116,0,none⟩=some (.string (⟨#[]⟩:ByteArray)):=zc_ BK116.out 0;have hcz20_1:w16.cell? ⟨gb116,1,none⟩=some (.string (⟨#[]⟩:ByteArray)):=zc_ BK116.out 1;have hcz20_2:w16.cell? ⟨gb116,2,none⟩=some (.int .i64 0):=zc_ BK116.out 2;have hcz20_3:w16.cell? ⟨gb116,3,none⟩=some (.slice none 0 0):=zc_ BK116.out 3;have hcz20_4:w16.cell? ⟨gb116,4,none⟩=some (.int .i64 0):=zc_ BK116.out 4;have hfz20_0:=blk_frozen BK116.out 0;have hfz20_1:=blk_frozen BK116.out 1;have hfz20_2:=blk_frozen BK116.out 2;have hfz20_3:=blk_frozen BK116.out 3;have hfz20_4:=blk_frozen BK116.out 4))
       have n0_:Aside0 (Kd.R k33 33 (((((w16.setCell ⟨gb116,0,none⟩ (.string ((rd_T24 l0_3 x18_1).f0))).setCell ⟨gb116,1,none⟩ (.string ((rd_T24 l0_3 x18_1).f1))).setCell ⟨gb116,2,none⟩ (.int .i64 ((rd_T24 l0_3 x18_1).f2))).setCell ⟨gb116,3,none⟩ (.slice A115_3 ((rd_T24 l0_3 x18_1).f3).length c115_3)).setCell ⟨gb116,4,none⟩ (.int .i64 ((rd_T24 l0_3 x18_1).f4))) w.heap.size (fun k_=>k_≠gb113∧k_≠gb114) u115003 x115003_1):=⟨by (with_reducible repeat (first|apply Kd.R_alloc|apply Kd.R_drewN|apply Kd.R_drew));exact Kd.R_mono (Kd.R_far (p:=⟨gb116,4,none⟩) (Kd.R_far (p:=⟨gb116,3,none⟩) (Kd.R_far (p:=⟨gb116,2,none⟩) (Kd.R_far (p:=⟨gb116,1,none⟩) (Kd.R_far (p:=⟨gb116,0,none⟩) (Kd.R_types HO_115003.out BK116.out (by decide)) (fun _ hk=>hk.2) (.string ((rd_T24 l0_3 x18_1).f0))) (fun _ hk=>hk.2) (.string ((rd_T24 l0_3 x18_1).f1))) (fun _ hk=>hk.2) (.int .i64 ((rd_T24 l0_3 x18_1).f2))) (fun _ hk=>hk.2) (.slice A115_3 ((rd_T24 l0_3 x18_1).f3).length c115_3)) (fun _ hk=>hk.2) (.int .i64 ((rd_T24 l0_3 x18_1).f4))) (fun _ hk=>⟨hk.1.1,hk.1.2⟩)⟩
       have n1_:Aside0 ((((((w16.setCell ⟨gb116,0,none⟩ (.string ((rd_T24 l0_3 x18_1).f0))).setCell ⟨gb116,1,none⟩ (.string ((rd_T24 l0_3 x18_1).f1))).setCell ⟨gb116,2,none⟩ (.int .i64 ((rd_T24 l0_3 x18_1).f2))).setCell ⟨gb116,3,none⟩ (.slice A115_3 ((rd_T24 l0_3 x18_1).f3).length c115_3)).setCell ⟨gb116,4,none⟩ (.int .i64 ((rd_T24 l0_3 x18_1).f4))).heap[gb112]?=some (.cells #[.string a0_0,.string a0_1,.int .i64 a0_2,.slice (some ad115) l0_3.length c0_3,.int .i64 a0_4] 24 (0,0))):=⟨kbc_ BK112.out⟩
       have n2_:Aside0 ((((((w16.setCell ⟨gb116,0,none⟩ (.string ((rd_T24 l0_3 x18_1).f0))).setCell ⟨gb116,1,none⟩ (.string ((rd_T24 l0_3 x18_1).f1))).setCell ⟨gb116,2,none⟩ (.int .i64 ((rd_T24 l0_3 x18_1).f2))).setCell ⟨gb116,3,none⟩ (.slice A115_3 ((rd_T24 l0_3 x18_1).f3).length c115_3)).setCell ⟨gb116,4,none⟩ (.int .i64 ((rd_T24 l0_3 x18_1).f4))).heap[gb113]?=some (.cells #[.string (⟨#[]⟩:ByteArray),.string (⟨#[]⟩:ByteArray),.int .i64 0,.slice none 0 0,.int .i64 0] 33 (0,0))):=⟨kbc_ BK113.out⟩
       have n3_:Aside0 ((((((w16.setCell ⟨gb116,0,none⟩ (.string ((rd_T24 l0_3 x18_1).f0))).setCell ⟨gb116,1,none⟩ (.string ((rd_T24 l0_3 x18_1).f1))).setCell ⟨gb116,2,none⟩ (.int .i64 ((rd_T24 l0_3 x18_1).f2))).setCell ⟨gb116,3,none⟩ (.slice A115_3 ((rd_T24 l0_3 x18_1).f3).length c115_3)).setCell ⟨gb116,4,none⟩ (.int .i64 ((rd_T24 l0_3 x18_1).f4))).heap[gb114]?=some (.cells #[.string a0_0,.string a0_1,.int .i64 a0_2,u115003,.int .i64 a0_4] 33 (0,0))):=⟨kbc_ BK114.out⟩
       have n4_:Aside0 ((((((w16.setCell ⟨gb116,0,none⟩ (.string ((rd_T24 l0_3 x18_1).f0))).setCell ⟨gb116,1,none⟩ (.string ((rd_T24 l0_3 x18_1).f1))).setCell ⟨gb116,2,none⟩ (.int .i64 ((rd_T24 l0_3 x18_1).f2))).setCell ⟨gb116,3,none⟩ (.slice A115_3 ((rd_T24 l0_3 x18_1).f3).length c115_3)).setCell ⟨gb116,4,none⟩ (.int .i64 ((rd_T24 l0_3 x18_1).f4))).heap[gb116]?=some (.cells #[.string ((rd_T24 l0_3 x18_1).f0),.string ((rd_T24 l0_3 x18_1).f1),.int .i64 ((rd_T24 l0_3 x18_1).f2),.slice A115_3 ((rd_T24 l0_3 x18_1).f3).length c115_3,.int .i64 ((rd_T24 l0_3 x18_1).f4)] 24 (0,0))):=⟨kbc_ BK116.out⟩
       have n5_:Aside0 (Below w.heap.size w (((((w16.setCell ⟨gb116,0,none⟩ (.string ((rd_T24 l0_3 x18_1).f0))).setCell ⟨gb116,1,none⟩ (.string ((rd_T24 l0_3 x18_1).f1))).setCell ⟨gb116,2,none⟩ (.int .i64 ((rd_T24 l0_3 x18_1).f2))).setCell ⟨gb116,3,none⟩ (.slice A115_3 ((rd_T24 l0_3 x18_1).f3).length c115_3)).setCell ⟨gb116,4,none⟩ (.int .i64 ((rd_T24 l0_3 x18_1).f4)))):=⟨bl_ HB.out⟩
       (try clear HO_115003)
       (try clear BK112)
       (try clear BK113)
       (try clear BK114)
       (try clear BK116)
       (try clear HB)
       generalize (((((w16.setCell ⟨gb116,0,none⟩ (.string ((rd_T24 l0_3 x18_1).f0))).setCell ⟨gb116,1,none⟩ (.string ((rd_T24 l0_3 x18_1).f1))).setCell ⟨gb116,2,none⟩ (.int .i64 ((rd_T24 l0_3 x18_1).f2))).setCell ⟨gb116,3,none⟩ (.slice A115_3 ((rd_T24 l0_3 x18_1).f3).length c115_3)).setCell ⟨gb116,4,none⟩ (.int .i64 ((rd_T24 l0_3 x18_1).f4)))=w21 at n0_ n1_ n2_ n3_ n4_ n5_ ⊢
       have HO_115003:=n0_
       have BK112:=n1_
       have BK113:=n2_
       have BK114:=n3_
       have BK116:=n4_
       have HB:=n5_
       clear n0_ n1_ n2_ n3_ n4_ n5_
       have n0_:=Aside0.mk (Kd.R_drew HO_115003.out)
       have n1_:=Aside0.mk (blk_drew BK112.out)
       have n2_:=Aside0.mk (blk_drew BK113.out)
       have n3_:=Aside0.mk (blk_drew BK114.out)
       have n4_:=Aside0.mk (blk_drew BK116.out)
       have n5_:=Aside0.mk (below_drew1 HB.out)
       clear HO_115003
       clear BK112
       clear BK113
       clear BK114
       clear BK116
       clear HB
       have HO_115003:=n0_
       have BK112:=n1_
       have BK113:=n2_
       have BK114:=n3_
       have BK116:=n4_
       have HB:=n5_
       clear n0_ n1_ n2_ n3_ n4_ n5_
       refine start_ (n:=8) (S:=fun w'=>w'.cell? ⟨gb114,0,none⟩=some (.string a0_0)∧w'.cell? ⟨gb114,1,none⟩=some (.string a0_1)∧w'.cell? ⟨gb114,2,none⟩=some (.int .i64 a0_2)∧w'.cell? ⟨gb114,3,none⟩=some (u115003)∧w'.cell? ⟨gb114,4,none⟩=some (.int .i64 a0_4)∧w'.cell? ⟨gb116,0,none⟩=some (.string ((rd_T24 l0_3 x18_1).f0))∧w'.cell? ⟨gb116,1,none⟩=some (.string ((rd_T24 l0_3 x18_1).f1))∧w'.cell? ⟨gb116,2,none⟩=some (.int .i64 ((rd_T24 l0_3 x18_1).f2))∧w'.cell? ⟨gb116,3,none⟩=some (.slice A115_3 ((rd_T24 l0_3 x18_1).f3).length c115_3)∧w'.cell? ⟨gb116,4,none⟩=some (.int .i64 ((rd_T24 l0_3 x18_1).f4))) (ds:=[7]) (flg 8 0) (by kernel_rfl) rfl (by kernel_rfl) ⟨zc_ BK114.out 0,zc_ BK114.out 1,zc_ BK114.out 2,zc_ BK114.out 3,zc_ BK114.out 4,zc_ BK116.out 0,zc_ BK116.out 1,zc_ BK116.out 2,zc_ BK116.out 3,zc_ BK116.out 4⟩ (fun hHeld=>?_);refine with_tabW helmsmanlaw12_Expr.tab5 helmsmanlaw12_Expr.bits5 (fun HT_ HW_=>?_)
       generalize w21.drew=w22 at HO_115003 BK112 BK113 BK114 BK116 HB hHeld ⊢
       refine pur_ 0 22 (flg 8 1) rfl rfl (any_of HT_.out (by kernel_rfl)) (fun _ _ _ h=>h) ?_
       refine tak_ 1 23 (flg 8 3) rfl rfl (take_ofW HT_.out HW_.out (by kernel_rfl)) (fun _ _ _ h=>h) hHeld ?_
       refine tak_ 2 24 (flg 8 7) rfl rfl (take_ofW HT_.out HW_.out (by kernel_rfl)) (fun _ _ _ h=>h) hHeld ?_
       refine one_ (i:=3) (N:=some 25) (flg 8 15) rfl rfl (one_of HT_.out (by kernel_rfl)) (by decide) (fun K hK=>?_)
       refine goes_ Tryd.func11 (by kernel_rfl) rfl #[.agg #[.string ((rd_T24 l0_3 x18_1).f0),.string ((rd_T24 l0_3 x18_1).f1),.int .i64 ((rd_T24 l0_3 x18_1).f2),.slice A115_3 ((rd_T24 l0_3 x18_1).f3).length c115_3,.int .i64 ((rd_T24 l0_3 x18_1).f4)]] (by rfl) rfl rfl ar_ ?_
       with_reducible refine (ih k1 (by have:=HK1.out;omega) ((rd_T24 l0_3 x18_1).f0) ((rd_T24 l0_3 x18_1).f1) ((rd_T24 l0_3 x18_1).f2) _ _ ((rd_T24 l0_3 x18_1).f3) ((rd_T24 l0_3 x18_1).f4) t117 t118 t119 t120 t123 _ ?side1 ?side2 A14.out).mono ?_
       (case side1=>exact kc_ HR115_3.out HB.out)
       (case side2=>exact HC115_3.out)
       rintro e w23 ⟨v121,rfl,ho0,hb⟩
       refine ⟨_,rfl,?_⟩
       have n0_:=Aside0.mk (Kd.R_elder' (by (with_reducible repeat (first|apply Kd.R_alloc|apply Kd.R_drewN|apply Kd.R_drew));exact HO_115003.out) (Kd.R_base ho0) hb)
       have n1_:=Aside0.mk (Kd.R_lower (Kd.R_newB (Kd.R_newB (Kd.R_new' ho0 (Kd.R_lt (by (with_reducible repeat (first|apply Kd.R_alloc|apply Kd.R_drewN|apply Kd.R_drew));exact HO_115003.out))) (g:=gb113) (o:=.cells #[.string (⟨#[]⟩:ByteArray),.string (⟨#[]⟩:ByteArray),.int .i64 0,.slice none 0 0,.int .i64 0] 33 (0,0)) (kb_ BK113.out)) (g:=gb114) (o:=.cells #[.string a0_0,.string a0_1,.int .i64 a0_2,u115003,.int .i64 a0_4] 33 (0,0)) (kb_ BK114.out)) (below_size (bl_ HB.out)))
       have n2_:=Aside0.mk (bb_ BK112.out hb)
       have n3_:=Aside0.mk (bb_ BK113.out hb)
       have n4_:=Aside0.mk (bb_ BK114.out hb)
       have n5_:=Aside0.mk (bb_ BK116.out hb)
       have n6_:=Aside0.mk (below_step (bl_ HB.out) hb)
       clear HO_115003
       clear BK112
       clear BK113
       clear BK114
       clear BK116
       clear HB
       have HO_115003:=n0_
       have HO122:=n1_
       have BK112:=n2_
       have BK113:=n3_
       have BK114:=n4_
       have BK116:=n5_
       have HB:=n6_
       clear n0_ n1_ n2_ n3_ n4_ n5_ n6_
       (try clear hb)
       (try clear hb2)
       (try clear hk)
       (try clear hi)
       (try clear ho0)
       obtain ⟨Ao25,co25,eo25⟩:=Kd.R_slice HO122.out
       (first|subst eo25|(injection eo25 with f1_ f2_ f3_;have f4_:=f1_.symm;have f5_:=f3_.symm;clear f1_ f2_ f3_;subst f4_;subst f5_))
       refine hK.out _ _ ⟨zc_ BK114.out 0,zc_ BK114.out 1,zc_ BK114.out 2,zc_ BK114.out 3,zc_ BK114.out 4,zc_ BK116.out 0,zc_ BK116.out 1,zc_ BK116.out 2,zc_ BK116.out 3,zc_ BK116.out 4⟩ (fun hHeld=>?_)
       clear hK K
       refine norm_ (a':=?_) ?_ ?_
       rotate_left
       ·show Act.put _ (some 25) _=_
        simp only [Act.put,List.setIfInBounds_toArray,List.set_cons_zero,List.set_cons_succ,i64_w,i32_w]
        rfl
       refine one_ (i:=4) (N:=some 26) (flg 8 31) rfl rfl (one_of HT_.out (by kernel_rfl)) (by decide) (fun K hK=>?_)
       refine value_ (w1:=?_) (v:=?_) (by rfl) rfl ?_ ?_
       rotate_left 2
       ·go_simp
        constructor
        ·rfl
        ·rfl
       refine hK.out _ _ ⟨(blk_cell (blk_alloc BK114.out _) 0).trans rfl,(blk_cell (blk_alloc BK114.out _) 1).trans rfl,(blk_cell (blk_alloc BK114.out _) 2).trans rfl,(blk_cell (blk_alloc BK114.out _) 3).trans rfl,(blk_cell (blk_alloc BK114.out _) 4).trans rfl,(blk_cell (blk_alloc BK116.out _) 0).trans rfl,(blk_cell (blk_alloc BK116.out _) 1).trans rfl,(blk_cell (blk_alloc BK116.out _) 2).trans rfl,(blk_cell (blk_alloc BK116.out _) 3).trans rfl,(blk_cell (blk_alloc BK116.out _) 4).trans rfl⟩ (fun hHeld=>?_)
       clear hK K
       refine norm_ (a':=?_) ?_ ?_
       rotate_left
       ·show Act.put _ (some 26) _=_
        simp only [Act.put,List.setIfInBounds_toArray,List.set_cons_zero,List.set_cons_succ,i64_w,i32_w]
        rfl
       refine one_ (i:=5) (N:=some 27) (flg 8 63) rfl rfl (one_of HT_.out (by kernel_rfl)) (by decide) (fun K hK=>?_)
       refine Kd.R_append_step k33 (w0:=w) w.heap.size (by rfl) (.tmp 23) (.tmp 26) 31 33 (.agg #[(.string ⟨#[]⟩),(.string ⟨#[]⟩),(.int .i64 0),(.slice none 0 0),(.int .i64 0)]) 72 rfl Tryd.underlying31 info33 rfl (by decide) (by omega) u115003 x115003_1 (⟨t117,t118,t119,t120,t123⟩:S33) [.string t117,.string t118,.int .i64 t119,.slice Ao25 t120.length co25,.int .i64 t123] (fun k_=>k_≠gb113∧k_≠gb114) (fun k_=>((fun k_=>k_≠gb113∧k_≠gb114)) k_∧some k_≠(u115003:Value).ownBlock) rfl rfl ?aP (fun _ hk=>hk) ?aF ?aO ?aB ?aS ?aL ?_
       (case aP=>exact k33_mkM _ _ _ (⟨t117,t118,t119,t120,t123⟩:S33) (Kd.R_mono (HO122.out) (fun k_ hk=>⟨⟨hk.1.2,hk.2⟩,hk.1.1.2⟩)))
       (case aB=>exact (bl_ HB.out))
       (case aF=>exact (fun k_ hk=>⟨Kd.freshB (g:=gb113) (o:=.cells #[.string (⟨#[]⟩:ByteArray),.string (⟨#[]⟩:ByteArray),.int .i64 0,.slice none 0 0,.int .i64 0] 33 (0,0)) (kb_ BK113.out) k_ hk,Kd.freshB (g:=gb114) (o:=.cells #[.string a0_0,.string a0_1,.int .i64 a0_2,u115003,.int .i64 a0_4] 33 (0,0)) (kb_ BK114.out) k_ hk⟩))
       (case aO=>exact (by (with_reducible repeat (first|apply Kd.R_alloc|apply Kd.R_drewN|apply Kd.R_drew));exact Kd.R_mono HO_115003.out (fun _ hk=>⟨hk.1.1,hk.1.2⟩)))
       (case aS=>exact (below_size (bl_ HB.out)))
       (case aL=>have:=LMc15.out;omega)
       intro v125 w24 ho hb hg hat
       rw [← Ny124.out] at ho
       have n0_:=Aside0.mk (bg_ BK112.out hg (Kd.R_ne HO_115003.out BK112.out (by decide)))
       have n1_:=Aside0.mk (bg_ BK113.out hg (Kd.R_away HO_115003.out (fun _ hk=>hk.1.1)))
       have n2_:=Aside0.mk (bg_ BK114.out hg (Kd.R_away HO_115003.out (fun _ hk=>hk.1.2)))
       have n3_:=Aside0.mk (bg_ BK116.out hg (Kd.R_ne HO_115003.out BK116.out (by decide)))
       have n4_:=Aside0.mk (hb)
       have n5_:=Aside0.mk (ho)
       clear BK112
       clear BK113
       clear BK114
       clear BK116
       clear HB
       clear HO_115003
       clear HO122
       have BK112:=n0_
       have BK113:=n1_
       have BK114:=n2_
       have BK116:=n3_
       have HB:=n4_
       have HO126:=n5_
       clear n0_ n1_ n2_ n3_ n4_ n5_
       clear ho hb hg hat
       obtain ⟨Ao26,co26,eo26⟩:=Kd.R_slice HO126.out
       (first|subst eo26|(injection eo26 with f1_ f2_ f3_;have f4_:=f1_.symm;have f5_:=f3_.symm;clear f1_ f2_ f3_;subst f4_;subst f5_))
       refine hK.out _ _ ⟨zc_ BK114.out 0,zc_ BK114.out 1,zc_ BK114.out 2,zc_ BK114.out 3,zc_ BK114.out 4,zc_ BK116.out 0,zc_ BK116.out 1,zc_ BK116.out 2,zc_ BK116.out 3,zc_ BK116.out 4⟩ (fun hHeld=>?_)
       clear hK K
       refine norm_ (a':=?_) ?_ ?_
       rotate_left
       ·show Act.put _ (some 27) _=_
        simp only [Act.put,List.setIfInBounds_toArray,List.set_cons_zero,List.set_cons_succ,i64_w,i32_w]
        rfl
       refine pur_ 6 28 (flg 8 127) rfl rfl (any_of HT_.out (by kernel_rfl)) (fun _ _ _ h=>h) ?_
       refine last_ (i:=7) (N:=none) (flg 8 255) rfl rfl (one_of HT_.out (by kernel_rfl)) (by decide) (fun K hK=>?_)
       have hs27:w24.cell? ⟨gb114,3,none⟩=some (u115003):=zc_ BK114.out 3
       have hfs27:=blk_frozen BK114.out 3
       have hns27_0:=NB112_114.out
       have hns27_1:=NB113_114.out
       have hns27_3:=NB116_114.out
       have hms27_0:=NB114_112.out
       have hms27_1:=NB114_113.out
       have hms27_3:=NB114_116.out
       refine skip_ (w1:=?_) (by rfl) rfl ?_ ?_
       rotate_left
       ·go_simp
        rfl
       refine hK.out _ _ ?_
       clear hK K
       refine done_ (done_of HT_.out (by kernel_rfl)) ?_
       try go_wp2
       go_roundg k1
       case measure=>have:=HK1.out;omega
       case rel=>exact ⟨(wrap64 (x18_1+1)),(y124),(.slice Ao26 y124.length co26),rf_,H',⟨by have:=HK1.out;omega⟩,⟨by (with_reducible repeat (first|apply Kd.R_alloc|apply Kd.R_drewN|apply Kd.R_drew));exact Kd.R_mono (Kd.R_far (p:=⟨gb114,3,none⟩) (Kd.R_mono HO126.out (fun k_ hk=>(⟨hk,hk.2⟩:_∧k_≠gb114))) (fun _ hk=>hk.2) (.slice Ao26 y124.length co26)) (fun _ hk=>⟨hk.1.1,hk.1.2⟩)⟩,⟨kbc_ BK112.out⟩,⟨kbc_ BK113.out⟩,⟨kbc_ BK114.out⟩,⟨bl_ HB.out⟩⟩
      ·rw [if_neg c15] at H
       exact absurd H (by simp)
     ·rw [if_neg c13] at H
      exact absurd H (by simp)
    ·rw [if_neg c12] at H
     exact absurd H (by simp)
   ·rw [if_neg c11] at H
    have c11b0:decide (x18_1 < (l0_3.length:Int))=false:=decide_eq_false c11
    clear c11
    simp only [Option.some.injEq,Prod.mk.injEq] at H
    obtain ⟨rfl,rfl,rfl,rfl,rfl⟩:=H
    have hnb28:=NB114_112.out
    have hnc28:=NB112_114.out
    have hnb29:=NB114_113.out
    have hnc29:=NB113_114.out
    have hcz30_0:wr.cell? ⟨gb114,0,none⟩=some (.string a0_0):=zc_ BK114.out 0
    have hcz30_1:wr.cell? ⟨gb114,1,none⟩=some (.string a0_1):=zc_ BK114.out 1
    have hcz30_2:wr.cell? ⟨gb114,2,none⟩=some (.int .i64 a0_2):=zc_ BK114.out 2
    have hcz30_3:wr.cell? ⟨gb114,3,none⟩=some (u115003):=zc_ BK114.out 3
    have hcz30_4:wr.cell? ⟨gb114,4,none⟩=some (.int .i64 a0_4):=zc_ BK114.out 4
    have hfz30_0:=blk_frozen BK114.out 0
    have hfz30_1:=blk_frozen BK114.out 1
    have hfz30_2:=blk_frozen BK114.out 2
    have hfz30_3:=blk_frozen BK114.out 3
    have hfz30_4:=blk_frozen BK114.out 4
    have hnb31:=NB113_112.out
    have hnc31:=NB112_113.out
    have hcz32_0:wr.cell? ⟨gb113,0,none⟩=some (.string (⟨#[]⟩:ByteArray)):=zc_ BK113.out 0
    have hcz32_1:wr.cell? ⟨gb113,1,none⟩=some (.string (⟨#[]⟩:ByteArray)):=zc_ BK113.out 1
    have hcz32_2:wr.cell? ⟨gb113,2,none⟩=some (.int .i64 0):=zc_ BK113.out 2
    have hcz32_3:wr.cell? ⟨gb113,3,none⟩=some (.slice none 0 0):=zc_ BK113.out 3
    have hcz32_4:wr.cell? ⟨gb113,4,none⟩=some (.int .i64 0):=zc_ BK113.out 4
    have hfz32_0:=blk_frozen BK113.out 0
    have hfz32_1:=blk_frozen BK113.out 1
    have hfz32_2:=blk_frozen BK113.out 2
    have hfz32_3:=blk_frozen BK113.out 3
    have hfz32_4:=blk_frozen BK113.out 4
    obtain ⟨Ao33,co33,eo33⟩:=Kd.R_slice HO_115003.out
    subst eo33
    go_wp2
    refine bodyPost_ret (results_cell_row rfl _ _ gb113 33 #[.string a0_0,.string a0_1,.int .i64 a0_2,.slice Ao33 x115003_1.length co33,.int .i64 a0_4] (0,0) _ rfl (kbc_ BK113.out) Tryd.underlying33 rfl (by kernel_rfl)) rfl ?_
    exact ⟨_,rt_,by (with_reducible repeat (first|apply Kd.R_alloc|apply Kd.R_drewN|apply Kd.R_drew));exact Kd.R_mono (Kd.R_far (p:=⟨gb113,4,none⟩) (Kd.R_far (p:=⟨gb113,3,none⟩) (Kd.R_far (p:=⟨gb113,2,none⟩) (Kd.R_far (p:=⟨gb113,1,none⟩) (Kd.R_far (p:=⟨gb113,0,none⟩) (Kd.R_mono HO_115003.out (fun k_ hk=>(⟨hk,hk.1⟩:_∧k_≠gb113))) (fun _ hk=>hk.2) (.string a0_0)) (fun _ hk=>hk.2) (.string a0_1)) (fun _ hk=>hk.2) (.int .i64 a0_2)) (fun _ hk=>hk.2) (.slice Ao33 x115003_1.length co33)) (fun _ hk=>hk.2) (.int .i64 a0_4)) (fun _ hk=>trivial),bl_ HB.out⟩
end Go.Proofs.YtnnbbeloifhofaaDoor.P
end
section
namespace Go.Proofs.YtnnbbeloifhofaaDoor.P
open Go Go.RowKit Go.Proofs
open Go.Proofs.YtnnbbeloifhofaaDoorW.PrintWords Go.Proofs.YtnnbbeloifhofaaDoorW.PrintLast Go.Proofs.YtnnbbeloifhofaaDoorW.PrintMore
abbrev tupE (x:TE):ByteArray × ByteArray × Int × List TE × Int:=(x.f0,x.f1,x.f2,x.f3,x.f4)
theorem tup_eta (y:TE):(⟨(tupE y).1,(tupE y).2.1,(tupE y).2.2.1,(tupE y).2.2.2.1,(tupE y).2.2.2.2⟩:TE)=y:=by cases y;rfl
theorem Expr_loop : ∀ (xs pre:List RE) (n:Int) (a b:ByteArray) (m t:Int) (acc:List TE),(∀ y ∈ xs,Ev (fun k=>helmsmanlaw12_Expr.f k y.f0 y.f1 y.f2 y.f3 y.f4) (tupE (convE y)))→n=((pre++xs).length:Int)→(pre++xs).length < 1099511627776→acc.length=pre.length→
    Ev (fun k=>helmsmanlaw12_Expr.l0 k (pre++xs) n pre.length a b m acc t) (a,b,m,acc++convEs xs,t):=by
  intro xs
  induction xs with
  | nil=>
    intro pre n a b m t acc _ hn _ _
    subst hn
    refine Ev.step (fun k=>helmsmanlaw12_Expr.l0.eq_2 _ _ _ _ _ _ _ _ k) (Ev.no (end_not pre) ?_)
    rw [convEs,List.append_nil];exact Ev.now _
  | cons x xs ih=>
    intro pre n a b m t acc h hn hl ha
    subst hn
    refine Ev.step (fun k=>helmsmanlaw12_Expr.l0.eq_2 _ _ _ _ _ _ _ _ k) (Ev.yes (mid_lt pre x xs) (Ev.yes (by omega) (Ev.yes (mid_lt pre x xs) ?_)))
    rw [rdRE]
    refine Ev.bind (h x (List.mem_cons_self ..)) (Ev.yes (by rw [ha];rw [List.length_append] at hl;omega) ?_)
    rw [next_len pre x xs (by omega),tup_eta]
    have:=ih (pre++[x]) ((pre++x :: xs).length:Int) a b m t (acc++[convE x]) (fun y hy=>h y (List.mem_cons_of_mem _ hy)) (by rw [← snoc]) (by rw [← snoc];exact hl) (by rw [List.length_append,List.length_append,ha];rfl)
    rw [← snoc,List.append_assoc,List.singleton_append] at this
    rw [convEs]
    exact this
theorem Expr_ev : ∀ x:RE,bulkE x < 1099511627776→Ev (fun k=>helmsmanlaw12_Expr.f k x.f0 x.f1 x.f2 x.f3 x.f4) (tupE (convE x)):=RE.all fun x ih hb=>by
  rw [bulkE_eq] at hb
  have hl:=len_bulkEs x.f3
  refine Ev.step (fun k=>helmsmanlaw12_Expr.f.eq_2 _ _ _ _ _ k) ?_
  have:=Expr_loop x.f3 [] (x.f3.length:Int) x.f0 x.f1 x.f2 x.f4 [] (fun y hy=>ih y hy (by have:=mem_bulkEs hy;omega)) rfl (by rw [List.nil_append];omega) rfl
  rw [convE_eq]
  exact this
end Go.Proofs.YtnnbbeloifhofaaDoor.P
end
section
namespace Go.Proofs.YtnnbbeloifhofaaDoor.P
open Go.RowKit Go.Proofs.YtnnbbeloifhofaaDoorW.PrintWords Go.Proofs.YtnnbbeloifhofaaDoorW.PrintLast Go.Proofs.YtnnbbeloifhofaaDoorW.PrintMore
attribute [local go_sem] max2_int min2_int max_two min_two max_three min_three max_four min_four
set_option linter.unusedVariables false
set_option linter.unusedSimpArgs false
def strconv_Itoa_53.f (a0:Int):Option (ByteArray):=(strconv_FormatInt.f a0 10).bind fun t127=>(some t127)
set_option maxHeartbeats 8000000 in
set_option maxRecDepth 100000 in
theorem strconv_Itoa_53.calls (a0:Int) (r:ByteArray) (w:World) (hT:TabT w) (h:strconv_Itoa_53.f a0=some r) :
    Calls Tryd.prog 53 #[.int .i64 a0] w fun e w'=>e=.returned (.string r)∧Below w.heap.size w w':=by
  have HB:=Aside0.mk (Below.refl w.heap.size w)
  have H:((strconv_FormatInt.f a0 10).bind fun t127=>(some t127))=some r:=h
  clear h
  replace H:=Option.bind_eq_some_iff.mp H
  obtain ⟨t127,A20,H⟩:=H
  replace H:(some t127)=some r:=H
  have A2:=Aside0.mk A20
  clear A20
  obtain rfl:=Option.some.inj H
  go_enter Tryd.func53,Tryd.ntmps53
  go_wp2_with (first|((with_reducible refine gate_callee (f:=62) rfl ?_);refine goesL_ (some 4) rfl rfl Tryd.func62 (by kernel_rfl) rfl #[.int .i64 a0,.int .i64 10] rfl (by (try simp only [List.map_toArray,List.map_cons,List.map_nil]);first|done|rfl|(simp only [List.length_drop,List.length_take];rfl)) ?_;(with_reducible refine (strconv_FormatInt.calls a0 10 t127 _ ?side1 A2.out).mono ?_);(case side1=>exact hT.later (by repeat (first|(with_reducible first|exact HB.out|apply below_alloc|apply pw_below_drewN|apply below_drew1)|exact HB.out)));rintro e w3 ⟨rfl,hb⟩;refine ⟨_,rfl,?_⟩;have n0_:=Aside0.mk (below_step (by repeat (first|(with_reducible first|exact HB.out|apply below_alloc|apply pw_below_drewN|apply below_drew1)|exact HB.out)) hb);clear HB;have HB:=n0_;clear n0_;(try clear hb);(try clear hb2);(try clear hk);(try clear hi)))
  go_ret
  exact ⟨by first|rfl|(simp [errW_none,errW_some] <;> rfl)|(simp [*,errW_none,errW_some] <;> rfl),by repeat (first|(with_reducible first|exact HB.out|apply below_alloc|apply pw_below_drewN|apply below_drew1)|exact HB.out)⟩
end Go.Proofs.YtnnbbeloifhofaaDoor.P
end
section
namespace Go.Proofs.YtnnbbeloifhofaaDoor.P
open Go.RowKit Go.Proofs.YtnnbbeloifhofaaDoorW.PrintWords Go.Proofs.YtnnbbeloifhofaaDoorW.PrintLast Go.Proofs.YtnnbbeloifhofaaDoorW.PrintMore
attribute [local go_sem] max2_int min2_int max_two min_two max_three min_three max_four min_four
set_option linter.unusedVariables false
set_option linter.unusedSimpArgs false
def strconv_Itoa_31.f (a0:Int):Option (ByteArray):=(strconv_Itoa_53.f a0).bind fun t128=>(some t128)
set_option maxHeartbeats 8000000 in
set_option maxRecDepth 100000 in
theorem strconv_Itoa_31.calls (a0:Int) (r:ByteArray) (w:World) (hT:TabT w) (h:strconv_Itoa_31.f a0=some r) :
    Calls Tryd.prog 31 #[.int .i64 a0] w fun e w'=>e=.returned (.string r)∧Below w.heap.size w w':=by
  have HB:=Aside0.mk (Below.refl w.heap.size w)
  have H:((strconv_Itoa_53.f a0).bind fun t128=>(some t128))=some r:=h
  clear h
  replace H:=Option.bind_eq_some_iff.mp H
  obtain ⟨t128,A20,H⟩:=H
  replace H:(some t128)=some r:=H
  have A2:=Aside0.mk A20
  clear A20
  obtain rfl:=Option.some.inj H
  go_enter Tryd.func31,Tryd.ntmps31
  go_wp2_with (first|((with_reducible refine gate_callee (f:=53) rfl ?_);refine goesL_ (some 4) rfl rfl Tryd.func53 (by kernel_rfl) rfl #[.int .i64 a0] rfl (by (try simp only [List.map_toArray,List.map_cons,List.map_nil]);first|done|rfl|(simp only [List.length_drop,List.length_take];rfl)) ?_;(with_reducible refine (strconv_Itoa_53.calls a0 t128 _ ?side1 A2.out).mono ?_);(case side1=>exact hT.later (by repeat (first|(with_reducible first|exact HB.out|apply below_alloc|apply pw_below_drewN|apply below_drew1)|exact HB.out)));rintro e w3 ⟨rfl,hb⟩;refine ⟨_,rfl,?_⟩;have n0_:=Aside0.mk (below_step (by repeat (first|(with_reducible first|exact HB.out|apply below_alloc|apply pw_below_drewN|apply below_drew1)|exact HB.out)) hb);clear HB;have HB:=n0_;clear n0_;(try clear hb);(try clear hb2);(try clear hk);(try clear hi)))
  go_ret
  exact ⟨by first|rfl|(simp [errW_none,errW_some] <;> rfl)|(simp [*,errW_none,errW_some] <;> rfl),by repeat (first|(with_reducible first|exact HB.out|apply below_alloc|apply pw_below_drewN|apply below_drew1)|exact HB.out)⟩
end Go.Proofs.YtnnbbeloifhofaaDoor.P
end
section
namespace Go.Proofs.YtnnbbeloifhofaaDoor.P
open Go.RowKit Go.Proofs.YtnnbbeloifhofaaDoorW.PrintWords Go.Proofs.YtnnbbeloifhofaaDoorW.PrintLast Go.Proofs.YtnnbbeloifhofaaDoorW.PrintMore
attribute [local go_sem] max2_int min2_int max_two min_two max_three min_three max_four min_four
set_option linter.unusedVariables false
set_option linter.unusedSimpArgs false
def slices_Index_string_string.l0:Nat→List ByteArray→ByteArray→Int→Int→Option (Int)
 | 0,_,_,_,_=>none
 | k+1,x0,x1,x7,x8=>if x8 < x7 then (if 0≤x8 then (if x8 < (x0.length:Int) then (if x1.toList=(rdOf ByteArray.empty x0 x8).toList then (some x8) else (slices_Index_string_string.l0 k x0 x1 x7 (wrap64 (x8+1)))) else (none)) else (none)) else (some (-1))
def slices_Index_string_string.f (k:Nat) (l0:List ByteArray) (a1:ByteArray):Option (Int):=slices_Index_string_string.l0 k l0 a1 (l0.length:Int) 0
set_option maxHeartbeats 8000000 in
set_option maxRecDepth 100000 in
theorem slices_Index_string_string.calls (k:Nat) (A0:Option Addr) (c0:Nat) (l0:List ByteArray) (a1:ByteArray) (r:Int) (w:World) (hr0:Kd.C Kd.string w A0 l0.length l0) (hc0:l0.length≤c0) (h:slices_Index_string_string.f k l0 a1=some r) :
  Calls Tryd.prog 63 #[.slice A0 l0.length c0,.string a1] w fun e w'=>e=.returned (.int .i64 r)∧Drawn0 w w':=by
 have HR0:=Aside0.mk hr0
 have HC0:=Aside0.mk hc0
 clear hr0 hc0
 have H:(slices_Index_string_string.l0 k l0 a1 (l0.length:Int) 0)=some r:=h
 clear h
 have H':=Aside0.mk H
 clear H
 go_enter Tryd.func63,Tryd.ntmps63
 go_wp2
 (try simp only [Act.put,List.setIfInBounds_toArray,List.set_cons_succ,List.set_cons_zero])
 go_loopg [8] k (fun kq v8 w'=>∃ (x8_1:Int),v8=.int .i64 x8_1∧Aside0 (slices_Index_string_string.l0 kq l0 a1 (l0.length:Int) x8_1=some r)∧Aside0 (kq≤k)∧Drawn0 w w')
 case atStart=>exact ⟨(0),rf_,H',⟨Nat.le_refl _⟩,by repeat (first|exact Drawn0.refl _|apply Drawn0.step)⟩
 case round=>
  clear H'
  try clear p2
  obtain ⟨x8_1,rfl,HA,HK1,⟨m1,rfl⟩⟩:=hrel
  cases gk with
  | zero=>exact absurd HA.out (by simp [slices_Index_string_string.l0])
  | succ k1=>
   have H:=HA.out
   clear HA
   simp only [slices_Index_string_string.l0] at H
   by_cases c3:x8_1 < (l0.length:Int)
   ·rw [if_pos c3] at H
    have c3b0:decide (x8_1 < (l0.length:Int))=true:=decide_eq_true c3
    clear c3
    by_cases c4:0≤x8_1
    ·rw [if_pos c4] at H
     have c4b0:decide (0≤x8_1)=true:=decide_eq_true c4
     clear c4
     by_cases c5:x8_1 < (l0.length:Int)
     ·rw [if_pos c5] at H
      have c5b0:decide (x8_1 < (l0.length:Int))=true:=decide_eq_true c5
      clear c5
      by_cases c6:a1.toList=(rdOf ByteArray.empty l0 x8_1).toList
      ·rw [if_pos c6] at H
       have c6b0:(a1.toList == (rdOf ByteArray.empty l0 x8_1).toList)=true:=beq_iff_eq.mpr c6
       have c6b1:(a1.toList != (rdOf ByteArray.empty l0 x8_1).toList)=false:=bne_eq_false_iff_eq.mpr c6
       clear c6
       obtain rfl:=Option.some.inj H
       have p129:0≤(x8_1:Int):=of_decide_eq_true as_
       have q129:x8_1 < (l0.length:Int):=of_decide_eq_true as_
       obtain ⟨ad129,e129,hx129_0⟩:=Kd.at_string HR0.out x8_1 p129 q129
       cases e129
       replace p129:=eq_true p129
       replace q129:=eq_true q129
       go_wp2
       go_ret
       exact ⟨by first|rfl|(simp;done)|(simp [*];done),by repeat (first|exact Drawn0.refl _|apply Drawn0.step)⟩
      ·rw [if_neg c6] at H
       have c6b0:(a1.toList == (rdOf ByteArray.empty l0 x8_1).toList)=false:=beq_eq_false_iff_ne.mpr c6
       have c6b1:(a1.toList != (rdOf ByteArray.empty l0 x8_1).toList)=true:=bne_iff_ne.mpr c6
       have H':=Aside0.mk H
       clear H
       have p129:0≤(x8_1:Int):=of_decide_eq_true as_
       have q129:x8_1 < (l0.length:Int):=of_decide_eq_true as_
       obtain ⟨ad129,e129,hx129_0⟩:=Kd.at_string HR0.out x8_1 p129 q129
       cases e129
       replace p129:=eq_true p129
       replace q129:=eq_true q129
       go_wp2
       go_roundg k1
       case measure=>have:=HK1.out;omega
       case rel=>exact ⟨(wrap64 (x8_1+1)),rf_,H',⟨by have:=HK1.out;omega⟩,by repeat (first|exact Drawn0.refl _|apply Drawn0.step)⟩
     ·rw [if_neg c5] at H
      exact absurd H (by simp)
    ·rw [if_neg c4] at H
     exact absurd H (by simp)
   ·rw [if_neg c3] at H
    have c3b0:decide (x8_1 < (l0.length:Int))=false:=decide_eq_false c3
    clear c3
    obtain rfl:=Option.some.inj H
    go_wp2
    go_ret
    exact ⟨by first|rfl|(simp;done)|(simp [*];done),by repeat (first|exact Drawn0.refl _|apply Drawn0.step)⟩
end Go.Proofs.YtnnbbeloifhofaaDoor.P
end
section
namespace Go.Proofs.YtnnbbeloifhofaaDoor.P
open Go.RowKit Go.Proofs.YtnnbbeloifhofaaDoorW.PrintWords Go.Proofs.YtnnbbeloifhofaaDoorW.PrintLast Go.Proofs.YtnnbbeloifhofaaDoorW.PrintMore
attribute [local go_sem] max2_int min2_int max_two min_two max_three min_three max_four min_four
set_option linter.unusedVariables false
set_option linter.unusedSimpArgs false
def slices_Contains_string_string.f (k:Nat) (l0:List ByteArray) (a1:ByteArray):Option (Bool):=(slices_Index_string_string.f k l0 a1).bind fun t130=>(some (decide (t130≥0)))
set_option maxHeartbeats 8000000 in
set_option maxRecDepth 100000 in
theorem slices_Contains_string_string.calls (k:Nat) (A0:Option Addr) (c0:Nat) (l0:List ByteArray) (a1:ByteArray) (r:Bool) (w:World) (hr0:Kd.C Kd.string w A0 l0.length l0) (hc0:l0.length≤c0) (h:slices_Contains_string_string.f k l0 a1=some r) :
    Calls Tryd.prog 54 #[.slice A0 l0.length c0,.string a1] w fun e w'=>e=.returned (.bool r)∧Drawn0 w w':=by
  have HR0:=Aside0.mk hr0
  have HC0:=Aside0.mk hc0
  clear hr0 hc0
  have H:((slices_Index_string_string.f k l0 a1).bind fun t130=>(some (decide (t130≥0))))=some r:=h
  clear h
  replace H:=Option.bind_eq_some_iff.mp H
  obtain ⟨t130,A30,H⟩:=H
  replace H:(some (decide (t130≥0)))=some r:=H
  have A3:=Aside0.mk A30
  clear A30
  obtain rfl:=Option.some.inj H
  go_enter Tryd.func54,Tryd.ntmps54
  go_wp2_with (first|((with_reducible refine gate_callee (f:=63) rfl ?_);refine goesL_ (some 7) rfl rfl Tryd.func63 (by kernel_rfl) rfl #[.slice A0 l0.length c0,.string a1] rfl (by (try simp only [List.map_toArray,List.map_cons,List.map_nil]);first|done|rfl|(simp only [List.length_drop,List.length_take];rfl)) ?_;(with_reducible refine (slices_Index_string_string.calls k _ _ l0 a1 t130 _ ?side1 ?side2 A3.out).mono ?_);(case side1=>repeat (first|exact HR0.out|(with_reducible refine Kd.C_alloc ?_ _)|(with_reducible refine Kd.C_drewN ?_ _)|(with_reducible refine Kd.C_drew ?_)));(case side2=>exact HC0.out);rintro e w' ⟨rfl,⟨nd,rfl⟩⟩;refine ⟨_,rfl,?_⟩))
  go_ret
  exact ⟨by first|rfl|(simp;done)|(simp [*];done),by repeat (first|exact Drawn0.refl _|apply Drawn0.step)⟩
end Go.Proofs.YtnnbbeloifhofaaDoor.P
end
section
namespace Go.Proofs.YtnnbbeloifhofaaDoor.P
open Go.RowKit Go.Proofs.YtnnbbeloifhofaaDoorW.PrintWords Go.Proofs.YtnnbbeloifhofaaDoorW.PrintLast Go.Proofs.YtnnbbeloifhofaaDoorW.PrintMore
attribute [local go_sem] max2_int min2_int max_two min_two max_three min_three max_four min_four
set_option linter.unusedVariables false
set_option linter.unusedSimpArgs false
mutual
def tree_Text.j0:Nat→ByteArray→Bool→ByteArray→ByteArray→Int→List (S33)→Int→Option (ByteArray)
 | 0,_,_,_,_,_,_,_=>none
 | k+1,x4,x24,x132000,x132001,x132002,x132003,x132004=>if x24=true then (some x132000) else (if x4.toList=([110,101,103]:List UInt8) then ((tree_closed.f k x132003 0).bind fun t134=>(if 1+t134.size≤9223372036854775807 then (some ((⟨#[45]⟩:ByteArray)++t134)) else (none))) else (if x4.toList=([110,111,116]:List UInt8) then ((tree_closed.f k x132003 0).bind fun t135=>(if 1+t135.size≤9223372036854775807 then (some ((⟨#[33]⟩:ByteArray)++t135)) else (none))) else ((tree_closed.f k x132003 0).bind fun t136=>(if t136.size+1≤9223372036854775807 then (if (t136++(⟨#[32]⟩:ByteArray)).size+x132000.size≤9223372036854775807 then (if ((t136++(⟨#[32]⟩:ByteArray))++x132000).size+1≤9223372036854775807 then ((tree_closed.f k x132003 1).bind fun t137=>(if (((t136++(⟨#[32]⟩:ByteArray))++x132000)++(⟨#[32]⟩:ByteArray)).size+t137.size≤9223372036854775807 then (some ((((t136++(⟨#[32]⟩:ByteArray))++x132000)++(⟨#[32]⟩:ByteArray))++t137)) else (none))) else (none)) else (none)) else (none)))))
def tree_Text.f:Nat→ByteArray→ByteArray→Int→List (S33)→Int→Option (ByteArray)
 | 0,_,_,_,_,_=>none
 | k+1,a0_0,a0_1,a0_2,l0_3,a0_4=>if a0_0.toList=([110,117,109]:List UInt8) then ((strconv_Itoa_31.f a0_2).bind fun t132=>(some t132)) else (if a0_0.toList=([110,97,109,101]:List UInt8) then (some a0_1) else (if a0_0.toList=([97,116]:List UInt8) then (if a0_1.size+1≤9223372036854775807 then ((tree_part.f k l0_3 0).bind fun t133=>(if (a0_1++(⟨#[91]⟩:ByteArray)).size+t133.size≤9223372036854775807 then (if ((a0_1++(⟨#[91]⟩:ByteArray))++t133).size+1≤9223372036854775807 then (some (((a0_1++(⟨#[91]⟩:ByteArray))++t133)++(⟨#[93]⟩:ByteArray))) else (none)) else (none))) else (none)) else (if a0_0.toList=([116,114,117,101]:List UInt8) then (tree_Text.j0 k a0_0 (a0_0.toList == ([116,114,117,101]:List UInt8)) a0_0 a0_1 a0_2 l0_3 a0_4) else (tree_Text.j0 k a0_0 (a0_0.toList == ([102,97,108,115,101]:List UInt8)) a0_0 a0_1 a0_2 l0_3 a0_4))))
def tree_part.f:Nat→List (S33)→Int→Option (ByteArray)
 | 0,_,_=>none
 | k+1,l0,a1=>if a1≥(l0.length:Int) then (some (⟨#[]⟩:ByteArray)) else (if 0≤a1 then (if a1 < (l0.length:Int) then ((tree_Text.f k ((rd_T33 l0 a1).f0) ((rd_T33 l0 a1).f1) ((rd_T33 l0 a1).f2) ((rd_T33 l0 a1).f3) ((rd_T33 l0 a1).f4)).bind fun t139=>(some t139)) else (none)) else (none))
def tree_closed.f:Nat→List (S33)→Int→Option (ByteArray)
 | 0,_,_=>none
 | k+1,l0,a1=>(tree_part.f k l0 a1).bind fun t140=>(if a1≥(l0.length:Int) then (some t140) else (if 0≤a1 then (if a1 < (l0.length:Int) then ((slices_Contains_string_string.f k (([(⟨#[110,117,109]⟩:ByteArray),(⟨#[110,97,109,101]⟩:ByteArray),(⟨#[97,116]⟩:ByteArray),(⟨#[116,114,117,101]⟩:ByteArray),(⟨#[102,97,108,115,101]⟩:ByteArray)]:List ByteArray)) ((rd_T33 l0 a1).f0)).bind fun t145=>(if t145=true then (some t140) else (if 1+t140.size≤9223372036854775807 then (if ((⟨#[40]⟩:ByteArray)++t140).size+1≤9223372036854775807 then (some (((⟨#[40]⟩:ByteArray)++t140)++(⟨#[41]⟩:ByteArray))) else (none)) else (none)))) else (none)) else (none)))
end
abbrev tree_Text.Stmt (k:Nat):Prop:=∀ (a0_0:ByteArray) (a0_1:ByteArray) (a0_2:Int) (A0_3:Option Addr) (c0_3:Nat) (l0_3:List (S33)) (a0_4:Int) (r:ByteArray) (w:World) (hT:TabT w) (hr0_3:Kd.C k33 w A0_3 l0_3.length l0_3) (hc0_3:l0_3.length≤c0_3) (h:tree_Text.f k a0_0 a0_1 a0_2 l0_3 a0_4=some r),
  Calls Tryd.prog 12 #[.agg #[.string a0_0,.string a0_1,.int .i64 a0_2,.slice A0_3 l0_3.length c0_3,.int .i64 a0_4]] w fun e w'=>e=.returned (.string r)∧Below w.heap.size w w'
abbrev tree_part.Stmt (k:Nat):Prop:=∀ (A0:Option Addr) (c0:Nat) (l0:List (S33)) (a1:Int) (r:ByteArray) (w:World) (hT:TabT w) (hr0:Kd.C k33 w A0 l0.length l0) (hc0:l0.length≤c0) (h:tree_part.f k l0 a1=some r),
  Calls Tryd.prog 32 #[.slice A0 l0.length c0,.int .i64 a1] w fun e w'=>e=.returned (.string r)∧Below w.heap.size w w'
abbrev tree_closed.Stmt (k:Nat):Prop:=∀ (A0:Option Addr) (c0:Nat) (l0:List (S33)) (a1:Int) (r:ByteArray) (w:World) (hT:TabT w) (hr0:Kd.C k33 w A0 l0.length l0) (hc0:l0.length≤c0) (h:tree_closed.f k l0 a1=some r),
  Calls Tryd.prog 33 #[.slice A0 l0.length c0,.int .i64 a1] w fun e w'=>e=.returned (.string r)∧Below w.heap.size w w'
end Go.Proofs.YtnnbbeloifhofaaDoor.P
end
section
namespace Go.Proofs.YtnnbbeloifhofaaDoor.P
open Go.RowKit Go.Proofs.YtnnbbeloifhofaaDoorW.PrintWords Go.Proofs.YtnnbbeloifhofaaDoorW.PrintLast Go.Proofs.YtnnbbeloifhofaaDoorW.PrintMore
attribute [local go_sem] max2_int min2_int max_two min_two max_three min_three max_four min_four
set_option linter.unusedVariables false
set_option linter.unusedSimpArgs false
def tree_Text.T7:Bool × List (List Nat × List Nat):=(true,[([],[]),([0],[0]),([1],[1]),([],[]),([3],[3]),([4],[4]),([2,5],[2,5]),([6],[6]),([7,5,0,1,2,3,4,5,6,7],[7])])
def tree_Text.B7:List Nat:=[0,1,3,0,8,24,63,127,255]
theorem tree_Text.tab7:rtab .any (opsOf Tryd.f12 7)=tree_Text.T7:=by kernel_rfl
theorem tree_Text.bits7:waitsOk tree_Text.T7.2 tree_Text.B7=true:=by kernel_rfl
def tree_Text.T15:Bool × List (List Nat × List Nat):=(true,[([],[]),([0],[0]),([1],[1]),([2],[2]),([],[]),([4],[4]),([3,5],[3,5]),([6],[6]),([],[]),([8],[8]),([9,2],[9]),([7,10],[7,10]),([11,10,0,1,2,3,4,5,6,7,8,9,10,11],[11])])
def tree_Text.B15:List Nat:=[0,1,3,7,0,16,63,127,0,256,775,2047,4095]
theorem tree_Text.tab15:rtab .any (opsOf Tryd.f12 15)=tree_Text.T15:=by kernel_rfl
theorem tree_Text.bits15:waitsOk tree_Text.T15.2 tree_Text.B15=true:=by kernel_rfl
set_option maxHeartbeats 8000000 in
set_option maxRecDepth 100000 in
theorem tree_Text.step (k:Nat) (ih12 : ∀ m_,m_ < k→tree_Text.Stmt m_) (ih32 : ∀ m_,m_ < k→tree_part.Stmt m_) (ih33 : ∀ m_,m_ < k→tree_closed.Stmt m_):tree_Text.Stmt k:=by
 intro a0_0 a0_1 a0_2 A0_3 c0_3 l0_3 a0_4 r w hT hr0_3 hc0_3 h
 cases k with
 | zero=>exact absurd h (by simp [tree_Text.f])
 | succ k=>
 simp only [tree_Text.f] at h
 have hu33:=Tryd.underlying33
 have HR0_3:=Aside0.mk hr0_3
 have HC0_3:=Aside0.mk hc0_3
 clear hr0_3 hc0_3
 have HB:=Aside0.mk (Below.refl w.heap.size w)
 have H:(if a0_0.toList=([110,117,109]:List UInt8) then ((strconv_Itoa_31.f a0_2).bind fun t132=>(some t132)) else (if a0_0.toList=([110,97,109,101]:List UInt8) then (some a0_1) else (if a0_0.toList=([97,116]:List UInt8) then (if a0_1.size+1≤9223372036854775807 then ((tree_part.f k l0_3 0).bind fun t133=>(if (a0_1++(⟨#[91]⟩:ByteArray)).size+t133.size≤9223372036854775807 then (if ((a0_1++(⟨#[91]⟩:ByteArray))++t133).size+1≤9223372036854775807 then (some (((a0_1++(⟨#[91]⟩:ByteArray))++t133)++(⟨#[93]⟩:ByteArray))) else (none)) else (none))) else (none)) else (if a0_0.toList=([116,114,117,101]:List UInt8) then (tree_Text.j0 k a0_0 (a0_0.toList == ([116,114,117,101]:List UInt8)) a0_0 a0_1 a0_2 l0_3 a0_4) else (tree_Text.j0 k a0_0 (a0_0.toList == ([102,97,108,115,101]:List UInt8)) a0_0 a0_1 a0_2 l0_3 a0_4)))))=some r:=h
 clear h
 by_cases c2:a0_0.toList=([110,117,109]:List UInt8)
 ·rw [if_pos c2] at H
  have c2b0:(a0_0.toList == ([110,117,109]:List UInt8))=true:=beq_iff_eq.mpr c2
  have c2b1:(a0_0.toList != ([110,117,109]:List UInt8))=false:=bne_eq_false_iff_eq.mpr c2
  clear c2
  replace H:=Option.bind_eq_some_iff.mp H
  obtain ⟨t132,A30,H⟩:=H
  replace H:(some t132)=some r:=H
  have A3:=Aside0.mk A30
  clear A30
  obtain rfl:=Option.some.inj H
  go_enter Tryd.func12,Tryd.ntmps12
  go_wp2_with (first|((with_reducible refine gate_dst (N:=1) rfl ?_);refine box_event ?hg (N:=1) ?hd (cs:=#[.string a0_0,.string a0_1,.int .i64 a0_2,.slice A0_3 l0_3.length c0_3,.int .i64 a0_4]) (t:=33) ?hr ?_;(case hd=>rfl);(case hg=>rfl);(case hr=>first|(go_simp;done)|(go_simp;rfl));intro gb131 hg w4 hbox hb;have n0_:=Aside0.mk (below_step (bl_ HB.out) hb);have n1_:=Aside0.mk (hbox);have n2_:=Aside0.mk ((gs_ hg (bl_ HB.out):w.heap.size≤gb131));have n3_:=Aside0.mk ((gs_ hg (bl_ HB.out):w.heap.size≤gb131));clear HB;have HB:=n0_;have BK131:=n1_;have GW131:=n2_;have GE131:=n3_;clear n0_ n1_ n2_ n3_;clear hb hbox hg;have hcz5_0:w4.cell? ⟨gb131,0,none⟩=some (.string a0_0):=zc_ BK131.out 0;have hcz5_1:w4.cell? ⟨gb131,1,none⟩=some (.string a0_1):=zc_ BK131.out 1;have hcz5_2:w4.cell? ⟨gb131,2,none⟩=some (.int .i64 a0_2):=zc_ BK131.out 2;have hcz5_3:w4.cell? ⟨gb131,3,none⟩=some (.slice A0_3 l0_3.length c0_3):=zc_ BK131.out 3;have hcz5_4:w4.cell? ⟨gb131,4,none⟩=some (.int .i64 a0_4):=zc_ BK131.out 4;have hfz5_0:=blk_frozen BK131.out 0;have hfz5_1:=blk_frozen BK131.out 1;have hfz5_2:=blk_frozen BK131.out 2;have hfz5_3:=blk_frozen BK131.out 3;have hfz5_4:=blk_frozen BK131.out 4)|((with_reducible refine gate_callee (f:=31) rfl ?_);refine goesL_ (some 9) rfl rfl Tryd.func31 (by kernel_rfl) rfl #[.int .i64 a0_2] rfl ar_ ?_;(with_reducible refine (strconv_Itoa_31.calls a0_2 t132 _ ?side1 A3.out).mono ?_);(case side1=>exact hT.later (bl_ HB.out));rintro e w6 ⟨rfl,hb⟩;refine ⟨_,rfl,?_⟩;have n0_:=Aside0.mk (bb_ BK131.out hb);have n1_:=Aside0.mk (below_step (bl_ HB.out) hb);clear BK131;clear HB;have BK131:=n0_;have HB:=n1_;clear n0_ n1_;(try clear hb);(try clear hb2);(try clear hk);(try clear hi)))
  go_ret
  exact ⟨rt_,bl_ HB.out⟩
 ·rw [if_neg c2] at H
  have c2b0:(a0_0.toList == ([110,117,109]:List UInt8))=false:=beq_eq_false_iff_ne.mpr c2
  have c2b1:(a0_0.toList != ([110,117,109]:List UInt8))=true:=bne_iff_ne.mpr c2
  by_cases c7:a0_0.toList=([110,97,109,101]:List UInt8)
  ·rw [if_pos c7] at H
   have c7b0:(a0_0.toList == ([110,97,109,101]:List UInt8))=true:=beq_iff_eq.mpr c7
   have c7b1:(a0_0.toList != ([110,97,109,101]:List UInt8))=false:=bne_eq_false_iff_eq.mpr c7
   clear c7
   obtain rfl:=Option.some.inj H
   go_enter Tryd.func12,Tryd.ntmps12
   go_wp2_with (first|((with_reducible refine gate_dst (N:=1) rfl ?_);refine box_event ?hg (N:=1) ?hd (cs:=#[.string a0_0,.string a0_1,.int .i64 a0_2,.slice A0_3 l0_3.length c0_3,.int .i64 a0_4]) (t:=33) ?hr ?_;(case hd=>rfl);(case hg=>rfl);(case hr=>first|(go_simp;done)|(go_simp;rfl));intro gb131 hg w8 hbox hb;have n0_:=Aside0.mk (below_step (bl_ HB.out) hb);have n1_:=Aside0.mk (hbox);have n2_:=Aside0.mk ((gs_ hg (bl_ HB.out):w.heap.size≤gb131));have n3_:=Aside0.mk ((gs_ hg (bl_ HB.out):w.heap.size≤gb131));clear HB;have HB:=n0_;have BK131:=n1_;have GW131:=n2_;have GE131:=n3_;clear n0_ n1_ n2_ n3_;clear hb hbox hg;have hcz9_0:w8.cell? ⟨gb131,0,none⟩=some (.string a0_0):=zc_ BK131.out 0;have hcz9_1:w8.cell? ⟨gb131,1,none⟩=some (.string a0_1):=zc_ BK131.out 1;have hcz9_2:w8.cell? ⟨gb131,2,none⟩=some (.int .i64 a0_2):=zc_ BK131.out 2;have hcz9_3:w8.cell? ⟨gb131,3,none⟩=some (.slice A0_3 l0_3.length c0_3):=zc_ BK131.out 3;have hcz9_4:w8.cell? ⟨gb131,4,none⟩=some (.int .i64 a0_4):=zc_ BK131.out 4;have hfz9_0:=blk_frozen BK131.out 0;have hfz9_1:=blk_frozen BK131.out 1;have hfz9_2:=blk_frozen BK131.out 2;have hfz9_3:=blk_frozen BK131.out 3;have hfz9_4:=blk_frozen BK131.out 4))
   go_ret
   exact ⟨rt_,bl_ HB.out⟩
  ·rw [if_neg c7] at H
   have c7b0:(a0_0.toList == ([110,97,109,101]:List UInt8))=false:=beq_eq_false_iff_ne.mpr c7
   have c7b1:(a0_0.toList != ([110,97,109,101]:List UInt8))=true:=bne_iff_ne.mpr c7
   by_cases c10:a0_0.toList=([97,116]:List UInt8)
   ·rw [if_pos c10] at H
    have c10b0:(a0_0.toList == ([97,116]:List UInt8))=true:=beq_iff_eq.mpr c10
    have c10b1:(a0_0.toList != ([97,116]:List UInt8))=false:=bne_eq_false_iff_eq.mpr c10
    clear c10
    by_cases c11:a0_1.size+1≤9223372036854775807
    ·rw [if_pos c11] at H
     have c11b0:=eq_true c11
     have c11b1:decide (a0_1.size+1≤9223372036854775807)=true:=decide_eq_true c11
     try have c11b2:(9223372036854775807 < a0_1.size+1)=False:=eq_false (Nat.not_lt.2 c11)
     replace H:=Option.bind_eq_some_iff.mp H
     obtain ⟨t133,A120,H⟩:=H
     replace H:(if (a0_1++(⟨#[91]⟩:ByteArray)).size+t133.size≤9223372036854775807 then (if ((a0_1++(⟨#[91]⟩:ByteArray))++t133).size+1≤9223372036854775807 then (some (((a0_1++(⟨#[91]⟩:ByteArray))++t133)++(⟨#[93]⟩:ByteArray))) else (none)) else (none))=some r:=H
     have A12:=Aside0.mk A120
     clear A120
     by_cases c13:(a0_1++(⟨#[91]⟩:ByteArray)).size+t133.size≤9223372036854775807
     ·rw [if_pos c13] at H
      have c13b0:=eq_true c13
      have c13b1:decide ((a0_1++(⟨#[91]⟩:ByteArray)).size+t133.size≤9223372036854775807)=true:=decide_eq_true c13
      try have c13b2:(9223372036854775807 < (a0_1++(⟨#[91]⟩:ByteArray)).size+t133.size)=False:=eq_false (Nat.not_lt.2 c13)
      try have c13b3:(9223372036854775807 < a0_1.size+1+t133.size)=False:=by have h_:=c13b2;simp only [ByteArray.size_append] at h_;exact h_
      try have c13b4:(a0_1.size+1+t133.size≤9223372036854775807)=True:=by have h_:=c13b0;simp only [ByteArray.size_append] at h_;exact h_
      by_cases c14:((a0_1++(⟨#[91]⟩:ByteArray))++t133).size+1≤9223372036854775807
      ·rw [if_pos c14] at H
       have c14b0:=eq_true c14
       have c14b1:decide (((a0_1++(⟨#[91]⟩:ByteArray))++t133).size+1≤9223372036854775807)=true:=decide_eq_true c14
       try have c14b2:(9223372036854775807 < ((a0_1++(⟨#[91]⟩:ByteArray))++t133).size+1)=False:=eq_false (Nat.not_lt.2 c14)
       try have c14b3:(9223372036854775807 < a0_1.size+1+t133.size+1)=False:=by have h_:=c14b2;simp only [ByteArray.size_append] at h_;exact h_
       try have c14b4:(a0_1.size+1+t133.size+1≤9223372036854775807)=True:=by have h_:=c14b0;simp only [ByteArray.size_append] at h_;exact h_
       obtain rfl:=Option.some.inj H
       go_enter Tryd.func12,Tryd.ntmps12
       try go_wp2_with (first|((with_reducible refine gate_dst (N:=1) rfl ?_);refine box_event ?hg (N:=1) ?hd (cs:=#[.string a0_0,.string a0_1,.int .i64 a0_2,.slice A0_3 l0_3.length c0_3,.int .i64 a0_4]) (t:=33) ?hr ?_;(case hd=>rfl);(case hg=>rfl);(case hr=>first|(go_simp;done)|(go_simp;rfl));intro gb131 hg w15 hbox hb;have n0_:=Aside0.mk (below_step (bl_ HB.out) hb);have n1_:=Aside0.mk (hbox);have n2_:=Aside0.mk ((gs_ hg (bl_ HB.out):w.heap.size≤gb131));have n3_:=Aside0.mk ((gs_ hg (bl_ HB.out):w.heap.size≤gb131));clear HB;have HB:=n0_;have BK131:=n1_;have GW131:=n2_;have GE131:=n3_;clear n0_ n1_ n2_ n3_;clear hb hbox hg;have hcz16_0:w15.cell? ⟨gb131,0,none⟩=some (.string a0_0):=zc_ BK131.out 0;have hcz16_1:w15.cell? ⟨gb131,1,none⟩=some (.string a0_1):=zc_ BK131.out 1;have hcz16_2:w15.cell? ⟨gb131,2,none⟩=some (.int .i64 a0_2):=zc_ BK131.out 2;have hcz16_3:w15.cell? ⟨gb131,3,none⟩=some (.slice A0_3 l0_3.length c0_3):=zc_ BK131.out 3;have hcz16_4:w15.cell? ⟨gb131,4,none⟩=some (.int .i64 a0_4):=zc_ BK131.out 4;have hfz16_0:=blk_frozen BK131.out 0;have hfz16_1:=blk_frozen BK131.out 1;have hfz16_2:=blk_frozen BK131.out 2;have hfz16_3:=blk_frozen BK131.out 3;have hfz16_4:=blk_frozen BK131.out 4))
       have n0_:=Aside0.mk (blk_drew BK131.out)
       have n1_:=Aside0.mk (below_drew1 HB.out)
       clear BK131
       clear HB
       have BK131:=n0_
       have HB:=n1_
       clear n0_ n1_
       refine start_ (n:=9) (S:=fun w'=>w'.cell? ⟨gb131,0,none⟩=some (.string a0_0)∧w'.cell? ⟨gb131,1,none⟩=some (.string a0_1)∧w'.cell? ⟨gb131,2,none⟩=some (.int .i64 a0_2)∧w'.cell? ⟨gb131,3,none⟩=some (.slice A0_3 l0_3.length c0_3)∧w'.cell? ⟨gb131,4,none⟩=some (.int .i64 a0_4)) (ds:=[]) (flg 9 0) (by kernel_rfl) rfl (by kernel_rfl) ⟨zc_ BK131.out 0,zc_ BK131.out 1,zc_ BK131.out 2,zc_ BK131.out 3,zc_ BK131.out 4⟩ (fun hHeld=>?_);refine with_tabW tree_Text.tab7 tree_Text.bits7 (fun HT_ HW_=>?_)
       generalize w15.drew=w17 at BK131 HB hHeld ⊢
       refine pur_ 0 16 (flg 9 1) rfl rfl (any_of HT_.out (by kernel_rfl)) (fun _ _ _ h=>h) ?_
       refine pur_ 3 19 (flg 9 9) rfl rfl (any_of HT_.out (by kernel_rfl)) (fun _ _ _ h=>h) ?_
       refine tak_ 1 17 (flg 9 11) rfl rfl (take_ofW HT_.out HW_.out (by kernel_rfl)) (fun _ _ _ h=>h) hHeld ?_
       refine pur_ 2 18 (flg 9 15) rfl rfl (any_of HT_.out (by kernel_rfl)) (fun _ _ _ h=>h) ?_
       refine tak_ 4 20 (flg 9 31) rfl rfl (take_ofW HT_.out HW_.out (by kernel_rfl)) (fun _ _ _ h=>h) hHeld ?_
       refine one_ (i:=5) (N:=some 21) (flg 9 63) rfl rfl (one_of HT_.out (by kernel_rfl)) (by decide) (fun K hK=>?_)
       refine goes_ Tryd.func32 (by kernel_rfl) rfl #[.slice A0_3 l0_3.length c0_3,.int .i64 0] (by rfl) rfl rfl ar_ ?_
       with_reducible refine (ih32 k (by omega) _ _ l0_3 0 t133 _ ?side1 ?side2 ?side3 A12.out).mono ?_
       (case side1=>exact hT.later (bl_ HB.out))
       (case side2=>exact kc_ HR0_3.out HB.out)
       (case side3=>exact HC0_3.out)
       rintro e w18 ⟨rfl,hb⟩
       refine ⟨_,rfl,?_⟩
       have n0_:=Aside0.mk (bb_ BK131.out hb)
       have n1_:=Aside0.mk (below_step (bl_ HB.out) hb)
       clear BK131
       clear HB
       have BK131:=n0_
       have HB:=n1_
       clear n0_ n1_
       (try clear hb)
       (try clear hb2)
       (try clear hk)
       (try clear hi)
       refine hK.out _ _ ⟨zc_ BK131.out 0,zc_ BK131.out 1,zc_ BK131.out 2,zc_ BK131.out 3,zc_ BK131.out 4⟩ (fun hHeld=>?_)
       clear hK K
       refine norm_ (a':=?_) ?_ ?_
       rotate_left
       ·show Act.put _ (some 21) _=_
        simp only [Act.put,List.setIfInBounds_toArray,List.set_cons_zero,List.set_cons_succ,i64_w,i32_w]
        rfl
       refine pur_ 6 22 (flg 9 127) rfl rfl (any_of HT_.out (by kernel_rfl)) (fun _ _ _ h=>h) ?_
       refine pur_ 7 23 (flg 9 255) rfl rfl (any_of HT_.out (by kernel_rfl)) (fun _ _ _ h=>h) ?_
       refine pur_ 8 2 (flg 9 511) rfl rfl (any_of HT_.out (by kernel_rfl)) (fun _ _ _ h=>h) ?_
       refine done_ (done_of HT_.out (by kernel_rfl)) ?_
       try go_wp2
       go_ret
       exact ⟨rt_,bl_ HB.out⟩
      ·rw [if_neg c14] at H
       exact absurd H (by simp)
     ·rw [if_neg c13] at H
      exact absurd H (by simp)
    ·rw [if_neg c11] at H
     exact absurd H (by simp)
   ·rw [if_neg c10] at H
    have c10b0:(a0_0.toList == ([97,116]:List UInt8))=false:=beq_eq_false_iff_ne.mpr c10
    have c10b1:(a0_0.toList != ([97,116]:List UInt8))=true:=bne_iff_ne.mpr c10
    have HC19:=Aside0.mk H
    clear H
    go_enter Tryd.func12,Tryd.ntmps12
    go_upto_if 24 with (first|((with_reducible refine gate_dst (N:=1) rfl ?_);refine box_event ?hg (N:=1) ?hd (cs:=#[.string a0_0,.string a0_1,.int .i64 a0_2,.slice A0_3 l0_3.length c0_3,.int .i64 a0_4]) (t:=33) ?hr ?_;(case hd=>rfl);(case hg=>rfl);(case hr=>first|(go_simp;done)|(go_simp;rfl));intro gb131 hg w20 hbox hb;have n0_:=Aside0.mk (below_step (bl_ HB.out) hb);have n1_:=Aside0.mk (hbox);have n2_:=Aside0.mk ((gs_ hg (bl_ HB.out):w.heap.size≤gb131));have n3_:=Aside0.mk ((gs_ hg (bl_ HB.out):w.heap.size≤gb131));clear HB;have HB:=n0_;have BK131:=n1_;have GW131:=n2_;have GE131:=n3_;clear n0_ n1_ n2_ n3_;clear hb hbox hg;have hcz21_0:w20.cell? ⟨gb131,0,none⟩=some (.string a0_0):=zc_ BK131.out 0;have hcz21_1:w20.cell? ⟨gb131,1,none⟩=some (.string a0_1):=zc_ BK131.out 1;have hcz21_2:w20.cell? ⟨gb131,2,none⟩=some (.int .i64 a0_2):=zc_ BK131.out 2;have hcz21_3:w20.cell? ⟨gb131,3,none⟩=some (.slice A0_3 l0_3.length c0_3):=zc_ BK131.out 3;have hcz21_4:w20.cell? ⟨gb131,4,none⟩=some (.int .i64 a0_4):=zc_ BK131.out 4;have hfz21_0:=blk_frozen BK131.out 0;have hfz21_1:=blk_frozen BK131.out 1;have hfz21_2:=blk_frozen BK131.out 2;have hfz21_3:=blk_frozen BK131.out 3;have hfz21_4:=blk_frozen BK131.out 4))
    (try simp only [Act.put,List.setIfInBounds_toArray,List.set_cons_zero,List.set_cons_succ])
    go_cut [24] (fun v24 wc=>∃ (kq:Nat) (x24_18:Bool),v24=.bool x24_18∧Aside0 (tree_Text.j0 kq a0_0 x24_18 a0_0 a0_1 a0_2 l0_3 a0_4=some r)∧Aside0 (kq≤k)∧Aside0 (wc.heap[gb131]?=some (.cells #[.string a0_0,.string a0_1,.int .i64 a0_2,(.slice A0_3 l0_3.length c0_3),.int .i64 a0_4] 33 (0,0)))∧Aside0 (Below w.heap.size w wc))
    case first=>
     have H:=HC19.out
     clear HC19
     by_cases c22:a0_0.toList=([116,114,117,101]:List UInt8)
     ·rw [if_pos c22] at H
      have c22b0:(a0_0.toList == ([116,114,117,101]:List UInt8))=true:=beq_iff_eq.mpr c22
      have c22b1:(a0_0.toList != ([116,114,117,101]:List UInt8))=false:=bne_eq_false_iff_eq.mpr c22
      clear c22
      (first|rw [c22b0]|(simp only [i64_w,i32_w];rw [c22b0])|skip)
      have H':=Aside0.mk H
      clear H
      go_wp2
      go_meet
      case rel=>exact ⟨_,((a0_0.toList == ([116,114,117,101]:List UInt8))),rf_,H',⟨by first|omega|exact Nat.le_refl _⟩,⟨kb_ BK131.out⟩,⟨bl_ HB.out⟩⟩
     ·rw [if_neg c22] at H
      have c22b0:(a0_0.toList == ([116,114,117,101]:List UInt8))=false:=beq_eq_false_iff_ne.mpr c22
      have c22b1:(a0_0.toList != ([116,114,117,101]:List UInt8))=true:=bne_iff_ne.mpr c22
      (first|rw [c22b0]|(simp only [i64_w,i32_w];rw [c22b0])|skip)
      have H':=Aside0.mk H
      clear H
      go_wp2
      go_meet
      case rel=>exact ⟨_,((a0_0.toList == ([102,97,108,115,101]:List UInt8))),rf_,H',⟨by first|omega|exact Nat.le_refl _⟩,⟨kb_ BK131.out⟩,⟨bl_ HB.out⟩⟩
    case rest=>
     clear HC19
     (try clear c1);(try clear c2);(try clear c2b0);(try clear c2b1);(try clear p2);(try clear c3);(try clear c7);(try clear c7b0);(try clear c7b1);(try clear c10);(try clear c10b0);(try clear c10b1);(try clear c11);(try clear c11b0);(try clear c11b1);(try clear c11b2);(try clear c12);(try clear c13);(try clear c13b0);(try clear c13b1);(try clear c13b2);(try clear c14);(try clear c14b0);(try clear c14b1);(try clear c14b2);(try clear c22);(try clear c22b0);(try clear c22b1);(try clear hcz16_0);(try clear hcz16_1);(try clear hcz16_2);(try clear hcz16_3);(try clear hcz16_4);(try clear hcz21_0);(try clear hcz21_1);(try clear hcz21_2);(try clear hcz21_3);(try clear hcz21_4);(try clear hcz5_0);(try clear hcz5_1);(try clear hcz5_2);(try clear hcz5_3);(try clear hcz5_4);(try clear hcz9_0);(try clear hcz9_1);(try clear hcz9_2);(try clear hcz9_3);(try clear hcz9_4);(try clear hfz16_0);(try clear hfz16_1);(try clear hfz16_2);(try clear hfz16_3);(try clear hfz16_4);(try clear hfz21_0);(try clear hfz21_1);(try clear hfz21_2);(try clear hfz21_3);(try clear hfz21_4);(try clear hfz5_0);(try clear hfz5_1);(try clear hfz5_2);(try clear hfz5_3);(try clear hfz5_4);(try clear hfz9_0);(try clear hfz9_1);(try clear hfz9_2);(try clear hfz9_3);(try clear hfz9_4)
     obtain ⟨kq,x24_18,rfl,HA,HJ18,BK131,HB⟩:=hcut
     cases kq with
     | zero=>exact absurd HA.out (by simp [tree_Text.j0])
     | succ kj18=>
      have H:=HA.out
      clear HA
      simp only [tree_Text.j0] at H
      by_cases c23:x24_18=true
      ·subst c23
       have H1:(some a0_0)=some r:=by rw [if_pos rfl] at H;exact H
       clear H
       have H:=H1
       clear H1
       obtain rfl:=Option.some.inj H
       have hcz24_0:wc.cell? ⟨gb131,0,none⟩=some (.string a0_0):=zc_ BK131.out 0
       have hcz24_1:wc.cell? ⟨gb131,1,none⟩=some (.string a0_1):=zc_ BK131.out 1
       have hcz24_2:wc.cell? ⟨gb131,2,none⟩=some (.int .i64 a0_2):=zc_ BK131.out 2
       have hcz24_3:wc.cell? ⟨gb131,3,none⟩=some (.slice A0_3 l0_3.length c0_3):=zc_ BK131.out 3
       have hcz24_4:wc.cell? ⟨gb131,4,none⟩=some (.int .i64 a0_4):=zc_ BK131.out 4
       have hfz24_0:=blk_frozen BK131.out 0
       have hfz24_1:=blk_frozen BK131.out 1
       have hfz24_2:=blk_frozen BK131.out 2
       have hfz24_3:=blk_frozen BK131.out 3
       have hfz24_4:=blk_frozen BK131.out 4
       go_wp2
       go_ret
       exact ⟨rt_,bl_ HB.out⟩
      ·replace c23:=Bool.eq_false_iff.mpr c23
       subst c23
       have H1:(if a0_0.toList=([110,101,103]:List UInt8) then ((tree_closed.f kj18 l0_3 0).bind fun t134=>(if 1+t134.size≤9223372036854775807 then (some ((⟨#[45]⟩:ByteArray)++t134)) else (none))) else (if a0_0.toList=([110,111,116]:List UInt8) then ((tree_closed.f kj18 l0_3 0).bind fun t135=>(if 1+t135.size≤9223372036854775807 then (some ((⟨#[33]⟩:ByteArray)++t135)) else (none))) else ((tree_closed.f kj18 l0_3 0).bind fun t136=>(if t136.size+1≤9223372036854775807 then (if (t136++(⟨#[32]⟩:ByteArray)).size+a0_0.size≤9223372036854775807 then (if ((t136++(⟨#[32]⟩:ByteArray))++a0_0).size+1≤9223372036854775807 then ((tree_closed.f kj18 l0_3 1).bind fun t137=>(if (((t136++(⟨#[32]⟩:ByteArray))++a0_0)++(⟨#[32]⟩:ByteArray)).size+t137.size≤9223372036854775807 then (some ((((t136++(⟨#[32]⟩:ByteArray))++a0_0)++(⟨#[32]⟩:ByteArray))++t137)) else (none))) else (none)) else (none)) else (none)))))=some r:=by rw [if_neg (show ¬ (false=true) by decide)] at H;exact H
       clear H
       have H:=H1
       clear H1
       by_cases c25:a0_0.toList=([110,101,103]:List UInt8)
       ·rw [if_pos c25] at H
        have c25b0:(a0_0.toList == ([110,101,103]:List UInt8))=true:=beq_iff_eq.mpr c25
        have c25b1:(a0_0.toList != ([110,101,103]:List UInt8))=false:=bne_eq_false_iff_eq.mpr c25
        clear c25
        replace H:=Option.bind_eq_some_iff.mp H
        obtain ⟨t134,A260,H⟩:=H
        replace H:(if 1+t134.size≤9223372036854775807 then (some ((⟨#[45]⟩:ByteArray)++t134)) else (none))=some r:=H
        have A26:=Aside0.mk A260
        clear A260
        by_cases c27:1+t134.size≤9223372036854775807
        ·rw [if_pos c27] at H
         have c27b0:=eq_true c27
         have c27b1:decide (1+t134.size≤9223372036854775807)=true:=decide_eq_true c27
         try have c27b2:(9223372036854775807 < 1+t134.size)=False:=eq_false (Nat.not_lt.2 c27)
         obtain rfl:=Option.some.inj H
         have hcz28_0:wc.cell? ⟨gb131,0,none⟩=some (.string a0_0):=zc_ BK131.out 0
         have hcz28_1:wc.cell? ⟨gb131,1,none⟩=some (.string a0_1):=zc_ BK131.out 1
         have hcz28_2:wc.cell? ⟨gb131,2,none⟩=some (.int .i64 a0_2):=zc_ BK131.out 2
         have hcz28_3:wc.cell? ⟨gb131,3,none⟩=some (.slice A0_3 l0_3.length c0_3):=zc_ BK131.out 3
         have hcz28_4:wc.cell? ⟨gb131,4,none⟩=some (.int .i64 a0_4):=zc_ BK131.out 4
         have hfz28_0:=blk_frozen BK131.out 0
         have hfz28_1:=blk_frozen BK131.out 1
         have hfz28_2:=blk_frozen BK131.out 2
         have hfz28_3:=blk_frozen BK131.out 3
         have hfz28_4:=blk_frozen BK131.out 4
         go_wp2_with (first|((with_reducible refine gate_callee (f:=33) rfl ?_);refine goesL_ (some 33) rfl rfl Tryd.func33 (by kernel_rfl) rfl #[.slice A0_3 l0_3.length c0_3,.int .i64 0] rfl ar_ ?_;(with_reducible refine (ih33 kj18 (by have:=HJ18.out;omega) _ _ l0_3 0 t134 _ ?side1 ?side2 ?side3 A26.out).mono ?_);(case side1=>exact hT.later (bl_ HB.out));(case side2=>exact kc_ HR0_3.out HB.out);(case side3=>exact HC0_3.out);rintro e w29 ⟨rfl,hb⟩;refine ⟨_,rfl,?_⟩;have n0_:=Aside0.mk (bb_ BK131.out hb);have n1_:=Aside0.mk (below_step (bl_ HB.out) hb);clear BK131;clear HB;have BK131:=n0_;have HB:=n1_;clear n0_ n1_;(try clear hb);(try clear hb2);(try clear hk);(try clear hi)))
         go_ret
         exact ⟨rt_,bl_ HB.out⟩
        ·rw [if_neg c27] at H
         exact absurd H (by simp)
       ·rw [if_neg c25] at H
        have c25b0:(a0_0.toList == ([110,101,103]:List UInt8))=false:=beq_eq_false_iff_ne.mpr c25
        have c25b1:(a0_0.toList != ([110,101,103]:List UInt8))=true:=bne_iff_ne.mpr c25
        by_cases c30:a0_0.toList=([110,111,116]:List UInt8)
        ·rw [if_pos c30] at H
         have c30b0:(a0_0.toList == ([110,111,116]:List UInt8))=true:=beq_iff_eq.mpr c30
         have c30b1:(a0_0.toList != ([110,111,116]:List UInt8))=false:=bne_eq_false_iff_eq.mpr c30
         clear c30
         replace H:=Option.bind_eq_some_iff.mp H
         obtain ⟨t135,A310,H⟩:=H
         replace H:(if 1+t135.size≤9223372036854775807 then (some ((⟨#[33]⟩:ByteArray)++t135)) else (none))=some r:=H
         have A31:=Aside0.mk A310
         clear A310
         by_cases c32:1+t135.size≤9223372036854775807
         ·rw [if_pos c32] at H
          have c32b0:=eq_true c32
          have c32b1:decide (1+t135.size≤9223372036854775807)=true:=decide_eq_true c32
          try have c32b2:(9223372036854775807 < 1+t135.size)=False:=eq_false (Nat.not_lt.2 c32)
          obtain rfl:=Option.some.inj H
          have hcz33_0:wc.cell? ⟨gb131,0,none⟩=some (.string a0_0):=zc_ BK131.out 0
          have hcz33_1:wc.cell? ⟨gb131,1,none⟩=some (.string a0_1):=zc_ BK131.out 1
          have hcz33_2:wc.cell? ⟨gb131,2,none⟩=some (.int .i64 a0_2):=zc_ BK131.out 2
          have hcz33_3:wc.cell? ⟨gb131,3,none⟩=some (.slice A0_3 l0_3.length c0_3):=zc_ BK131.out 3
          have hcz33_4:wc.cell? ⟨gb131,4,none⟩=some (.int .i64 a0_4):=zc_ BK131.out 4
          have hfz33_0:=blk_frozen BK131.out 0
          have hfz33_1:=blk_frozen BK131.out 1
          have hfz33_2:=blk_frozen BK131.out 2
          have hfz33_3:=blk_frozen BK131.out 3
          have hfz33_4:=blk_frozen BK131.out 4
          go_wp2_with (first|((with_reducible refine gate_callee (f:=33) rfl ?_);refine goesL_ (some 39) rfl rfl Tryd.func33 (by kernel_rfl) rfl #[.slice A0_3 l0_3.length c0_3,.int .i64 0] rfl ar_ ?_;(with_reducible refine (ih33 kj18 (by have:=HJ18.out;omega) _ _ l0_3 0 t135 _ ?side1 ?side2 ?side3 A31.out).mono ?_);(case side1=>exact hT.later (bl_ HB.out));(case side2=>exact kc_ HR0_3.out HB.out);(case side3=>exact HC0_3.out);rintro e w34 ⟨rfl,hb⟩;refine ⟨_,rfl,?_⟩;have n0_:=Aside0.mk (bb_ BK131.out hb);have n1_:=Aside0.mk (below_step (bl_ HB.out) hb);clear BK131;clear HB;have BK131:=n0_;have HB:=n1_;clear n0_ n1_;(try clear hb);(try clear hb2);(try clear hk);(try clear hi)))
          go_ret
          exact ⟨rt_,bl_ HB.out⟩
         ·rw [if_neg c32] at H
          exact absurd H (by simp)
        ·rw [if_neg c30] at H
         have c30b0:(a0_0.toList == ([110,111,116]:List UInt8))=false:=beq_eq_false_iff_ne.mpr c30
         have c30b1:(a0_0.toList != ([110,111,116]:List UInt8))=true:=bne_iff_ne.mpr c30
         replace H:=Option.bind_eq_some_iff.mp H
         obtain ⟨t136,A350,H⟩:=H
         replace H:(if t136.size+1≤9223372036854775807 then (if (t136++(⟨#[32]⟩:ByteArray)).size+a0_0.size≤9223372036854775807 then (if ((t136++(⟨#[32]⟩:ByteArray))++a0_0).size+1≤9223372036854775807 then ((tree_closed.f kj18 l0_3 1).bind fun t137=>(if (((t136++(⟨#[32]⟩:ByteArray))++a0_0)++(⟨#[32]⟩:ByteArray)).size+t137.size≤9223372036854775807 then (some ((((t136++(⟨#[32]⟩:ByteArray))++a0_0)++(⟨#[32]⟩:ByteArray))++t137)) else (none))) else (none)) else (none)) else (none))=some r:=H
         have A35:=Aside0.mk A350
         clear A350
         by_cases c36:t136.size+1≤9223372036854775807
         ·rw [if_pos c36] at H
          have c36b0:=eq_true c36
          have c36b1:decide (t136.size+1≤9223372036854775807)=true:=decide_eq_true c36
          try have c36b2:(9223372036854775807 < t136.size+1)=False:=eq_false (Nat.not_lt.2 c36)
          by_cases c37:(t136++(⟨#[32]⟩:ByteArray)).size+a0_0.size≤9223372036854775807
          ·rw [if_pos c37] at H
           have c37b0:=eq_true c37
           have c37b1:decide ((t136++(⟨#[32]⟩:ByteArray)).size+a0_0.size≤9223372036854775807)=true:=decide_eq_true c37
           try have c37b2:(9223372036854775807 < (t136++(⟨#[32]⟩:ByteArray)).size+a0_0.size)=False:=eq_false (Nat.not_lt.2 c37)
           try have c37b3:(9223372036854775807 < t136.size+1+a0_0.size)=False:=by have h_:=c37b2;simp only [ByteArray.size_append] at h_;exact h_
           try have c37b4:(t136.size+1+a0_0.size≤9223372036854775807)=True:=by have h_:=c37b0;simp only [ByteArray.size_append] at h_;exact h_
           by_cases c38:((t136++(⟨#[32]⟩:ByteArray))++a0_0).size+1≤9223372036854775807
           ·rw [if_pos c38] at H
            have c38b0:=eq_true c38
            have c38b1:decide (((t136++(⟨#[32]⟩:ByteArray))++a0_0).size+1≤9223372036854775807)=true:=decide_eq_true c38
            try have c38b2:(9223372036854775807 < ((t136++(⟨#[32]⟩:ByteArray))++a0_0).size+1)=False:=eq_false (Nat.not_lt.2 c38)
            try have c38b3:(9223372036854775807 < t136.size+1+a0_0.size+1)=False:=by have h_:=c38b2;simp only [ByteArray.size_append] at h_;exact h_
            try have c38b4:(t136.size+1+a0_0.size+1≤9223372036854775807)=True:=by have h_:=c38b0;simp only [ByteArray.size_append] at h_;exact h_
            replace H:=Option.bind_eq_some_iff.mp H
            obtain ⟨t137,A390,H⟩:=H
            replace H:(if (((t136++(⟨#[32]⟩:ByteArray))++a0_0)++(⟨#[32]⟩:ByteArray)).size+t137.size≤9223372036854775807 then (some ((((t136++(⟨#[32]⟩:ByteArray))++a0_0)++(⟨#[32]⟩:ByteArray))++t137)) else (none))=some r:=H
            have A39:=Aside0.mk A390
            clear A390
            by_cases c40:(((t136++(⟨#[32]⟩:ByteArray))++a0_0)++(⟨#[32]⟩:ByteArray)).size+t137.size≤9223372036854775807
            ·rw [if_pos c40] at H
             have c40b0:=eq_true c40
             have c40b1:decide ((((t136++(⟨#[32]⟩:ByteArray))++a0_0)++(⟨#[32]⟩:ByteArray)).size+t137.size≤9223372036854775807)=true:=decide_eq_true c40
             try have c40b2:(9223372036854775807 < (((t136++(⟨#[32]⟩:ByteArray))++a0_0)++(⟨#[32]⟩:ByteArray)).size+t137.size)=False:=eq_false (Nat.not_lt.2 c40)
             try have c40b3:(9223372036854775807 < t136.size+1+a0_0.size+1+t137.size)=False:=by have h_:=c40b2;simp only [ByteArray.size_append] at h_;exact h_
             try have c40b4:(t136.size+1+a0_0.size+1+t137.size≤9223372036854775807)=True:=by have h_:=c40b0;simp only [ByteArray.size_append] at h_;exact h_
             obtain rfl:=Option.some.inj H
             try go_wp2
             have n0_:=Aside0.mk (blk_drew BK131.out)
             have n1_:=Aside0.mk (below_drew1 HB.out)
             clear BK131
             clear HB
             have BK131:=n0_
             have HB:=n1_
             clear n0_ n1_
             refine start_ (n:=13) (S:=fun w'=>w'.cell? ⟨gb131,0,none⟩=some (.string a0_0)∧w'.cell? ⟨gb131,1,none⟩=some (.string a0_1)∧w'.cell? ⟨gb131,2,none⟩=some (.int .i64 a0_2)∧w'.cell? ⟨gb131,3,none⟩=some (.slice A0_3 l0_3.length c0_3)∧w'.cell? ⟨gb131,4,none⟩=some (.int .i64 a0_4)) (ds:=[]) (flg 13 0) (by kernel_rfl) rfl (by kernel_rfl) ⟨zc_ BK131.out 0,zc_ BK131.out 1,zc_ BK131.out 2,zc_ BK131.out 3,zc_ BK131.out 4⟩ (fun hHeld=>?_);refine with_tabW tree_Text.tab15 tree_Text.bits15 (fun HT_ HW_=>?_)
             generalize wc.drew=w41 at BK131 HB hHeld ⊢
             refine pur_ 0 41 (flg 13 1) rfl rfl (any_of HT_.out (by kernel_rfl)) (fun _ _ _ h=>h) ?_
             refine pur_ 4 45 (flg 13 17) rfl rfl (any_of HT_.out (by kernel_rfl)) (fun _ _ _ h=>h) ?_
             refine pur_ 8 49 (flg 13 273) rfl rfl (any_of HT_.out (by kernel_rfl)) (fun _ _ _ h=>h) ?_
             refine tak_ 1 42 (flg 13 275) rfl rfl (take_ofW HT_.out HW_.out (by kernel_rfl)) (fun _ _ _ h=>h) hHeld ?_
             refine tak_ 5 46 (flg 13 307) rfl rfl (take_ofW HT_.out HW_.out (by kernel_rfl)) (fun _ _ _ h=>h) hHeld ?_
             refine tak_ 9 50 (flg 13 819) rfl rfl (take_ofW HT_.out HW_.out (by kernel_rfl)) (fun _ _ _ h=>h) hHeld ?_
             refine one_ (i:=2) (N:=some 43) (flg 13 823) rfl rfl (one_of HT_.out (by kernel_rfl)) (by decide) (fun K hK=>?_)
             refine goes_ Tryd.func33 (by kernel_rfl) rfl #[.slice A0_3 l0_3.length c0_3,.int .i64 0] (by rfl) rfl rfl ar_ ?_
             with_reducible refine (ih33 kj18 (by have:=HJ18.out;omega) _ _ l0_3 0 t136 _ ?side1 ?side2 ?side3 A35.out).mono ?_
             (case side1=>exact hT.later (bl_ HB.out))
             (case side2=>exact kc_ HR0_3.out HB.out)
             (case side3=>exact HC0_3.out)
             rintro e w42 ⟨rfl,hb⟩
             refine ⟨_,rfl,?_⟩
             have n0_:=Aside0.mk (bb_ BK131.out hb)
             have n1_:=Aside0.mk (below_step (bl_ HB.out) hb)
             clear BK131
             clear HB
             have BK131:=n0_
             have HB:=n1_
             clear n0_ n1_
             (try clear hb)
             (try clear hb2)
             (try clear hk)
             (try clear hi)
             refine hK.out _ _ ⟨zc_ BK131.out 0,zc_ BK131.out 1,zc_ BK131.out 2,zc_ BK131.out 3,zc_ BK131.out 4⟩ (fun hHeld=>?_)
             clear hK K
             refine norm_ (a':=?_) ?_ ?_
             rotate_left
             ·show Act.put _ (some 43) _=_
              simp only [Act.put,List.setIfInBounds_toArray,List.set_cons_zero,List.set_cons_succ,i64_w,i32_w]
              rfl
             refine pur_ 3 44 (flg 13 831) rfl rfl (any_of HT_.out (by kernel_rfl)) (fun _ _ _ h=>h) ?_
             refine pur_ 6 47 (flg 13 895) rfl rfl (any_of HT_.out (by kernel_rfl)) (fun _ _ _ h=>h) ?_
             refine pur_ 7 48 (flg 13 1023) rfl rfl (any_of HT_.out (by kernel_rfl)) (fun _ _ _ h=>h) ?_
             refine one_ (i:=10) (N:=some 51) (flg 13 2047) rfl rfl (one_of HT_.out (by kernel_rfl)) (by decide) (fun K hK=>?_)
             refine goes_ Tryd.func33 (by kernel_rfl) rfl #[.slice A0_3 l0_3.length c0_3,.int .i64 1] (by rfl) rfl rfl ar_ ?_
             with_reducible refine (ih33 kj18 (by have:=HJ18.out;omega) _ _ l0_3 1 t137 _ ?side1 ?side2 ?side3 A39.out).mono ?_
             (case side1=>exact hT.later (bl_ HB.out))
             (case side2=>exact kc_ HR0_3.out HB.out)
             (case side3=>exact HC0_3.out)
             rintro e w43 ⟨rfl,hb⟩
             refine ⟨_,rfl,?_⟩
             have n0_:=Aside0.mk (bb_ BK131.out hb)
             have n1_:=Aside0.mk (below_step (bl_ HB.out) hb)
             clear BK131
             clear HB
             have BK131:=n0_
             have HB:=n1_
             clear n0_ n1_
             (try clear hb)
             (try clear hb2)
             (try clear hk)
             (try clear hi)
             refine hK.out _ _ ⟨zc_ BK131.out 0,zc_ BK131.out 1,zc_ BK131.out 2,zc_ BK131.out 3,zc_ BK131.out 4⟩ (fun hHeld=>?_)
             clear hK K
             refine norm_ (a':=?_) ?_ ?_
             rotate_left
             ·show Act.put _ (some 51) _=_
              simp only [Act.put,List.setIfInBounds_toArray,List.set_cons_zero,List.set_cons_succ,i64_w,i32_w]
              rfl
             refine pur_ 11 52 (flg 13 4095) rfl rfl (any_of HT_.out (by kernel_rfl)) (fun _ _ _ h=>h) ?_
             refine pur_ 12 2 (flg 13 8191) rfl rfl (any_of HT_.out (by kernel_rfl)) (fun _ _ _ h=>h) ?_
             refine done_ (done_of HT_.out (by kernel_rfl)) ?_
             try go_wp2
             go_ret
             exact ⟨rt_,bl_ HB.out⟩
            ·rw [if_neg c40] at H
             exact absurd H (by simp)
           ·rw [if_neg c38] at H
            exact absurd H (by simp)
          ·rw [if_neg c37] at H
           exact absurd H (by simp)
         ·rw [if_neg c36] at H
          exact absurd H (by simp)
end Go.Proofs.YtnnbbeloifhofaaDoor.P
end
section
namespace Go.Proofs.YtnnbbeloifhofaaDoor.P
open Go.RowKit Go.Proofs.YtnnbbeloifhofaaDoorW.PrintWords Go.Proofs.YtnnbbeloifhofaaDoorW.PrintLast Go.Proofs.YtnnbbeloifhofaaDoorW.PrintMore
attribute [local go_sem] max2_int min2_int max_two min_two max_three min_three max_four min_four
set_option linter.unusedVariables false
set_option linter.unusedSimpArgs false
set_option maxHeartbeats 8000000 in
set_option maxRecDepth 100000 in
theorem tree_part.step (k:Nat) (ih12 : ∀ m_,m_ < k→tree_Text.Stmt m_) (ih32 : ∀ m_,m_ < k→tree_part.Stmt m_) (ih33 : ∀ m_,m_ < k→tree_closed.Stmt m_):tree_part.Stmt k:=by
 intro A0 c0 l0 a1 r w hT hr0 hc0 h
 cases k with
 | zero=>exact absurd h (by simp [tree_part.f])
 | succ k=>
 simp only [tree_part.f] at h
 have hu33:=Tryd.underlying33
 have HR0:=Aside0.mk hr0
 have HC0:=Aside0.mk hc0
 clear hr0 hc0
 have HB:=Aside0.mk (Below.refl w.heap.size w)
 have H:(if a1≥(l0.length:Int) then (some (⟨#[]⟩:ByteArray)) else (if 0≤a1 then (if a1 < (l0.length:Int) then ((tree_Text.f k ((rd_T33 l0 a1).f0) ((rd_T33 l0 a1).f1) ((rd_T33 l0 a1).f2) ((rd_T33 l0 a1).f3) ((rd_T33 l0 a1).f4)).bind fun t139=>(some t139)) else (none)) else (none)))=some r:=h
 clear h
 by_cases c3:a1≥(l0.length:Int)
 ·rw [if_pos c3] at H
  have c3b0:decide ((l0.length:Int)≤a1)=true:=decide_eq_true c3
  clear c3
  obtain rfl:=Option.some.inj H
  go_enter Tryd.func32,Tryd.ntmps32
  go_wp2
  go_ret
  exact ⟨rt_,bl_ HB.out⟩
 ·rw [if_neg c3] at H
  have c3b0:decide ((l0.length:Int)≤a1)=false:=decide_eq_false c3
  clear c3
  by_cases c4:0≤a1
  ·rw [if_pos c4] at H
   have c4b0:decide (0≤a1)=true:=decide_eq_true c4
   clear c4
   by_cases c5:a1 < (l0.length:Int)
   ·rw [if_pos c5] at H
    have c5b0:decide (a1 < (l0.length:Int))=true:=decide_eq_true c5
    clear c5
    replace H:=Option.bind_eq_some_iff.mp H
    obtain ⟨t139,A60,H⟩:=H
    replace H:(some t139)=some r:=H
    have A6:=Aside0.mk A60
    clear A60
    obtain rfl:=Option.some.inj H
    have p138:0≤(a1:Int):=of_decide_eq_true as_
    have q138:a1 < (l0.length:Int):=of_decide_eq_true as_
    obtain ⟨ad138,A138_3,c138_3,e138,hx138_0,hx138_1,hx138_2,hx138_3,hx138_4,hl138_3,hi138_3⟩:=at_T33 HR0.out a1 p138 q138
    cases e138
    have HR138_3:=Aside0.mk hi138_3
    have HC138_3:=Aside0.mk hl138_3
    clear hi138_3 hl138_3
    replace p138:=eq_true p138
    replace q138:=eq_true q138
    go_enter Tryd.func32,Tryd.ntmps32
    go_wp2_with (first|((with_reducible refine gate_callee (f:=12) rfl ?_);refine goesL_ (some 13) rfl rfl Tryd.func12 (by kernel_rfl) rfl #[.agg #[.string ((rd_T33 l0 a1).f0),.string ((rd_T33 l0 a1).f1),.int .i64 ((rd_T33 l0 a1).f2),.slice A138_3 ((rd_T33 l0 a1).f3).length c138_3,.int .i64 ((rd_T33 l0 a1).f4)]] rfl ar_ ?_;(with_reducible refine (ih12 k (by omega) ((rd_T33 l0 a1).f0) ((rd_T33 l0 a1).f1) ((rd_T33 l0 a1).f2) _ _ ((rd_T33 l0 a1).f3) ((rd_T33 l0 a1).f4) t139 _ ?side1 ?side2 ?side3 A6.out).mono ?_);(case side1=>exact hT.later (bl_ HB.out));(case side2=>repeat (first|exact HR138_3.out|(with_reducible refine Kd.C_alloc ?_ _)|(with_reducible refine Kd.C_drewN ?_ _)|(with_reducible refine Kd.C_drew ?_)));(case side3=>exact HC138_3.out);rintro e w7 ⟨rfl,hb⟩;refine ⟨_,rfl,?_⟩;have n0_:=Aside0.mk (below_step (bl_ HB.out) hb);clear HB;have HB:=n0_;clear n0_;(try clear hb);(try clear hb2);(try clear hk);(try clear hi)))
    go_ret
    exact ⟨rt_,bl_ HB.out⟩
   ·rw [if_neg c5] at H
    exact absurd H (by simp)
  ·rw [if_neg c4] at H
   exact absurd H (by simp)
end Go.Proofs.YtnnbbeloifhofaaDoor.P
end
