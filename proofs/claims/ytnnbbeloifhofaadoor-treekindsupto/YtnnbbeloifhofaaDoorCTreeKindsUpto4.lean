/- TreeKinds: for all programs (what is read of bulk at most 1048576), those of which enums, variables, or procedures are others are not the same; all else is. The second form: no other condition. -/
import Derived.Test.YtnnbbeloifhofaaDoorCTreeKindsUpto0
import Derived.Test.YtnnbbeloifhofaaDoorCTreeKindsUpto3
import Derived.Test.YtnnbbeloifhofaaDoorCTreeKindsUpto2
import Derived.Test.YtnnbbeloifhofaaDoorCTreeKindsUpto1
import Derived.Test.YtnnbbeloifhofaaDoorCards
import Derived.Test.YtnnbbeloifhofaaDoorTie
import Derived.WalkKit
import Derived.ProofKit
import Derived.OpenShut
import Derived.ShutString
import Derived.ChangeOld
import Derived.Below
import Derived.SizedLaws
section
namespace Go.Proofs.YtnnbbeloifhofaaDoor.P
open Go.RowKit Go.Proofs.YtnnbbeloifhofaaDoorW.PrintWords Go.Proofs.YtnnbbeloifhofaaDoorW.PrintLast Go.Proofs.YtnnbbeloifhofaaDoorW.PrintMore
attribute [local go_sem] max2_int min2_int max_two min_two max_three min_three max_four min_four
set_option linter.unusedVariables false
set_option linter.unusedSimpArgs false
def helmsmanref12_Sized.l0:Nat→Int→Int→List (S72)→List (S56)→List (S69)→List (S29)→Option (Int)
 | 0,_,_,_,_,_,_=>none
 | k+1,x3,x4,x177000,x177001,x177002,x177003=>if x4 < (x177002.length:Int) then (if 0≤x4 then ((helmsmanref12_Size.f k ((rd_T69 x177002 x4).f1)).bind fun t179=>(helmsmanref12_Sized.l0 k (wrap64 (x3+t179)) (wrap64 (x4+1)) x177000 x177001 x177002 x177003)) else (none)) else (some x3)
def helmsmanref12_Sized.f (k:Nat) (l0_0:List (S72)) (l0_1:List (S56)) (l0_2:List (S69)) (l0_3:List (S29)):Option (Int):=(helmsmanref12_Size.f k l0_3).bind fun t177=>(helmsmanref12_Sized.l0 k t177 0 l0_0 l0_1 l0_2 l0_3)
set_option maxHeartbeats 8000000 in
set_option maxRecDepth 100000 in
theorem helmsmanref12_Sized.calls (k:Nat) (A0_0:Option Addr) (c0_0:Nat) (l0_0:List (S72)) (A0_1:Option Addr) (c0_1:Nat) (l0_1:List (S56)) (A0_2:Option Addr) (c0_2:Nat) (l0_2:List (S69)) (A0_3:Option Addr) (c0_3:Nat) (l0_3:List (S29)) (r:Int) (w:World) (hr0_0:Kd.C k72 w A0_0 l0_0.length l0_0) (hc0_0:l0_0.length≤c0_0) (hr0_1:Kd.C k56 w A0_1 l0_1.length l0_1) (hc0_1:l0_1.length≤c0_1) (hr0_2:Kd.C k69 w A0_2 l0_2.length l0_2) (hc0_2:l0_2.length≤c0_2) (hr0_3:Kd.C k29 w A0_3 l0_3.length l0_3) (hc0_3:l0_3.length≤c0_3) (h:helmsmanref12_Sized.f k l0_0 l0_1 l0_2 l0_3=some r) :
  Calls Tryd.prog 16 #[.agg #[.slice A0_0 l0_0.length c0_0,.slice A0_1 l0_1.length c0_1,.slice A0_2 l0_2.length c0_2,.slice A0_3 l0_3.length c0_3]] w fun e w'=>e=.returned (.int .i64 r)∧Below w.heap.size w w':=by
 have hu43:=Tryd.underlying43
 have HR0_0:=Aside0.mk hr0_0
 have HC0_0:=Aside0.mk hc0_0
 clear hr0_0 hc0_0
 have HR0_1:=Aside0.mk hr0_1
 have HC0_1:=Aside0.mk hc0_1
 clear hr0_1 hc0_1
 have HR0_2:=Aside0.mk hr0_2
 have HC0_2:=Aside0.mk hc0_2
 clear hr0_2 hc0_2
 have HR0_3:=Aside0.mk hr0_3
 have HC0_3:=Aside0.mk hc0_3
 clear hr0_3 hc0_3
 have HB:=Aside0.mk (Below.refl w.heap.size w)
 have H:((helmsmanref12_Size.f k l0_3).bind fun t177=>(helmsmanref12_Sized.l0 k t177 0 l0_0 l0_1 l0_2 l0_3))=some r:=h
 clear h
 replace H:=Option.bind_eq_some_iff.mp H
 obtain ⟨t177,A20,H⟩:=H
 replace H:(helmsmanref12_Sized.l0 k t177 0 l0_0 l0_1 l0_2 l0_3)=some r:=H
 have A2:=Aside0.mk A20
 clear A20
 have H':=Aside0.mk H
 clear H
 go_enter Tryd.func16,Tryd.ntmps16
 go_wp2_with (first|((with_reducible refine gate_dst (N:=1) rfl ?_);refine box_event ?hg (N:=1) ?hd (cs:=#[.slice A0_0 l0_0.length c0_0,.slice A0_1 l0_1.length c0_1,.slice A0_2 l0_2.length c0_2,.slice A0_3 l0_3.length c0_3]) (t:=43) ?hr ?_;(case hd=>rfl);(case hg=>rfl);(case hr=>first|(go_simp;done)|(go_simp;rfl));intro gb176 hg w3 hbox hb;have n0_:=Aside0.mk (below_step (bl_ HB.out) hb);have n1_:=Aside0.mk (hbox);have n2_:=Aside0.mk ((gs_ hg (bl_ HB.out):w.heap.size≤gb176));have n3_:=Aside0.mk ((gs_ hg (bl_ HB.out):w.heap.size≤gb176));clear HB;have HB:=n0_;have BK176:=n1_;have GW176:=n2_;have GE176:=n3_;clear n0_ n1_ n2_ n3_;clear hb hbox hg;have hcz4_0:w3.cell? ⟨gb176,0,none⟩=some (.slice A0_0 l0_0.length c0_0):=zc_ BK176.out 0;have hcz4_1:w3.cell? ⟨gb176,1,none⟩=some (.slice A0_1 l0_1.length c0_1):=zc_ BK176.out 1;have hcz4_2:w3.cell? ⟨gb176,2,none⟩=some (.slice A0_2 l0_2.length c0_2):=zc_ BK176.out 2;have hcz4_3:w3.cell? ⟨gb176,3,none⟩=some (.slice A0_3 l0_3.length c0_3):=zc_ BK176.out 3;have hfz4_0:=blk_frozen BK176.out 0;have hfz4_1:=blk_frozen BK176.out 1;have hfz4_2:=blk_frozen BK176.out 2;have hfz4_3:=blk_frozen BK176.out 3)|((with_reducible refine gate_callee (f:=9) rfl ?_);refine goesL_ (some 7) rfl rfl Tryd.func9 (by kernel_rfl) rfl #[.slice A0_3 l0_3.length c0_3] rfl ar_ ?_;(with_reducible refine (helmsmanref12_Size.calls k _ _ l0_3 t177 _ ?side1 ?side2 A2.out).mono ?_);(case side1=>exact kc_ HR0_3.out HB.out);(case side2=>exact HC0_3.out);rintro e w5 ⟨rfl,hb⟩;refine ⟨_,rfl,?_⟩;have n0_:=Aside0.mk (bb_ BK176.out hb);have n1_:=Aside0.mk (below_step (bl_ HB.out) hb);clear BK176;clear HB;have BK176:=n0_;have HB:=n1_;clear n0_ n1_;(try clear hb);(try clear hb2);(try clear hk);(try clear hi)))
 (try simp only [Act.put,List.setIfInBounds_toArray,List.set_cons_succ,List.set_cons_zero])
 go_loopg [3,4] k (fun kq v3 v4 w'=>∃ (x3_1:Int) (x4_1:Int),v3=.int .i64 x3_1∧v4=.int .i64 x4_1∧Aside0 (helmsmanref12_Sized.l0 kq x3_1 x4_1 l0_0 l0_1 l0_2 l0_3=some r)∧Aside0 (kq≤k)∧Aside0 (w'.heap[gb176]?=some (.cells #[(.slice A0_0 l0_0.length c0_0),(.slice A0_1 l0_1.length c0_1),(.slice A0_2 l0_2.length c0_2),(.slice A0_3 l0_3.length c0_3)] 43 (0,0)))∧Aside0 (Below w.heap.size w w'))
 case atStart=>exact ⟨(t177),(0),rf_,rf_,H',⟨Nat.le_refl _⟩,⟨kb_ BK176.out⟩,⟨bl_ HB.out⟩⟩
 case round=>
  clear H'
  (try clear c1);(try clear p2);(try clear hcz4_0);(try clear hcz4_1);(try clear hcz4_2);(try clear hcz4_3);(try clear hfz4_0);(try clear hfz4_1);(try clear hfz4_2);(try clear hfz4_3)
  obtain ⟨x3_1,x4_1,rfl,rfl,HA,HK1,BK176,HB⟩:=hrel
  cases gk with
  | zero=>exact absurd HA.out (by simp [helmsmanref12_Sized.l0])
  | succ k1=>
   have H:=HA.out
   clear HA
   simp only [helmsmanref12_Sized.l0] at H
   by_cases c6:x4_1 < (l0_2.length:Int)
   ·rw [if_pos c6] at H
    have c6b0:decide (x4_1 < (l0_2.length:Int))=true:=decide_eq_true c6
    clear c6
    by_cases c7:0≤x4_1
    ·rw [if_pos c7] at H
     have c7b0:decide (0≤x4_1)=true:=decide_eq_true c7
     clear c7
     replace H:=Option.bind_eq_some_iff.mp H
     obtain ⟨t179,A80,H⟩:=H
     replace H:(helmsmanref12_Sized.l0 k1 (wrap64 (x3_1+t179)) (wrap64 (x4_1+1)) l0_0 l0_1 l0_2 l0_3)=some r:=H
     have A8:=Aside0.mk A80
     clear A80
     have H':=Aside0.mk H
     clear H
     have hcz9_0:wr.cell? ⟨gb176,0,none⟩=some (.slice A0_0 l0_0.length c0_0):=zc_ BK176.out 0
     have hcz9_1:wr.cell? ⟨gb176,1,none⟩=some (.slice A0_1 l0_1.length c0_1):=zc_ BK176.out 1
     have hcz9_2:wr.cell? ⟨gb176,2,none⟩=some (.slice A0_2 l0_2.length c0_2):=zc_ BK176.out 2
     have hcz9_3:wr.cell? ⟨gb176,3,none⟩=some (.slice A0_3 l0_3.length c0_3):=zc_ BK176.out 3
     have hfz9_0:=blk_frozen BK176.out 0
     have hfz9_1:=blk_frozen BK176.out 1
     have hfz9_2:=blk_frozen BK176.out 2
     have hfz9_3:=blk_frozen BK176.out 3
     have p178:0≤(x4_1:Int):=of_decide_eq_true as_
     have q178:x4_1 < (l0_2.length:Int):=of_decide_eq_true as_
     obtain ⟨ad178,A178_1,c178_1,e178,hx178_0,hx178_1,hl178_1,hi178_1⟩:=at_T69 HR0_2.out x4_1 p178 q178
     cases e178
     replace hx178_0:=(cb_ HB.out hx178_0:_)
     replace hx178_1:=(cb_ HB.out hx178_1:_)
     have HR178_1:=Aside0.mk hi178_1
     have HC178_1:=Aside0.mk hl178_1
     clear hi178_1 hl178_1
     replace p178:=eq_true p178
     replace q178:=eq_true q178
     go_wp2_with (first|((with_reducible refine gate_callee (f:=9) rfl ?_);refine goesL_ (some 22) rfl rfl Tryd.func9 (by kernel_rfl) rfl #[.slice A178_1 ((rd_T69 l0_2 x4_1).f1).length c178_1] rfl ar_ ?_;(with_reducible refine (helmsmanref12_Size.calls k1 _ _ ((rd_T69 l0_2 x4_1).f1) t179 _ ?side1 ?side2 A8.out).mono ?_);(case side1=>exact kc_ HR178_1.out HB.out);(case side2=>exact HC178_1.out);rintro e w10 ⟨rfl,hb⟩;refine ⟨_,rfl,?_⟩;have n0_:=Aside0.mk (bb_ BK176.out hb);have n1_:=Aside0.mk (below_step (bl_ HB.out) hb);clear BK176;clear HB;have BK176:=n0_;have HB:=n1_;clear n0_ n1_;(try clear hb);(try clear hb2);(try clear hk);(try clear hi)))
     go_roundg k1
     case measure=>have:=HK1.out;omega
     case rel=>exact ⟨(wrap64 (x3_1+t179)),(wrap64 (x4_1+1)),rf_,rf_,H',⟨by have:=HK1.out;omega⟩,⟨kb_ BK176.out⟩,⟨bl_ HB.out⟩⟩
    ·rw [if_neg c7] at H
     exact absurd H (by simp)
   ·rw [if_neg c6] at H
    have c6b0:decide (x4_1 < (l0_2.length:Int))=false:=decide_eq_false c6
    clear c6
    obtain rfl:=Option.some.inj H
    have hcz11_0:wr.cell? ⟨gb176,0,none⟩=some (.slice A0_0 l0_0.length c0_0):=zc_ BK176.out 0
    have hcz11_1:wr.cell? ⟨gb176,1,none⟩=some (.slice A0_1 l0_1.length c0_1):=zc_ BK176.out 1
    have hcz11_2:wr.cell? ⟨gb176,2,none⟩=some (.slice A0_2 l0_2.length c0_2):=zc_ BK176.out 2
    have hcz11_3:wr.cell? ⟨gb176,3,none⟩=some (.slice A0_3 l0_3.length c0_3):=zc_ BK176.out 3
    have hfz11_0:=blk_frozen BK176.out 0
    have hfz11_1:=blk_frozen BK176.out 1
    have hfz11_2:=blk_frozen BK176.out 2
    have hfz11_3:=blk_frozen BK176.out 3
    go_wp2
    go_ret
    exact ⟨rt_,bl_ HB.out⟩
end Go.Proofs.YtnnbbeloifhofaaDoor.P
end
section
namespace Go.Proofs.YtnnbbeloifhofaaDoor.P
open Go.RowKit Go.Proofs.YtnnbbeloifhofaaDoorW.PrintWords Go.Proofs.YtnnbbeloifhofaaDoorW.PrintLast Go.Proofs.YtnnbbeloifhofaaDoorW.PrintMore
attribute [local go_sem] max2_int min2_int max_two min_two max_three min_three max_four min_four
set_option linter.unusedVariables false
set_option linter.unusedSimpArgs false
def tree_Sized.l0:Nat→Int→List (S66)→Int→Int→Option (Int)
 | 0,_,_,_,_=>none
 | k+1,x3,x10,x11,x12=>if x12 < x11 then (if 0≤x12 then (if x12 < (x10.length:Int) then ((tree_stmts.f k ((rd_T66 x10 x12).f1)).bind fun t248=>(tree_Sized.l0 k (wrap64 (x3+t248)) x10 x11 (wrap64 (x12+1)))) else (none)) else (none)) else (some x3)
def tree_Sized.f (k:Nat) (l0_0:List (S79)) (l0_1:List (S80)) (l0_2:List (S66)) (l0_3:List (S76)):Option (Int):=(tree_stmts.f k l0_3).bind fun t245=>(tree_Sized.l0 k t245 l0_2 (l0_2.length:Int) 0)
set_option maxHeartbeats 8000000 in
set_option maxRecDepth 100000 in
theorem tree_Sized.calls (k:Nat) (A0_0:Option Addr) (c0_0:Nat) (l0_0:List (S79)) (A0_1:Option Addr) (c0_1:Nat) (l0_1:List (S80)) (A0_2:Option Addr) (c0_2:Nat) (l0_2:List (S66)) (A0_3:Option Addr) (c0_3:Nat) (l0_3:List (S76)) (r:Int) (w:World) (hr0_0:Kd.C k79 w A0_0 l0_0.length l0_0) (hc0_0:l0_0.length≤c0_0) (hr0_1:Kd.C k80 w A0_1 l0_1.length l0_1) (hc0_1:l0_1.length≤c0_1) (hr0_2:Kd.C k66 w A0_2 l0_2.length l0_2) (hc0_2:l0_2.length≤c0_2) (hr0_3:Kd.C k76 w A0_3 l0_3.length l0_3) (hc0_3:l0_3.length≤c0_3) (h:tree_Sized.f k l0_0 l0_1 l0_2 l0_3=some r) :
  Calls Tryd.prog 20 #[.agg #[.slice A0_0 l0_0.length c0_0,.slice A0_1 l0_1.length c0_1,.slice A0_2 l0_2.length c0_2,.slice A0_3 l0_3.length c0_3]] w fun e w'=>e=.returned (.int .i64 r)∧Below w.heap.size w w':=by
 have hu50:=Tryd.underlying50
 have hu66:=Tryd.underlying66
 have HR0_0:=Aside0.mk hr0_0
 have HC0_0:=Aside0.mk hc0_0
 clear hr0_0 hc0_0
 have HR0_1:=Aside0.mk hr0_1
 have HC0_1:=Aside0.mk hc0_1
 clear hr0_1 hc0_1
 have HR0_2:=Aside0.mk hr0_2
 have HC0_2:=Aside0.mk hc0_2
 clear hr0_2 hc0_2
 have HR0_3:=Aside0.mk hr0_3
 have HC0_3:=Aside0.mk hc0_3
 clear hr0_3 hc0_3
 have HB:=Aside0.mk (Below.refl w.heap.size w)
 have H:((tree_stmts.f k l0_3).bind fun t245=>(tree_Sized.l0 k t245 l0_2 (l0_2.length:Int) 0))=some r:=h
 clear h
 replace H:=Option.bind_eq_some_iff.mp H
 obtain ⟨t245,A20,H⟩:=H
 replace H:(tree_Sized.l0 k t245 l0_2 (l0_2.length:Int) 0)=some r:=H
 have A2:=Aside0.mk A20
 clear A20
 have H':=Aside0.mk H
 clear H
 go_enter Tryd.func20,Tryd.ntmps20
 go_wp2_with (first|((with_reducible refine gate_dst (N:=1) rfl ?_);refine box_event ?hg (N:=1) ?hd (cs:=#[.slice A0_0 l0_0.length c0_0,.slice A0_1 l0_1.length c0_1,.slice A0_2 l0_2.length c0_2,.slice A0_3 l0_3.length c0_3]) (t:=50) ?hr ?_;(case hd=>rfl);(case hg=>rfl);(case hr=>first|(go_simp;done)|(go_simp;rfl));intro gb244 hg w3 hbox hb;have n0_:=Aside0.mk (below_step (bl_ HB.out) hb);have n1_:=Aside0.mk (hbox);have n2_:=Aside0.mk ((gs_ hg (bl_ HB.out):w.heap.size≤gb244));have n3_:=Aside0.mk ((gs_ hg (bl_ HB.out):w.heap.size≤gb244));clear HB;have HB:=n0_;have BK244:=n1_;have GW244:=n2_;have GE244:=n3_;clear n0_ n1_ n2_ n3_;clear hb hbox hg;have hcz4_0:w3.cell? ⟨gb244,0,none⟩=some (.slice A0_0 l0_0.length c0_0):=zc_ BK244.out 0;have hcz4_1:w3.cell? ⟨gb244,1,none⟩=some (.slice A0_1 l0_1.length c0_1):=zc_ BK244.out 1;have hcz4_2:w3.cell? ⟨gb244,2,none⟩=some (.slice A0_2 l0_2.length c0_2):=zc_ BK244.out 2;have hcz4_3:w3.cell? ⟨gb244,3,none⟩=some (.slice A0_3 l0_3.length c0_3):=zc_ BK244.out 3;have hfz4_0:=blk_frozen BK244.out 0;have hfz4_1:=blk_frozen BK244.out 1;have hfz4_2:=blk_frozen BK244.out 2;have hfz4_3:=blk_frozen BK244.out 3)|((with_reducible refine gate_callee (f:=36) rfl ?_);refine goesL_ (some 8) rfl rfl Tryd.func36 (by kernel_rfl) rfl #[.slice A0_3 l0_3.length c0_3] rfl ar_ ?_;(with_reducible refine (tree_stmts.calls k _ _ l0_3 t245 _ ?side1 ?side2 A2.out).mono ?_);(case side1=>exact kc_ HR0_3.out HB.out);(case side2=>exact HC0_3.out);rintro e w5 ⟨rfl,hb⟩;refine ⟨_,rfl,?_⟩;have n0_:=Aside0.mk (bb_ BK244.out hb);have n1_:=Aside0.mk (below_step (bl_ HB.out) hb);clear BK244;clear HB;have BK244:=n0_;have HB:=n1_;clear n0_ n1_;(try clear hb);(try clear hb2);(try clear hk);(try clear hi);have hcz6_0:w5.cell? ⟨gb244,0,none⟩=some (.slice A0_0 l0_0.length c0_0):=zc_ BK244.out 0;have hcz6_1:w5.cell? ⟨gb244,1,none⟩=some (.slice A0_1 l0_1.length c0_1):=zc_ BK244.out 1;have hcz6_2:w5.cell? ⟨gb244,2,none⟩=some (.slice A0_2 l0_2.length c0_2):=zc_ BK244.out 2;have hcz6_3:w5.cell? ⟨gb244,3,none⟩=some (.slice A0_3 l0_3.length c0_3):=zc_ BK244.out 3;have hfz6_0:=blk_frozen BK244.out 0;have hfz6_1:=blk_frozen BK244.out 1;have hfz6_2:=blk_frozen BK244.out 2;have hfz6_3:=blk_frozen BK244.out 3))
 (try simp only [Act.put,List.setIfInBounds_toArray,List.set_cons_succ,List.set_cons_zero])
 go_loopg [3,12] k (fun kq v3 v12 w'=>∃ (x3_1:Int) (x12_1:Int),v3=.int .i64 x3_1∧v12=.int .i64 x12_1∧Aside0 (tree_Sized.l0 kq x3_1 l0_2 (l0_2.length:Int) x12_1=some r)∧Aside0 (kq≤k)∧Aside0 (w'.heap[gb244]?=some (.cells #[(.slice A0_0 l0_0.length c0_0),(.slice A0_1 l0_1.length c0_1),(.slice A0_2 l0_2.length c0_2),(.slice A0_3 l0_3.length c0_3)] 50 (0,0)))∧Aside0 (Below w.heap.size w w'))
 case atStart=>exact ⟨(t245),(0),rf_,rf_,H',⟨Nat.le_refl _⟩,⟨kb_ BK244.out⟩,⟨bl_ HB.out⟩⟩
 case round=>
  clear H'
  (try clear c2);(try clear p2);(try clear c3);(try clear hcz4_0);(try clear hcz4_1);(try clear hcz4_2);(try clear hcz4_3);(try clear hcz6_0);(try clear hcz6_1);(try clear hcz6_2);(try clear hcz6_3);(try clear hfz4_0);(try clear hfz4_1);(try clear hfz4_2);(try clear hfz4_3);(try clear hfz6_0);(try clear hfz6_1);(try clear hfz6_2);(try clear hfz6_3)
  obtain ⟨x3_1,x12_1,rfl,rfl,HA,HK1,BK244,HB⟩:=hrel
  cases gk with
  | zero=>exact absurd HA.out (by simp [tree_Sized.l0])
  | succ k1=>
   have H:=HA.out
   clear HA
   simp only [tree_Sized.l0] at H
   by_cases c7:x12_1 < (l0_2.length:Int)
   ·rw [if_pos c7] at H
    have c7b0:decide (x12_1 < (l0_2.length:Int))=true:=decide_eq_true c7
    clear c7
    by_cases c8:0≤x12_1
    ·rw [if_pos c8] at H
     have c8b0:decide (0≤x12_1)=true:=decide_eq_true c8
     clear c8
     by_cases c9:x12_1 < (l0_2.length:Int)
     ·rw [if_pos c9] at H
      have c9b0:decide (x12_1 < (l0_2.length:Int))=true:=decide_eq_true c9
      clear c9
      replace H:=Option.bind_eq_some_iff.mp H
      obtain ⟨t248,A100,H⟩:=H
      replace H:(tree_Sized.l0 k1 (wrap64 (x3_1+t248)) l0_2 (l0_2.length:Int) (wrap64 (x12_1+1)))=some r:=H
      have A10:=Aside0.mk A100
      clear A100
      have H':=Aside0.mk H
      clear H
      have p246:0≤(x12_1:Int):=of_decide_eq_true as_
      have q246:x12_1 < (l0_2.length:Int):=of_decide_eq_true as_
      obtain ⟨ad246,A246_1,c246_1,e246,hx246_0,hx246_1,hl246_1,hi246_1⟩:=at_T66 HR0_2.out x12_1 p246 q246
      cases e246
      replace hx246_0:=(cb_ HB.out hx246_0:_)
      replace hx246_1:=(cb_ HB.out hx246_1:_)
      have HR246_1:=Aside0.mk hi246_1
      have HC246_1:=Aside0.mk hl246_1
      clear hi246_1 hl246_1
      replace p246:=eq_true p246
      replace q246:=eq_true q246
      go_wp2_with (first|((with_reducible refine gate_dst (N:=5) rfl ?_);refine box_event ?hg (N:=5) ?hd (cs:=#[.string (⟨#[]⟩:ByteArray),.slice none 0 0]) (t:=66) ?hr ?_;(case hd=>rfl);(case hg=>rfl);(case hr=>first|(go_simp;done)|(go_simp;rfl));intro gb247 hg w11 hbox hb;have n0_:=Aside0.mk (bb_ BK244.out hb);have n1_:=Aside0.mk (below_step (bl_ HB.out) hb);have n2_:=Aside0.mk (hbox);have n3_:=Aside0.mk ((gs_ hg (bl_ HB.out):w.heap.size≤gb247));have n4_:=Aside0.mk ((gs_ hg (bl_ HB.out):w.heap.size≤gb247));have n5_:=Aside0.mk ((nl_ hg BK244.out:gb244≠gb247));have n6_:=Aside0.mk ((nr_ hg BK244.out:gb247≠gb244));clear BK244;clear HB;have BK244:=n0_;have HB:=n1_;have BK247:=n2_;have GW247:=n3_;have GE247:=n4_;have NB244_247:=n5_;have NB247_244:=n6_;clear n0_ n1_ n2_ n3_ n4_ n5_ n6_;clear hb hbox hg;have hnb12:=NB247_244.out;have hnc12:=NB244_247.out;have hcz13_0:w11.cell? ⟨gb247,0,none⟩=some (.string (⟨#[]⟩:ByteArray)):=zc_ BK247.out 0;have hcz13_1:w11.cell? ⟨gb247,1,none⟩=some (.slice none 0 0):=zc_ BK247.out 1;have hfz13_0:=blk_frozen BK247.out 0;have hfz13_1:=blk_frozen BK247.out 1)|((with_reducible refine gate_callee (f:=36) rfl ?_);refine goesL_ (some 19) rfl rfl Tryd.func36 (by kernel_rfl) rfl #[.slice A246_1 ((rd_T66 l0_2 x12_1).f1).length c246_1] rfl ar_ ?_;(with_reducible refine (tree_stmts.calls k1 _ _ ((rd_T66 l0_2 x12_1).f1) t248 _ ?side1 ?side2 A10.out).mono ?_);(case side1=>exact Kd.C_below HR246_1.out (bl_ HB.out));(case side2=>exact HC246_1.out);rintro e w14 ⟨rfl,hb⟩;refine ⟨_,rfl,?_⟩;have n0_:=Aside0.mk (blk_below (g:=gb244) (o:=.cells #[.slice A0_0 l0_0.length c0_0,.slice A0_1 l0_1.length c0_1,.slice (some ad246) l0_2.length c0_2,.slice A0_3 l0_3.length c0_3] 50 (0,0)) (kbc_ BK244.out) hb);have n1_:=Aside0.mk (blk_below (g:=gb247) (o:=.cells #[.string ((rd_T66 l0_2 x12_1).f0),.slice A246_1 ((rd_T66 l0_2 x12_1).f1).length c246_1] 66 (0,0)) (kbc_ BK247.out) hb);have n2_:=Aside0.mk (below_step (bl_ HB.out) hb);clear BK244;clear BK247;clear HB;have BK244:=n0_;have BK247:=n1_;have HB:=n2_;clear n0_ n1_ n2_;(try clear hb);(try clear hb2);(try clear hk);(try clear hi)))
      go_roundg k1
      case measure=>have:=HK1.out;omega
      case rel=>exact ⟨(wrap64 (x3_1+t248)),(wrap64 (x12_1+1)),rf_,rf_,H',⟨by have:=HK1.out;omega⟩,⟨kb_ BK244.out⟩,⟨bl_ HB.out⟩⟩
     ·rw [if_neg c9] at H
      exact absurd H (by simp)
    ·rw [if_neg c8] at H
     exact absurd H (by simp)
   ·rw [if_neg c7] at H
    have c7b0:decide (x12_1 < (l0_2.length:Int))=false:=decide_eq_false c7
    clear c7
    obtain rfl:=Option.some.inj H
    go_wp2
    go_ret
    exact ⟨rt_,bl_ HB.out⟩
end Go.Proofs.YtnnbbeloifhofaaDoor.P
end
section
namespace Go.Proofs.YtnnbbeloifhofaaDoor.P
open Go Go.RowKit Go.Proofs
open Go.Proofs.YtnnbbeloifhofaaDoorW.PrintWords Go.Proofs.YtnnbbeloifhofaaDoorW.PrintLast Go.Proofs.YtnnbbeloifhofaaDoorW.PrintMore
set_option linter.unusedVariables false
theorem rdEn (pre:List REn) (x:REn) (xs:List REn):rd_T72 (pre++x :: xs) (pre.length:Int)=x:=getD_mid ..
theorem rdV (pre:List RV) (x:RV) (xs:List RV):rd_T56 (pre++x :: xs) (pre.length:Int)=x:=getD_mid ..
theorem rdP (pre:List RP) (x:RP) (xs:List RP):rd_T69 (pre++x :: xs) (pre.length:Int)=x:=getD_mid ..
section
variable (e:List REn) (v:List RV) (p:List RP) (m:List RS)
theorem Prog_l2 : ∀ (xs pre:List RP) (n:Int) (a:List ES) (b:List VS) (acc:List TP) (d:List TS),(∀ y ∈ xs,bulkSs y.f1 < 1099511627775)→n=((pre++xs).length:Int)→(pre++xs).length < 1099511627776→acc.length=pre.length→
    Ev (fun k=>helmsmanlaw12_Prog.l2 k (pre++xs) n pre.length a b acc d) (a,b,acc++convPs xs,d):=by
  intro xs
  induction xs with
  | nil=>
    intro pre n a b acc d _ hn _ _
    subst hn
    refine Ev.step (fun k=>helmsmanlaw12_Prog.l2.eq_2 _ _ _ _ _ _ _ k) (Ev.no (end_not pre) ?_)
    rw [show convPs []=[] from rfl,List.append_nil];exact Ev.now _
  | cons x xs ih=>
    intro pre n a b acc d h hn hl ha
    subst hn
    refine Ev.step (fun k=>helmsmanlaw12_Prog.l2.eq_2 _ _ _ _ _ _ _ k) (Ev.yes (mid_lt pre x xs) (Ev.yes (by omega) (Ev.yes (mid_lt pre x xs) ?_)))
    rw [rdP]
    refine Ev.bind (Stmts_ev x.f1 (h x (List.mem_cons_self ..))) (Ev.yes (by rw [ha];rw [List.length_append] at hl;omega) ?_)
    rw [next_len pre x xs (by omega)]
    have:=ih (pre++[x]) ((pre++x :: xs).length:Int) a b (acc++[convP x]) d (fun y hy=>h y (List.mem_cons_of_mem _ hy)) (by rw [← snoc]) (by rw [← snoc];exact hl) (by rw [List.length_append,List.length_append,ha];rfl)
    rw [← snoc,List.append_assoc,List.singleton_append] at this
    exact this
theorem Prog_l1 (hp : ∀ y ∈ p,bulkSs y.f1 < 1099511627775) (hl2:p.length < 1099511627776) : ∀ (xs pre:List RV) (n:Int) (a:List ES) (acc:List VS) (d:List TS),n=((pre++xs).length:Int)→(pre++xs).length < 1099511627776→acc.length=pre.length→
    Ev (fun k=>helmsmanlaw12_Prog.l1 k (pre++xs) n pre.length e v p m a acc d) (a,acc++xs.map convV,convPs p,d):=by
  intro xs
  induction xs with
  | nil=>
    intro pre n a acc d hn _ _
    subst hn
    refine Ev.step (fun k=>helmsmanlaw12_Prog.l1.eq_2 _ _ _ _ _ _ _ _ _ _ k) (Ev.no (end_not pre) ?_)
    rw [List.map_nil,List.append_nil]
    exact Prog_l2 p [] _ a acc [] d hp rfl (by rw [List.nil_append];exact hl2) rfl
  | cons x xs ih=>
    intro pre n a acc d hn hl ha
    subst hn
    refine Ev.step (fun k=>helmsmanlaw12_Prog.l1.eq_2 _ _ _ _ _ _ _ _ _ _ k) (Ev.yes (mid_lt pre x xs) (Ev.yes (by omega) (Ev.yes (mid_lt pre x xs) (Ev.yes (by rw [ha];rw [List.length_append] at hl;omega) ?_))))
    rw [rdV,next_len pre x xs (by omega)]
    have:=ih (pre++[x]) ((pre++x :: xs).length:Int) a (acc++[convV x]) d (by rw [← snoc]) (by rw [← snoc];exact hl) (by rw [List.length_append,List.length_append,ha];rfl)
    rw [← snoc,List.append_assoc,List.singleton_append] at this
    exact this
theorem Prog_l0 (hp : ∀ y ∈ p,bulkSs y.f1 < 1099511627775) (hl2:p.length < 1099511627776) (hl1:v.length < 1099511627776) : ∀ (xs pre:List REn) (n:Int) (acc:List ES) (d:List TS),n=((pre++xs).length:Int)→(pre++xs).length < 1099511627776→acc.length=pre.length→
    Ev (fun k=>helmsmanlaw12_Prog.l0 k (pre++xs) n pre.length e v p m acc d) (acc++xs.map convEn,v.map convV,convPs p,d):=by
  intro xs
  induction xs with
  | nil=>
    intro pre n acc d hn _ _
    subst hn
    refine Ev.step (fun k=>helmsmanlaw12_Prog.l0.eq_2 _ _ _ _ _ _ _ _ _ k) (Ev.no (end_not pre) ?_)
    rw [List.map_nil,List.append_nil]
    exact Prog_l1 e v p m hp hl2 v [] _ acc [] d rfl (by rw [List.nil_append];exact hl1) rfl
  | cons x xs ih=>
    intro pre n acc d hn hl ha
    subst hn
    refine Ev.step (fun k=>helmsmanlaw12_Prog.l0.eq_2 _ _ _ _ _ _ _ _ _ k) (Ev.yes (mid_lt pre x xs) (Ev.yes (by omega) (Ev.yes (mid_lt pre x xs) (Ev.yes (by rw [ha];rw [List.length_append] at hl;omega) ?_))))
    rw [rdEn,next_len pre x xs (by omega)]
    have:=ih (pre++[x]) ((pre++x :: xs).length:Int) (acc++[convEn x]) d (by rw [← snoc]) (by rw [← snoc];exact hl) (by rw [List.length_append,List.length_append,ha];rfl)
    rw [← snoc,List.append_assoc,List.singleton_append] at this
    exact this
structure Small:Prop where
  en:e.length < 1099511627776
  va:v.length < 1099511627776
  pr:p.length < 1099511627776
  el : ∀ x ∈ e,x.f1.length < 1099511627776
  bo : ∀ x ∈ p,bulkSs x.f1 < 1099511627775
  ma:bulkSs m < 1099511627775
theorem small_of (hb:bulkP e v p m < 1099511627775):Small e v p m:=by
  unfold bulkP at hb
  have l1:=len_sum bulkEn (fun x=>by unfold bulkEn;omega) e
  have l2:=len_sum bulkV (fun x=>by unfold bulkV;omega) v
  have l3:=len_sum bulkPr (fun x=>by unfold bulkPr;omega) p
  refine ⟨by omega,by omega,by omega,fun x hx=>?_,fun x hx=>?_,by omega⟩
  · have:=mem_sum bulkEn hx
    have e1:bulkEn x=x.f0.size+bulkN x.f1+1:=rfl
    have:=len_bulkN x.f1
    omega
  · have:=mem_sum bulkPr hx
    have e1:bulkPr x=x.f0.size+bulkSs x.f1+1:=rfl
    omega
theorem Prog_ev (h:Small e v p m):Ev (fun k=>helmsmanlaw12_Prog.f k e v p m) (e.map convEn,v.map convV,convPs p,convSs m):=
  Ev.bind (Stmts_ev m h.ma) (Prog_l0 e v p m h.bo h.pr h.va e [] _ [] (convSs m) rfl (by rw [List.nil_append];exact h.en) rfl)
def szP:Nat:=szSs m+(p.map fun x=>szSs x.f1).sum
end
theorem wrap_nat {a b:Nat} (h:a+b < 9223372036854775808):wrap64 ((a:Int)+(b:Int))=((a+b:Nat):Int):=by rw [wrap64_small (by omega) (by omega)];rfl
theorem Sized_l0 (e:List REn) (v:List RV) (m:List RS) : ∀ (xs pre:List RP) (a:Nat),(∀ y ∈ xs,bulkSs y.f1 < 1099511627775)→(pre++xs).length < 1099511627776→a+(xs.map fun x=>szSs x.f1).sum < 4611686018427387904→
    Ev (fun k=>helmsmanref12_Sized.l0 k (a:Int) pre.length e v (pre++xs) m) ((a+(xs.map fun x=>szSs x.f1).sum:Nat):Int):=by
  intro xs
  induction xs with
  | nil=>
    intro pre a _ _ _
    refine Ev.step (fun k=>helmsmanref12_Sized.l0.eq_2 _ _ _ _ _ _ k) (Ev.no (end_not pre) ?_)
    exact Ev.now _
  | cons x xs ih=>
    intro pre a h hl ha
    rw [List.map_cons,List.sum_cons] at ha ⊢
    refine Ev.step (fun k=>helmsmanref12_Sized.l0.eq_2 _ _ _ _ _ _ k) (Ev.yes (mid_lt pre x xs) (Ev.yes (by omega) ?_))
    rw [rdP]
    refine Ev.bind (Size_ev x.f1 (h x (List.mem_cons_self ..))) ?_
    rw [next_len pre x xs (by omega),wrap_nat (by omega)]
    have:=ih (pre++[x]) (a+szSs x.f1) (fun y hy=>h y (List.mem_cons_of_mem _ hy)) (by rw [← snoc];exact hl) (by omega)
    rw [← snoc] at this
    rw [← Nat.add_assoc]
    exact this
theorem sz_sum (p:List RP):(p.map fun x=>szSs x.f1).sum≤(p.map bulkPr).sum:=by
  induction p with
  | nil=>exact Nat.le_refl _
  | cons x xs ih=>rw [List.map_cons,List.sum_cons,List.map_cons,List.sum_cons];have:=szSs_bulk x.f1;unfold bulkPr at ih ⊢;omega
theorem szP_bulk (e:List REn) (v:List RV) (p:List RP) (m:List RS):szP p m≤bulkP e v p m:=by
  unfold szP bulkP
  have:=sz_sum p
  have:=szSs_bulk m
  omega
theorem Sized_ev (e:List REn) (v:List RV) (p:List RP) (m:List RS) (h:Small e v p m) (hb:bulkP e v p m < 1099511627775):Ev (fun k=>helmsmanref12_Sized.f k e v p m) (szP p m:Int):=by
  have hz:=szP_bulk e v p m
  unfold szP at hz ⊢
  exact Ev.bind (Size_ev m h.ma) (Sized_l0 e v m p [] (szSs m) h.bo (by rw [List.nil_append];exact h.pr) (by omega))
theorem strs_ev (xs ys:List ByteArray) (hlim:xs.length < 4611686018427387904):Ev (fun k=>slices_Equal_string_string.f k xs ys) (all2 (fun a b=>decide (a=b)) xs ys):=by
  unfold slices_Equal_string_string.f
  by_cases hl:xs.length=ys.length
  · refine Ev.yes (by omega) ?_
    rw [← Bool.and_true (all2 _ xs ys)]
    refine all_step xs ys ByteArray.empty ByteArray.empty (fun k i=>slices_Equal_string_string.l0 k xs ys (xs.length:Int) i) (fun a b=>decide (a=b)) true hl hlim ?_ ?_
    · intro i hi r hr
      refine Ev.step (fun k=>slices_Equal_string_string.l0.eq_2 _ _ _ _ k) (Ev.yes (by omega) (Ev.yes (by omega) (Ev.yes (by omega) (Ev.yes (by omega) ?_))))
      show Ev _ (decide (xs.getD i ByteArray.empty=ys.getD i ByteArray.empty) && r)
      by_cases h:xs.getD i ByteArray.empty=ys.getD i ByteArray.empty
      · refine Ev.yes (show (xs.getD i ByteArray.empty).toList=(ys.getD i ByteArray.empty).toList from toList_iff.2 h) ?_
        rw [decide_eq_true h,Bool.true_and];exact hr
      · refine Ev.no (show ¬ (xs.getD i ByteArray.empty).toList=(ys.getD i ByteArray.empty).toList from fun e=>h (toList_iff.1 e)) ?_
        rw [decide_eq_false h,Bool.false_and];exact Ev.now _
    · exact Ev.step (fun k=>slices_Equal_string_string.l0.eq_2 _ _ _ _ k) (Ev.no (by omega) (Ev.now _))
  · refine Ev.no (by omega) ?_
    rw [all2_len hl];exact Ev.now _
def sameEn (x y:REn):Bool:=decide (x.f0=y.f0) && all2 (fun a b=>decide (a=b)) x.f1 y.f1
theorem ens_ev (xs ys:List REn) (hlim:xs.length < 4611686018427387904) (hin : ∀ x ∈ xs,x.f1.length < 4611686018427387904):Ev (fun k=>tree_Enum_at_tree_Same_1.f k (xs.map convEn) (ys.map convEn)) (all2 sameEn xs ys):=by
  unfold tree_Enum_at_tree_Same_1.f
  rw [List.length_map,List.length_map]
  by_cases hl:xs.length=ys.length
  · refine Ev.yes (by omega) ?_
    rw [← Bool.and_true (all2 _ xs ys)]
    refine all_step xs ys z72 z72 (fun k i=>tree_Enum_at_tree_Same_1.l0 k (ys.map convEn) (xs.map convEn) (xs.length:Int) i) sameEn true hl hlim ?_ ?_
    · intro i hi r hr
      have hm:=getD_mem' z72 hi
      refine Ev.step (fun k=>tree_Enum_at_tree_Same_1.l0.eq_2 _ _ _ _ k) (Ev.yes (by omega) (Ev.yes (by omega) (Ev.yes (by rw [List.length_map];omega) (Ev.yes (by rw [List.length_map];omega) ?_))))
      rw [show rd_T79 (xs.map convEn) (i:Int)=convEn (xs.getD i z72) from getD_map' convEn xs i _ _ hi,show rd_T79 (ys.map convEn) (i:Int)=convEn (ys.getD i z72) from getD_map' convEn ys i _ _ (by omega)]
      have hq:=hin _ hm
      revert hq
      generalize xs.getD i z72=x
      generalize ys.getD i z72=y
      intro hq
      have:Ev (fun k=>tree_Same_1.f k (convEn x).f0 (convEn x).f1 (convEn y).f0 (convEn y).f1) (sameEn x y):=by
        unfold tree_Same_1.f sameEn
        by_cases h:x.f0=y.f0
        · refine Ev.yes (toList_iff.2 h) ?_
          rw [decide_eq_true h,Bool.true_and]
          exact Ev.bind (strs_ev x.f1 y.f1 hq) (Ev.now _)
        · refine Ev.no (fun e=>h (toList_iff.1 e)) ?_
          rw [decide_eq_false h,Bool.false_and];exact Ev.now _
      refine Ev.bind this ?_
      cases e:sameEn x y with
      | false=>exact Ev.no (by simp) (Ev.now _)
      | true=>exact Ev.yes rfl (by rw [Bool.true_and];exact hr)
    · exact Ev.step (fun k=>tree_Enum_at_tree_Same_1.l0.eq_2 _ _ _ _ k) (Ev.no (by omega) (Ev.now _))
  · refine Ev.no (by omega) ?_
    rw [all2_len hl];exact Ev.now _
def sameV (x y:RV):Bool:=decide (x.f0=y.f0) && (decide (x.f1=y.f1) && decide (x.f2=y.f2))
theorem vars_ev (xs ys:List RV) (hlim:xs.length < 4611686018427387904):Ev (fun k=>tree_Var.f k (xs.map convV) (ys.map convV)) (all2 sameV xs ys):=by
  unfold tree_Var.f
  rw [List.length_map,List.length_map]
  by_cases hl:xs.length=ys.length
  · refine Ev.yes (by omega) ?_
    rw [← Bool.and_true (all2 _ xs ys)]
    refine all_step xs ys z56 z56 (fun k i=>tree_Var.l0 k (xs.map convV) (ys.map convV) (xs.length:Int) i) sameV true hl hlim ?_ ?_
    · intro i hi r hr
      refine Ev.step (fun k=>tree_Var.l0.eq_2 _ _ _ _ k) (Ev.yes (by omega) (Ev.yes (by omega) (Ev.yes (by rw [List.length_map];omega) (Ev.yes (by rw [List.length_map];omega) ?_))))
      rw [show rd_T80 (xs.map convV) (i:Int)=convV (xs.getD i z56) from getD_map' convV xs i _ _ hi,show rd_T80 (ys.map convV) (i:Int)=convV (ys.getD i z56) from getD_map' convV ys i _ _ (by omega)]
      generalize xs.getD i z56=x
      generalize ys.getD i z56=y
      have e:(!((convV x).f0.toList == (convV y).f0.toList) || (!((convV x).f1.toList == (convV y).f1.toList) || !((convV x).f2 == (convV y).f2))) = !(sameV x y):=by
        have a0:((convV x).f0.toList == (convV y).f0.toList)=decide (x.f0=y.f0):=by
          rw [Bool.eq_iff_iff,beq_iff_eq,decide_eq_true_eq];exact toList_iff
        have a1:((convV x).f1.toList == (convV y).f1.toList)=decide (x.f1=y.f1):=by
          rw [Bool.eq_iff_iff,beq_iff_eq,decide_eq_true_eq];exact toList_iff
        have a2:((convV x).f2 == (convV y).f2)=decide (x.f2=y.f2):=by
          rw [Bool.eq_iff_iff,beq_iff_eq,decide_eq_true_eq];exact Iff.rfl
        rw [a0,a1,a2];unfold sameV;simp only [Bool.not_and]
      rw [e]
      cases h:sameV x y with
      | false=>exact Ev.yes rfl (Ev.now _)
      | true=>exact Ev.no (by simp) (by rw [Bool.true_and];exact hr)
    · exact Ev.step (fun k=>tree_Var.l0.eq_2 _ _ _ _ k) (Ev.no (by omega) (Ev.now _))
  · refine Ev.no (by omega) ?_
    rw [all2_len hl];exact Ev.now _
def samePr (x y:RP):Bool:=decide (x.f0=y.f0) && sameSs x.f1 y.f1
theorem procs_ev (xs ys:List RP) (hlim:xs.length < 4611686018427387904) (hin : ∀ x ∈ xs,bulkSs x.f1 < 1099511627775):Ev (fun k=>tree_Proc_at_tree_Same_2.f k (convPs xs) (convPs ys)) (all2 samePr xs ys):=by
  unfold tree_Proc_at_tree_Same_2.f
  rw [convPs_len,convPs_len]
  by_cases hl:xs.length=ys.length
  · refine Ev.yes (by omega) ?_
    rw [← Bool.and_true (all2 _ xs ys)]
    refine all_step xs ys z69 z69 (fun k i=>tree_Proc_at_tree_Same_2.l0 k (convPs ys) (convPs xs) (xs.length:Int) i) samePr true hl hlim ?_ ?_
    · intro i hi r hr
      have hm:=getD_mem' z69 hi
      refine Ev.step (fun k=>tree_Proc_at_tree_Same_2.l0.eq_2 _ _ _ _ k) (Ev.yes (by omega) (Ev.yes (by omega) (Ev.yes (by rw [convPs_len];omega) (Ev.yes (by rw [convPs_len];omega) ?_))))
      rw [show rd_T66 (convPs xs) (i:Int)=convP (xs.getD i z69) from getD_map' convP xs i _ _ hi,show rd_T66 (convPs ys) (i:Int)=convP (ys.getD i z69) from getD_map' convP ys i _ _ (by omega)]
      have hq:=hin _ hm
      revert hq
      generalize xs.getD i z69=x
      generalize ys.getD i z69=y
      intro hq
      have:Ev (fun k=>tree_Same_2.f k (convP x).f0 (convP x).f1 (convP y).f0 (convP y).f1) (samePr x y):=by
        unfold tree_Same_2.f samePr
        by_cases h:x.f0=y.f0
        · refine Ev.yes (toList_iff.2 h) ?_
          rw [decide_eq_true h,Bool.true_and]
          exact Ev.bind (tSameSs_ev x.f1 y.f1 hq) (Ev.now _)
        · refine Ev.no (fun e=>h (toList_iff.1 e)) ?_
          rw [decide_eq_false h,Bool.false_and];exact Ev.now _
      refine Ev.bind this ?_
      cases e:samePr x y with
      | false=>exact Ev.no (by simp) (Ev.now _)
      | true=>exact Ev.yes rfl (by rw [Bool.true_and];exact hr)
    · exact Ev.step (fun k=>tree_Proc_at_tree_Same_2.l0.eq_2 _ _ _ _ k) (Ev.no (by omega) (Ev.now _))
  · refine Ev.no (by omega) ?_
    rw [all2_len hl];exact Ev.now _
def sameP (e:List REn) (v:List RV) (p:List RP) (m:List RS) (e':List REn) (v':List RV) (p':List RP) (m':List RS):Bool:=all2 sameEn e e' && (all2 sameV v v' && (all2 samePr p p' && sameSs m m'))
theorem Same_ev (e:List REn) (v:List RV) (p:List RP) (m:List RS) (h:Small e v p m) (e':List REn) (v':List RV) (p':List RP) (m':List RS) :
    Ev (fun k=>tree_Same.f k (e.map convEn) (v.map convV) (convPs p) (convSs m) (e'.map convEn) (v'.map convV) (convPs p') (convSs m')) (sameP e v p m e' v' p' m'):=by
  have h1:=h.en
  have h2:=h.va
  have h3:=h.pr
  unfold tree_Same.f sameP
  refine Ev.bind (ens_ev e e' (by omega) (fun x hx=>by have:=h.el x hx;omega)) ?_
  cases all2 sameEn e e' with
  | false=>exact Ev.no (by simp) (Ev.now _)
  | true=>
    refine Ev.yes rfl (Ev.bind (vars_ev v v' (by omega)) ?_)
    cases all2 sameV v v' with
    | false=>exact Ev.no (by simp) (Ev.now _)
    | true=>
      refine Ev.yes rfl (Ev.bind (procs_ev p p' (by omega) h.bo) ?_)
      cases all2 samePr p p' with
      | false=>exact Ev.no (by simp) (Ev.now _)
      | true=>exact Ev.yes rfl (Ev.bind (tSameSs_ev m m' h.ma) (by simp only [Bool.true_and];exact Ev.now _))
end Go.Proofs.YtnnbbeloifhofaaDoor.P
end
section
namespace Go.Proofs.YtnnbbeloifhofaaDoor.P
open Go Go.RowKit Go.Proofs
open Go.Proofs.YtnnbbeloifhofaaDoorW.PrintWords Go.Proofs.YtnnbbeloifhofaaDoorW.PrintLast Go.Proofs.YtnnbbeloifhofaaDoorW.PrintMore
set_option linter.unusedVariables false
theorem C_one {α:Type} {d:Kd α} {w:World} {b:Nat} {c:List Value} {t:TypeId} {x:α} (hb:w.heap[b]?=some (.cells c.toArray t (0,0))) (hK:d.K w x c):d.C w (some ⟨b,0,none⟩) [x].length [x]:=by
  refine ⟨rfl,by simp,fun _=>⟨⟨b,0,none⟩,rfl,fun j p hj=>?_⟩⟩
  match j,hj with
  | 0,hj=>
    obtain rfl:x=p:=by simpa using hj
    refine ⟨c,d.K_len hK,hK,fun i u hu=>?_⟩
    rw [Nat.zero_mul,Nat.zero_add,add_plain,blk_cell hb]
    simpa using hu
  | j+1,hj=>simp at hj
theorem C_two {α:Type} {d:Kd α} {w:World} {b:Nat} {c c':List Value} {t:TypeId} {x y:α} (hb:w.heap[b]?=some (.cells (c++c').toArray t (0,0))) (hK:d.K w x c) (hK':d.K w y c'):d.C w (some ⟨b,0,none⟩) [x,y].length [x,y]:=by
  refine ⟨rfl,by simp,fun _=>⟨⟨b,0,none⟩,rfl,fun j p hj=>?_⟩⟩
  match j,hj with
  | 0,hj=>
    obtain rfl:x=p:=by simpa using hj
    refine ⟨c,d.K_len hK,hK,fun i u hu=>?_⟩
    rw [Nat.zero_mul,Nat.zero_add,add_plain,blk_cell hb]
    have hi:i < c.length:=by
      rcases Nat.lt_or_ge i c.length with h|h
      · exact h
      · rw [List.getElem?_eq_none h] at hu;cases hu
    simpa [List.getElem?_append_left hi] using hu
  | 1,hj=>
    obtain rfl:y=p:=by simpa using hj
    refine ⟨c',d.K_len hK',hK',fun i u hu=>?_⟩
    have hl:=d.K_len hK
    rw [Nat.one_mul,add_plain,blk_cell hb,← hl]
    have h2:(c++c')[c.length+i]?=c'[i]?:=by rw [List.getElem?_append_right (by omega)];congr 1;omega
    simpa [h2] using hu
  | j+2,hj=>simp at hj
theorem blk_at {W:World} {n:Nat} (hn:W.heap.size=n) (o:Obj):(W.alloc o).heap[n]?=some o:=hn ▸ blk_new W o
theorem size_at {W:World} {n:Nat} (hn:W.heap.size=n) (o:Obj):(W.alloc o).heap.size=n+1:=by simp [hn]
def aX:TE:=⟨lit [110,97,109,101],lit [120],0,[],0⟩
def aOne:TE:=⟨lit [110,117,109],lit [],1,[],0⟩
def aAt:TE:=⟨lit [97,116],lit [97],0,[aX],0⟩
def aNeg:TE:=⟨lit [110,101,103],lit [],0,[aX],0⟩
def aPlus:TE:=⟨lit [43],lit [],0,[aOne,aAt],0⟩
def aE:TE:=⟨lit [45],lit [],0,[aNeg,aPlus],0⟩
def aS:TS:=⟨lit [115,101,116],lit [120],[aE],[],[],0⟩
def aliveW (w:World):World:=((((((((((w.alloc (.cells #[.string ⟨#[110,97,109,101]⟩,.string ⟨#[120]⟩,.int .i64 0,.slice none 0 0,.int .i64 0] 33 (0,0))).alloc (.cells #[.string ⟨#[110,117,109]⟩,.string ⟨#[]⟩,.int .i64 1,.slice none 0 0,.int .i64 0] 33 (0,0))).alloc (.cells #[.string ⟨#[110,97,109,101]⟩,.string ⟨#[120]⟩,.int .i64 0,.slice none 0 0,.int .i64 0] 33 (0,0))).alloc (.cells #[.string ⟨#[110,97,109,101]⟩,.string ⟨#[120]⟩,.int .i64 0,.slice none 0 0,.int .i64 0] 33 (0,0))).alloc (.cells #[.string ⟨#[110,117,109]⟩,.string ⟨#[]⟩,.int .i64 1,.slice none 0 0,.int .i64 0,.string ⟨#[97,116]⟩,.string ⟨#[97]⟩,.int .i64 0,.slice (some ⟨(w.heap.size+1+1+1),0,none⟩) 1 1,.int .i64 0] 33 (0,0))).alloc (.cells #[.string ⟨#[110,101,103]⟩,.string ⟨#[]⟩,.int .i64 0,.slice (some ⟨(w.heap.size+1+1),0,none⟩) 1 1,.int .i64 0,.string ⟨#[43]⟩,.string ⟨#[]⟩,.int .i64 0,.slice (some ⟨(w.heap.size+1+1+1+1),0,none⟩) 2 2,.int .i64 0] 33 (0,0))).alloc (.cells #[.string ⟨#[45]⟩,.string ⟨#[]⟩,.int .i64 0,.slice (some ⟨(w.heap.size+1+1+1+1+1),0,none⟩) 2 2,.int .i64 0] 33 (0,0))).alloc (.cells #[.string ⟨#[45]⟩,.string ⟨#[]⟩,.int .i64 0,.slice (some ⟨(w.heap.size+1+1+1+1+1),0,none⟩) 2 2,.int .i64 0] 33 (0,0))).alloc (.cells #[.string ⟨#[115,101,116]⟩,.string ⟨#[120]⟩,.slice (some ⟨(w.heap.size+1+1+1+1+1+1+1),0,none⟩) 1 1,.slice none 0 0,.slice none 0 0,.int .i64 0] 76 (0,0))).alloc (.cells #[.slice none 0 0,.slice none 0 0,.slice none 0 0,.slice (some ⟨(w.heap.size+1+1+1+1+1+1+1+1),0,none⟩) 1 1] 50 (0,0)))
structure AliveAt (w W:World):Prop where
  below:Below w.heap.size w W
  B6:W.heap[(w.heap.size+1+1+1+1+1+1)]?=some (.cells #[.string ⟨#[45]⟩,.string ⟨#[]⟩,.int .i64 0,.slice (some ⟨(w.heap.size+1+1+1+1+1),0,none⟩) 2 2,.int .i64 0] 33 (0,0))
  B9:W.heap[(w.heap.size+1+1+1+1+1+1+1+1+1)]?=some (.cells #[.slice none 0 0,.slice none 0 0,.slice none 0 0,.slice (some ⟨(w.heap.size+1+1+1+1+1+1+1+1),0,none⟩) 1 1] 50 (0,0))
  C5:Kd.C k33 W (some ⟨(w.heap.size+1+1+1+1+1),0,none⟩) [aNeg,aPlus].length [aNeg,aPlus]
  C8:Kd.C k76 W (some ⟨(w.heap.size+1+1+1+1+1+1+1+1),0,none⟩) [aS].length [aS]
theorem AliveAt.later {w W W':World} (h:AliveAt w W) (hb:Below W.heap.size W W'):AliveAt w W':=
  ⟨h.below.trans (hb.mono h.below.size),blk_below h.B6 hb,blk_below h.B9 hb,Kd.C_below h.C5 hb,Kd.C_below h.C8 hb⟩
theorem aliveW_at (w:World):AliveAt w (aliveW w):=by
  have hb:Below w.heap.size w (aliveW w):=below_alloc (below_alloc (below_alloc (below_alloc (below_alloc (below_alloc (below_alloc (below_alloc (below_alloc (below_alloc (Below.refl _ _) _) _) _) _) _) _) _) _) _) _
  have B2:(aliveW w).heap[(w.heap.size+1+1)]?=some (.cells #[.string ⟨#[110,97,109,101]⟩,.string ⟨#[120]⟩,.int .i64 0,.slice none 0 0,.int .i64 0] 33 (0,0)):=by unfold aliveW;exact blk_alloc (blk_alloc (blk_alloc (blk_alloc (blk_alloc (blk_alloc (blk_alloc (blk_at (size_at (size_at (rfl) _) _) _) _) _) _) _) _) _) _
  have B3:(aliveW w).heap[(w.heap.size+1+1+1)]?=some (.cells #[.string ⟨#[110,97,109,101]⟩,.string ⟨#[120]⟩,.int .i64 0,.slice none 0 0,.int .i64 0] 33 (0,0)):=by unfold aliveW;exact blk_alloc (blk_alloc (blk_alloc (blk_alloc (blk_alloc (blk_alloc (blk_at (size_at (size_at (size_at (rfl) _) _) _) _) _) _) _) _) _) _
  have B4:(aliveW w).heap[(w.heap.size+1+1+1+1)]?=some (.cells #[.string ⟨#[110,117,109]⟩,.string ⟨#[]⟩,.int .i64 1,.slice none 0 0,.int .i64 0,.string ⟨#[97,116]⟩,.string ⟨#[97]⟩,.int .i64 0,.slice (some ⟨(w.heap.size+1+1+1),0,none⟩) 1 1,.int .i64 0] 33 (0,0)):=by unfold aliveW;exact blk_alloc (blk_alloc (blk_alloc (blk_alloc (blk_alloc (blk_at (size_at (size_at (size_at (size_at (rfl) _) _) _) _) _) _) _) _) _) _
  have B5:(aliveW w).heap[(w.heap.size+1+1+1+1+1)]?=some (.cells #[.string ⟨#[110,101,103]⟩,.string ⟨#[]⟩,.int .i64 0,.slice (some ⟨(w.heap.size+1+1),0,none⟩) 1 1,.int .i64 0,.string ⟨#[43]⟩,.string ⟨#[]⟩,.int .i64 0,.slice (some ⟨(w.heap.size+1+1+1+1),0,none⟩) 2 2,.int .i64 0] 33 (0,0)):=by unfold aliveW;exact blk_alloc (blk_alloc (blk_alloc (blk_alloc (blk_at (size_at (size_at (size_at (size_at (size_at (rfl) _) _) _) _) _) _) _) _) _) _
  have B6:(aliveW w).heap[(w.heap.size+1+1+1+1+1+1)]?=some (.cells #[.string ⟨#[45]⟩,.string ⟨#[]⟩,.int .i64 0,.slice (some ⟨(w.heap.size+1+1+1+1+1),0,none⟩) 2 2,.int .i64 0] 33 (0,0)):=by unfold aliveW;exact blk_alloc (blk_alloc (blk_alloc (blk_at (size_at (size_at (size_at (size_at (size_at (size_at (rfl) _) _) _) _) _) _) _) _) _) _
  have B7:(aliveW w).heap[(w.heap.size+1+1+1+1+1+1+1)]?=some (.cells #[.string ⟨#[45]⟩,.string ⟨#[]⟩,.int .i64 0,.slice (some ⟨(w.heap.size+1+1+1+1+1),0,none⟩) 2 2,.int .i64 0] 33 (0,0)):=by unfold aliveW;exact blk_alloc (blk_alloc (blk_at (size_at (size_at (size_at (size_at (size_at (size_at (size_at (rfl) _) _) _) _) _) _) _) _) _) _
  have B8:(aliveW w).heap[(w.heap.size+1+1+1+1+1+1+1+1)]?=some (.cells #[.string ⟨#[115,101,116]⟩,.string ⟨#[120]⟩,.slice (some ⟨(w.heap.size+1+1+1+1+1+1+1),0,none⟩) 1 1,.slice none 0 0,.slice none 0 0,.int .i64 0] 76 (0,0)):=by unfold aliveW;exact blk_alloc (blk_at (size_at (size_at (size_at (size_at (size_at (size_at (size_at (size_at (rfl) _) _) _) _) _) _) _) _) _) _
  have B9:(aliveW w).heap[(w.heap.size+1+1+1+1+1+1+1+1+1)]?=some (.cells #[.slice none 0 0,.slice none 0 0,.slice none 0 0,.slice (some ⟨(w.heap.size+1+1+1+1+1+1+1+1),0,none⟩) 1 1] 50 (0,0)):=by unfold aliveW;exact blk_at (size_at (size_at (size_at (size_at (size_at (size_at (size_at (size_at (size_at (rfl) _) _) _) _) _) _) _) _) _) _
  generalize aliveW w=W at hb B2 B3 B4 B5 B6 B7 B8 B9 ⊢
  have C0:Kd.C k33 W none ([]:List TE).length []:=Kd.C_nil _ _
  have Z0:Kd.C k76 W none ([]:List TS).length []:=Kd.C_nil _ _
  have kX:=k33_mk W aX (A3:=none) (c3:=0) (Nat.le_refl _) C0
  have k1:=k33_mk W aOne (A3:=none) (c3:=0) (Nat.le_refl _) C0
  have C2:=C_one (c:=[.string ⟨#[110,97,109,101]⟩,.string ⟨#[120]⟩,.int .i64 0,.slice none 0 0,.int .i64 0]) B2 kX
  have C3:=C_one (c:=[.string ⟨#[110,97,109,101]⟩,.string ⟨#[120]⟩,.int .i64 0,.slice none 0 0,.int .i64 0]) B3 kX
  have kAt:=k33_mk W aAt (A3:=some ⟨(w.heap.size+1+1+1),0,none⟩) (c3:=1) (Nat.le_refl _) C3
  have kNeg:=k33_mk W aNeg (A3:=some ⟨(w.heap.size+1+1),0,none⟩) (c3:=1) (Nat.le_refl _) C2
  have C4:=C_two (c:=[.string ⟨#[110,117,109]⟩,.string ⟨#[]⟩,.int .i64 1,.slice none 0 0,.int .i64 0]) (c':=[.string ⟨#[97,116]⟩,.string ⟨#[97]⟩,.int .i64 0,.slice (some ⟨(w.heap.size+1+1+1),0,none⟩) 1 1,.int .i64 0]) B4 k1 kAt
  have kPlus:=k33_mk W aPlus (A3:=some ⟨(w.heap.size+1+1+1+1),0,none⟩) (c3:=2) (Nat.le_refl _) C4
  have C5:=C_two (c:=[.string ⟨#[110,101,103]⟩,.string ⟨#[]⟩,.int .i64 0,.slice (some ⟨(w.heap.size+1+1),0,none⟩) 1 1,.int .i64 0]) (c':=[.string ⟨#[43]⟩,.string ⟨#[]⟩,.int .i64 0,.slice (some ⟨(w.heap.size+1+1+1+1),0,none⟩) 2 2,.int .i64 0]) B5 kNeg kPlus
  have kE:=k33_mk W aE (A3:=some ⟨(w.heap.size+1+1+1+1+1),0,none⟩) (c3:=2) (Nat.le_refl _) C5
  have C7:=C_one (c:=[.string ⟨#[45]⟩,.string ⟨#[]⟩,.int .i64 0,.slice (some ⟨(w.heap.size+1+1+1+1+1),0,none⟩) 2 2,.int .i64 0]) B7 kE
  have kS:=k76_mk W aS (A2:=some ⟨(w.heap.size+1+1+1+1+1+1+1),0,none⟩) (c2:=1) (Nat.le_refl _) C7 (A3:=none) (c3:=0) (Nat.le_refl _) Z0 (A4:=none) (c4:=0) (Nat.le_refl _) Z0
  exact ⟨hb,B6,B9,C5,C_one (c:=[.string ⟨#[115,101,116]⟩,.string ⟨#[120]⟩,.slice (some ⟨(w.heap.size+1+1+1+1+1+1+1),0,none⟩) 1 1,.slice none 0 0,.slice none 0 0,.int .i64 0]) B8 kS⟩
theorem alive_ok:PrintOk [] [] [] (backSs [aS]) where
  hE:=by decide
  hV:=by decide
  hP:=by decide
  hJ:=fun e h=>by cases h
  hI:=fun e h=>by cases h
  hB:=fun e h=>by cases h
  hM:=by simp [backSs,backS,backEs,backE,aS,aE,aNeg,aPlus,aOne,aAt,aX,okSs,okS,okEs,okE,okI]
  hMb:=by decide +kernel
  hlen:=by decide +kernel
theorem alive_print:tree_Print.f [] [] [] [aS]=some (⟨#[109,97,105,110,32,123,10,32,32,120,32,61,32,40,45,120,41,32,45,32,40,49,32,43,32,97,91,120,93,41,59,10,125,10]⟩:ByteArray):=by
  unfold tree_Print.f
  rw [show backPs []=[] from rfl,if_pos ((printOkB_iff ..).2 alive_ok)]
  exact congrArg some (show strOf (printB [] [] [] (backSs [aS]))=_ by kernel_rfl)
set_option maxHeartbeats 4000000 in
set_option maxRecDepth 100000 in
theorem alive_pr (w:World) (hT:TabT w):Calls Tryd.prog 10 #[] w fun e w'=>e=.returned (.bool true)∧Below w.heap.size w w':=by
  go_enter Tryd.func10,Tryd.ntmps10
  go_wp2_with fail
  show Calls _ _ _ (aliveW w) _
  have HA:=Aside0.mk (aliveW_at w)
  generalize aliveW w=w1 at HA ⊢
  refine (tree_Text.calls 40 (lit [45]) (lit []) 0 (some ⟨(w.heap.size+1+1+1+1+1),0,none⟩) 2 [aNeg,aPlus] 0 (⟨#[40,45,120,41,32,45,32,40,49,32,43,32,97,91,120,93,41]⟩:ByteArray) w1 (hT.later HA.out.below) HA.out.C5 (Nat.le_refl _) (by kernel_rfl)).mono ?_
  rintro e_ w2 ⟨rfl,hb⟩
  have HA:=Aside0.mk (HA.out.later hb)
  clear hb
  have y0:w2.cell? ⟨(w.heap.size+1+1+1+1+1+1),0,none⟩=some (.string ⟨#[45]⟩):=(blk_cell HA.out.B6 0).trans rfl
  have y1:w2.cell? ⟨(w.heap.size+1+1+1+1+1+1),1,none⟩=some (.string ⟨#[]⟩):=(blk_cell HA.out.B6 1).trans rfl
  have y2:w2.cell? ⟨(w.heap.size+1+1+1+1+1+1),2,none⟩=some (.int .i64 0):=(blk_cell HA.out.B6 2).trans rfl
  have y3:w2.cell? ⟨(w.heap.size+1+1+1+1+1+1),3,none⟩=some (.slice (some ⟨(w.heap.size+1+1+1+1+1),0,none⟩) 2 2):=(blk_cell HA.out.B6 3).trans rfl
  have y4:w2.cell? ⟨(w.heap.size+1+1+1+1+1+1),4,none⟩=some (.int .i64 0):=(blk_cell HA.out.B6 4).trans rfl
  have x0:w2.cell? ⟨(w.heap.size+1+1+1+1+1+1+1+1+1),0,none⟩=some (.slice none 0 0):=(blk_cell HA.out.B9 0).trans rfl
  have x1:w2.cell? ⟨(w.heap.size+1+1+1+1+1+1+1+1+1),1,none⟩=some (.slice none 0 0):=(blk_cell HA.out.B9 1).trans rfl
  have x2:w2.cell? ⟨(w.heap.size+1+1+1+1+1+1+1+1+1),2,none⟩=some (.slice none 0 0):=(blk_cell HA.out.B9 2).trans rfl
  have x3:w2.cell? ⟨(w.heap.size+1+1+1+1+1+1+1+1+1),3,none⟩=some (.slice (some ⟨(w.heap.size+1+1+1+1+1+1+1+1),0,none⟩) 1 1):=(blk_cell HA.out.B9 3).trans rfl
  go_wp2_with fail
  refine (tree_Deep.calls 40 (lit [45]) (lit []) 0 (some ⟨(w.heap.size+1+1+1+1+1),0,none⟩) 2 [aNeg,aPlus] 0 4 w2 HA.out.C5 (Nat.le_refl _) (by kernel_rfl)).mono ?_
  rintro e_ w3 ⟨rfl,hb⟩
  have HA:=Aside0.mk (HA.out.later hb)
  clear y0 y1 y2 y3 y4 x0 x1 x2 x3
  clear hb
  have y0:w3.cell? ⟨(w.heap.size+1+1+1+1+1+1),0,none⟩=some (.string ⟨#[45]⟩):=(blk_cell HA.out.B6 0).trans rfl
  have y1:w3.cell? ⟨(w.heap.size+1+1+1+1+1+1),1,none⟩=some (.string ⟨#[]⟩):=(blk_cell HA.out.B6 1).trans rfl
  have y2:w3.cell? ⟨(w.heap.size+1+1+1+1+1+1),2,none⟩=some (.int .i64 0):=(blk_cell HA.out.B6 2).trans rfl
  have y3:w3.cell? ⟨(w.heap.size+1+1+1+1+1+1),3,none⟩=some (.slice (some ⟨(w.heap.size+1+1+1+1+1),0,none⟩) 2 2):=(blk_cell HA.out.B6 3).trans rfl
  have y4:w3.cell? ⟨(w.heap.size+1+1+1+1+1+1),4,none⟩=some (.int .i64 0):=(blk_cell HA.out.B6 4).trans rfl
  have x0:w3.cell? ⟨(w.heap.size+1+1+1+1+1+1+1+1+1),0,none⟩=some (.slice none 0 0):=(blk_cell HA.out.B9 0).trans rfl
  have x1:w3.cell? ⟨(w.heap.size+1+1+1+1+1+1+1+1+1),1,none⟩=some (.slice none 0 0):=(blk_cell HA.out.B9 1).trans rfl
  have x2:w3.cell? ⟨(w.heap.size+1+1+1+1+1+1+1+1+1),2,none⟩=some (.slice none 0 0):=(blk_cell HA.out.B9 2).trans rfl
  have x3:w3.cell? ⟨(w.heap.size+1+1+1+1+1+1+1+1+1),3,none⟩=some (.slice (some ⟨(w.heap.size+1+1+1+1+1+1+1+1),0,none⟩) 1 1):=(blk_cell HA.out.B9 3).trans rfl
  go_wp2_with fail
  refine (tree_Depth.calls 40 (some ⟨(w.heap.size+1+1+1+1+1+1+1+1),0,none⟩) 1 [aS] 1 w3 HA.out.C8 (Nat.le_refl _) (by kernel_rfl)).mono ?_
  rintro e_ w4 ⟨rfl,hb⟩
  have HA:=Aside0.mk (HA.out.later hb)
  clear y0 y1 y2 y3 y4 x0 x1 x2 x3
  clear hb
  have y0:w4.cell? ⟨(w.heap.size+1+1+1+1+1+1),0,none⟩=some (.string ⟨#[45]⟩):=(blk_cell HA.out.B6 0).trans rfl
  have y1:w4.cell? ⟨(w.heap.size+1+1+1+1+1+1),1,none⟩=some (.string ⟨#[]⟩):=(blk_cell HA.out.B6 1).trans rfl
  have y2:w4.cell? ⟨(w.heap.size+1+1+1+1+1+1),2,none⟩=some (.int .i64 0):=(blk_cell HA.out.B6 2).trans rfl
  have y3:w4.cell? ⟨(w.heap.size+1+1+1+1+1+1),3,none⟩=some (.slice (some ⟨(w.heap.size+1+1+1+1+1),0,none⟩) 2 2):=(blk_cell HA.out.B6 3).trans rfl
  have y4:w4.cell? ⟨(w.heap.size+1+1+1+1+1+1),4,none⟩=some (.int .i64 0):=(blk_cell HA.out.B6 4).trans rfl
  have x0:w4.cell? ⟨(w.heap.size+1+1+1+1+1+1+1+1+1),0,none⟩=some (.slice none 0 0):=(blk_cell HA.out.B9 0).trans rfl
  have x1:w4.cell? ⟨(w.heap.size+1+1+1+1+1+1+1+1+1),1,none⟩=some (.slice none 0 0):=(blk_cell HA.out.B9 1).trans rfl
  have x2:w4.cell? ⟨(w.heap.size+1+1+1+1+1+1+1+1+1),2,none⟩=some (.slice none 0 0):=(blk_cell HA.out.B9 2).trans rfl
  have x3:w4.cell? ⟨(w.heap.size+1+1+1+1+1+1+1+1+1),3,none⟩=some (.slice (some ⟨(w.heap.size+1+1+1+1+1+1+1+1),0,none⟩) 1 1):=(blk_cell HA.out.B9 3).trans rfl
  go_wp2_with fail
  refine (tree_Sized.calls 40 none 0 ([]:List S79) none 0 ([]:List S80) none 0 ([]:List S66) (some ⟨(w.heap.size+1+1+1+1+1+1+1+1),0,none⟩) 1 [aS] 8 w4 (Kd.C_nil (α:=S79) k79 _) (Nat.le_refl _) (Kd.C_nil (α:=S80) k80 _) (Nat.le_refl _) (Kd.C_nil (α:=S66) k66 _) (Nat.le_refl _) HA.out.C8 (Nat.le_refl _) (by kernel_rfl)).mono ?_
  rintro e_ w5 ⟨rfl,hb⟩
  have HA:=Aside0.mk (HA.out.later hb)
  clear y0 y1 y2 y3 y4 x0 x1 x2 x3
  clear hb
  have y0:w5.cell? ⟨(w.heap.size+1+1+1+1+1+1),0,none⟩=some (.string ⟨#[45]⟩):=(blk_cell HA.out.B6 0).trans rfl
  have y1:w5.cell? ⟨(w.heap.size+1+1+1+1+1+1),1,none⟩=some (.string ⟨#[]⟩):=(blk_cell HA.out.B6 1).trans rfl
  have y2:w5.cell? ⟨(w.heap.size+1+1+1+1+1+1),2,none⟩=some (.int .i64 0):=(blk_cell HA.out.B6 2).trans rfl
  have y3:w5.cell? ⟨(w.heap.size+1+1+1+1+1+1),3,none⟩=some (.slice (some ⟨(w.heap.size+1+1+1+1+1),0,none⟩) 2 2):=(blk_cell HA.out.B6 3).trans rfl
  have y4:w5.cell? ⟨(w.heap.size+1+1+1+1+1+1),4,none⟩=some (.int .i64 0):=(blk_cell HA.out.B6 4).trans rfl
  have x0:w5.cell? ⟨(w.heap.size+1+1+1+1+1+1+1+1+1),0,none⟩=some (.slice none 0 0):=(blk_cell HA.out.B9 0).trans rfl
  have x1:w5.cell? ⟨(w.heap.size+1+1+1+1+1+1+1+1+1),1,none⟩=some (.slice none 0 0):=(blk_cell HA.out.B9 1).trans rfl
  have x2:w5.cell? ⟨(w.heap.size+1+1+1+1+1+1+1+1+1),2,none⟩=some (.slice none 0 0):=(blk_cell HA.out.B9 2).trans rfl
  have x3:w5.cell? ⟨(w.heap.size+1+1+1+1+1+1+1+1+1),3,none⟩=some (.slice (some ⟨(w.heap.size+1+1+1+1+1+1+1+1),0,none⟩) 1 1):=(blk_cell HA.out.B9 3).trans rfl
  go_wp2_with fail
  refine (tree_Same.calls 40 none 0 ([]:List S79) none 0 ([]:List S80) none 0 ([]:List S66) (some ⟨(w.heap.size+1+1+1+1+1+1+1+1),0,none⟩) 1 [aS] none 0 ([]:List S79) none 0 ([]:List S80) none 0 ([]:List S66) (some ⟨(w.heap.size+1+1+1+1+1+1+1+1),0,none⟩) 1 [aS] true w5 (Kd.C_nil (α:=S79) k79 _) (Nat.le_refl _) (Kd.C_nil (α:=S80) k80 _) (Nat.le_refl _) (Kd.C_nil (α:=S66) k66 _) (Nat.le_refl _) HA.out.C8 (Nat.le_refl _) (Kd.C_nil (α:=S79) k79 _) (Nat.le_refl _) (Kd.C_nil (α:=S80) k80 _) (Nat.le_refl _) (Kd.C_nil (α:=S66) k66 _) (Nat.le_refl _) HA.out.C8 (Nat.le_refl _) (by kernel_rfl)).mono ?_
  rintro e_ w6 ⟨rfl,hb⟩
  have HA:=Aside0.mk (HA.out.later hb)
  clear y0 y1 y2 y3 y4 x0 x1 x2 x3
  clear hb
  have y0:w6.cell? ⟨(w.heap.size+1+1+1+1+1+1),0,none⟩=some (.string ⟨#[45]⟩):=(blk_cell HA.out.B6 0).trans rfl
  have y1:w6.cell? ⟨(w.heap.size+1+1+1+1+1+1),1,none⟩=some (.string ⟨#[]⟩):=(blk_cell HA.out.B6 1).trans rfl
  have y2:w6.cell? ⟨(w.heap.size+1+1+1+1+1+1),2,none⟩=some (.int .i64 0):=(blk_cell HA.out.B6 2).trans rfl
  have y3:w6.cell? ⟨(w.heap.size+1+1+1+1+1+1),3,none⟩=some (.slice (some ⟨(w.heap.size+1+1+1+1+1),0,none⟩) 2 2):=(blk_cell HA.out.B6 3).trans rfl
  have y4:w6.cell? ⟨(w.heap.size+1+1+1+1+1+1),4,none⟩=some (.int .i64 0):=(blk_cell HA.out.B6 4).trans rfl
  have x0:w6.cell? ⟨(w.heap.size+1+1+1+1+1+1+1+1+1),0,none⟩=some (.slice none 0 0):=(blk_cell HA.out.B9 0).trans rfl
  have x1:w6.cell? ⟨(w.heap.size+1+1+1+1+1+1+1+1+1),1,none⟩=some (.slice none 0 0):=(blk_cell HA.out.B9 1).trans rfl
  have x2:w6.cell? ⟨(w.heap.size+1+1+1+1+1+1+1+1+1),2,none⟩=some (.slice none 0 0):=(blk_cell HA.out.B9 2).trans rfl
  have x3:w6.cell? ⟨(w.heap.size+1+1+1+1+1+1+1+1+1),3,none⟩=some (.slice (some ⟨(w.heap.size+1+1+1+1+1+1+1+1),0,none⟩) 1 1):=(blk_cell HA.out.B9 3).trans rfl
  go_wp2_with fail
  refine (tree_SameExpr.calls 40 (lit [45]) (lit []) 0 (some ⟨(w.heap.size+1+1+1+1+1),0,none⟩) 2 [aNeg,aPlus] 0 (lit [45]) (lit []) 0 (some ⟨(w.heap.size+1+1+1+1+1),0,none⟩) 2 [aNeg,aPlus] 0 true w6 HA.out.C5 (Nat.le_refl _) HA.out.C5 (Nat.le_refl _) (by kernel_rfl)).mono ?_
  rintro e_ w7 ⟨rfl,hb⟩
  have HA:=Aside0.mk (HA.out.later hb)
  clear y0 y1 y2 y3 y4 x0 x1 x2 x3
  clear hb
  have y0:w7.cell? ⟨(w.heap.size+1+1+1+1+1+1),0,none⟩=some (.string ⟨#[45]⟩):=(blk_cell HA.out.B6 0).trans rfl
  have y1:w7.cell? ⟨(w.heap.size+1+1+1+1+1+1),1,none⟩=some (.string ⟨#[]⟩):=(blk_cell HA.out.B6 1).trans rfl
  have y2:w7.cell? ⟨(w.heap.size+1+1+1+1+1+1),2,none⟩=some (.int .i64 0):=(blk_cell HA.out.B6 2).trans rfl
  have y3:w7.cell? ⟨(w.heap.size+1+1+1+1+1+1),3,none⟩=some (.slice (some ⟨(w.heap.size+1+1+1+1+1),0,none⟩) 2 2):=(blk_cell HA.out.B6 3).trans rfl
  have y4:w7.cell? ⟨(w.heap.size+1+1+1+1+1+1),4,none⟩=some (.int .i64 0):=(blk_cell HA.out.B6 4).trans rfl
  have x0:w7.cell? ⟨(w.heap.size+1+1+1+1+1+1+1+1+1),0,none⟩=some (.slice none 0 0):=(blk_cell HA.out.B9 0).trans rfl
  have x1:w7.cell? ⟨(w.heap.size+1+1+1+1+1+1+1+1+1),1,none⟩=some (.slice none 0 0):=(blk_cell HA.out.B9 1).trans rfl
  have x2:w7.cell? ⟨(w.heap.size+1+1+1+1+1+1+1+1+1),2,none⟩=some (.slice none 0 0):=(blk_cell HA.out.B9 2).trans rfl
  have x3:w7.cell? ⟨(w.heap.size+1+1+1+1+1+1+1+1+1),3,none⟩=some (.slice (some ⟨(w.heap.size+1+1+1+1+1+1+1+1),0,none⟩) 1 1):=(blk_cell HA.out.B9 3).trans rfl
  go_wp2_with fail
  refine (tree_Print.calls none 0 ([]:List S79) none 0 ([]:List S80) none 0 ([]:List S66) (some ⟨(w.heap.size+1+1+1+1+1+1+1+1),0,none⟩) 1 [aS] (⟨#[109,97,105,110,32,123,10,32,32,120,32,61,32,40,45,120,41,32,45,32,40,49,32,43,32,97,91,120,93,41,59,10,125,10]⟩:ByteArray) w7 (hT.later HA.out.below) (Kd.C_nil (α:=S79) k79 _) (Nat.le_refl _) (Kd.C_nil (α:=S80) k80 _) (Nat.le_refl _) (Kd.C_nil (α:=S66) k66 _) (Nat.le_refl _) HA.out.C8 (Nat.le_refl _) alive_print).mono ?_
  rintro e_ w8 ⟨rfl,hb⟩
  have HA:=Aside0.mk (HA.out.later hb)
  clear y0 y1 y2 y3 y4 x0 x1 x2 x3
  clear hb
  have y0:w8.cell? ⟨(w.heap.size+1+1+1+1+1+1),0,none⟩=some (.string ⟨#[45]⟩):=(blk_cell HA.out.B6 0).trans rfl
  have y1:w8.cell? ⟨(w.heap.size+1+1+1+1+1+1),1,none⟩=some (.string ⟨#[]⟩):=(blk_cell HA.out.B6 1).trans rfl
  have y2:w8.cell? ⟨(w.heap.size+1+1+1+1+1+1),2,none⟩=some (.int .i64 0):=(blk_cell HA.out.B6 2).trans rfl
  have y3:w8.cell? ⟨(w.heap.size+1+1+1+1+1+1),3,none⟩=some (.slice (some ⟨(w.heap.size+1+1+1+1+1),0,none⟩) 2 2):=(blk_cell HA.out.B6 3).trans rfl
  have y4:w8.cell? ⟨(w.heap.size+1+1+1+1+1+1),4,none⟩=some (.int .i64 0):=(blk_cell HA.out.B6 4).trans rfl
  have x0:w8.cell? ⟨(w.heap.size+1+1+1+1+1+1+1+1+1),0,none⟩=some (.slice none 0 0):=(blk_cell HA.out.B9 0).trans rfl
  have x1:w8.cell? ⟨(w.heap.size+1+1+1+1+1+1+1+1+1),1,none⟩=some (.slice none 0 0):=(blk_cell HA.out.B9 1).trans rfl
  have x2:w8.cell? ⟨(w.heap.size+1+1+1+1+1+1+1+1+1),2,none⟩=some (.slice none 0 0):=(blk_cell HA.out.B9 2).trans rfl
  have x3:w8.cell? ⟨(w.heap.size+1+1+1+1+1+1+1+1+1),3,none⟩=some (.slice (some ⟨(w.heap.size+1+1+1+1+1+1+1+1),0,none⟩) 1 1):=(blk_cell HA.out.B9 3).trans rfl
  go_wp2
  go_ret
  exact ⟨rfl,HA.out.below⟩
def helmsmanlaw12_alive.f:Option Bool:=some true
theorem helmsmanlaw12_alive.calls (r:Bool) (w:World) (hT:TabT w) (h:helmsmanlaw12_alive.f=some r):Calls Tryd.prog 10 #[] w fun e w'=>e=.returned (.bool r)∧Below w.heap.size w w':=by
  obtain rfl:=Option.some.inj h
  exact alive_pr w hT
theorem alive_now {f:Nat→Bool→Option Bool} {r:Bool} (h:Ev (fun k=>f k true) r):Ev (fun k=>helmsmanlaw12_alive.f.bind (f k)) r:=h
end Go.Proofs.YtnnbbeloifhofaaDoor.P
end
section
namespace Go.Proofs.YtnnbbeloifhofaaDoor.P
open Go.RowKit Go.Proofs.YtnnbbeloifhofaaDoorW.PrintWords Go.Proofs.YtnnbbeloifhofaaDoorW.PrintLast Go.Proofs.YtnnbbeloifhofaaDoorW.PrintMore
attribute [local go_sem] max2_int min2_int max_two min_two max_three min_three max_four min_four
set_option linter.unusedVariables false
set_option linter.unusedSimpArgs false
theorem eqA56 (d:Nat) (w:World) (x0 y0:ByteArray) (x1 y1:ByteArray) (x2 y2:Int) :
    (Op.equalIn (d+2) 56 (.agg #[.string x0,.string x1,.int .i64 x2]) (.agg #[.string y0,.string y1,.int .i64 y2])).run Tryd.prog w=.ok (x0.toList == y0.toList && (x1.toList == y1.toList && (x2 == y2))) w:=by
  refine eqA_of Tryd.underlying56 (by kernel_rfl) ?_
  refine eqf_cons (by rfl) (by go_simp;rfl) (by go_simp;rfl) (by go_simp) ?_
  refine eqf_cons (by rfl) (by go_simp;rfl) (by go_simp;rfl) (by go_simp) ?_
  exact eqf_last (by rfl) (by go_simp;rfl) (by go_simp;rfl) (by go_simp)
end Go.Proofs.YtnnbbeloifhofaaDoor.P
end
section
namespace Go.Proofs.YtnnbbeloifhofaaDoor.P
open Go.RowKit Go.Proofs.YtnnbbeloifhofaaDoorW.PrintWords Go.Proofs.YtnnbbeloifhofaaDoorW.PrintLast Go.Proofs.YtnnbbeloifhofaaDoorW.PrintMore
attribute [local go_sem] max2_int min2_int max_two min_two max_three min_three max_four min_four
set_option linter.unusedVariables false
set_option linter.unusedSimpArgs false
attribute [local go_sem high] eqA56
mutual
def helmsmanlaw12_TreeKinds.j0:Nat→Bool→List (S72)→List (S56)→List (S69)→List (S29)→List (S72)→List (S56)→List (S69)→List (S29)→Option (Bool)
 | 0,_,_,_,_,_,_,_,_,_=>none
 | k+1,x17,x482000,x482001,x482002,x482003,x483000,x483001,x483002,x483003=>if x17=true then ((helmsmanlaw12_alive.f).bind fun t485=>(some t485)) else ((helmsmanref12_SameStmts.f k x482003 x483003).bind fun t486=>(if t486=true then (if (x482000.length:Int)=(x483000.length:Int) then (if (x482001.length:Int)=(x483001.length:Int) then (helmsmanlaw12_TreeKinds.j1 k ((x482002.length:Int) == (x483002.length:Int)) x482000 x482001 x482002 x482003 x483000 x483001 x483002 x483003) else (helmsmanlaw12_TreeKinds.j1 k false x482000 x482001 x482002 x482003 x483000 x483001 x483002 x483003)) else (helmsmanlaw12_TreeKinds.j1 k false x482000 x482001 x482002 x482003 x483000 x483001 x483002 x483003)) else (helmsmanlaw12_TreeKinds.j1 k false x482000 x482001 x482002 x482003 x483000 x483001 x483002 x483003)))
def helmsmanlaw12_TreeKinds.j1:Nat→Bool→List (S72)→List (S56)→List (S69)→List (S29)→List (S72)→List (S56)→List (S69)→List (S29)→Option (Bool)
 | 0,_,_,_,_,_,_,_,_,_=>none
 | k+1,x5,x482000,x482001,x482002,x482003,x483000,x483001,x483002,x483003=>helmsmanlaw12_TreeKinds.l0 k x5 0 x482000 x482001 x482002 x482003 x483000 x483001 x483002 x483003
def helmsmanlaw12_TreeKinds.j3:Nat→Bool→List (S72)→List (S56)→List (S69)→List (S29)→List (S72)→List (S56)→List (S69)→List (S29)→Option (Bool)
 | 0,_,_,_,_,_,_,_,_,_=>none
 | k+1,x5,x482000,x482001,x482002,x482003,x483000,x483001,x483002,x483003=>helmsmanlaw12_TreeKinds.l1 k x5 0 x482000 x482001 x482002 x482003 x483000 x483001 x483002 x483003
def helmsmanlaw12_TreeKinds.j5:Nat→Bool→List (S72)→List (S56)→List (S69)→List (S29)→List (S72)→List (S56)→List (S69)→List (S29)→Option (Bool)
 | 0,_,_,_,_,_,_,_,_,_=>none
 | k+1,x5,x482000,x482001,x482002,x482003,x483000,x483001,x483002,x483003=>helmsmanlaw12_TreeKinds.l2 k x5 0 x482000 x482001 x482002 x482003 x483000 x483001 x483002 x483003
def helmsmanlaw12_TreeKinds.l2:Nat→Bool→Int→List (S72)→List (S56)→List (S69)→List (S29)→List (S72)→List (S56)→List (S69)→List (S29)→Option (Bool)
 | 0,_,_,_,_,_,_,_,_,_,_=>none
 | k+1,x5,x8,x482000,x482001,x482002,x482003,x483000,x483001,x483002,x483003=>if x5=true then (helmsmanlaw12_TreeKinds.j7 k x5 x8 (decide (x8 < (x482000.length:Int))) x482000 x482001 x482002 x482003 x483000 x483001 x483002 x483003) else (helmsmanlaw12_TreeKinds.j7 k x5 x8 false x482000 x482001 x482002 x482003 x483000 x483001 x483002 x483003)
def helmsmanlaw12_TreeKinds.j7:Nat→Bool→Int→Bool→List (S72)→List (S56)→List (S69)→List (S29)→List (S72)→List (S56)→List (S69)→List (S29)→Option (Bool)
 | 0,_,_,_,_,_,_,_,_,_,_,_=>none
 | k+1,x5,x8,x117,x482000,x482001,x482002,x482003,x483000,x483001,x483002,x483003=>if x117=true then (if 0≤x8 then (if x8 < (x482000.length:Int) then (if x8 < (x483000.length:Int) then (if ((rd_T72 x482000 x8).f0).toList=((rd_T72 x483000 x8).f0).toList then (helmsmanlaw12_TreeKinds.j8 k ((((rd_T72 x482000 x8).f1).length:Int) == (((rd_T72 x483000 x8).f1).length:Int)) x8 x482000 x482001 x482002 x482003 x483000 x483001 x483002 x483003) else (helmsmanlaw12_TreeKinds.j8 k false x8 x482000 x482001 x482002 x482003 x483000 x483001 x483002 x483003)) else (none)) else (none)) else (none)) else ((helmsmanlaw12_alive.f).bind fun t503=>(if t503=true then ((helmsmanlaw12_Prog.f k x482000 x482001 x482002 x482003).bind fun bt504=>((helmsmanlaw12_Prog.f k x483000 x483001 x483002 x483003).bind fun bt516=>((tree_Same.f k bt504.1 bt504.2.1 bt504.2.2.1 bt504.2.2.2 bt516.1 bt516.2.1 bt516.2.2.1 bt516.2.2.2).bind fun t528=>(some (t528 == x5))))) else (some false)))
def helmsmanlaw12_TreeKinds.j8:Nat→Bool→Int→List (S72)→List (S56)→List (S69)→List (S29)→List (S72)→List (S56)→List (S69)→List (S29)→Option (Bool)
 | 0,_,_,_,_,_,_,_,_,_,_=>none
 | k+1,x5,x8,x482000,x482001,x482002,x482003,x483000,x483001,x483002,x483003=>helmsmanlaw12_TreeKinds.l3 k x5 x8 0 x482000 x482001 x482002 x482003 x483000 x483001 x483002 x483003
def helmsmanlaw12_TreeKinds.l3:Nat→Bool→Int→Int→List (S72)→List (S56)→List (S69)→List (S29)→List (S72)→List (S56)→List (S69)→List (S29)→Option (Bool)
 | 0,_,_,_,_,_,_,_,_,_,_,_=>none
 | k+1,x5,x8,x9,x482000,x482001,x482002,x482003,x483000,x483001,x483002,x483003=>if x5=true then (if 0≤x8 then (if x8 < (x482000.length:Int) then (if x9 < (((rd_T72 x482000 x8).f1).length:Int) then (if 0≤x9 then (if x8 < (x483000.length:Int) then (if x9 < (((rd_T72 x483000 x8).f1).length:Int) then (helmsmanlaw12_TreeKinds.l3 k ((rdOf ByteArray.empty ((rd_T72 x482000 x8).f1) x9).toList == (rdOf ByteArray.empty ((rd_T72 x483000 x8).f1) x9).toList) x8 (wrap64 (x9+1)) x482000 x482001 x482002 x482003 x483000 x483001 x483002 x483003) else (none)) else (none)) else (none)) else (helmsmanlaw12_TreeKinds.l2 k x5 (wrap64 (x8+1)) x482000 x482001 x482002 x482003 x483000 x483001 x483002 x483003)) else (none)) else (none)) else (helmsmanlaw12_TreeKinds.l2 k x5 (wrap64 (x8+1)) x482000 x482001 x482002 x482003 x483000 x483001 x483002 x483003)
def helmsmanlaw12_TreeKinds.l1:Nat→Bool→Int→List (S72)→List (S56)→List (S69)→List (S29)→List (S72)→List (S56)→List (S69)→List (S29)→Option (Bool)
 | 0,_,_,_,_,_,_,_,_,_,_=>none
 | k+1,x5,x7,x482000,x482001,x482002,x482003,x483000,x483001,x483002,x483003=>if x5=true then (if x7 < (x482002.length:Int) then (if 0≤x7 then (if x7 < (x483002.length:Int) then (if ((rd_T69 x482002 x7).f0).toList=((rd_T69 x483002 x7).f0).toList then ((helmsmanref12_SameStmts.f k ((rd_T69 x482002 x7).f1) ((rd_T69 x483002 x7).f1)).bind fun t493=>(helmsmanlaw12_TreeKinds.l1 k t493 (wrap64 (x7+1)) x482000 x482001 x482002 x482003 x483000 x483001 x483002 x483003)) else (helmsmanlaw12_TreeKinds.l1 k false (wrap64 (x7+1)) x482000 x482001 x482002 x482003 x483000 x483001 x483002 x483003)) else (none)) else (none)) else (helmsmanlaw12_TreeKinds.j5 k x5 x482000 x482001 x482002 x482003 x483000 x483001 x483002 x483003)) else (helmsmanlaw12_TreeKinds.j5 k x5 x482000 x482001 x482002 x482003 x483000 x483001 x483002 x483003)
def helmsmanlaw12_TreeKinds.l0:Nat→Bool→Int→List (S72)→List (S56)→List (S69)→List (S29)→List (S72)→List (S56)→List (S69)→List (S29)→Option (Bool)
 | 0,_,_,_,_,_,_,_,_,_,_=>none
 | k+1,x5,x6,x482000,x482001,x482002,x482003,x483000,x483001,x483002,x483003=>if x5=true then (if x6 < (x482001.length:Int) then (if 0≤x6 then (if x6 < (x483001.length:Int) then (helmsmanlaw12_TreeKinds.l0 k ((((rd_T56 x482001 x6).f0).toList) == (((rd_T56 x483001 x6).f0).toList) && ((((rd_T56 x482001 x6).f1).toList) == (((rd_T56 x483001 x6).f1).toList) && (((rd_T56 x482001 x6).f2) == ((rd_T56 x483001 x6).f2)))) (wrap64 (x6+1)) x482000 x482001 x482002 x482003 x483000 x483001 x483002 x483003) else (none)) else (none)) else (helmsmanlaw12_TreeKinds.j3 k x5 x482000 x482001 x482002 x482003 x483000 x483001 x483002 x483003)) else (helmsmanlaw12_TreeKinds.j3 k x5 x482000 x482001 x482002 x482003 x483000 x483001 x483002 x483003)
end
def helmsmanlaw12_TreeKinds.f (k:Nat) (l0_0:List (S72)) (l0_1:List (S56)) (l0_2:List (S69)) (l0_3:List (S29)) (l1_0:List (S72)) (l1_1:List (S56)) (l1_2:List (S69)) (l1_3:List (S29)):Option (Bool):=(helmsmanref12_Sized.f k l0_0 l0_1 l0_2 l0_3).bind fun t483=>(if t483 > 300 then (helmsmanlaw12_TreeKinds.j0 k true l0_0 l0_1 l0_2 l0_3 l1_0 l1_1 l1_2 l1_3) else ((helmsmanref12_Sized.f k l1_0 l1_1 l1_2 l1_3).bind fun t484=>(helmsmanlaw12_TreeKinds.j0 k (decide (t484 > 300)) l0_0 l0_1 l0_2 l0_3 l1_0 l1_1 l1_2 l1_3)))
def helmsmanlaw12_TreeKinds.T7:Bool × List (List Nat × List Nat):=(true,[([],[]),([0],[0]),([],[]),([1,2],[1,2]),([3],[3]),([],[]),([5],[5]),([],[]),([6,7],[6,7]),([8],[8]),([4,9],[4,9]),([10,0,1,2,3,4,5,6,7,8,9,10],[10])])
def helmsmanlaw12_TreeKinds.B7:List Nat:=[0,1,0,7,15,0,32,0,224,480,1023,2047]
theorem helmsmanlaw12_TreeKinds.tab7:rtab .any (opsOf Tryd.f7 7)=helmsmanlaw12_TreeKinds.T7:=by kernel_rfl
theorem helmsmanlaw12_TreeKinds.bits7:waitsOk helmsmanlaw12_TreeKinds.T7.2 helmsmanlaw12_TreeKinds.B7=true:=by kernel_rfl
def helmsmanlaw12_TreeKinds.T11:Bool × List (List Nat × List Nat):=(true,[([],[]),([0],[0]),([],[]),([1,2],[1,2]),([3],[3]),([4],[4]),([],[]),([6],[6]),([],[]),([7,8],[7,8]),([9],[9]),([10],[10]),([5,11],[5,11]),([12],[12]),([13],[13]),([14,13],[13,14]),([13],[13]),([15,16,13],[13,15,16]),([17,13],[13,17]),([18,13],[13,18]),([13],[13]),([20,13],[13,20]),([13],[13]),([21,22,13],[13,21,22]),([23,13],[13,23]),([24,13],[13,24]),([19,25,13,13],[13,19,25]),([13,26],[13,26]),([27,26,0,1,2,3,4,5,6,7,8,9,10,11,12,13,14,15,16,17,18,19,20,21,22,23,24,25,26,27],[27])])
def helmsmanlaw12_TreeKinds.B11:List Nat:=[0,1,0,7,15,31,0,64,0,448,960,1984,4095,8191,16383,32767,16383,131071,262143,524287,16383,1064959,16383,7356415,15745023,32522239,67108863,134217727,268435455]
theorem helmsmanlaw12_TreeKinds.tab11:rtab .any (opsOf Tryd.f7 11)=helmsmanlaw12_TreeKinds.T11:=by kernel_rfl
theorem helmsmanlaw12_TreeKinds.bits11:waitsOk helmsmanlaw12_TreeKinds.T11.2 helmsmanlaw12_TreeKinds.B11=true:=by kernel_rfl
def helmsmanlaw12_TreeKinds.T15:Bool × List (List Nat × List Nat):=(true,[([],[]),([0],[0]),([],[]),([1,2],[1,2]),([3],[3]),([4],[4]),([],[]),([6],[6]),([],[]),([7,8],[7,8]),([9],[9]),([10],[10]),([5,11],[5,11]),([12],[12]),([13],[13]),([14,13],[13,14]),([13],[13]),([15,16,13],[13,15,16]),([17,13],[13,17]),([18,13],[13,18]),([19,13],[13,19]),([13],[13]),([21,13],[13,21]),([13],[13]),([22,23,13],[13,22,23]),([24,13],[13,24]),([25,13],[13,25]),([26,13],[13,26]),([20,27,13],[13,20,27]),([13,28],[13,28]),([29,13,0,1,2,3,4,5,6,7,8,9,10,11,12,13,14,15,16,17,18,19,20,21,22,23,24,25,26,27,28,29],[29])])
def helmsmanlaw12_TreeKinds.B15:List Nat:=[0,1,0,7,15,31,0,64,0,448,960,1984,4095,8191,16383,32767,16383,131071,262143,524287,1048575,16383,2113535,16383,14696447,31473663,65028095,132136959,268435455,536870911,1073741823]
theorem helmsmanlaw12_TreeKinds.tab15:rtab .any (opsOf Tryd.f7 15)=helmsmanlaw12_TreeKinds.T15:=by kernel_rfl
theorem helmsmanlaw12_TreeKinds.bits15:waitsOk helmsmanlaw12_TreeKinds.T15.2 helmsmanlaw12_TreeKinds.B15=true:=by kernel_rfl
def helmsmanlaw12_TreeKinds.T19:Bool × List (List Nat × List Nat):=(true,[([],[]),([0],[0]),([],[]),([1,2],[1,2]),([3],[3]),([4],[4]),([],[]),([5,6],[5,6]),([7],[7]),([],[]),([9],[9]),([],[]),([10,11],[10,11]),([12],[12]),([13],[13]),([],[]),([14,15],[14,15]),([16],[16]),([8,17],[8,17]),([18,0,1,2,3,4,5,6,7,8,9,10,11,12,13,14,15,16,17,18],[18])])
def helmsmanlaw12_TreeKinds.B19:List Nat:=[0,1,0,7,15,31,0,127,255,0,512,0,3584,7680,15872,0,65024,130560,262143,524287]
theorem helmsmanlaw12_TreeKinds.tab19:rtab .any (opsOf Tryd.f7 19)=helmsmanlaw12_TreeKinds.T19:=by kernel_rfl
theorem helmsmanlaw12_TreeKinds.bits19:waitsOk helmsmanlaw12_TreeKinds.T19.2 helmsmanlaw12_TreeKinds.B19=true:=by kernel_rfl
def helmsmanlaw12_TreeKinds.T20:Bool × List (List Nat × List Nat):=(true,[([],[]),([0,0],[0]),([1],[1]),([2,1,1],[1,2]),([1],[1]),([4,3,1],[1,4]),([3,5,5,1],[1,3,5]),([1],[1]),([6,7,1],[1,6,7]),([1,8],[1,8]),([9,6,0,1,2,3,4,5,6,7,8,9],[9])])
def helmsmanlaw12_TreeKinds.B20:List Nat:=[0,1,3,7,3,31,63,3,255,511,1023]
theorem helmsmanlaw12_TreeKinds.tab20:rtab .any (opsOf Tryd.f7 20)=helmsmanlaw12_TreeKinds.T20:=by kernel_rfl
theorem helmsmanlaw12_TreeKinds.bits20:waitsOk helmsmanlaw12_TreeKinds.T20.2 helmsmanlaw12_TreeKinds.B20=true:=by kernel_rfl
set_option maxHeartbeats 8000000 in
set_option maxRecDepth 100000 in
theorem helmsmanlaw12_TreeKinds.calls (k:Nat) (A0_0:Option Addr) (c0_0:Nat) (l0_0:List (S72)) (A0_1:Option Addr) (c0_1:Nat) (l0_1:List (S56)) (A0_2:Option Addr) (c0_2:Nat) (l0_2:List (S69)) (A0_3:Option Addr) (c0_3:Nat) (l0_3:List (S29)) (A1_0:Option Addr) (c1_0:Nat) (l1_0:List (S72)) (A1_1:Option Addr) (c1_1:Nat) (l1_1:List (S56)) (A1_2:Option Addr) (c1_2:Nat) (l1_2:List (S69)) (A1_3:Option Addr) (c1_3:Nat) (l1_3:List (S29)) (r:Bool) (w:World) (hT:TabT w) (hr0_0:Kd.C k72 w A0_0 l0_0.length l0_0) (hc0_0:l0_0.length≤c0_0) (hr0_1:Kd.C k56 w A0_1 l0_1.length l0_1) (hc0_1:l0_1.length≤c0_1) (hr0_2:Kd.C k69 w A0_2 l0_2.length l0_2) (hc0_2:l0_2.length≤c0_2) (hr0_3:Kd.C k29 w A0_3 l0_3.length l0_3) (hc0_3:l0_3.length≤c0_3) (hr1_0:Kd.C k72 w A1_0 l1_0.length l1_0) (hc1_0:l1_0.length≤c1_0) (hr1_1:Kd.C k56 w A1_1 l1_1.length l1_1) (hc1_1:l1_1.length≤c1_1) (hr1_2:Kd.C k69 w A1_2 l1_2.length l1_2) (hc1_2:l1_2.length≤c1_2) (hr1_3:Kd.C k29 w A1_3 l1_3.length l1_3) (hc1_3:l1_3.length≤c1_3) (h:helmsmanlaw12_TreeKinds.f k l0_0 l0_1 l0_2 l0_3 l1_0 l1_1 l1_2 l1_3=some r) :
  Calls Tryd.prog 7 #[.agg #[.slice A0_0 l0_0.length c0_0,.slice A0_1 l0_1.length c0_1,.slice A0_2 l0_2.length c0_2,.slice A0_3 l0_3.length c0_3],.agg #[.slice A1_0 l1_0.length c1_0,.slice A1_1 l1_1.length c1_1,.slice A1_2 l1_2.length c1_2,.slice A1_3 l1_3.length c1_3]] w fun e w'=>e=.returned (.bool r)∧Below w.heap.size w w':=by
 have hu43:=Tryd.underlying43
 have hu56:=Tryd.underlying56
 have HR0_0:=Aside0.mk hr0_0
 have HC0_0:=Aside0.mk hc0_0
 clear hr0_0 hc0_0
 have HR0_1:=Aside0.mk hr0_1
 have HC0_1:=Aside0.mk hc0_1
 clear hr0_1 hc0_1
 have HR0_2:=Aside0.mk hr0_2
 have HC0_2:=Aside0.mk hc0_2
 clear hr0_2 hc0_2
 have HR0_3:=Aside0.mk hr0_3
 have HC0_3:=Aside0.mk hc0_3
 clear hr0_3 hc0_3
 have HR1_0:=Aside0.mk hr1_0
 have HC1_0:=Aside0.mk hc1_0
 clear hr1_0 hc1_0
 have HR1_1:=Aside0.mk hr1_1
 have HC1_1:=Aside0.mk hc1_1
 clear hr1_1 hc1_1
 have HR1_2:=Aside0.mk hr1_2
 have HC1_2:=Aside0.mk hc1_2
 clear hr1_2 hc1_2
 have HR1_3:=Aside0.mk hr1_3
 have HC1_3:=Aside0.mk hc1_3
 clear hr1_3 hc1_3
 have HB:=Aside0.mk (Below.refl w.heap.size w)
 have H:((helmsmanref12_Sized.f k l0_0 l0_1 l0_2 l0_3).bind fun t483=>(if t483 > 300 then (helmsmanlaw12_TreeKinds.j0 k true l0_0 l0_1 l0_2 l0_3 l1_0 l1_1 l1_2 l1_3) else ((helmsmanref12_Sized.f k l1_0 l1_1 l1_2 l1_3).bind fun t484=>(helmsmanlaw12_TreeKinds.j0 k (decide (t484 > 300)) l0_0 l0_1 l0_2 l0_3 l1_0 l1_1 l1_2 l1_3))))=some r:=h
 clear h
 have HC3:=Aside0.mk H
 clear H
 go_enter Tryd.func7,Tryd.ntmps7
 go_upto_region 1 with (first|((with_reducible refine gate_dst (N:=2) rfl ?_);(try (refine gate_guard (by rfl) ?_;dsimp only));refine box_event ?hg (N:=2) ?hd (cs:=#[.slice A0_0 l0_0.length c0_0,.slice A0_1 l0_1.length c0_1,.slice A0_2 l0_2.length c0_2,.slice A0_3 l0_3.length c0_3]) (t:=43) ?hr ?_;(case hd=>rfl);(case hg=>rfl);(case hr=>first|(go_simp;done)|(go_simp;rfl));intro gb481 hg w4 hbox hb;have n0_:=Aside0.mk (below_step (bl_ HB.out) hb);have n1_:=Aside0.mk (hbox);have n2_:=Aside0.mk ((gs_ hg (bl_ HB.out):w.heap.size≤gb481));have n3_:=Aside0.mk ((gs_ hg (bl_ HB.out):w.heap.size≤gb481));clear HB;have HB:=n0_;have BK481:=n1_;have GW481:=n2_;have GE481:=n3_;clear n0_ n1_ n2_ n3_;clear hb hbox hg)|((with_reducible refine gate_dst (N:=3) rfl ?_);(try (refine gate_guard (by rfl) ?_;dsimp only));refine box_event ?hg (N:=3) ?hd (cs:=#[.slice A1_0 l1_0.length c1_0,.slice A1_1 l1_1.length c1_1,.slice A1_2 l1_2.length c1_2,.slice A1_3 l1_3.length c1_3]) (t:=43) ?hr ?_;(case hd=>rfl);(case hg=>rfl);(case hr=>first|(go_simp;done)|(go_simp;rfl));intro gb482 hg w5 hbox hb;have n0_:=Aside0.mk (bb_ BK481.out hb);have n1_:=Aside0.mk (below_step (bl_ HB.out) hb);have n2_:=Aside0.mk (hbox);have n3_:=Aside0.mk ((gs_ hg (bl_ HB.out):w.heap.size≤gb482));have n4_:=Aside0.mk ((gs_ hg (bl_ HB.out):w.heap.size≤gb482));have n5_:=Aside0.mk ((nl_ hg BK481.out:gb481≠gb482));have n6_:=Aside0.mk ((nr_ hg BK481.out:gb482≠gb481));clear BK481;clear HB;have BK481:=n0_;have HB:=n1_;have BK482:=n2_;have GW482:=n3_;have GE482:=n4_;have NB481_482:=n5_;have NB482_481:=n6_;clear n0_ n1_ n2_ n3_ n4_ n5_ n6_;clear hb hbox hg))
 (try simp only [Act.put,List.setIfInBounds_toArray,List.set_cons_zero,List.set_cons_succ])
 go_cut [17] (fun v17 wc=>∃ (kq:Nat) (x17_2:Bool),v17=.bool x17_2∧Aside0 (helmsmanlaw12_TreeKinds.j0 kq x17_2 l0_0 l0_1 l0_2 l0_3 l1_0 l1_1 l1_2 l1_3=some r)∧Aside0 (kq≤k)∧Aside0 (wc.heap[gb481]?=some (.cells #[(.slice A0_0 l0_0.length c0_0),(.slice A0_1 l0_1.length c0_1),(.slice A0_2 l0_2.length c0_2),(.slice A0_3 l0_3.length c0_3)] 43 (0,0)))∧Aside0 (wc.heap[gb482]?=some (.cells #[(.slice A1_0 l1_0.length c1_0),(.slice A1_1 l1_1.length c1_1),(.slice A1_2 l1_2.length c1_2),(.slice A1_3 l1_3.length c1_3)] 43 (0,0)))∧Aside0 (Below w.heap.size w wc))
 case first=>as_aux_lemma=>
  have H:=HC3.out
  clear HC3
  replace H:=Option.bind_eq_some_iff.mp H
  obtain ⟨t483,A60,H⟩:=H
  replace H:(if t483 > 300 then (helmsmanlaw12_TreeKinds.j0 k true l0_0 l0_1 l0_2 l0_3 l1_0 l1_1 l1_2 l1_3) else ((helmsmanref12_Sized.f k l1_0 l1_1 l1_2 l1_3).bind fun t484=>(helmsmanlaw12_TreeKinds.j0 k (decide (t484 > 300)) l0_0 l0_1 l0_2 l0_3 l1_0 l1_1 l1_2 l1_3)))=some r:=H
  have A6:=Aside0.mk A60
  clear A60
  by_cases c7:t483 > 300
  ·rw [if_pos c7] at H
   have c7b0:decide (300 < t483)=true:=decide_eq_true c7
   clear c7
   (first|rw [c7b0]|(simp only [i64_w,i32_w];rw [c7b0])|skip)
   have H':=Aside0.mk H
   clear H
   have hnb8:=NB481_482.out
   have hnc8:=NB482_481.out
   have hcz9_0:w5.cell? ⟨gb481,0,none⟩=some (.slice A0_0 l0_0.length c0_0):=zc_ BK481.out 0
   have hcz9_1:w5.cell? ⟨gb481,1,none⟩=some (.slice A0_1 l0_1.length c0_1):=zc_ BK481.out 1
   have hcz9_2:w5.cell? ⟨gb481,2,none⟩=some (.slice A0_2 l0_2.length c0_2):=zc_ BK481.out 2
   have hcz9_3:w5.cell? ⟨gb481,3,none⟩=some (.slice A0_3 l0_3.length c0_3):=zc_ BK481.out 3
   have hfz9_0:=blk_frozen BK481.out 0
   have hfz9_1:=blk_frozen BK481.out 1
   have hfz9_2:=blk_frozen BK481.out 2
   have hfz9_3:=blk_frozen BK481.out 3
   go_wp2_with (first|((with_reducible refine gate_callee (f:=16) rfl ?_);refine goesL_ (some 11) rfl rfl Tryd.func16 (by kernel_rfl) rfl #[.agg #[.slice A0_0 l0_0.length c0_0,.slice A0_1 l0_1.length c0_1,.slice A0_2 l0_2.length c0_2,.slice A0_3 l0_3.length c0_3]] rfl ar_ ?_;(with_reducible refine (helmsmanref12_Sized.calls k _ _ l0_0 _ _ l0_1 _ _ l0_2 _ _ l0_3 t483 _ ?side1 ?side2 ?side3 ?side4 ?side5 ?side6 ?side7 ?side8 A6.out).mono ?_);(case side1=>exact kc_ HR0_0.out HB.out);(case side2=>exact HC0_0.out);(case side3=>exact kc_ HR0_1.out HB.out);(case side4=>exact HC0_1.out);(case side5=>exact kc_ HR0_2.out HB.out);(case side6=>exact HC0_2.out);(case side7=>exact kc_ HR0_3.out HB.out);(case side8=>exact HC0_3.out);rintro e w10 ⟨rfl,hb⟩;refine ⟨_,rfl,?_⟩;have n0_:=Aside0.mk (bb_ BK481.out hb);have n1_:=Aside0.mk (bb_ BK482.out hb);have n2_:=Aside0.mk (below_step (bl_ HB.out) hb);clear BK481;clear BK482;clear HB;have BK481:=n0_;have BK482:=n1_;have HB:=n2_;clear n0_ n1_ n2_;(try clear hb);(try clear hb2);(try clear hk);(try clear hi)))
   go_meet
   case rel=>exact ⟨_,(true),rf_,H',⟨by first|omega|exact Nat.le_refl _⟩,⟨kb_ BK481.out⟩,⟨kb_ BK482.out⟩,⟨bl_ HB.out⟩⟩
  ·rw [if_neg c7] at H
   have c7b0:decide (300 < t483)=false:=decide_eq_false c7
   clear c7
   (first|rw [c7b0]|(simp only [i64_w,i32_w];rw [c7b0])|skip)
   replace H:=Option.bind_eq_some_iff.mp H
   obtain ⟨t484,A110,H⟩:=H
   replace H:(helmsmanlaw12_TreeKinds.j0 k (decide (t484 > 300)) l0_0 l0_1 l0_2 l0_3 l1_0 l1_1 l1_2 l1_3)=some r:=H
   have A11:=Aside0.mk A110
   clear A110
   have H':=Aside0.mk H
   clear H
   have hnb12:=NB481_482.out
   have hnc12:=NB482_481.out
   have hcz13_0:w5.cell? ⟨gb481,0,none⟩=some (.slice A0_0 l0_0.length c0_0):=zc_ BK481.out 0
   have hcz13_1:w5.cell? ⟨gb481,1,none⟩=some (.slice A0_1 l0_1.length c0_1):=zc_ BK481.out 1
   have hcz13_2:w5.cell? ⟨gb481,2,none⟩=some (.slice A0_2 l0_2.length c0_2):=zc_ BK481.out 2
   have hcz13_3:w5.cell? ⟨gb481,3,none⟩=some (.slice A0_3 l0_3.length c0_3):=zc_ BK481.out 3
   have hfz13_0:=blk_frozen BK481.out 0
   have hfz13_1:=blk_frozen BK481.out 1
   have hfz13_2:=blk_frozen BK481.out 2
   have hfz13_3:=blk_frozen BK481.out 3
   go_wp2_with (first|((with_reducible refine gate_callee (f:=16) rfl ?_);refine goesL_ (some 11) rfl rfl Tryd.func16 (by kernel_rfl) rfl #[.agg #[.slice A0_0 l0_0.length c0_0,.slice A0_1 l0_1.length c0_1,.slice A0_2 l0_2.length c0_2,.slice A0_3 l0_3.length c0_3]] rfl ar_ ?_;(with_reducible refine (helmsmanref12_Sized.calls k _ _ l0_0 _ _ l0_1 _ _ l0_2 _ _ l0_3 t483 _ ?side1 ?side2 ?side3 ?side4 ?side5 ?side6 ?side7 ?side8 A6.out).mono ?_);(case side1=>exact kc_ HR0_0.out HB.out);(case side2=>exact HC0_0.out);(case side3=>exact kc_ HR0_1.out HB.out);(case side4=>exact HC0_1.out);(case side5=>exact kc_ HR0_2.out HB.out);(case side6=>exact HC0_2.out);(case side7=>exact kc_ HR0_3.out HB.out);(case side8=>exact HC0_3.out);rintro e w14 ⟨rfl,hb⟩;refine ⟨_,rfl,?_⟩;have n0_:=Aside0.mk (bb_ BK481.out hb);have n1_:=Aside0.mk (bb_ BK482.out hb);have n2_:=Aside0.mk (below_step (bl_ HB.out) hb);clear BK481;clear BK482;clear HB;have BK481:=n0_;have BK482:=n1_;have HB:=n2_;clear n0_ n1_ n2_;(try clear hb);(try clear hb2);(try clear hk);(try clear hi);have hcz15_0:w14.cell? ⟨gb482,0,none⟩=some (.slice A1_0 l1_0.length c1_0):=zc_ BK482.out 0;have hcz15_1:w14.cell? ⟨gb482,1,none⟩=some (.slice A1_1 l1_1.length c1_1):=zc_ BK482.out 1;have hcz15_2:w14.cell? ⟨gb482,2,none⟩=some (.slice A1_2 l1_2.length c1_2):=zc_ BK482.out 2;have hcz15_3:w14.cell? ⟨gb482,3,none⟩=some (.slice A1_3 l1_3.length c1_3):=zc_ BK482.out 3;have hfz15_0:=blk_frozen BK482.out 0;have hfz15_1:=blk_frozen BK482.out 1;have hfz15_2:=blk_frozen BK482.out 2;have hfz15_3:=blk_frozen BK482.out 3)|(go_at_call 16;(with_reducible refine (helmsmanref12_Sized.calls k _ _ l1_0 _ _ l1_1 _ _ l1_2 _ _ l1_3 t484 _ ?side1 ?side2 ?side3 ?side4 ?side5 ?side6 ?side7 ?side8 A11.out).mono ?_);(case side1=>exact kc_ HR1_0.out HB.out);(case side2=>exact HC1_0.out);(case side3=>exact kc_ HR1_1.out HB.out);(case side4=>exact HC1_1.out);(case side5=>exact kc_ HR1_2.out HB.out);(case side6=>exact HC1_2.out);(case side7=>exact kc_ HR1_3.out HB.out);(case side8=>exact HC1_3.out);rintro e w16 ⟨rfl,hb⟩;have n0_:=Aside0.mk (bb_ BK481.out hb);have n1_:=Aside0.mk (bb_ BK482.out hb);have n2_:=Aside0.mk (below_step (bl_ HB.out) hb);clear BK481;clear BK482;clear HB;have BK481:=n0_;have BK482:=n1_;have HB:=n2_;clear n0_ n1_ n2_;(try clear hb);(try clear hb2);(try clear hk);(try clear hi)))
   go_meet
   case rel=>exact ⟨_,(decide (t484 > 300)),rf_,H',⟨by first|omega|exact Nat.le_refl _⟩,⟨kb_ BK481.out⟩,⟨kb_ BK482.out⟩,⟨bl_ HB.out⟩⟩
 case rest=>as_aux_lemma=>
  clear HC3
  (try clear c1);(try clear p2);(try clear c7);(try clear c7b0);(try clear c8);(try clear c12);(try clear c16);(try clear hcz13_0);(try clear hcz13_1);(try clear hcz13_2);(try clear hcz13_3);(try clear hcz15_0);(try clear hcz15_1);(try clear hcz15_2);(try clear hcz15_3);(try clear hcz9_0);(try clear hcz9_1);(try clear hcz9_2);(try clear hcz9_3);(try clear hfz13_0);(try clear hfz13_1);(try clear hfz13_2);(try clear hfz13_3);(try clear hfz15_0);(try clear hfz15_1);(try clear hfz15_2);(try clear hfz15_3);(try clear hfz9_0);(try clear hfz9_1);(try clear hfz9_2);(try clear hfz9_3)
  obtain ⟨kq,x17_2,rfl,HA,HJ2,BK481,BK482,HB⟩:=hcut
  cases kq with
  | zero=>exact absurd HA.out (by simp [helmsmanlaw12_TreeKinds.j0])
  | succ kj2=>
   have H:=HA.out
   clear HA
   simp only [helmsmanlaw12_TreeKinds.j0] at H
   by_cases c17:x17_2=true
   ·subst c17
    have H1:((helmsmanlaw12_alive.f).bind fun t485=>(some t485))=some r:=by rw [if_pos rfl] at H;exact H
    clear H
    have H:=H1
    clear H1
    replace H:=Option.bind_eq_some_iff.mp H
    obtain ⟨t485,A180,H⟩:=H
    replace H:(some t485)=some r:=H
    have A18:=Aside0.mk A180
    clear A180
    obtain rfl:=Option.some.inj H
    go_wp2_with (first|((with_reducible refine gate_callee (f:=10) rfl ?_);refine goesL_ (some 18) rfl rfl Tryd.func10 (by kernel_rfl) rfl #[] rfl ar_ ?_;(with_reducible refine (helmsmanlaw12_alive.calls  t485 _ ?side1 A18.out).mono ?_);(case side1=>exact hT.later (bl_ HB.out));rintro e w19 ⟨rfl,hb⟩;refine ⟨_,rfl,?_⟩;have n0_:=Aside0.mk (bb_ BK481.out hb);have n1_:=Aside0.mk (bb_ BK482.out hb);have n2_:=Aside0.mk (below_step (bl_ HB.out) hb);clear BK481;clear BK482;clear HB;have BK481:=n0_;have BK482:=n1_;have HB:=n2_;clear n0_ n1_ n2_;(try clear hb);(try clear hb2);(try clear hk);(try clear hi)))
    go_ret
    exact ⟨rt_,bl_ HB.out⟩
   ·replace c17:=Bool.eq_false_iff.mpr c17
    subst c17
    have H1:((helmsmanref12_SameStmts.f kj2 l0_3 l1_3).bind fun t486=>(if t486=true then (if (l0_0.length:Int)=(l1_0.length:Int) then (if (l0_1.length:Int)=(l1_1.length:Int) then (helmsmanlaw12_TreeKinds.j1 kj2 ((l0_2.length:Int) == (l1_2.length:Int)) l0_0 l0_1 l0_2 l0_3 l1_0 l1_1 l1_2 l1_3) else (helmsmanlaw12_TreeKinds.j1 kj2 false l0_0 l0_1 l0_2 l0_3 l1_0 l1_1 l1_2 l1_3)) else (helmsmanlaw12_TreeKinds.j1 kj2 false l0_0 l0_1 l0_2 l0_3 l1_0 l1_1 l1_2 l1_3)) else (helmsmanlaw12_TreeKinds.j1 kj2 false l0_0 l0_1 l0_2 l0_3 l1_0 l1_1 l1_2 l1_3)))=some r:=by rw [if_neg (show ¬ (false=true) by decide)] at H;exact H
    clear H
    have H:=H1
    clear H1
    have HC20:=Aside0.mk H
    clear H
    go_upto_region 3 with (fail)
    go_cut [5] (fun v5 wc=>∃ (kq:Nat) (x5_19:Bool),v5=.bool x5_19∧Aside0 (helmsmanlaw12_TreeKinds.j1 kq x5_19 l0_0 l0_1 l0_2 l0_3 l1_0 l1_1 l1_2 l1_3=some r)∧Aside0 (kq≤kj2)∧Aside0 (wc.heap[gb481]?=some (.cells #[(.slice A0_0 l0_0.length c0_0),(.slice A0_1 l0_1.length c0_1),(.slice A0_2 l0_2.length c0_2),(.slice A0_3 l0_3.length c0_3)] 43 (0,0)))∧Aside0 (wc.heap[gb482]?=some (.cells #[(.slice A1_0 l1_0.length c1_0),(.slice A1_1 l1_1.length c1_1),(.slice A1_2 l1_2.length c1_2),(.slice A1_3 l1_3.length c1_3)] 43 (0,0)))∧Aside0 (Below w.heap.size w wc))
    case first=>as_aux_lemma=>
     have H:=HC20.out
     clear HC20
     replace H:=Option.bind_eq_some_iff.mp H
     obtain ⟨t486,A210,H⟩:=H
     replace H:(if t486=true then (if (l0_0.length:Int)=(l1_0.length:Int) then (if (l0_1.length:Int)=(l1_1.length:Int) then (helmsmanlaw12_TreeKinds.j1 kj2 ((l0_2.length:Int) == (l1_2.length:Int)) l0_0 l0_1 l0_2 l0_3 l1_0 l1_1 l1_2 l1_3) else (helmsmanlaw12_TreeKinds.j1 kj2 false l0_0 l0_1 l0_2 l0_3 l1_0 l1_1 l1_2 l1_3)) else (helmsmanlaw12_TreeKinds.j1 kj2 false l0_0 l0_1 l0_2 l0_3 l1_0 l1_1 l1_2 l1_3)) else (helmsmanlaw12_TreeKinds.j1 kj2 false l0_0 l0_1 l0_2 l0_3 l1_0 l1_1 l1_2 l1_3))=some r:=H
     have A21:=Aside0.mk A210
     clear A210
     by_cases c22:t486=true
     ·subst c22
      have H1:(if (l0_0.length:Int)=(l1_0.length:Int) then (if (l0_1.length:Int)=(l1_1.length:Int) then (helmsmanlaw12_TreeKinds.j1 kj2 ((l0_2.length:Int) == (l1_2.length:Int)) l0_0 l0_1 l0_2 l0_3 l1_0 l1_1 l1_2 l1_3) else (helmsmanlaw12_TreeKinds.j1 kj2 false l0_0 l0_1 l0_2 l0_3 l1_0 l1_1 l1_2 l1_3)) else (helmsmanlaw12_TreeKinds.j1 kj2 false l0_0 l0_1 l0_2 l0_3 l1_0 l1_1 l1_2 l1_3))=some r:=by rw [if_pos rfl] at H;exact H
      clear H
      have H:=H1
      clear H1
      by_cases c23:(l0_0.length:Int)=(l1_0.length:Int)
      ·rw [if_pos c23] at H
       have c23b0:((l0_0.length:Int) == (l1_0.length:Int))=true:=beq_iff_eq.mpr c23
       have c23b1:((l0_0.length:Int) != (l1_0.length:Int))=false:=bne_eq_false_iff_eq.mpr c23
       have c23b2:(l0_0.length == l1_0.length)=true:=by first|simpa using c23|(simp at c23 ⊢;omega)
       clear c23
       (first|rw [c23b0]|(simp only [i64_w,i32_w];rw [c23b0])|skip)
       by_cases c24:(l0_1.length:Int)=(l1_1.length:Int)
       ·rw [if_pos c24] at H
        have c24b0:((l0_1.length:Int) == (l1_1.length:Int))=true:=beq_iff_eq.mpr c24
        have c24b1:((l0_1.length:Int) != (l1_1.length:Int))=false:=bne_eq_false_iff_eq.mpr c24
        have c24b2:(l0_1.length == l1_1.length)=true:=by first|simpa using c24|(simp at c24 ⊢;omega)
        clear c24
        have H':=Aside0.mk H
        clear H
        have hnb25:=NB481_482.out
        have hnc25:=NB482_481.out
        have hcz26_0:wc.cell? ⟨gb481,0,none⟩=some (.slice A0_0 l0_0.length c0_0):=zc_ BK481.out 0
        have hcz26_1:wc.cell? ⟨gb481,1,none⟩=some (.slice A0_1 l0_1.length c0_1):=zc_ BK481.out 1
        have hcz26_2:wc.cell? ⟨gb481,2,none⟩=some (.slice A0_2 l0_2.length c0_2):=zc_ BK481.out 2
        have hcz26_3:wc.cell? ⟨gb481,3,none⟩=some (.slice A0_3 l0_3.length c0_3):=zc_ BK481.out 3
        have hfz26_0:=blk_frozen BK481.out 0
        have hfz26_1:=blk_frozen BK481.out 1
        have hfz26_2:=blk_frozen BK481.out 2
        have hfz26_3:=blk_frozen BK481.out 3
        have hcz27_0:wc.cell? ⟨gb482,0,none⟩=some (.slice A1_0 l1_0.length c1_0):=zc_ BK482.out 0
        have hcz27_1:wc.cell? ⟨gb482,1,none⟩=some (.slice A1_1 l1_1.length c1_1):=zc_ BK482.out 1
        have hcz27_2:wc.cell? ⟨gb482,2,none⟩=some (.slice A1_2 l1_2.length c1_2):=zc_ BK482.out 2
        have hcz27_3:wc.cell? ⟨gb482,3,none⟩=some (.slice A1_3 l1_3.length c1_3):=zc_ BK482.out 3
        have hfz27_0:=blk_frozen BK482.out 0
        have hfz27_1:=blk_frozen BK482.out 1
        have hfz27_2:=blk_frozen BK482.out 2
        have hfz27_3:=blk_frozen BK482.out 3
        go_wp2_with (first|((with_reducible refine gate_callee (f:=25) rfl ?_);refine goesL_ (some 23) rfl rfl Tryd.func25 (by kernel_rfl) rfl #[.slice A0_3 l0_3.length c0_3,.slice A1_3 l1_3.length c1_3] rfl ar_ ?_;(with_reducible refine (helmsmanref12_SameStmts.calls kj2 _ _ l0_3 _ _ l1_3 true _ ?side1 ?side2 ?side3 ?side4 A21.out).mono ?_);(case side1=>exact kc_ HR0_3.out HB.out);(case side2=>exact HC0_3.out);(case side3=>exact kc_ HR1_3.out HB.out);(case side4=>exact HC1_3.out);rintro e w28 ⟨rfl,hb⟩;refine ⟨_,rfl,?_⟩;have n0_:=Aside0.mk (bb_ BK481.out hb);have n1_:=Aside0.mk (bb_ BK482.out hb);have n2_:=Aside0.mk (below_step (bl_ HB.out) hb);clear BK481;clear BK482;clear HB;have BK481:=n0_;have BK482:=n1_;have HB:=n2_;clear n0_ n1_ n2_;(try clear hb);(try clear hb2);(try clear hk);(try clear hi);have hcz29_0:w28.cell? ⟨gb481,0,none⟩=some (.slice A0_0 l0_0.length c0_0):=zc_ BK481.out 0;have hcz29_1:w28.cell? ⟨gb481,1,none⟩=some (.slice A0_1 l0_1.length c0_1):=zc_ BK481.out 1;have hcz29_2:w28.cell? ⟨gb481,2,none⟩=some (.slice A0_2 l0_2.length c0_2):=zc_ BK481.out 2;have hcz29_3:w28.cell? ⟨gb481,3,none⟩=some (.slice A0_3 l0_3.length c0_3):=zc_ BK481.out 3;have hfz29_0:=blk_frozen BK481.out 0;have hfz29_1:=blk_frozen BK481.out 1;have hfz29_2:=blk_frozen BK481.out 2;have hfz29_3:=blk_frozen BK481.out 3;have hcz30_0:w28.cell? ⟨gb482,0,none⟩=some (.slice A1_0 l1_0.length c1_0):=zc_ BK482.out 0;have hcz30_1:w28.cell? ⟨gb482,1,none⟩=some (.slice A1_1 l1_1.length c1_1):=zc_ BK482.out 1;have hcz30_2:w28.cell? ⟨gb482,2,none⟩=some (.slice A1_2 l1_2.length c1_2):=zc_ BK482.out 2;have hcz30_3:w28.cell? ⟨gb482,3,none⟩=some (.slice A1_3 l1_3.length c1_3):=zc_ BK482.out 3;have hfz30_0:=blk_frozen BK482.out 0;have hfz30_1:=blk_frozen BK482.out 1;have hfz30_2:=blk_frozen BK482.out 2;have hfz30_3:=blk_frozen BK482.out 3))
        go_meet
        case rel=>exact ⟨_,(((l0_2.length:Int) == (l1_2.length:Int))),rf_,H',⟨by have:=HJ2.out;first|omega|exact Nat.le_refl _⟩,⟨kb_ BK481.out⟩,⟨kb_ BK482.out⟩,⟨bl_ HB.out⟩⟩
       ·rw [if_neg c24] at H
        have c24b0:((l0_1.length:Int) == (l1_1.length:Int))=false:=beq_eq_false_iff_ne.mpr c24
        have c24b1:((l0_1.length:Int) != (l1_1.length:Int))=true:=bne_iff_ne.mpr c24
        have c24b2:(l0_1.length == l1_1.length)=false:=by first|simpa using c24|(simp at c24 ⊢;omega)
        have H':=Aside0.mk H
        clear H
        have hnb31:=NB481_482.out
        have hnc31:=NB482_481.out
        have hcz32_0:wc.cell? ⟨gb481,0,none⟩=some (.slice A0_0 l0_0.length c0_0):=zc_ BK481.out 0
        have hcz32_1:wc.cell? ⟨gb481,1,none⟩=some (.slice A0_1 l0_1.length c0_1):=zc_ BK481.out 1
        have hcz32_2:wc.cell? ⟨gb481,2,none⟩=some (.slice A0_2 l0_2.length c0_2):=zc_ BK481.out 2
        have hcz32_3:wc.cell? ⟨gb481,3,none⟩=some (.slice A0_3 l0_3.length c0_3):=zc_ BK481.out 3
        have hfz32_0:=blk_frozen BK481.out 0
        have hfz32_1:=blk_frozen BK481.out 1
        have hfz32_2:=blk_frozen BK481.out 2
        have hfz32_3:=blk_frozen BK481.out 3
        have hcz33_0:wc.cell? ⟨gb482,0,none⟩=some (.slice A1_0 l1_0.length c1_0):=zc_ BK482.out 0
        have hcz33_1:wc.cell? ⟨gb482,1,none⟩=some (.slice A1_1 l1_1.length c1_1):=zc_ BK482.out 1
        have hcz33_2:wc.cell? ⟨gb482,2,none⟩=some (.slice A1_2 l1_2.length c1_2):=zc_ BK482.out 2
        have hcz33_3:wc.cell? ⟨gb482,3,none⟩=some (.slice A1_3 l1_3.length c1_3):=zc_ BK482.out 3
        have hfz33_0:=blk_frozen BK482.out 0
        have hfz33_1:=blk_frozen BK482.out 1
        have hfz33_2:=blk_frozen BK482.out 2
        have hfz33_3:=blk_frozen BK482.out 3
        go_wp2_with (first|((with_reducible refine gate_callee (f:=25) rfl ?_);refine goesL_ (some 23) rfl rfl Tryd.func25 (by kernel_rfl) rfl #[.slice A0_3 l0_3.length c0_3,.slice A1_3 l1_3.length c1_3] rfl ar_ ?_;(with_reducible refine (helmsmanref12_SameStmts.calls kj2 _ _ l0_3 _ _ l1_3 true _ ?side1 ?side2 ?side3 ?side4 A21.out).mono ?_);(case side1=>exact kc_ HR0_3.out HB.out);(case side2=>exact HC0_3.out);(case side3=>exact kc_ HR1_3.out HB.out);(case side4=>exact HC1_3.out);rintro e w34 ⟨rfl,hb⟩;refine ⟨_,rfl,?_⟩;have n0_:=Aside0.mk (bb_ BK481.out hb);have n1_:=Aside0.mk (bb_ BK482.out hb);have n2_:=Aside0.mk (below_step (bl_ HB.out) hb);clear BK481;clear BK482;clear HB;have BK481:=n0_;have BK482:=n1_;have HB:=n2_;clear n0_ n1_ n2_;(try clear hb);(try clear hb2);(try clear hk);(try clear hi);have hcz35_0:w34.cell? ⟨gb481,0,none⟩=some (.slice A0_0 l0_0.length c0_0):=zc_ BK481.out 0;have hcz35_1:w34.cell? ⟨gb481,1,none⟩=some (.slice A0_1 l0_1.length c0_1):=zc_ BK481.out 1;have hcz35_2:w34.cell? ⟨gb481,2,none⟩=some (.slice A0_2 l0_2.length c0_2):=zc_ BK481.out 2;have hcz35_3:w34.cell? ⟨gb481,3,none⟩=some (.slice A0_3 l0_3.length c0_3):=zc_ BK481.out 3;have hfz35_0:=blk_frozen BK481.out 0;have hfz35_1:=blk_frozen BK481.out 1;have hfz35_2:=blk_frozen BK481.out 2;have hfz35_3:=blk_frozen BK481.out 3;have hcz36_0:w34.cell? ⟨gb482,0,none⟩=some (.slice A1_0 l1_0.length c1_0):=zc_ BK482.out 0;have hcz36_1:w34.cell? ⟨gb482,1,none⟩=some (.slice A1_1 l1_1.length c1_1):=zc_ BK482.out 1;have hcz36_2:w34.cell? ⟨gb482,2,none⟩=some (.slice A1_2 l1_2.length c1_2):=zc_ BK482.out 2;have hcz36_3:w34.cell? ⟨gb482,3,none⟩=some (.slice A1_3 l1_3.length c1_3):=zc_ BK482.out 3;have hfz36_0:=blk_frozen BK482.out 0;have hfz36_1:=blk_frozen BK482.out 1;have hfz36_2:=blk_frozen BK482.out 2;have hfz36_3:=blk_frozen BK482.out 3))
        go_meet
        case rel=>exact ⟨_,(false),rf_,H',⟨by have:=HJ2.out;first|omega|exact Nat.le_refl _⟩,⟨kb_ BK481.out⟩,⟨kb_ BK482.out⟩,⟨bl_ HB.out⟩⟩
      ·rw [if_neg c23] at H
       have c23b0:((l0_0.length:Int) == (l1_0.length:Int))=false:=beq_eq_false_iff_ne.mpr c23
       have c23b1:((l0_0.length:Int) != (l1_0.length:Int))=true:=bne_iff_ne.mpr c23
       have c23b2:(l0_0.length == l1_0.length)=false:=by first|simpa using c23|(simp at c23 ⊢;omega)
       (first|rw [c23b0]|(simp only [i64_w,i32_w];rw [c23b0])|skip)
       have H':=Aside0.mk H
       clear H
       have hnb37:=NB481_482.out
       have hnc37:=NB482_481.out
       have hcz38_0:wc.cell? ⟨gb481,0,none⟩=some (.slice A0_0 l0_0.length c0_0):=zc_ BK481.out 0
       have hcz38_1:wc.cell? ⟨gb481,1,none⟩=some (.slice A0_1 l0_1.length c0_1):=zc_ BK481.out 1
       have hcz38_2:wc.cell? ⟨gb481,2,none⟩=some (.slice A0_2 l0_2.length c0_2):=zc_ BK481.out 2
       have hcz38_3:wc.cell? ⟨gb481,3,none⟩=some (.slice A0_3 l0_3.length c0_3):=zc_ BK481.out 3
       have hfz38_0:=blk_frozen BK481.out 0
       have hfz38_1:=blk_frozen BK481.out 1
       have hfz38_2:=blk_frozen BK481.out 2
       have hfz38_3:=blk_frozen BK481.out 3
       have hcz39_0:wc.cell? ⟨gb482,0,none⟩=some (.slice A1_0 l1_0.length c1_0):=zc_ BK482.out 0
       have hcz39_1:wc.cell? ⟨gb482,1,none⟩=some (.slice A1_1 l1_1.length c1_1):=zc_ BK482.out 1
       have hcz39_2:wc.cell? ⟨gb482,2,none⟩=some (.slice A1_2 l1_2.length c1_2):=zc_ BK482.out 2
       have hcz39_3:wc.cell? ⟨gb482,3,none⟩=some (.slice A1_3 l1_3.length c1_3):=zc_ BK482.out 3
       have hfz39_0:=blk_frozen BK482.out 0
       have hfz39_1:=blk_frozen BK482.out 1
       have hfz39_2:=blk_frozen BK482.out 2
       have hfz39_3:=blk_frozen BK482.out 3
       go_wp2_with (first|((with_reducible refine gate_callee (f:=25) rfl ?_);refine goesL_ (some 23) rfl rfl Tryd.func25 (by kernel_rfl) rfl #[.slice A0_3 l0_3.length c0_3,.slice A1_3 l1_3.length c1_3] rfl ar_ ?_;(with_reducible refine (helmsmanref12_SameStmts.calls kj2 _ _ l0_3 _ _ l1_3 true _ ?side1 ?side2 ?side3 ?side4 A21.out).mono ?_);(case side1=>exact kc_ HR0_3.out HB.out);(case side2=>exact HC0_3.out);(case side3=>exact kc_ HR1_3.out HB.out);(case side4=>exact HC1_3.out);rintro e w40 ⟨rfl,hb⟩;refine ⟨_,rfl,?_⟩;have n0_:=Aside0.mk (bb_ BK481.out hb);have n1_:=Aside0.mk (bb_ BK482.out hb);have n2_:=Aside0.mk (below_step (bl_ HB.out) hb);clear BK481;clear BK482;clear HB;have BK481:=n0_;have BK482:=n1_;have HB:=n2_;clear n0_ n1_ n2_;(try clear hb);(try clear hb2);(try clear hk);(try clear hi);have hcz41_0:w40.cell? ⟨gb481,0,none⟩=some (.slice A0_0 l0_0.length c0_0):=zc_ BK481.out 0;have hcz41_1:w40.cell? ⟨gb481,1,none⟩=some (.slice A0_1 l0_1.length c0_1):=zc_ BK481.out 1;have hcz41_2:w40.cell? ⟨gb481,2,none⟩=some (.slice A0_2 l0_2.length c0_2):=zc_ BK481.out 2;have hcz41_3:w40.cell? ⟨gb481,3,none⟩=some (.slice A0_3 l0_3.length c0_3):=zc_ BK481.out 3;have hfz41_0:=blk_frozen BK481.out 0;have hfz41_1:=blk_frozen BK481.out 1;have hfz41_2:=blk_frozen BK481.out 2;have hfz41_3:=blk_frozen BK481.out 3;have hcz42_0:w40.cell? ⟨gb482,0,none⟩=some (.slice A1_0 l1_0.length c1_0):=zc_ BK482.out 0;have hcz42_1:w40.cell? ⟨gb482,1,none⟩=some (.slice A1_1 l1_1.length c1_1):=zc_ BK482.out 1;have hcz42_2:w40.cell? ⟨gb482,2,none⟩=some (.slice A1_2 l1_2.length c1_2):=zc_ BK482.out 2;have hcz42_3:w40.cell? ⟨gb482,3,none⟩=some (.slice A1_3 l1_3.length c1_3):=zc_ BK482.out 3;have hfz42_0:=blk_frozen BK482.out 0;have hfz42_1:=blk_frozen BK482.out 1;have hfz42_2:=blk_frozen BK482.out 2;have hfz42_3:=blk_frozen BK482.out 3))
       go_meet
       case rel=>exact ⟨_,(false),rf_,H',⟨by have:=HJ2.out;first|omega|exact Nat.le_refl _⟩,⟨kb_ BK481.out⟩,⟨kb_ BK482.out⟩,⟨bl_ HB.out⟩⟩
     ·replace c22:=Bool.eq_false_iff.mpr c22
      subst c22
      have H1:(helmsmanlaw12_TreeKinds.j1 kj2 false l0_0 l0_1 l0_2 l0_3 l1_0 l1_1 l1_2 l1_3)=some r:=by rw [if_neg (show ¬ (false=true) by decide)] at H;exact H
      clear H
      have H:=H1
      clear H1
      have H':=Aside0.mk H
      clear H
      have hnb43:=NB481_482.out
      have hnc43:=NB482_481.out
      have hcz44_0:wc.cell? ⟨gb481,0,none⟩=some (.slice A0_0 l0_0.length c0_0):=zc_ BK481.out 0
      have hcz44_1:wc.cell? ⟨gb481,1,none⟩=some (.slice A0_1 l0_1.length c0_1):=zc_ BK481.out 1
      have hcz44_2:wc.cell? ⟨gb481,2,none⟩=some (.slice A0_2 l0_2.length c0_2):=zc_ BK481.out 2
      have hcz44_3:wc.cell? ⟨gb481,3,none⟩=some (.slice A0_3 l0_3.length c0_3):=zc_ BK481.out 3
      have hfz44_0:=blk_frozen BK481.out 0
      have hfz44_1:=blk_frozen BK481.out 1
      have hfz44_2:=blk_frozen BK481.out 2
      have hfz44_3:=blk_frozen BK481.out 3
      have hcz45_0:wc.cell? ⟨gb482,0,none⟩=some (.slice A1_0 l1_0.length c1_0):=zc_ BK482.out 0
      have hcz45_1:wc.cell? ⟨gb482,1,none⟩=some (.slice A1_1 l1_1.length c1_1):=zc_ BK482.out 1
      have hcz45_2:wc.cell? ⟨gb482,2,none⟩=some (.slice A1_2 l1_2.length c1_2):=zc_ BK482.out 2
      have hcz45_3:wc.cell? ⟨gb482,3,none⟩=some (.slice A1_3 l1_3.length c1_3):=zc_ BK482.out 3
      have hfz45_0:=blk_frozen BK482.out 0
      have hfz45_1:=blk_frozen BK482.out 1
      have hfz45_2:=blk_frozen BK482.out 2
      have hfz45_3:=blk_frozen BK482.out 3
      go_wp2_with (first|((with_reducible refine gate_callee (f:=25) rfl ?_);refine goesL_ (some 23) rfl rfl Tryd.func25 (by kernel_rfl) rfl #[.slice A0_3 l0_3.length c0_3,.slice A1_3 l1_3.length c1_3] rfl ar_ ?_;(with_reducible refine (helmsmanref12_SameStmts.calls kj2 _ _ l0_3 _ _ l1_3 false _ ?side1 ?side2 ?side3 ?side4 A21.out).mono ?_);(case side1=>exact kc_ HR0_3.out HB.out);(case side2=>exact HC0_3.out);(case side3=>exact kc_ HR1_3.out HB.out);(case side4=>exact HC1_3.out);rintro e w46 ⟨rfl,hb⟩;refine ⟨_,rfl,?_⟩;have n0_:=Aside0.mk (bb_ BK481.out hb);have n1_:=Aside0.mk (bb_ BK482.out hb);have n2_:=Aside0.mk (below_step (bl_ HB.out) hb);clear BK481;clear BK482;clear HB;have BK481:=n0_;have BK482:=n1_;have HB:=n2_;clear n0_ n1_ n2_;(try clear hb);(try clear hb2);(try clear hk);(try clear hi)))
      go_meet
      case rel=>exact ⟨_,(false),rf_,H',⟨by have:=HJ2.out;first|omega|exact Nat.le_refl _⟩,⟨kb_ BK481.out⟩,⟨kb_ BK482.out⟩,⟨bl_ HB.out⟩⟩
    case rest=>as_aux_lemma=>
     clear HC20
     (try clear c1);(try clear c2);(try clear p2);(try clear c3);(try clear c4);(try clear c7);(try clear c7b0);(try clear c8);(try clear c10);(try clear c12);(try clear c16);(try clear c17);(try clear c22);(try clear c23);(try clear c23b0);(try clear c23b1);(try clear c23b2);(try clear c24);(try clear c24b0);(try clear c24b1);(try clear c24b2);(try clear c25);(try clear c31);(try clear c37);(try clear c43);(try clear hcz13_0);(try clear hcz13_1);(try clear hcz13_2);(try clear hcz13_3);(try clear hcz15_0);(try clear hcz15_1);(try clear hcz15_2);(try clear hcz15_3);(try clear hcz26_0);(try clear hcz26_1);(try clear hcz26_2);(try clear hcz26_3);(try clear hcz27_0);(try clear hcz27_1);(try clear hcz27_2);(try clear hcz27_3);(try clear hcz29_0);(try clear hcz29_1);(try clear hcz29_2);(try clear hcz29_3);(try clear hcz30_0);(try clear hcz30_1);(try clear hcz30_2);(try clear hcz30_3);(try clear hcz32_0);(try clear hcz32_1);(try clear hcz32_2);(try clear hcz32_3);(try clear hcz33_0);(try clear hcz33_1);(try clear hcz33_2);(try clear hcz33_3);(try clear hcz35_0);(try clear hcz35_1);(try clear hcz35_2);(try clear hcz35_3);(try clear hcz36_0);(try clear hcz36_1);(try clear hcz36_2);(try clear hcz36_3);(try clear hcz38_0);(try clear hcz38_1);(try clear hcz38_2);(try clear hcz38_3);(try clear hcz39_0);(try clear hcz39_1);(try clear hcz39_2);(try clear hcz39_3);(try clear hcz41_0);(try clear hcz41_1);(try clear hcz41_2);(try clear hcz41_3);(try clear hcz42_0);(try clear hcz42_1);(try clear hcz42_2);(try clear hcz42_3);(try clear hcz44_0);(try clear hcz44_1);(try clear hcz44_2);(try clear hcz44_3);(try clear hcz45_0);(try clear hcz45_1);(try clear hcz45_2);(try clear hcz45_3);(try clear hcz9_0);(try clear hcz9_1);(try clear hcz9_2);(try clear hcz9_3);(try clear hfz13_0);(try clear hfz13_1);(try clear hfz13_2);(try clear hfz13_3);(try clear hfz15_0);(try clear hfz15_1);(try clear hfz15_2);(try clear hfz15_3);(try clear hfz26_0);(try clear hfz26_1);(try clear hfz26_2);(try clear hfz26_3);(try clear hfz27_0);(try clear hfz27_1);(try clear hfz27_2);(try clear hfz27_3);(try clear hfz29_0);(try clear hfz29_1);(try clear hfz29_2);(try clear hfz29_3);(try clear hfz30_0);(try clear hfz30_1);(try clear hfz30_2);(try clear hfz30_3);(try clear hfz32_0);(try clear hfz32_1);(try clear hfz32_2);(try clear hfz32_3);(try clear hfz33_0);(try clear hfz33_1);(try clear hfz33_2);(try clear hfz33_3);(try clear hfz35_0);(try clear hfz35_1);(try clear hfz35_2);(try clear hfz35_3);(try clear hfz36_0);(try clear hfz36_1);(try clear hfz36_2);(try clear hfz36_3);(try clear hfz38_0);(try clear hfz38_1);(try clear hfz38_2);(try clear hfz38_3);(try clear hfz39_0);(try clear hfz39_1);(try clear hfz39_2);(try clear hfz39_3);(try clear hfz41_0);(try clear hfz41_1);(try clear hfz41_2);(try clear hfz41_3);(try clear hfz42_0);(try clear hfz42_1);(try clear hfz42_2);(try clear hfz42_3);(try clear hfz44_0);(try clear hfz44_1);(try clear hfz44_2);(try clear hfz44_3);(try clear hfz45_0);(try clear hfz45_1);(try clear hfz45_2);(try clear hfz45_3);(try clear hfz9_0);(try clear hfz9_1);(try clear hfz9_2);(try clear hfz9_3);(try clear p2)
     obtain ⟨kq,x5_19,rfl,HA,HJ19,BK481,BK482,HB⟩:=hcut
     cases kq with
     | zero=>exact absurd HA.out (by simp [helmsmanlaw12_TreeKinds.j1])
     | succ kj19=>
      have H:=HA.out
      clear HA
      simp only [helmsmanlaw12_TreeKinds.j1] at H
      have HC47:=Aside0.mk H
      clear H
      go_upto_block 0 with (fail)
      go_cut [5] (fun v5 wc=>∃ (kq:Nat) (x5_46:Bool),v5=.bool x5_46∧Aside0 (helmsmanlaw12_TreeKinds.j3 kq x5_46 l0_0 l0_1 l0_2 l0_3 l1_0 l1_1 l1_2 l1_3=some r)∧Aside0 (kq≤kj19)∧Aside0 (wc.heap[gb481]?=some (.cells #[(.slice A0_0 l0_0.length c0_0),(.slice A0_1 l0_1.length c0_1),(.slice A0_2 l0_2.length c0_2),(.slice A0_3 l0_3.length c0_3)] 43 (0,0)))∧Aside0 (wc.heap[gb482]?=some (.cells #[(.slice A1_0 l1_0.length c1_0),(.slice A1_1 l1_1.length c1_1),(.slice A1_2 l1_2.length c1_2),(.slice A1_3 l1_3.length c1_3)] 43 (0,0)))∧Aside0 (Below w.heap.size w wc))
      case first=>as_aux_lemma=>
       have H:=HC47.out
       clear HC47
       have H':=Aside0.mk H
       clear H
       go_wp2
       (try simp only [Act.put,List.setIfInBounds_toArray,List.set_cons_succ,List.set_cons_zero])
       go_loopg [5,6] kj19 (fun kq v5 v6 w'=>∃ (x5_3:Bool) (x6_3:Int),v5=.bool x5_3∧v6=.int .i64 x6_3∧Aside0 (helmsmanlaw12_TreeKinds.l0 kq x5_3 x6_3 l0_0 l0_1 l0_2 l0_3 l1_0 l1_1 l1_2 l1_3=some r)∧Aside0 (kq≤kj19)∧Aside0 (w'.heap[gb481]?=some (.cells #[(.slice A0_0 l0_0.length c0_0),(.slice A0_1 l0_1.length c0_1),(.slice A0_2 l0_2.length c0_2),(.slice A0_3 l0_3.length c0_3)] 43 (0,0)))∧Aside0 (w'.heap[gb482]?=some (.cells #[(.slice A1_0 l1_0.length c1_0),(.slice A1_1 l1_1.length c1_1),(.slice A1_2 l1_2.length c1_2),(.slice A1_3 l1_3.length c1_3)] 43 (0,0)))∧Aside0 (Below w.heap.size w w'))
       case atStart=>exact ⟨(x5_19),(0),rf_,rf_,H',⟨Nat.le_refl _⟩,⟨kb_ BK481.out⟩,⟨kb_ BK482.out⟩,⟨bl_ HB.out⟩⟩
       case round=>as_aux_lemma=>
        clear H'
        (try clear c1);(try clear c2);(try clear p2);(try clear c3);(try clear c4);(try clear c7);(try clear c7b0);(try clear c8);(try clear c10);(try clear c12);(try clear c16);(try clear c17);(try clear c22);(try clear c23);(try clear c23b0);(try clear c23b1);(try clear c23b2);(try clear c24);(try clear c24b0);(try clear c24b1);(try clear c24b2);(try clear c25);(try clear c31);(try clear c37);(try clear c43);(try clear hcz13_0);(try clear hcz13_1);(try clear hcz13_2);(try clear hcz13_3);(try clear hcz15_0);(try clear hcz15_1);(try clear hcz15_2);(try clear hcz15_3);(try clear hcz26_0);(try clear hcz26_1);(try clear hcz26_2);(try clear hcz26_3);(try clear hcz27_0);(try clear hcz27_1);(try clear hcz27_2);(try clear hcz27_3);(try clear hcz29_0);(try clear hcz29_1);(try clear hcz29_2);(try clear hcz29_3);(try clear hcz30_0);(try clear hcz30_1);(try clear hcz30_2);(try clear hcz30_3);(try clear hcz32_0);(try clear hcz32_1);(try clear hcz32_2);(try clear hcz32_3);(try clear hcz33_0);(try clear hcz33_1);(try clear hcz33_2);(try clear hcz33_3);(try clear hcz35_0);(try clear hcz35_1);(try clear hcz35_2);(try clear hcz35_3);(try clear hcz36_0);(try clear hcz36_1);(try clear hcz36_2);(try clear hcz36_3);(try clear hcz38_0);(try clear hcz38_1);(try clear hcz38_2);(try clear hcz38_3);(try clear hcz39_0);(try clear hcz39_1);(try clear hcz39_2);(try clear hcz39_3);(try clear hcz41_0);(try clear hcz41_1);(try clear hcz41_2);(try clear hcz41_3);(try clear hcz42_0);(try clear hcz42_1);(try clear hcz42_2);(try clear hcz42_3);(try clear hcz44_0);(try clear hcz44_1);(try clear hcz44_2);(try clear hcz44_3);(try clear hcz45_0);(try clear hcz45_1);(try clear hcz45_2);(try clear hcz45_3);(try clear hcz9_0);(try clear hcz9_1);(try clear hcz9_2);(try clear hcz9_3);(try clear hfz13_0);(try clear hfz13_1);(try clear hfz13_2);(try clear hfz13_3);(try clear hfz15_0);(try clear hfz15_1);(try clear hfz15_2);(try clear hfz15_3);(try clear hfz26_0);(try clear hfz26_1);(try clear hfz26_2);(try clear hfz26_3);(try clear hfz27_0);(try clear hfz27_1);(try clear hfz27_2);(try clear hfz27_3);(try clear hfz29_0);(try clear hfz29_1);(try clear hfz29_2);(try clear hfz29_3);(try clear hfz30_0);(try clear hfz30_1);(try clear hfz30_2);(try clear hfz30_3);(try clear hfz32_0);(try clear hfz32_1);(try clear hfz32_2);(try clear hfz32_3);(try clear hfz33_0);(try clear hfz33_1);(try clear hfz33_2);(try clear hfz33_3);(try clear hfz35_0);(try clear hfz35_1);(try clear hfz35_2);(try clear hfz35_3);(try clear hfz36_0);(try clear hfz36_1);(try clear hfz36_2);(try clear hfz36_3);(try clear hfz38_0);(try clear hfz38_1);(try clear hfz38_2);(try clear hfz38_3);(try clear hfz39_0);(try clear hfz39_1);(try clear hfz39_2);(try clear hfz39_3);(try clear hfz41_0);(try clear hfz41_1);(try clear hfz41_2);(try clear hfz41_3);(try clear hfz42_0);(try clear hfz42_1);(try clear hfz42_2);(try clear hfz42_3);(try clear hfz44_0);(try clear hfz44_1);(try clear hfz44_2);(try clear hfz44_3);(try clear hfz45_0);(try clear hfz45_1);(try clear hfz45_2);(try clear hfz45_3);(try clear hfz9_0);(try clear hfz9_1);(try clear hfz9_2);(try clear hfz9_3);(try clear p2)
        obtain ⟨x5_3,x6_3,rfl,rfl,HA,HK3,BK481,BK482,HB⟩:=hrel
        cases gk with
        | zero=>exact absurd HA.out (by simp [helmsmanlaw12_TreeKinds.l0])
        | succ k3=>
         have H:=HA.out
         clear HA
         simp only [helmsmanlaw12_TreeKinds.l0] at H
         by_cases c48:x5_3=true
         ·subst c48
          have H1:(if x6_3 < (l0_1.length:Int) then (if 0≤x6_3 then (if x6_3 < (l1_1.length:Int) then (helmsmanlaw12_TreeKinds.l0 k3 ((((rd_T56 l0_1 x6_3).f0).toList) == (((rd_T56 l1_1 x6_3).f0).toList) && ((((rd_T56 l0_1 x6_3).f1).toList) == (((rd_T56 l1_1 x6_3).f1).toList) && (((rd_T56 l0_1 x6_3).f2) == ((rd_T56 l1_1 x6_3).f2)))) (wrap64 (x6_3+1)) l0_0 l0_1 l0_2 l0_3 l1_0 l1_1 l1_2 l1_3) else (none)) else (none)) else (helmsmanlaw12_TreeKinds.j3 k3 true l0_0 l0_1 l0_2 l0_3 l1_0 l1_1 l1_2 l1_3))=some r:=by rw [if_pos rfl] at H;exact H
          clear H
          have H:=H1
          clear H1
          by_cases c49:x6_3 < (l0_1.length:Int)
          ·rw [if_pos c49] at H
           have c49b0:decide (x6_3 < (l0_1.length:Int))=true:=decide_eq_true c49
           clear c49
           (first|rw [c49b0]|(simp only [i64_w,i32_w];rw [c49b0])|skip)
           by_cases c50:0≤x6_3
           ·rw [if_pos c50] at H
            have c50b0:decide (0≤x6_3)=true:=decide_eq_true c50
            clear c50
            by_cases c51:x6_3 < (l1_1.length:Int)
            ·rw [if_pos c51] at H
             have c51b0:decide (x6_3 < (l1_1.length:Int))=true:=decide_eq_true c51
             clear c51
             have H':=Aside0.mk H
             clear H
             have hnb52:=NB481_482.out
             have hnc52:=NB482_481.out
             have hcz53_0:wr.cell? ⟨gb481,0,none⟩=some (.slice A0_0 l0_0.length c0_0):=zc_ BK481.out 0
             have hcz53_1:wr.cell? ⟨gb481,1,none⟩=some (.slice A0_1 l0_1.length c0_1):=zc_ BK481.out 1
             have hcz53_2:wr.cell? ⟨gb481,2,none⟩=some (.slice A0_2 l0_2.length c0_2):=zc_ BK481.out 2
             have hcz53_3:wr.cell? ⟨gb481,3,none⟩=some (.slice A0_3 l0_3.length c0_3):=zc_ BK481.out 3
             have hfz53_0:=blk_frozen BK481.out 0
             have hfz53_1:=blk_frozen BK481.out 1
             have hfz53_2:=blk_frozen BK481.out 2
             have hfz53_3:=blk_frozen BK481.out 3
             try go_wp2
             have n0_:=Aside0.mk (blk_drew BK481.out)
             have n1_:=Aside0.mk (blk_drew BK482.out)
             have n2_:=Aside0.mk (below_drew1 HB.out)
             clear BK481
             clear BK482
             clear HB
             have BK481:=n0_
             have BK482:=n1_
             have HB:=n2_
             clear n0_ n1_ n2_
             have p487:0≤(x6_3:Int):=of_decide_eq_true as_
             have q487:x6_3 < (l0_1.length:Int):=of_decide_eq_true as_
             obtain ⟨ad487,e487,hx487_0,hx487_1,hx487_2⟩:=at_T56 HR0_1.out x6_3 p487 q487
             have hw487_2:=hx487_2
             have hw487_1:=hx487_1
             have hw487_0:=hx487_0
             cases e487
             replace hx487_0:=(cb_ HB.out hx487_0:_)
             replace hx487_1:=(cb_ HB.out hx487_1:_)
             replace hx487_2:=(cb_ HB.out hx487_2:_)
             replace p487:=eq_true p487
             replace q487:=eq_true q487
             have p488:0≤(x6_3:Int):=of_decide_eq_true as_
             have q488:x6_3 < (l1_1.length:Int):=of_decide_eq_true as_
             obtain ⟨ad488,e488,hx488_0,hx488_1,hx488_2⟩:=at_T56 HR1_1.out x6_3 p488 q488
             have hw488_2:=hx488_2
             have hw488_1:=hx488_1
             have hw488_0:=hx488_0
             cases e488
             replace hx488_0:=(cb_ HB.out hx488_0:_)
             replace hx488_1:=(cb_ HB.out hx488_1:_)
             replace hx488_2:=(cb_ HB.out hx488_2:_)
             replace p488:=eq_true p488
             replace q488:=eq_true q488
             refine start_ (n:=12) (S:=fun w'=>w'.cell? ⟨gb481,0,none⟩=some (.slice A0_0 l0_0.length c0_0)∧w'.cell? ⟨gb481,1,none⟩=some (.slice (some ad487) l0_1.length c0_1)∧w'.cell? ⟨gb481,2,none⟩=some (.slice A0_2 l0_2.length c0_2)∧w'.cell? ⟨gb481,3,none⟩=some (.slice A0_3 l0_3.length c0_3)∧w'.cell? ⟨gb482,0,none⟩=some (.slice A1_0 l1_0.length c1_0)∧w'.cell? ⟨gb482,1,none⟩=some (.slice (some ad488) l1_1.length c1_1)∧w'.cell? ⟨gb482,2,none⟩=some (.slice A1_2 l1_2.length c1_2)∧w'.cell? ⟨gb482,3,none⟩=some (.slice A1_3 l1_3.length c1_3)∧w'.cell? (ad487.add ((x6_3).toNat * 3))=some (.string ((rd_T56 l0_1 x6_3).f0))∧w'.cell? ⟨(ad487.add ((x6_3).toNat * 3)).block,(ad487.add ((x6_3).toNat * 3)).off+1,none⟩=some (.string ((rd_T56 l0_1 x6_3).f1))∧w'.cell? ⟨(ad487.add ((x6_3).toNat * 3)).block,(ad487.add ((x6_3).toNat * 3)).off+2,none⟩=some (.int .i64 ((rd_T56 l0_1 x6_3).f2))∧w'.cell? (ad488.add ((x6_3).toNat * 3))=some (.string ((rd_T56 l1_1 x6_3).f0))∧w'.cell? ⟨(ad488.add ((x6_3).toNat * 3)).block,(ad488.add ((x6_3).toNat * 3)).off+1,none⟩=some (.string ((rd_T56 l1_1 x6_3).f1))∧w'.cell? ⟨(ad488.add ((x6_3).toNat * 3)).block,(ad488.add ((x6_3).toNat * 3)).off+2,none⟩=some (.int .i64 ((rd_T56 l1_1 x6_3).f2))) (ds:=[]) (flg 12 0) (by kernel_rfl) rfl (by kernel_rfl) ⟨zc_ BK481.out 0,zc_ BK481.out 1,zc_ BK481.out 2,zc_ BK481.out 3,zc_ BK482.out 0,zc_ BK482.out 1,zc_ BK482.out 2,zc_ BK482.out 3,((cb_ HB.out hw487_0:_)),((cb_ HB.out hw487_1:_)),((cb_ HB.out hw487_2:_)),((cb_ HB.out hw488_0:_)),((cb_ HB.out hw488_1:_)),((cb_ HB.out hw488_2:_))⟩ (fun hHeld=>?_);refine with_tabW helmsmanlaw12_TreeKinds.tab7 helmsmanlaw12_TreeKinds.bits7 (fun HT_ HW_=>?_)
             generalize wr.drew=w54 at BK481 BK482 HB hx487_0 hx487_1 hx487_2 hx488_0 hx488_1 hx488_2 hHeld ⊢
             refine pur_ 0 61 (flg 12 1) rfl rfl (any_of HT_.out (by kernel_rfl)) (fun _ _ _ h=>h) ?_
             refine pur_ 2 63 (flg 12 5) rfl rfl (any_of HT_.out (by kernel_rfl)) (fun _ _ _ h=>h) ?_
             refine pur_ 5 66 (flg 12 37) rfl rfl (any_of HT_.out (by kernel_rfl)) (fun _ _ _ h=>h) ?_
             refine pur_ 7 68 (flg 12 165) rfl rfl (any_of HT_.out (by kernel_rfl)) (fun _ _ _ h=>h) ?_
             refine tak_ 1 62 (flg 12 167) rfl rfl (take_ofW HT_.out HW_.out (by kernel_rfl)) (fun _ _ _ h=>h) hHeld ?_
             refine pur_ 3 64 (flg 12 175) rfl rfl (any_of HT_.out (by kernel_rfl)) (fun _ _ _ h=>h) ?_
             refine tak_ 4 65 (flg 12 191) rfl rfl (take_ofW HT_.out HW_.out (by kernel_rfl)) (fun _ _ _ h=>h) hHeld ?_
             refine tak_ 6 67 (flg 12 255) rfl rfl (take_ofW HT_.out HW_.out (by kernel_rfl)) (fun _ _ _ h=>h) hHeld ?_
             refine pur_ 8 69 (flg 12 511) rfl rfl (any_of HT_.out (by kernel_rfl)) (fun _ _ _ h=>h) ?_
             refine tak_ 9 70 (flg 12 1023) rfl rfl (take_ofW HT_.out HW_.out (by kernel_rfl)) (fun _ _ _ h=>h) hHeld ?_
             refine pur_ 10 71 (flg 12 2047) rfl rfl (any_of HT_.out (by kernel_rfl)) (fun _ _ _ h=>h) ?_
             refine pur_ 11 5 (flg 12 4095) rfl rfl (any_of HT_.out (by kernel_rfl)) (fun _ _ _ h=>h) ?_
             refine done_ (done_of HT_.out (by kernel_rfl)) ?_
             try go_wp2
             go_roundg k3
             case measure=>have:=HJ2.out;have:=HJ19.out;have:=HK3.out;omega
             case rel=>exact ⟨(((((rd_T56 l0_1 x6_3).f0).toList) == (((rd_T56 l1_1 x6_3).f0).toList) && ((((rd_T56 l0_1 x6_3).f1).toList) == (((rd_T56 l1_1 x6_3).f1).toList) && (((rd_T56 l0_1 x6_3).f2) == ((rd_T56 l1_1 x6_3).f2))))),(wrap64 (x6_3+1)),rf_,rf_,H',⟨by have:=HJ2.out;have:=HJ19.out;have:=HK3.out;omega⟩,⟨kb_ BK481.out⟩,⟨kb_ BK482.out⟩,⟨bl_ HB.out⟩⟩
            ·rw [if_neg c51] at H
             exact absurd H (by simp)
           ·rw [if_neg c50] at H
            exact absurd H (by simp)
          ·rw [if_neg c49] at H
           have c49b0:decide (x6_3 < (l0_1.length:Int))=false:=decide_eq_false c49
           clear c49
           (first|rw [c49b0]|(simp only [i64_w,i32_w];rw [c49b0])|skip)
           have H':=Aside0.mk H
           clear H
           have hnb55:=NB481_482.out
           have hnc55:=NB482_481.out
           have hcz56_0:wr.cell? ⟨gb481,0,none⟩=some (.slice A0_0 l0_0.length c0_0):=zc_ BK481.out 0
           have hcz56_1:wr.cell? ⟨gb481,1,none⟩=some (.slice A0_1 l0_1.length c0_1):=zc_ BK481.out 1
           have hcz56_2:wr.cell? ⟨gb481,2,none⟩=some (.slice A0_2 l0_2.length c0_2):=zc_ BK481.out 2
           have hcz56_3:wr.cell? ⟨gb481,3,none⟩=some (.slice A0_3 l0_3.length c0_3):=zc_ BK481.out 3
           have hfz56_0:=blk_frozen BK481.out 0
           have hfz56_1:=blk_frozen BK481.out 1
           have hfz56_2:=blk_frozen BK481.out 2
           have hfz56_3:=blk_frozen BK481.out 3
           go_wp2
           go_meet
           case rel=>exact ⟨_,(true),rf_,H',⟨by have:=HJ2.out;have:=HJ19.out;have:=HK3.out;first|omega|exact Nat.le_refl _⟩,⟨kb_ BK481.out⟩,⟨kb_ BK482.out⟩,⟨bl_ HB.out⟩⟩
         ·replace c48:=Bool.eq_false_iff.mpr c48
          subst c48
          have H1:(helmsmanlaw12_TreeKinds.j3 k3 false l0_0 l0_1 l0_2 l0_3 l1_0 l1_1 l1_2 l1_3)=some r:=by rw [if_neg (show ¬ (false=true) by decide)] at H;exact H
          clear H
          have H:=H1
          clear H1
          have H':=Aside0.mk H
          clear H
          go_wp2
          go_meet
          case rel=>exact ⟨_,(false),rf_,H',⟨by have:=HJ2.out;have:=HJ19.out;have:=HK3.out;first|omega|exact Nat.le_refl _⟩,⟨kb_ BK481.out⟩,⟨kb_ BK482.out⟩,⟨bl_ HB.out⟩⟩
      case rest=>as_aux_lemma=>
       clear HC47
       (try clear c1);(try clear c2);(try clear p2);(try clear c3);(try clear c4);(try clear p4);(try clear q4);(try clear hx4);(try clear c5);(try clear p6);(try clear c7);(try clear c7b0);(try clear c8);(try clear c10);(try clear c12);(try clear c16);(try clear c17);(try clear c22);(try clear c23);(try clear c23b0);(try clear c23b1);(try clear c23b2);(try clear c24);(try clear c24b0);(try clear c24b1);(try clear c24b2);(try clear c25);(try clear c31);(try clear c37);(try clear c43);(try clear c48);(try clear p48);(try clear q48);(try clear hx48);(try clear c49);(try clear c49b0);(try clear c50);(try clear c50b0);(try clear c51);(try clear c51b0);(try clear c52);(try clear c55);(try clear hcz13_0);(try clear hcz13_1);(try clear hcz13_2);(try clear hcz13_3);(try clear hcz15_0);(try clear hcz15_1);(try clear hcz15_2);(try clear hcz15_3);(try clear hcz26_0);(try clear hcz26_1);(try clear hcz26_2);(try clear hcz26_3);(try clear hcz27_0);(try clear hcz27_1);(try clear hcz27_2);(try clear hcz27_3);(try clear hcz29_0);(try clear hcz29_1);(try clear hcz29_2);(try clear hcz29_3);(try clear hcz30_0);(try clear hcz30_1);(try clear hcz30_2);(try clear hcz30_3);(try clear hcz32_0);(try clear hcz32_1);(try clear hcz32_2);(try clear hcz32_3);(try clear hcz33_0);(try clear hcz33_1);(try clear hcz33_2);(try clear hcz33_3);(try clear hcz35_0);(try clear hcz35_1);(try clear hcz35_2);(try clear hcz35_3);(try clear hcz36_0);(try clear hcz36_1);(try clear hcz36_2);(try clear hcz36_3);(try clear hcz38_0);(try clear hcz38_1);(try clear hcz38_2);(try clear hcz38_3);(try clear hcz39_0);(try clear hcz39_1);(try clear hcz39_2);(try clear hcz39_3);(try clear hcz41_0);(try clear hcz41_1);(try clear hcz41_2);(try clear hcz41_3);(try clear hcz42_0);(try clear hcz42_1);(try clear hcz42_2);(try clear hcz42_3);(try clear hcz44_0);(try clear hcz44_1);(try clear hcz44_2);(try clear hcz44_3);(try clear hcz45_0);(try clear hcz45_1);(try clear hcz45_2);(try clear hcz45_3);(try clear hcz53_0);(try clear hcz53_1);(try clear hcz53_2);(try clear hcz53_3);(try clear hcz56_0);(try clear hcz56_1);(try clear hcz56_2);(try clear hcz56_3);(try clear hcz9_0);(try clear hcz9_1);(try clear hcz9_2);(try clear hcz9_3);(try clear hfz13_0);(try clear hfz13_1);(try clear hfz13_2);(try clear hfz13_3);(try clear hfz15_0);(try clear hfz15_1);(try clear hfz15_2);(try clear hfz15_3);(try clear hfz26_0);(try clear hfz26_1);(try clear hfz26_2);(try clear hfz26_3);(try clear hfz27_0);(try clear hfz27_1);(try clear hfz27_2);(try clear hfz27_3);(try clear hfz29_0);(try clear hfz29_1);(try clear hfz29_2);(try clear hfz29_3);(try clear hfz30_0);(try clear hfz30_1);(try clear hfz30_2);(try clear hfz30_3);(try clear hfz32_0);(try clear hfz32_1);(try clear hfz32_2);(try clear hfz32_3);(try clear hfz33_0);(try clear hfz33_1);(try clear hfz33_2);(try clear hfz33_3);(try clear hfz35_0);(try clear hfz35_1);(try clear hfz35_2);(try clear hfz35_3);(try clear hfz36_0);(try clear hfz36_1);(try clear hfz36_2);(try clear hfz36_3);(try clear hfz38_0);(try clear hfz38_1);(try clear hfz38_2);(try clear hfz38_3);(try clear hfz39_0);(try clear hfz39_1);(try clear hfz39_2);(try clear hfz39_3);(try clear hfz41_0);(try clear hfz41_1);(try clear hfz41_2);(try clear hfz41_3);(try clear hfz42_0);(try clear hfz42_1);(try clear hfz42_2);(try clear hfz42_3);(try clear hfz44_0);(try clear hfz44_1);(try clear hfz44_2);(try clear hfz44_3);(try clear hfz45_0);(try clear hfz45_1);(try clear hfz45_2);(try clear hfz45_3);(try clear hfz53_0);(try clear hfz53_1);(try clear hfz53_2);(try clear hfz53_3);(try clear hfz56_0);(try clear hfz56_1);(try clear hfz56_2);(try clear hfz56_3);(try clear hfz9_0);(try clear hfz9_1);(try clear hfz9_2);(try clear hfz9_3);(try clear hx487_0);(try clear hx487_1);(try clear hx487_2);(try clear hx488_0);(try clear hx488_1);(try clear hx488_2);(try clear p2);(try clear p487);(try clear p488);(try clear q487);(try clear q488)
       obtain ⟨kq,x5_46,rfl,HA,HJ46,BK481,BK482,HB⟩:=hcut
       cases kq with
       | zero=>exact absurd HA.out (by simp [helmsmanlaw12_TreeKinds.j3])
       | succ kj46=>
        have H:=HA.out
        clear HA
        simp only [helmsmanlaw12_TreeKinds.j3] at H
        have HC57:=Aside0.mk H
        clear H
        go_upto_block 2 with (fail)
        go_cut [5] (fun v5 wc=>∃ (kq:Nat) (x5_56:Bool),v5=.bool x5_56∧Aside0 (helmsmanlaw12_TreeKinds.j5 kq x5_56 l0_0 l0_1 l0_2 l0_3 l1_0 l1_1 l1_2 l1_3=some r)∧Aside0 (kq≤kj46)∧Aside0 (wc.heap[gb481]?=some (.cells #[(.slice A0_0 l0_0.length c0_0),(.slice A0_1 l0_1.length c0_1),(.slice A0_2 l0_2.length c0_2),(.slice A0_3 l0_3.length c0_3)] 43 (0,0)))∧Aside0 (wc.heap[gb482]?=some (.cells #[(.slice A1_0 l1_0.length c1_0),(.slice A1_1 l1_1.length c1_1),(.slice A1_2 l1_2.length c1_2),(.slice A1_3 l1_3.length c1_3)] 43 (0,0)))∧Aside0 (Below w.heap.size w wc))
        case first=>as_aux_lemma=>
         have H:=HC57.out
         clear HC57
         have H':=Aside0.mk H
         clear H
         go_wp2
         (try simp only [Act.put,List.setIfInBounds_toArray,List.set_cons_succ,List.set_cons_zero])
         go_loopg [5,7] kj46 (fun kq v5 v7 w'=>∃ (x5_4:Bool) (x7_4:Int),v5=.bool x5_4∧v7=.int .i64 x7_4∧Aside0 (helmsmanlaw12_TreeKinds.l1 kq x5_4 x7_4 l0_0 l0_1 l0_2 l0_3 l1_0 l1_1 l1_2 l1_3=some r)∧Aside0 (kq≤kj46)∧Aside0 (w'.heap[gb481]?=some (.cells #[(.slice A0_0 l0_0.length c0_0),(.slice A0_1 l0_1.length c0_1),(.slice A0_2 l0_2.length c0_2),(.slice A0_3 l0_3.length c0_3)] 43 (0,0)))∧Aside0 (w'.heap[gb482]?=some (.cells #[(.slice A1_0 l1_0.length c1_0),(.slice A1_1 l1_1.length c1_1),(.slice A1_2 l1_2.length c1_2),(.slice A1_3 l1_3.length c1_3)] 43 (0,0)))∧Aside0 (Below w.heap.size w w'))
         case atStart=>exact ⟨(x5_46),(0),rf_,rf_,H',⟨Nat.le_refl _⟩,⟨kb_ BK481.out⟩,⟨kb_ BK482.out⟩,⟨bl_ HB.out⟩⟩
         case round=>as_aux_lemma=>
          clear H'
          (try clear c1);(try clear c2);(try clear p2);(try clear c3);(try clear c4);(try clear p4);(try clear q4);(try clear hx4);(try clear c5);(try clear p6);(try clear c7);(try clear c7b0);(try clear c8);(try clear c10);(try clear c12);(try clear c16);(try clear c17);(try clear c22);(try clear c23);(try clear c23b0);(try clear c23b1);(try clear c23b2);(try clear c24);(try clear c24b0);(try clear c24b1);(try clear c24b2);(try clear c25);(try clear c31);(try clear c37);(try clear c43);(try clear c48);(try clear p48);(try clear q48);(try clear hx48);(try clear c49);(try clear c49b0);(try clear c50);(try clear c50b0);(try clear c51);(try clear c51b0);(try clear c52);(try clear c55);(try clear hcz13_0);(try clear hcz13_1);(try clear hcz13_2);(try clear hcz13_3);(try clear hcz15_0);(try clear hcz15_1);(try clear hcz15_2);(try clear hcz15_3);(try clear hcz26_0);(try clear hcz26_1);(try clear hcz26_2);(try clear hcz26_3);(try clear hcz27_0);(try clear hcz27_1);(try clear hcz27_2);(try clear hcz27_3);(try clear hcz29_0);(try clear hcz29_1);(try clear hcz29_2);(try clear hcz29_3);(try clear hcz30_0);(try clear hcz30_1);(try clear hcz30_2);(try clear hcz30_3);(try clear hcz32_0);(try clear hcz32_1);(try clear hcz32_2);(try clear hcz32_3);(try clear hcz33_0);(try clear hcz33_1);(try clear hcz33_2);(try clear hcz33_3);(try clear hcz35_0);(try clear hcz35_1);(try clear hcz35_2);(try clear hcz35_3);(try clear hcz36_0);(try clear hcz36_1);(try clear hcz36_2);(try clear hcz36_3);(try clear hcz38_0);(try clear hcz38_1);(try clear hcz38_2);(try clear hcz38_3);(try clear hcz39_0);(try clear hcz39_1);(try clear hcz39_2);(try clear hcz39_3);(try clear hcz41_0);(try clear hcz41_1);(try clear hcz41_2);(try clear hcz41_3);(try clear hcz42_0);(try clear hcz42_1);(try clear hcz42_2);(try clear hcz42_3);(try clear hcz44_0);(try clear hcz44_1);(try clear hcz44_2);(try clear hcz44_3);(try clear hcz45_0);(try clear hcz45_1);(try clear hcz45_2);(try clear hcz45_3);(try clear hcz53_0);(try clear hcz53_1);(try clear hcz53_2);(try clear hcz53_3);(try clear hcz56_0);(try clear hcz56_1);(try clear hcz56_2);(try clear hcz56_3);(try clear hcz9_0);(try clear hcz9_1);(try clear hcz9_2);(try clear hcz9_3);(try clear hfz13_0);(try clear hfz13_1);(try clear hfz13_2);(try clear hfz13_3);(try clear hfz15_0);(try clear hfz15_1);(try clear hfz15_2);(try clear hfz15_3);(try clear hfz26_0);(try clear hfz26_1);(try clear hfz26_2);(try clear hfz26_3);(try clear hfz27_0);(try clear hfz27_1);(try clear hfz27_2);(try clear hfz27_3);(try clear hfz29_0);(try clear hfz29_1);(try clear hfz29_2);(try clear hfz29_3);(try clear hfz30_0);(try clear hfz30_1);(try clear hfz30_2);(try clear hfz30_3);(try clear hfz32_0);(try clear hfz32_1);(try clear hfz32_2);(try clear hfz32_3);(try clear hfz33_0);(try clear hfz33_1);(try clear hfz33_2);(try clear hfz33_3);(try clear hfz35_0);(try clear hfz35_1);(try clear hfz35_2);(try clear hfz35_3);(try clear hfz36_0);(try clear hfz36_1);(try clear hfz36_2);(try clear hfz36_3);(try clear hfz38_0);(try clear hfz38_1);(try clear hfz38_2);(try clear hfz38_3);(try clear hfz39_0);(try clear hfz39_1);(try clear hfz39_2);(try clear hfz39_3);(try clear hfz41_0);(try clear hfz41_1);(try clear hfz41_2);(try clear hfz41_3);(try clear hfz42_0);(try clear hfz42_1);(try clear hfz42_2);(try clear hfz42_3);(try clear hfz44_0);(try clear hfz44_1);(try clear hfz44_2);(try clear hfz44_3);(try clear hfz45_0);(try clear hfz45_1);(try clear hfz45_2);(try clear hfz45_3);(try clear hfz53_0);(try clear hfz53_1);(try clear hfz53_2);(try clear hfz53_3);(try clear hfz56_0);(try clear hfz56_1);(try clear hfz56_2);(try clear hfz56_3);(try clear hfz9_0);(try clear hfz9_1);(try clear hfz9_2);(try clear hfz9_3);(try clear hx487_0);(try clear hx487_1);(try clear hx487_2);(try clear hx488_0);(try clear hx488_1);(try clear hx488_2);(try clear p2);(try clear p4);(try clear p48);(try clear p487);(try clear p488);(try clear p6);(try clear q4);(try clear q48);(try clear q487);(try clear q488)
          obtain ⟨x5_4,x7_4,rfl,rfl,HA,HK4,BK481,BK482,HB⟩:=hrel
          cases gk with
          | zero=>exact absurd HA.out (by simp [helmsmanlaw12_TreeKinds.l1])
          | succ k4=>
           have H:=HA.out
           clear HA
           simp only [helmsmanlaw12_TreeKinds.l1] at H
           by_cases c58:x5_4=true
           ·subst c58
            have H1:(if x7_4 < (l0_2.length:Int) then (if 0≤x7_4 then (if x7_4 < (l1_2.length:Int) then (if ((rd_T69 l0_2 x7_4).f0).toList=((rd_T69 l1_2 x7_4).f0).toList then ((helmsmanref12_SameStmts.f k4 ((rd_T69 l0_2 x7_4).f1) ((rd_T69 l1_2 x7_4).f1)).bind fun t493=>(helmsmanlaw12_TreeKinds.l1 k4 t493 (wrap64 (x7_4+1)) l0_0 l0_1 l0_2 l0_3 l1_0 l1_1 l1_2 l1_3)) else (helmsmanlaw12_TreeKinds.l1 k4 false (wrap64 (x7_4+1)) l0_0 l0_1 l0_2 l0_3 l1_0 l1_1 l1_2 l1_3)) else (none)) else (none)) else (helmsmanlaw12_TreeKinds.j5 k4 true l0_0 l0_1 l0_2 l0_3 l1_0 l1_1 l1_2 l1_3))=some r:=by rw [if_pos rfl] at H;exact H
            clear H
            have H:=H1
            clear H1
            by_cases c59:x7_4 < (l0_2.length:Int)
            ·rw [if_pos c59] at H
             have c59b0:decide (x7_4 < (l0_2.length:Int))=true:=decide_eq_true c59
             clear c59
             (first|rw [c59b0]|(simp only [i64_w,i32_w];rw [c59b0])|skip)
             by_cases c60:0≤x7_4
             ·rw [if_pos c60] at H
              have c60b0:decide (0≤x7_4)=true:=decide_eq_true c60
              clear c60
              by_cases c61:x7_4 < (l1_2.length:Int)
              ·rw [if_pos c61] at H
               have c61b0:decide (x7_4 < (l1_2.length:Int))=true:=decide_eq_true c61
               clear c61
               by_cases c62:((rd_T69 l0_2 x7_4).f0).toList=((rd_T69 l1_2 x7_4).f0).toList
               ·rw [if_pos c62] at H
                have c62b0:(((rd_T69 l0_2 x7_4).f0).toList == ((rd_T69 l1_2 x7_4).f0).toList)=true:=beq_iff_eq.mpr c62
                have c62b1:(((rd_T69 l0_2 x7_4).f0).toList != ((rd_T69 l1_2 x7_4).f0).toList)=false:=bne_eq_false_iff_eq.mpr c62
                clear c62
                replace H:=Option.bind_eq_some_iff.mp H
                obtain ⟨t493,A630,H⟩:=H
                replace H:(helmsmanlaw12_TreeKinds.l1 k4 t493 (wrap64 (x7_4+1)) l0_0 l0_1 l0_2 l0_3 l1_0 l1_1 l1_2 l1_3)=some r:=H
                have A63:=Aside0.mk A630
                clear A630
                have H':=Aside0.mk H
                clear H
                have hnb64:=NB481_482.out
                have hnc64:=NB482_481.out
                have hcz65_0:wr.cell? ⟨gb481,0,none⟩=some (.slice A0_0 l0_0.length c0_0):=zc_ BK481.out 0
                have hcz65_1:wr.cell? ⟨gb481,1,none⟩=some (.slice A0_1 l0_1.length c0_1):=zc_ BK481.out 1
                have hcz65_2:wr.cell? ⟨gb481,2,none⟩=some (.slice A0_2 l0_2.length c0_2):=zc_ BK481.out 2
                have hcz65_3:wr.cell? ⟨gb481,3,none⟩=some (.slice A0_3 l0_3.length c0_3):=zc_ BK481.out 3
                have hfz65_0:=blk_frozen BK481.out 0
                have hfz65_1:=blk_frozen BK481.out 1
                have hfz65_2:=blk_frozen BK481.out 2
                have hfz65_3:=blk_frozen BK481.out 3
                try go_wp2
                have n0_:=Aside0.mk (blk_drew BK481.out)
                have n1_:=Aside0.mk (blk_drew BK482.out)
                have n2_:=Aside0.mk (below_drew1 HB.out)
                clear BK481
                clear BK482
                clear HB
                have BK481:=n0_
                have BK482:=n1_
                have HB:=n2_
                clear n0_ n1_ n2_
                have p489:0≤(x7_4:Int):=of_decide_eq_true as_
                have q489:x7_4 < (l0_2.length:Int):=of_decide_eq_true as_
                obtain ⟨ad489,A489_1,c489_1,e489,hx489_0,hx489_1,hl489_1,hi489_1⟩:=at_T69 HR0_2.out x7_4 p489 q489
                have hw489_1:=hx489_1
                have hw489_0:=hx489_0
                cases e489
                replace hx489_0:=(cb_ HB.out hx489_0:_)
                replace hx489_1:=(cb_ HB.out hx489_1:_)
                have HR489_1:=Aside0.mk hi489_1
                have HC489_1:=Aside0.mk hl489_1
                clear hi489_1 hl489_1
                replace p489:=eq_true p489
                replace q489:=eq_true q489
                have p490:0≤(x7_4:Int):=of_decide_eq_true as_
                have q490:x7_4 < (l1_2.length:Int):=of_decide_eq_true as_
                obtain ⟨ad490,A490_1,c490_1,e490,hx490_0,hx490_1,hl490_1,hi490_1⟩:=at_T69 HR1_2.out x7_4 p490 q490
                have hw490_1:=hx490_1
                have hw490_0:=hx490_0
                cases e490
                replace hx490_0:=(cb_ HB.out hx490_0:_)
                replace hx490_1:=(cb_ HB.out hx490_1:_)
                have HR490_1:=Aside0.mk hi490_1
                have HC490_1:=Aside0.mk hl490_1
                clear hi490_1 hl490_1
                replace p490:=eq_true p490
                replace q490:=eq_true q490
                have p491:0≤(x7_4:Int):=of_decide_eq_true as_
                have q491:x7_4 < (l0_2.length:Int):=of_decide_eq_true as_
                obtain ⟨ad491,A491_1,c491_1,e491,hx491_0,hx491_1,hl491_1,hi491_1⟩:=at_T69 HR0_2.out x7_4 p491 q491
                have hw491_1:=hx491_1
                have hw491_0:=hx491_0
                obtain rfl:ad489=ad491:=(by injection e491)
                replace hx491_0:=(cb_ HB.out hx491_0:_)
                replace hx491_1:=(cb_ HB.out hx491_1:_)
                have HR491_1:=Aside0.mk hi491_1
                have HC491_1:=Aside0.mk hl491_1
                clear hi491_1 hl491_1
                replace p491:=eq_true p491
                replace q491:=eq_true q491
                have ea_:=Option.some.inj (hx489_1.symm.trans hx491_1)
                injection ea_ with ea_ en_ ec_
                subst ea_
                subst ec_
                clear en_
                have p492:0≤(x7_4:Int):=of_decide_eq_true as_
                have q492:x7_4 < (l1_2.length:Int):=of_decide_eq_true as_
                obtain ⟨ad492,A492_1,c492_1,e492,hx492_0,hx492_1,hl492_1,hi492_1⟩:=at_T69 HR1_2.out x7_4 p492 q492
                have hw492_1:=hx492_1
                have hw492_0:=hx492_0
                obtain rfl:ad490=ad492:=(by injection e492)
                replace hx492_0:=(cb_ HB.out hx492_0:_)
                replace hx492_1:=(cb_ HB.out hx492_1:_)
                have HR492_1:=Aside0.mk hi492_1
                have HC492_1:=Aside0.mk hl492_1
                clear hi492_1 hl492_1
                replace p492:=eq_true p492
                replace q492:=eq_true q492
                have ea_:=Option.some.inj (hx490_1.symm.trans hx492_1)
                injection ea_ with ea_ en_ ec_
                subst ea_
                subst ec_
                clear en_
                refine start_ (n:=29) (S:=fun w'=>w'.cell? ⟨gb481,0,none⟩=some (.slice A0_0 l0_0.length c0_0)∧w'.cell? ⟨gb481,1,none⟩=some (.slice A0_1 l0_1.length c0_1)∧w'.cell? ⟨gb481,2,none⟩=some (.slice (some ad489) l0_2.length c0_2)∧w'.cell? ⟨gb481,3,none⟩=some (.slice A0_3 l0_3.length c0_3)∧w'.cell? ⟨gb482,0,none⟩=some (.slice A1_0 l1_0.length c1_0)∧w'.cell? ⟨gb482,1,none⟩=some (.slice A1_1 l1_1.length c1_1)∧w'.cell? ⟨gb482,2,none⟩=some (.slice (some ad490) l1_2.length c1_2)∧w'.cell? ⟨gb482,3,none⟩=some (.slice A1_3 l1_3.length c1_3)∧w'.cell? (ad489.add ((x7_4).toNat * 2))=some (.string ((rd_T69 l0_2 x7_4).f0))∧w'.cell? ⟨(ad489.add ((x7_4).toNat * 2)).block,(ad489.add ((x7_4).toNat * 2)).off+1,none⟩=some (.slice A489_1 ((rd_T69 l0_2 x7_4).f1).length c489_1)∧w'.cell? (ad490.add ((x7_4).toNat * 2))=some (.string ((rd_T69 l1_2 x7_4).f0))∧w'.cell? ⟨(ad490.add ((x7_4).toNat * 2)).block,(ad490.add ((x7_4).toNat * 2)).off+1,none⟩=some (.slice A490_1 ((rd_T69 l1_2 x7_4).f1).length c490_1)∧w'.cell? (ad489.add ((x7_4).toNat * 2))=some (.string ((rd_T69 l0_2 x7_4).f0))∧w'.cell? ⟨(ad489.add ((x7_4).toNat * 2)).block,(ad489.add ((x7_4).toNat * 2)).off+1,none⟩=some (.slice A489_1 ((rd_T69 l0_2 x7_4).f1).length c489_1)∧w'.cell? (ad490.add ((x7_4).toNat * 2))=some (.string ((rd_T69 l1_2 x7_4).f0))∧w'.cell? ⟨(ad490.add ((x7_4).toNat * 2)).block,(ad490.add ((x7_4).toNat * 2)).off+1,none⟩=some (.slice A490_1 ((rd_T69 l1_2 x7_4).f1).length c490_1)) (ds:=[]) (flg 29 0) (by kernel_rfl) rfl (by kernel_rfl) ⟨zc_ BK481.out 0,zc_ BK481.out 1,zc_ BK481.out 2,zc_ BK481.out 3,zc_ BK482.out 0,zc_ BK482.out 1,zc_ BK482.out 2,zc_ BK482.out 3,((cb_ HB.out hw489_0:_)),((cb_ HB.out hw489_1:_)),((cb_ HB.out hw490_0:_)),((cb_ HB.out hw490_1:_)),((cb_ HB.out hw491_0:_)),((cb_ HB.out hw491_1:_)),((cb_ HB.out hw492_0:_)),((cb_ HB.out hw492_1:_))⟩ (fun hHeld=>?_);refine with_tabW helmsmanlaw12_TreeKinds.tab11 helmsmanlaw12_TreeKinds.bits11 (fun HT_ HW_=>?_)
                generalize wr.drew=w66 at BK481 BK482 HB HR489_1 HR490_1 HR491_1 HR492_1 hx489_0 hx489_1 hx490_0 hx490_1 hx491_0 hx491_1 hx492_0 hx492_1 hHeld ⊢
                refine pur_ 0 82 (flg 29 1) rfl rfl (any_of HT_.out (by kernel_rfl)) (fun _ _ _ h=>h) ?_
                refine pur_ 2 84 (flg 29 5) rfl rfl (any_of HT_.out (by kernel_rfl)) (fun _ _ _ h=>h) ?_
                refine pur_ 6 88 (flg 29 69) rfl rfl (any_of HT_.out (by kernel_rfl)) (fun _ _ _ h=>h) ?_
                refine pur_ 8 90 (flg 29 325) rfl rfl (any_of HT_.out (by kernel_rfl)) (fun _ _ _ h=>h) ?_
                refine tak_ 1 83 (flg 29 327) rfl rfl (take_ofW HT_.out HW_.out (by kernel_rfl)) (fun _ _ _ h=>h) hHeld ?_
                refine pur_ 3 85 (flg 29 335) rfl rfl (any_of HT_.out (by kernel_rfl)) (fun _ _ _ h=>h) ?_
                refine pur_ 4 86 (flg 29 351) rfl rfl (any_of HT_.out (by kernel_rfl)) (fun _ _ _ h=>h) ?_
                refine tak_ 5 87 (flg 29 383) rfl rfl (take_ofW HT_.out HW_.out (by kernel_rfl)) (fun _ _ _ h=>h) hHeld ?_
                refine tak_ 7 89 (flg 29 511) rfl rfl (take_ofW HT_.out HW_.out (by kernel_rfl)) (fun _ _ _ h=>h) hHeld ?_
                refine pur_ 9 91 (flg 29 1023) rfl rfl (any_of HT_.out (by kernel_rfl)) (fun _ _ _ h=>h) ?_
                refine pur_ 10 92 (flg 29 2047) rfl rfl (any_of HT_.out (by kernel_rfl)) (fun _ _ _ h=>h) ?_
                refine tak_ 11 93 (flg 29 4095) rfl rfl (take_ofW HT_.out HW_.out (by kernel_rfl)) (fun _ _ _ h=>h) hHeld ?_
                refine pur_ 12 94 (flg 29 8191) rfl rfl (any_of HT_.out (by kernel_rfl)) (fun _ _ _ h=>h) ?_
                refine pur_ 13 95 (flg 29 16383) rfl rfl (any_of HT_.out (by kernel_rfl)) (fun _ _ _ h=>h) ?_
                refine pur_ 14 96 (flg 29 32767) rfl rfl (any_of HT_.out (by kernel_rfl)) (fun _ _ _ h=>h) ?_
                refine pur_ 16 98 (flg 29 98303) rfl rfl (any_of HT_.out (by kernel_rfl)) (fun _ _ _ h=>h) ?_
                refine pur_ 20 102 (flg 29 1146879) rfl rfl (any_of HT_.out (by kernel_rfl)) (fun _ _ _ h=>h) ?_
                refine pur_ 22 104 (flg 29 5341183) rfl rfl (any_of HT_.out (by kernel_rfl)) (fun _ _ _ h=>h) ?_
                refine tak_ 15 97 (flg 29 5373951) rfl rfl (take_ofW HT_.out HW_.out (by kernel_rfl)) (fun _ _ _ h=>h) hHeld ?_
                refine pur_ 17 99 (flg 29 5505023) rfl rfl (any_of HT_.out (by kernel_rfl)) (fun _ _ _ h=>h) ?_
                refine pur_ 18 100 (flg 29 5767167) rfl rfl (any_of HT_.out (by kernel_rfl)) (fun _ _ _ h=>h) ?_
                refine tak_ 19 101 (flg 29 6291455) rfl rfl (take_ofW HT_.out HW_.out (by kernel_rfl)) (fun _ _ _ h=>h) hHeld ?_
                refine tak_ 21 103 (flg 29 8388607) rfl rfl (take_ofW HT_.out HW_.out (by kernel_rfl)) (fun _ _ _ h=>h) hHeld ?_
                refine pur_ 23 105 (flg 29 16777215) rfl rfl (any_of HT_.out (by kernel_rfl)) (fun _ _ _ h=>h) ?_
                refine pur_ 24 106 (flg 29 33554431) rfl rfl (any_of HT_.out (by kernel_rfl)) (fun _ _ _ h=>h) ?_
                refine tak_ 25 107 (flg 29 67108863) rfl rfl (take_ofW HT_.out HW_.out (by kernel_rfl)) (fun _ _ _ h=>h) hHeld ?_
                refine one_ (i:=26) (N:=some 108) (flg 29 134217727) rfl rfl (one_of HT_.out (by kernel_rfl)) (by decide) (fun K hK=>?_)
                refine goes_ Tryd.func25 (by kernel_rfl) rfl #[.slice A489_1 ((rd_T69 l0_2 x7_4).f1).length c489_1,.slice A490_1 ((rd_T69 l1_2 x7_4).f1).length c490_1] (by rfl) rfl rfl ar_ ?_
                with_reducible refine (helmsmanref12_SameStmts.calls k4 _ _ ((rd_T69 l0_2 x7_4).f1) _ _ ((rd_T69 l1_2 x7_4).f1) t493 _ ?side1 ?side2 ?side3 ?side4 A63.out).mono ?_
                (case side1=>exact kc_ HR491_1.out HB.out)
                (case side2=>exact HC491_1.out)
                (case side3=>exact kc_ HR492_1.out HB.out)
                (case side4=>exact HC492_1.out)
                rintro e w67 ⟨rfl,hb⟩
                refine ⟨_,rfl,?_⟩
                have n0_:=Aside0.mk (bb_ BK481.out hb)
                have n1_:=Aside0.mk (bb_ BK482.out hb)
                have n2_:=Aside0.mk (below_step (bl_ HB.out) hb)
                clear BK481
                clear BK482
                clear HB
                have BK481:=n0_
                have BK482:=n1_
                have HB:=n2_
                clear n0_ n1_ n2_
                (try clear hb)
                (try clear hb2)
                (try clear hk)
                (try clear hi)
                refine hK.out _ _ ⟨zc_ BK481.out 0,zc_ BK481.out 1,zc_ BK481.out 2,zc_ BK481.out 3,zc_ BK482.out 0,zc_ BK482.out 1,zc_ BK482.out 2,zc_ BK482.out 3,((cb_ HB.out hw489_0:_)),((cb_ HB.out hw489_1:_)),((cb_ HB.out hw490_0:_)),((cb_ HB.out hw490_1:_)),((cb_ HB.out hw491_0:_)),((cb_ HB.out hw491_1:_)),((cb_ HB.out hw492_0:_)),((cb_ HB.out hw492_1:_))⟩ (fun hHeld=>?_)
                clear hK K
                refine norm_ (a':=?_) ?_ ?_
                rotate_left
                ·show Act.put _ (some 108) _=_
                 simp only [Act.put,List.setIfInBounds_toArray,List.set_cons_zero,List.set_cons_succ,i64_w,i32_w]
                 rfl
                refine pur_ 27 109 (flg 29 268435455) rfl rfl (any_of HT_.out (by kernel_rfl)) (fun _ _ _ h=>h) ?_
                refine pur_ 28 5 (flg 29 536870911) rfl rfl (any_of HT_.out (by kernel_rfl)) (fun _ _ _ h=>h) ?_
                refine done_ (done_of HT_.out (by kernel_rfl)) ?_
                try go_wp2
                go_roundg k4
                case measure=>have:=HJ2.out;have:=HJ19.out;have:=HJ46.out;have:=HK4.out;omega
                case rel=>exact ⟨(t493),(wrap64 (x7_4+1)),rf_,rf_,H',⟨by have:=HJ2.out;have:=HJ19.out;have:=HJ46.out;have:=HK4.out;omega⟩,⟨kb_ BK481.out⟩,⟨kb_ BK482.out⟩,⟨bl_ HB.out⟩⟩
               ·rw [if_neg c62] at H
                have c62b0:(((rd_T69 l0_2 x7_4).f0).toList == ((rd_T69 l1_2 x7_4).f0).toList)=false:=beq_eq_false_iff_ne.mpr c62
                have c62b1:(((rd_T69 l0_2 x7_4).f0).toList != ((rd_T69 l1_2 x7_4).f0).toList)=true:=bne_iff_ne.mpr c62
                have H':=Aside0.mk H
                clear H
                have hnb68:=NB481_482.out
                have hnc68:=NB482_481.out
                have hcz69_0:wr.cell? ⟨gb481,0,none⟩=some (.slice A0_0 l0_0.length c0_0):=zc_ BK481.out 0
                have hcz69_1:wr.cell? ⟨gb481,1,none⟩=some (.slice A0_1 l0_1.length c0_1):=zc_ BK481.out 1
                have hcz69_2:wr.cell? ⟨gb481,2,none⟩=some (.slice A0_2 l0_2.length c0_2):=zc_ BK481.out 2
                have hcz69_3:wr.cell? ⟨gb481,3,none⟩=some (.slice A0_3 l0_3.length c0_3):=zc_ BK481.out 3
                have hfz69_0:=blk_frozen BK481.out 0
                have hfz69_1:=blk_frozen BK481.out 1
                have hfz69_2:=blk_frozen BK481.out 2
                have hfz69_3:=blk_frozen BK481.out 3
                try go_wp2
                have n0_:=Aside0.mk (blk_drew BK481.out)
                have n1_:=Aside0.mk (blk_drew BK482.out)
                have n2_:=Aside0.mk (below_drew1 HB.out)
                clear BK481
                clear BK482
                clear HB
                have BK481:=n0_
                have BK482:=n1_
                have HB:=n2_
                clear n0_ n1_ n2_
                have p489:0≤(x7_4:Int):=of_decide_eq_true as_
                have q489:x7_4 < (l0_2.length:Int):=of_decide_eq_true as_
                obtain ⟨ad489,A489_1,c489_1,e489,hx489_0,hx489_1,hl489_1,hi489_1⟩:=at_T69 HR0_2.out x7_4 p489 q489
                have hw489_1:=hx489_1
                have hw489_0:=hx489_0
                cases e489
                replace hx489_0:=(cb_ HB.out hx489_0:_)
                replace hx489_1:=(cb_ HB.out hx489_1:_)
                have HR489_1:=Aside0.mk hi489_1
                have HC489_1:=Aside0.mk hl489_1
                clear hi489_1 hl489_1
                replace p489:=eq_true p489
                replace q489:=eq_true q489
                have p490:0≤(x7_4:Int):=of_decide_eq_true as_
                have q490:x7_4 < (l1_2.length:Int):=of_decide_eq_true as_
                obtain ⟨ad490,A490_1,c490_1,e490,hx490_0,hx490_1,hl490_1,hi490_1⟩:=at_T69 HR1_2.out x7_4 p490 q490
                have hw490_1:=hx490_1
                have hw490_0:=hx490_0
                cases e490
                replace hx490_0:=(cb_ HB.out hx490_0:_)
                replace hx490_1:=(cb_ HB.out hx490_1:_)
                have HR490_1:=Aside0.mk hi490_1
                have HC490_1:=Aside0.mk hl490_1
                clear hi490_1 hl490_1
                replace p490:=eq_true p490
                replace q490:=eq_true q490
                refine start_ (n:=29) (S:=fun w'=>w'.cell? ⟨gb481,0,none⟩=some (.slice A0_0 l0_0.length c0_0)∧w'.cell? ⟨gb481,1,none⟩=some (.slice A0_1 l0_1.length c0_1)∧w'.cell? ⟨gb481,2,none⟩=some (.slice (some ad489) l0_2.length c0_2)∧w'.cell? ⟨gb481,3,none⟩=some (.slice A0_3 l0_3.length c0_3)∧w'.cell? ⟨gb482,0,none⟩=some (.slice A1_0 l1_0.length c1_0)∧w'.cell? ⟨gb482,1,none⟩=some (.slice A1_1 l1_1.length c1_1)∧w'.cell? ⟨gb482,2,none⟩=some (.slice (some ad490) l1_2.length c1_2)∧w'.cell? ⟨gb482,3,none⟩=some (.slice A1_3 l1_3.length c1_3)∧w'.cell? (ad489.add ((x7_4).toNat * 2))=some (.string ((rd_T69 l0_2 x7_4).f0))∧w'.cell? ⟨(ad489.add ((x7_4).toNat * 2)).block,(ad489.add ((x7_4).toNat * 2)).off+1,none⟩=some (.slice A489_1 ((rd_T69 l0_2 x7_4).f1).length c489_1)∧w'.cell? (ad490.add ((x7_4).toNat * 2))=some (.string ((rd_T69 l1_2 x7_4).f0))∧w'.cell? ⟨(ad490.add ((x7_4).toNat * 2)).block,(ad490.add ((x7_4).toNat * 2)).off+1,none⟩=some (.slice A490_1 ((rd_T69 l1_2 x7_4).f1).length c490_1)) (ds:=[]) (flg 29 0) (by kernel_rfl) rfl (by kernel_rfl) ⟨zc_ BK481.out 0,zc_ BK481.out 1,zc_ BK481.out 2,zc_ BK481.out 3,zc_ BK482.out 0,zc_ BK482.out 1,zc_ BK482.out 2,zc_ BK482.out 3,((cb_ HB.out hw489_0:_)),((cb_ HB.out hw489_1:_)),((cb_ HB.out hw490_0:_)),((cb_ HB.out hw490_1:_))⟩ (fun hHeld=>?_);refine with_tabW helmsmanlaw12_TreeKinds.tab11 helmsmanlaw12_TreeKinds.bits11 (fun HT_ HW_=>?_)
                generalize wr.drew=w70 at BK481 BK482 HB HR489_1 HR490_1 hx489_0 hx489_1 hx490_0 hx490_1 hHeld ⊢
                refine pur_ 0 82 (flg 29 1) rfl rfl (any_of HT_.out (by kernel_rfl)) (fun _ _ _ h=>h) ?_
                refine pur_ 2 84 (flg 29 5) rfl rfl (any_of HT_.out (by kernel_rfl)) (fun _ _ _ h=>h) ?_
                refine pur_ 6 88 (flg 29 69) rfl rfl (any_of HT_.out (by kernel_rfl)) (fun _ _ _ h=>h) ?_
                refine pur_ 8 90 (flg 29 325) rfl rfl (any_of HT_.out (by kernel_rfl)) (fun _ _ _ h=>h) ?_
                refine tak_ 1 83 (flg 29 327) rfl rfl (take_ofW HT_.out HW_.out (by kernel_rfl)) (fun _ _ _ h=>h) hHeld ?_
                refine pur_ 3 85 (flg 29 335) rfl rfl (any_of HT_.out (by kernel_rfl)) (fun _ _ _ h=>h) ?_
                refine pur_ 4 86 (flg 29 351) rfl rfl (any_of HT_.out (by kernel_rfl)) (fun _ _ _ h=>h) ?_
                refine tak_ 5 87 (flg 29 383) rfl rfl (take_ofW HT_.out HW_.out (by kernel_rfl)) (fun _ _ _ h=>h) hHeld ?_
                refine tak_ 7 89 (flg 29 511) rfl rfl (take_ofW HT_.out HW_.out (by kernel_rfl)) (fun _ _ _ h=>h) hHeld ?_
                refine pur_ 9 91 (flg 29 1023) rfl rfl (any_of HT_.out (by kernel_rfl)) (fun _ _ _ h=>h) ?_
                refine pur_ 10 92 (flg 29 2047) rfl rfl (any_of HT_.out (by kernel_rfl)) (fun _ _ _ h=>h) ?_
                refine tak_ 11 93 (flg 29 4095) rfl rfl (take_ofW HT_.out HW_.out (by kernel_rfl)) (fun _ _ _ h=>h) hHeld ?_
                refine pur_ 12 94 (flg 29 8191) rfl rfl (any_of HT_.out (by kernel_rfl)) (fun _ _ _ h=>h) ?_
                refine pur_ 13 95 (flg 29 16383) rfl rfl (any_of HT_.out (by kernel_rfl)) (fun _ _ _ h=>h) ?_
                refine skp_ 14 96 (flg 29 32767) rfl rfl (any_of HT_.out (by kernel_rfl)) (fun _ _ _ h=>h) ?_
                refine skp_ 15 97 (flg 29 65535) rfl rfl (any_of HT_.out (by kernel_rfl)) (fun _ _ _ h=>h) ?_
                refine skp_ 16 98 (flg 29 131071) rfl rfl (any_of HT_.out (by kernel_rfl)) (fun _ _ _ h=>h) ?_
                refine skp_ 17 99 (flg 29 262143) rfl rfl (any_of HT_.out (by kernel_rfl)) (fun _ _ _ h=>h) ?_
                refine skp_ 18 100 (flg 29 524287) rfl rfl (any_of HT_.out (by kernel_rfl)) (fun _ _ _ h=>h) ?_
                refine skp_ 19 101 (flg 29 1048575) rfl rfl (any_of HT_.out (by kernel_rfl)) (fun _ _ _ h=>h) ?_
                refine skp_ 20 102 (flg 29 2097151) rfl rfl (any_of HT_.out (by kernel_rfl)) (fun _ _ _ h=>h) ?_
                refine skp_ 21 103 (flg 29 4194303) rfl rfl (any_of HT_.out (by kernel_rfl)) (fun _ _ _ h=>h) ?_
                refine skp_ 22 104 (flg 29 8388607) rfl rfl (any_of HT_.out (by kernel_rfl)) (fun _ _ _ h=>h) ?_
                refine skp_ 23 105 (flg 29 16777215) rfl rfl (any_of HT_.out (by kernel_rfl)) (fun _ _ _ h=>h) ?_
                refine skp_ 24 106 (flg 29 33554431) rfl rfl (any_of HT_.out (by kernel_rfl)) (fun _ _ _ h=>h) ?_
                refine skp_ 25 107 (flg 29 67108863) rfl rfl (any_of HT_.out (by kernel_rfl)) (fun _ _ _ h=>h) ?_
                refine skp_ 26 108 (flg 29 134217727) rfl rfl (any_of HT_.out (by kernel_rfl)) (fun _ _ _ h=>h) ?_
                refine pur_ 27 109 (flg 29 268435455) rfl rfl (any_of HT_.out (by kernel_rfl)) (fun _ _ _ h=>h) ?_
                refine pur_ 28 5 (flg 29 536870911) rfl rfl (any_of HT_.out (by kernel_rfl)) (fun _ _ _ h=>h) ?_
                refine done_ (done_of HT_.out (by kernel_rfl)) ?_
                try go_wp2
                go_roundg k4
                case measure=>have:=HJ2.out;have:=HJ19.out;have:=HJ46.out;have:=HK4.out;omega
                case rel=>exact ⟨(false),(wrap64 (x7_4+1)),rf_,rf_,H',⟨by have:=HJ2.out;have:=HJ19.out;have:=HJ46.out;have:=HK4.out;omega⟩,⟨kb_ BK481.out⟩,⟨kb_ BK482.out⟩,⟨bl_ HB.out⟩⟩
              ·rw [if_neg c61] at H
               exact absurd H (by simp)
             ·rw [if_neg c60] at H
              exact absurd H (by simp)
            ·rw [if_neg c59] at H
             have c59b0:decide (x7_4 < (l0_2.length:Int))=false:=decide_eq_false c59
             clear c59
             (first|rw [c59b0]|(simp only [i64_w,i32_w];rw [c59b0])|skip)
             have H':=Aside0.mk H
             clear H
             have hnb71:=NB481_482.out
             have hnc71:=NB482_481.out
             have hcz72_0:wr.cell? ⟨gb481,0,none⟩=some (.slice A0_0 l0_0.length c0_0):=zc_ BK481.out 0
             have hcz72_1:wr.cell? ⟨gb481,1,none⟩=some (.slice A0_1 l0_1.length c0_1):=zc_ BK481.out 1
             have hcz72_2:wr.cell? ⟨gb481,2,none⟩=some (.slice A0_2 l0_2.length c0_2):=zc_ BK481.out 2
             have hcz72_3:wr.cell? ⟨gb481,3,none⟩=some (.slice A0_3 l0_3.length c0_3):=zc_ BK481.out 3
             have hfz72_0:=blk_frozen BK481.out 0
             have hfz72_1:=blk_frozen BK481.out 1
             have hfz72_2:=blk_frozen BK481.out 2
             have hfz72_3:=blk_frozen BK481.out 3
             go_wp2
             go_meet
             case rel=>exact ⟨_,(true),rf_,H',⟨by have:=HJ2.out;have:=HJ19.out;have:=HJ46.out;have:=HK4.out;first|omega|exact Nat.le_refl _⟩,⟨kb_ BK481.out⟩,⟨kb_ BK482.out⟩,⟨bl_ HB.out⟩⟩
           ·replace c58:=Bool.eq_false_iff.mpr c58
            subst c58
            have H1:(helmsmanlaw12_TreeKinds.j5 k4 false l0_0 l0_1 l0_2 l0_3 l1_0 l1_1 l1_2 l1_3)=some r:=by rw [if_neg (show ¬ (false=true) by decide)] at H;exact H
            clear H
            have H:=H1
            clear H1
            have H':=Aside0.mk H
            clear H
            go_wp2
            go_meet
            case rel=>exact ⟨_,(false),rf_,H',⟨by have:=HJ2.out;have:=HJ19.out;have:=HJ46.out;have:=HK4.out;first|omega|exact Nat.le_refl _⟩,⟨kb_ BK481.out⟩,⟨kb_ BK482.out⟩,⟨bl_ HB.out⟩⟩
        case rest=>as_aux_lemma=>
         clear HC57
         (try clear c1);(try clear c2);(try clear p2);(try clear c4);(try clear p4);(try clear q4);(try clear hx4);(try clear c5);(try clear c6);(try clear p6);(try clear c7);(try clear c25);(try clear c48);(try clear p48);(try clear q48);(try clear hx48);(try clear c49);(try clear p49);(try clear q49);(try clear hx49);(try clear c58);(try clear c59);(try clear c59b0);(try clear c60);(try clear c61);(try clear c62);(try clear c62b0);(try clear c62b1);(try clear p64);(try clear c68);(try clear c71);(try clear hcz69_0);(try clear hcz69_1);(try clear hcz69_2);(try clear hcz69_3);(try clear hcz72_0);(try clear hcz72_1);(try clear hcz72_2);(try clear hcz72_3);(try clear hfz69_0);(try clear hfz69_1);(try clear hfz69_2);(try clear hfz69_3);(try clear hfz72_0);(try clear hfz72_1);(try clear hfz72_2);(try clear hfz72_3);(try clear hx489_0);(try clear hx489_1);(try clear hx490_0);(try clear hx490_1);(try clear hx491_0);(try clear hx491_1);(try clear hx492_0);(try clear hx492_1);(try clear p489);(try clear p490);(try clear p491);(try clear p492);(try clear q489);(try clear q490);(try clear q491);(try clear q492)
         obtain ⟨kq,x5_56,rfl,HA,HJ56,BK481,BK482,HB⟩:=hcut
         cases kq with
         | zero=>exact absurd HA.out (by simp [helmsmanlaw12_TreeKinds.j5])
         | succ kj56=>
          have H:=HA.out
          clear HA
          simp only [helmsmanlaw12_TreeKinds.j5] at H
          have H':=Aside0.mk H
          clear H
          go_wp2
          (try simp only [Act.put,List.setIfInBounds_toArray,List.set_cons_succ,List.set_cons_zero])
          go_loopg [5,8] kj56 (fun kq v5 v8 w'=>∃ (x5_5:Bool) (x8_5:Int),v5=.bool x5_5∧v8=.int .i64 x8_5∧Aside0 (helmsmanlaw12_TreeKinds.l2 kq x5_5 x8_5 l0_0 l0_1 l0_2 l0_3 l1_0 l1_1 l1_2 l1_3=some r)∧Aside0 (kq≤kj56)∧Aside0 (w'.heap[gb481]?=some (.cells #[(.slice A0_0 l0_0.length c0_0),(.slice A0_1 l0_1.length c0_1),(.slice A0_2 l0_2.length c0_2),(.slice A0_3 l0_3.length c0_3)] 43 (0,0)))∧Aside0 (w'.heap[gb482]?=some (.cells #[(.slice A1_0 l1_0.length c1_0),(.slice A1_1 l1_1.length c1_1),(.slice A1_2 l1_2.length c1_2),(.slice A1_3 l1_3.length c1_3)] 43 (0,0)))∧Aside0 (Below w.heap.size w w'))
          case atStart=>exact ⟨(x5_56),(0),rf_,rf_,H',⟨Nat.le_refl _⟩,⟨kb_ BK481.out⟩,⟨kb_ BK482.out⟩,⟨bl_ HB.out⟩⟩
          case round=>as_aux_lemma=>
           clear H'
           (try clear c1);(try clear c2);(try clear p2);(try clear c4);(try clear p4);(try clear q4);(try clear hx4);(try clear c5);(try clear c6);(try clear p6);(try clear c7);(try clear c25);(try clear c48);(try clear p48);(try clear q48);(try clear hx48);(try clear c49);(try clear p49);(try clear q49);(try clear hx49);(try clear c58);(try clear c59);(try clear c59b0);(try clear c60);(try clear c61);(try clear c62);(try clear c62b0);(try clear c62b1);(try clear p64);(try clear c68);(try clear c71);(try clear hcz69_0);(try clear hcz69_1);(try clear hcz69_2);(try clear hcz69_3);(try clear hcz72_0);(try clear hcz72_1);(try clear hcz72_2);(try clear hcz72_3);(try clear hfz69_0);(try clear hfz69_1);(try clear hfz69_2);(try clear hfz69_3);(try clear hfz72_0);(try clear hfz72_1);(try clear hfz72_2);(try clear hfz72_3);(try clear hx489_0);(try clear hx489_1);(try clear hx490_0);(try clear hx490_1);(try clear hx491_0);(try clear hx491_1);(try clear hx492_0);(try clear hx492_1);(try clear p2);(try clear p4);(try clear p48);(try clear p489);(try clear p49);(try clear p490);(try clear p491);(try clear p492);(try clear p6);(try clear p64);(try clear q4);(try clear q48);(try clear q489);(try clear q49);(try clear q490);(try clear q491);(try clear q492)
           obtain ⟨x5_5,x8_5,rfl,rfl,HA,HK5,BK481,BK482,HB⟩:=hrel
           cases gk with
           | zero=>exact absurd HA.out (by simp [helmsmanlaw12_TreeKinds.l2])
           | succ k5=>
            have H:=HA.out
            clear HA
            simp only [helmsmanlaw12_TreeKinds.l2] at H
            have HC73:=Aside0.mk H
            clear H
            go_upto_region 13 with (fail)
            go_cut [117] (fun v117 wc=>∃ (kq:Nat) (x117_72:Bool),v117=.bool x117_72∧Aside0 (helmsmanlaw12_TreeKinds.j7 kq x5_5 x8_5 x117_72 l0_0 l0_1 l0_2 l0_3 l1_0 l1_1 l1_2 l1_3=some r)∧Aside0 (kq≤k5)∧Aside0 (wc.heap[gb481]?=some (.cells #[(.slice A0_0 l0_0.length c0_0),(.slice A0_1 l0_1.length c0_1),(.slice A0_2 l0_2.length c0_2),(.slice A0_3 l0_3.length c0_3)] 43 (0,0)))∧Aside0 (wc.heap[gb482]?=some (.cells #[(.slice A1_0 l1_0.length c1_0),(.slice A1_1 l1_1.length c1_1),(.slice A1_2 l1_2.length c1_2),(.slice A1_3 l1_3.length c1_3)] 43 (0,0)))∧Aside0 (Below w.heap.size w wc))
            case first=>as_aux_lemma=>
             have H:=HC73.out
             clear HC73
             by_cases c74:x5_5=true
             ·subst c74
              have H1:(helmsmanlaw12_TreeKinds.j7 k5 true x8_5 (decide (x8_5 < (l0_0.length:Int))) l0_0 l0_1 l0_2 l0_3 l1_0 l1_1 l1_2 l1_3)=some r:=by rw [if_pos rfl] at H;exact H
              clear H
              have H:=H1
              clear H1
              have H':=Aside0.mk H
              clear H
              have hnb75:=NB481_482.out
              have hnc75:=NB482_481.out
              have hcz76_0:wr.cell? ⟨gb481,0,none⟩=some (.slice A0_0 l0_0.length c0_0):=zc_ BK481.out 0
              have hcz76_1:wr.cell? ⟨gb481,1,none⟩=some (.slice A0_1 l0_1.length c0_1):=zc_ BK481.out 1
              have hcz76_2:wr.cell? ⟨gb481,2,none⟩=some (.slice A0_2 l0_2.length c0_2):=zc_ BK481.out 2
              have hcz76_3:wr.cell? ⟨gb481,3,none⟩=some (.slice A0_3 l0_3.length c0_3):=zc_ BK481.out 3
              have hfz76_0:=blk_frozen BK481.out 0
              have hfz76_1:=blk_frozen BK481.out 1
              have hfz76_2:=blk_frozen BK481.out 2
              have hfz76_3:=blk_frozen BK481.out 3
              go_wp2
              go_meet
              case rel=>exact ⟨_,(decide (x8_5 < (l0_0.length:Int))),rf_,H',⟨by have:=HJ2.out;have:=HJ19.out;have:=HJ46.out;have:=HJ56.out;have:=HK5.out;first|omega|exact Nat.le_refl _⟩,⟨kb_ BK481.out⟩,⟨kb_ BK482.out⟩,⟨bl_ HB.out⟩⟩
             ·replace c74:=Bool.eq_false_iff.mpr c74
              subst c74
              have H1:(helmsmanlaw12_TreeKinds.j7 k5 false x8_5 false l0_0 l0_1 l0_2 l0_3 l1_0 l1_1 l1_2 l1_3)=some r:=by rw [if_neg (show ¬ (false=true) by decide)] at H;exact H
              clear H
              have H:=H1
              clear H1
              have H':=Aside0.mk H
              clear H
              go_wp2
              go_meet
              case rel=>exact ⟨_,(false),rf_,H',⟨by have:=HJ2.out;have:=HJ19.out;have:=HJ46.out;have:=HJ56.out;have:=HK5.out;first|omega|exact Nat.le_refl _⟩,⟨kb_ BK481.out⟩,⟨kb_ BK482.out⟩,⟨bl_ HB.out⟩⟩
            case rest=>as_aux_lemma=>
             clear HC73
             (try clear c1);(try clear c2);(try clear p2);(try clear c4);(try clear p4);(try clear q4);(try clear hx4);(try clear c5);(try clear c6);(try clear p6);(try clear c7);(try clear c25);(try clear c48);(try clear p48);(try clear q48);(try clear hx48);(try clear c49);(try clear p49);(try clear q49);(try clear hx49);(try clear c58);(try clear c59);(try clear c59b0);(try clear c60);(try clear c61);(try clear c62);(try clear c62b0);(try clear c62b1);(try clear p64);(try clear c68);(try clear c71);(try clear c74);(try clear c75);(try clear hcz69_0);(try clear hcz69_1);(try clear hcz69_2);(try clear hcz69_3);(try clear hcz72_0);(try clear hcz72_1);(try clear hcz72_2);(try clear hcz72_3);(try clear hcz76_0);(try clear hcz76_1);(try clear hcz76_2);(try clear hcz76_3);(try clear hfz69_0);(try clear hfz69_1);(try clear hfz69_2);(try clear hfz69_3);(try clear hfz72_0);(try clear hfz72_1);(try clear hfz72_2);(try clear hfz72_3);(try clear hfz76_0);(try clear hfz76_1);(try clear hfz76_2);(try clear hfz76_3);(try clear hx489_0);(try clear hx489_1);(try clear hx490_0);(try clear hx490_1);(try clear hx491_0);(try clear hx491_1);(try clear hx492_0);(try clear hx492_1);(try clear p2);(try clear p4);(try clear p48);(try clear p489);(try clear p49);(try clear p490);(try clear p491);(try clear p492);(try clear p6);(try clear p64);(try clear q4);(try clear q48);(try clear q489);(try clear q49);(try clear q490);(try clear q491);(try clear q492)
             obtain ⟨kq,x117_72,rfl,HA,HJ72,BK481,BK482,HB⟩:=hcut
             cases kq with
             | zero=>exact absurd HA.out (by simp [helmsmanlaw12_TreeKinds.j7])
             | succ kj72=>
              have H:=HA.out
              clear HA
              simp only [helmsmanlaw12_TreeKinds.j7] at H
              by_cases c77:x117_72=true
              ·subst c77
               have H1:(if 0≤x8_5 then (if x8_5 < (l0_0.length:Int) then (if x8_5 < (l1_0.length:Int) then (if ((rd_T72 l0_0 x8_5).f0).toList=((rd_T72 l1_0 x8_5).f0).toList then (helmsmanlaw12_TreeKinds.j8 kj72 ((((rd_T72 l0_0 x8_5).f1).length:Int) == (((rd_T72 l1_0 x8_5).f1).length:Int)) x8_5 l0_0 l0_1 l0_2 l0_3 l1_0 l1_1 l1_2 l1_3) else (helmsmanlaw12_TreeKinds.j8 kj72 false x8_5 l0_0 l0_1 l0_2 l0_3 l1_0 l1_1 l1_2 l1_3)) else (none)) else (none)) else (none))=some r:=by rw [if_pos rfl] at H;exact H
               clear H
               have H:=H1
               clear H1
               have HC78:=Aside0.mk H
               clear H
               go_upto_region 15 with (fail)
               go_cut [5] (fun v5 wc=>∃ (kq:Nat) (x5_77:Bool),v5=.bool x5_77∧Aside0 (helmsmanlaw12_TreeKinds.j8 kq x5_77 x8_5 l0_0 l0_1 l0_2 l0_3 l1_0 l1_1 l1_2 l1_3=some r)∧Aside0 (kq≤kj72)∧Aside0 (wc.heap[gb481]?=some (.cells #[(.slice A0_0 l0_0.length c0_0),(.slice A0_1 l0_1.length c0_1),(.slice A0_2 l0_2.length c0_2),(.slice A0_3 l0_3.length c0_3)] 43 (0,0)))∧Aside0 (wc.heap[gb482]?=some (.cells #[(.slice A1_0 l1_0.length c1_0),(.slice A1_1 l1_1.length c1_1),(.slice A1_2 l1_2.length c1_2),(.slice A1_3 l1_3.length c1_3)] 43 (0,0)))∧Aside0 (Below w.heap.size w wc))
               case first=>as_aux_lemma=>
                have H:=HC78.out
                clear HC78
                by_cases c79:0≤x8_5
                ·rw [if_pos c79] at H
                 have c79b0:decide (0≤x8_5)=true:=decide_eq_true c79
                 clear c79
                 (first|rw [c79b0]|(simp only [i64_w,i32_w];rw [c79b0])|skip)
                 by_cases c80:x8_5 < (l0_0.length:Int)
                 ·rw [if_pos c80] at H
                  have c80b0:decide (x8_5 < (l0_0.length:Int))=true:=decide_eq_true c80
                  clear c80
                  by_cases c81:x8_5 < (l1_0.length:Int)
                  ·rw [if_pos c81] at H
                   have c81b0:decide (x8_5 < (l1_0.length:Int))=true:=decide_eq_true c81
                   clear c81
                   by_cases c82:((rd_T72 l0_0 x8_5).f0).toList=((rd_T72 l1_0 x8_5).f0).toList
                   ·rw [if_pos c82] at H
                    have c82b0:(((rd_T72 l0_0 x8_5).f0).toList == ((rd_T72 l1_0 x8_5).f0).toList)=true:=beq_iff_eq.mpr c82
                    have c82b1:(((rd_T72 l0_0 x8_5).f0).toList != ((rd_T72 l1_0 x8_5).f0).toList)=false:=bne_eq_false_iff_eq.mpr c82
                    clear c82
                    have H':=Aside0.mk H
                    clear H
                    try go_wp2
                    have n0_:=Aside0.mk (blk_drew BK481.out)
                    have n1_:=Aside0.mk (blk_drew BK482.out)
                    have n2_:=Aside0.mk (below_drew1 HB.out)
                    clear BK481
                    clear BK482
                    clear HB
                    have BK481:=n0_
                    have BK482:=n1_
                    have HB:=n2_
                    clear n0_ n1_ n2_
                    have p494:0≤(x8_5:Int):=of_decide_eq_true as_
                    have q494:x8_5 < (l0_0.length:Int):=of_decide_eq_true as_
                    obtain ⟨ad494,A494_1,c494_1,e494,hx494_0,hx494_1,hl494_1,hi494_1⟩:=at_T72 HR0_0.out x8_5 p494 q494
                    have hw494_1:=hx494_1
                    have hw494_0:=hx494_0
                    cases e494
                    replace hx494_0:=(cb_ HB.out hx494_0:_)
                    replace hx494_1:=(cb_ HB.out hx494_1:_)
                    have HR494_1:=Aside0.mk hi494_1
                    have HC494_1:=Aside0.mk hl494_1
                    clear hi494_1 hl494_1
                    replace p494:=eq_true p494
                    replace q494:=eq_true q494
                    have p495:0≤(x8_5:Int):=of_decide_eq_true as_
                    have q495:x8_5 < (l1_0.length:Int):=of_decide_eq_true as_
                    obtain ⟨ad495,A495_1,c495_1,e495,hx495_0,hx495_1,hl495_1,hi495_1⟩:=at_T72 HR1_0.out x8_5 p495 q495
                    have hw495_1:=hx495_1
                    have hw495_0:=hx495_0
                    cases e495
                    replace hx495_0:=(cb_ HB.out hx495_0:_)
                    replace hx495_1:=(cb_ HB.out hx495_1:_)
                    have HR495_1:=Aside0.mk hi495_1
                    have HC495_1:=Aside0.mk hl495_1
                    clear hi495_1 hl495_1
                    replace p495:=eq_true p495
                    replace q495:=eq_true q495
                    have p496:0≤(x8_5:Int):=of_decide_eq_true as_
                    have q496:x8_5 < (l0_0.length:Int):=of_decide_eq_true as_
                    obtain ⟨ad496,A496_1,c496_1,e496,hx496_0,hx496_1,hl496_1,hi496_1⟩:=at_T72 HR0_0.out x8_5 p496 q496
                    have hw496_1:=hx496_1
                    have hw496_0:=hx496_0
                    obtain rfl:ad494=ad496:=(by injection e496)
                    replace hx496_0:=(cb_ HB.out hx496_0:_)
                    replace hx496_1:=(cb_ HB.out hx496_1:_)
                    have HR496_1:=Aside0.mk hi496_1
                    have HC496_1:=Aside0.mk hl496_1
                    clear hi496_1 hl496_1
                    replace p496:=eq_true p496
                    replace q496:=eq_true q496
                    have ea_:=Option.some.inj (hx494_1.symm.trans hx496_1)
                    injection ea_ with ea_ en_ ec_
                    subst ea_
                    subst ec_
                    clear en_
                    have p497:0≤(x8_5:Int):=of_decide_eq_true as_
                    have q497:x8_5 < (l1_0.length:Int):=of_decide_eq_true as_
                    obtain ⟨ad497,A497_1,c497_1,e497,hx497_0,hx497_1,hl497_1,hi497_1⟩:=at_T72 HR1_0.out x8_5 p497 q497
                    have hw497_1:=hx497_1
                    have hw497_0:=hx497_0
                    obtain rfl:ad495=ad497:=(by injection e497)
                    replace hx497_0:=(cb_ HB.out hx497_0:_)
                    replace hx497_1:=(cb_ HB.out hx497_1:_)
                    have HR497_1:=Aside0.mk hi497_1
                    have HC497_1:=Aside0.mk hl497_1
                    clear hi497_1 hl497_1
                    replace p497:=eq_true p497
                    replace q497:=eq_true q497
                    have ea_:=Option.some.inj (hx495_1.symm.trans hx497_1)
                    injection ea_ with ea_ en_ ec_
                    subst ea_
                    subst ec_
                    clear en_
                    refine start_ (n:=31) (S:=fun w'=>w'.cell? ⟨gb481,0,none⟩=some (.slice (some ad494) l0_0.length c0_0)∧w'.cell? ⟨gb481,1,none⟩=some (.slice A0_1 l0_1.length c0_1)∧w'.cell? ⟨gb481,2,none⟩=some (.slice A0_2 l0_2.length c0_2)∧w'.cell? ⟨gb481,3,none⟩=some (.slice A0_3 l0_3.length c0_3)∧w'.cell? ⟨gb482,0,none⟩=some (.slice (some ad495) l1_0.length c1_0)∧w'.cell? ⟨gb482,1,none⟩=some (.slice A1_1 l1_1.length c1_1)∧w'.cell? ⟨gb482,2,none⟩=some (.slice A1_2 l1_2.length c1_2)∧w'.cell? ⟨gb482,3,none⟩=some (.slice A1_3 l1_3.length c1_3)∧w'.cell? (ad494.add ((x8_5).toNat * 2))=some (.string ((rd_T72 l0_0 x8_5).f0))∧w'.cell? ⟨(ad494.add ((x8_5).toNat * 2)).block,(ad494.add ((x8_5).toNat * 2)).off+1,none⟩=some (.slice A494_1 ((rd_T72 l0_0 x8_5).f1).length c494_1)∧w'.cell? (ad495.add ((x8_5).toNat * 2))=some (.string ((rd_T72 l1_0 x8_5).f0))∧w'.cell? ⟨(ad495.add ((x8_5).toNat * 2)).block,(ad495.add ((x8_5).toNat * 2)).off+1,none⟩=some (.slice A495_1 ((rd_T72 l1_0 x8_5).f1).length c495_1)∧w'.cell? (ad494.add ((x8_5).toNat * 2))=some (.string ((rd_T72 l0_0 x8_5).f0))∧w'.cell? ⟨(ad494.add ((x8_5).toNat * 2)).block,(ad494.add ((x8_5).toNat * 2)).off+1,none⟩=some (.slice A494_1 ((rd_T72 l0_0 x8_5).f1).length c494_1)∧w'.cell? (ad495.add ((x8_5).toNat * 2))=some (.string ((rd_T72 l1_0 x8_5).f0))∧w'.cell? ⟨(ad495.add ((x8_5).toNat * 2)).block,(ad495.add ((x8_5).toNat * 2)).off+1,none⟩=some (.slice A495_1 ((rd_T72 l1_0 x8_5).f1).length c495_1)) (ds:=[]) (flg 31 0) (by kernel_rfl) rfl (by kernel_rfl) ⟨zc_ BK481.out 0,zc_ BK481.out 1,zc_ BK481.out 2,zc_ BK481.out 3,zc_ BK482.out 0,zc_ BK482.out 1,zc_ BK482.out 2,zc_ BK482.out 3,((cb_ HB.out hw494_0:_)),((cb_ HB.out hw494_1:_)),((cb_ HB.out hw495_0:_)),((cb_ HB.out hw495_1:_)),((cb_ HB.out hw496_0:_)),((cb_ HB.out hw496_1:_)),((cb_ HB.out hw497_0:_)),((cb_ HB.out hw497_1:_))⟩ (fun hHeld=>?_);refine with_tabW helmsmanlaw12_TreeKinds.tab15 helmsmanlaw12_TreeKinds.bits15 (fun HT_ HW_=>?_)
                    generalize wc.drew=w83 at BK481 BK482 HB HR494_1 HR495_1 HR496_1 HR497_1 hx494_0 hx494_1 hx495_0 hx495_1 hx496_0 hx496_1 hx497_0 hx497_1 hHeld ⊢
                    refine pur_ 0 120 (flg 31 1) rfl rfl (any_of HT_.out (by kernel_rfl)) (fun _ _ _ h=>h) ?_
                    refine pur_ 2 122 (flg 31 5) rfl rfl (any_of HT_.out (by kernel_rfl)) (fun _ _ _ h=>h) ?_
                    refine pur_ 6 126 (flg 31 69) rfl rfl (any_of HT_.out (by kernel_rfl)) (fun _ _ _ h=>h) ?_
                    refine pur_ 8 128 (flg 31 325) rfl rfl (any_of HT_.out (by kernel_rfl)) (fun _ _ _ h=>h) ?_
                    refine tak_ 1 121 (flg 31 327) rfl rfl (take_ofW HT_.out HW_.out (by kernel_rfl)) (fun _ _ _ h=>h) hHeld ?_
                    refine pur_ 3 123 (flg 31 335) rfl rfl (any_of HT_.out (by kernel_rfl)) (fun _ _ _ h=>h) ?_
                    refine pur_ 4 124 (flg 31 351) rfl rfl (any_of HT_.out (by kernel_rfl)) (fun _ _ _ h=>h) ?_
                    refine tak_ 5 125 (flg 31 383) rfl rfl (take_ofW HT_.out HW_.out (by kernel_rfl)) (fun _ _ _ h=>h) hHeld ?_
                    refine tak_ 7 127 (flg 31 511) rfl rfl (take_ofW HT_.out HW_.out (by kernel_rfl)) (fun _ _ _ h=>h) hHeld ?_
                    refine pur_ 9 129 (flg 31 1023) rfl rfl (any_of HT_.out (by kernel_rfl)) (fun _ _ _ h=>h) ?_
                    refine pur_ 10 130 (flg 31 2047) rfl rfl (any_of HT_.out (by kernel_rfl)) (fun _ _ _ h=>h) ?_
                    refine tak_ 11 131 (flg 31 4095) rfl rfl (take_ofW HT_.out HW_.out (by kernel_rfl)) (fun _ _ _ h=>h) hHeld ?_
                    refine pur_ 12 132 (flg 31 8191) rfl rfl (any_of HT_.out (by kernel_rfl)) (fun _ _ _ h=>h) ?_
                    refine pur_ 13 133 (flg 31 16383) rfl rfl (any_of HT_.out (by kernel_rfl)) (fun _ _ _ h=>h) ?_
                    refine pur_ 14 134 (flg 31 32767) rfl rfl (any_of HT_.out (by kernel_rfl)) (fun _ _ _ h=>h) ?_
                    refine pur_ 16 136 (flg 31 98303) rfl rfl (any_of HT_.out (by kernel_rfl)) (fun _ _ _ h=>h) ?_
                    refine pur_ 21 141 (flg 31 2195455) rfl rfl (any_of HT_.out (by kernel_rfl)) (fun _ _ _ h=>h) ?_
                    refine pur_ 23 143 (flg 31 10584063) rfl rfl (any_of HT_.out (by kernel_rfl)) (fun _ _ _ h=>h) ?_
                    refine tak_ 15 135 (flg 31 10616831) rfl rfl (take_ofW HT_.out HW_.out (by kernel_rfl)) (fun _ _ _ h=>h) hHeld ?_
                    refine pur_ 17 137 (flg 31 10747903) rfl rfl (any_of HT_.out (by kernel_rfl)) (fun _ _ _ h=>h) ?_
                    refine pur_ 18 138 (flg 31 11010047) rfl rfl (any_of HT_.out (by kernel_rfl)) (fun _ _ _ h=>h) ?_
                    refine tak_ 19 139 (flg 31 11534335) rfl rfl (take_ofW HT_.out HW_.out (by kernel_rfl)) (fun _ _ _ h=>h) hHeld ?_
                    refine pur_ 20 140 (flg 31 12582911) rfl rfl (any_of HT_.out (by kernel_rfl)) (fun _ _ _ h=>h) ?_
                    refine tak_ 22 142 (flg 31 16777215) rfl rfl (take_ofW HT_.out HW_.out (by kernel_rfl)) (fun _ _ _ h=>h) hHeld ?_
                    refine pur_ 24 144 (flg 31 33554431) rfl rfl (any_of HT_.out (by kernel_rfl)) (fun _ _ _ h=>h) ?_
                    refine pur_ 25 145 (flg 31 67108863) rfl rfl (any_of HT_.out (by kernel_rfl)) (fun _ _ _ h=>h) ?_
                    refine tak_ 26 146 (flg 31 134217727) rfl rfl (take_ofW HT_.out HW_.out (by kernel_rfl)) (fun _ _ _ h=>h) hHeld ?_
                    refine pur_ 27 147 (flg 31 268435455) rfl rfl (any_of HT_.out (by kernel_rfl)) (fun _ _ _ h=>h) ?_
                    refine pur_ 28 148 (flg 31 536870911) rfl rfl (any_of HT_.out (by kernel_rfl)) (fun _ _ _ h=>h) ?_
                    refine pur_ 29 149 (flg 31 1073741823) rfl rfl (any_of HT_.out (by kernel_rfl)) (fun _ _ _ h=>h) ?_
                    refine pur_ 30 5 (flg 31 2147483647) rfl rfl (any_of HT_.out (by kernel_rfl)) (fun _ _ _ h=>h) ?_
                    refine done_ (done_of HT_.out (by kernel_rfl)) ?_
                    try go_wp2
                    go_meet
                    case rel=>exact ⟨_,(((((rd_T72 l0_0 x8_5).f1).length:Int) == (((rd_T72 l1_0 x8_5).f1).length:Int))),rf_,H',⟨by have:=HJ2.out;have:=HJ19.out;have:=HJ46.out;have:=HJ56.out;have:=HK5.out;have:=HJ72.out;first|omega|exact Nat.le_refl _⟩,⟨kb_ BK481.out⟩,⟨kb_ BK482.out⟩,⟨bl_ HB.out⟩⟩
                   ·rw [if_neg c82] at H
                    have c82b0:(((rd_T72 l0_0 x8_5).f0).toList == ((rd_T72 l1_0 x8_5).f0).toList)=false:=beq_eq_false_iff_ne.mpr c82
                    have c82b1:(((rd_T72 l0_0 x8_5).f0).toList != ((rd_T72 l1_0 x8_5).f0).toList)=true:=bne_iff_ne.mpr c82
                    have H':=Aside0.mk H
                    clear H
                    try go_wp2
                    have n0_:=Aside0.mk (blk_drew BK481.out)
                    have n1_:=Aside0.mk (blk_drew BK482.out)
                    have n2_:=Aside0.mk (below_drew1 HB.out)
                    clear BK481
                    clear BK482
                    clear HB
                    have BK481:=n0_
                    have BK482:=n1_
                    have HB:=n2_
                    clear n0_ n1_ n2_
                    have p494:0≤(x8_5:Int):=of_decide_eq_true as_
                    have q494:x8_5 < (l0_0.length:Int):=of_decide_eq_true as_
                    obtain ⟨ad494,A494_1,c494_1,e494,hx494_0,hx494_1,hl494_1,hi494_1⟩:=at_T72 HR0_0.out x8_5 p494 q494
                    have hw494_1:=hx494_1
                    have hw494_0:=hx494_0
                    cases e494
                    replace hx494_0:=(cb_ HB.out hx494_0:_)
                    replace hx494_1:=(cb_ HB.out hx494_1:_)
                    have HR494_1:=Aside0.mk hi494_1
                    have HC494_1:=Aside0.mk hl494_1
                    clear hi494_1 hl494_1
                    replace p494:=eq_true p494
                    replace q494:=eq_true q494
                    have p495:0≤(x8_5:Int):=of_decide_eq_true as_
                    have q495:x8_5 < (l1_0.length:Int):=of_decide_eq_true as_
                    obtain ⟨ad495,A495_1,c495_1,e495,hx495_0,hx495_1,hl495_1,hi495_1⟩:=at_T72 HR1_0.out x8_5 p495 q495
                    have hw495_1:=hx495_1
                    have hw495_0:=hx495_0
                    cases e495
                    replace hx495_0:=(cb_ HB.out hx495_0:_)
                    replace hx495_1:=(cb_ HB.out hx495_1:_)
                    have HR495_1:=Aside0.mk hi495_1
                    have HC495_1:=Aside0.mk hl495_1
                    clear hi495_1 hl495_1
                    replace p495:=eq_true p495
                    replace q495:=eq_true q495
                    refine start_ (n:=31) (S:=fun w'=>w'.cell? ⟨gb481,0,none⟩=some (.slice (some ad494) l0_0.length c0_0)∧w'.cell? ⟨gb481,1,none⟩=some (.slice A0_1 l0_1.length c0_1)∧w'.cell? ⟨gb481,2,none⟩=some (.slice A0_2 l0_2.length c0_2)∧w'.cell? ⟨gb481,3,none⟩=some (.slice A0_3 l0_3.length c0_3)∧w'.cell? ⟨gb482,0,none⟩=some (.slice (some ad495) l1_0.length c1_0)∧w'.cell? ⟨gb482,1,none⟩=some (.slice A1_1 l1_1.length c1_1)∧w'.cell? ⟨gb482,2,none⟩=some (.slice A1_2 l1_2.length c1_2)∧w'.cell? ⟨gb482,3,none⟩=some (.slice A1_3 l1_3.length c1_3)∧w'.cell? (ad494.add ((x8_5).toNat * 2))=some (.string ((rd_T72 l0_0 x8_5).f0))∧w'.cell? ⟨(ad494.add ((x8_5).toNat * 2)).block,(ad494.add ((x8_5).toNat * 2)).off+1,none⟩=some (.slice A494_1 ((rd_T72 l0_0 x8_5).f1).length c494_1)∧w'.cell? (ad495.add ((x8_5).toNat * 2))=some (.string ((rd_T72 l1_0 x8_5).f0))∧w'.cell? ⟨(ad495.add ((x8_5).toNat * 2)).block,(ad495.add ((x8_5).toNat * 2)).off+1,none⟩=some (.slice A495_1 ((rd_T72 l1_0 x8_5).f1).length c495_1)) (ds:=[]) (flg 31 0) (by kernel_rfl) rfl (by kernel_rfl) ⟨zc_ BK481.out 0,zc_ BK481.out 1,zc_ BK481.out 2,zc_ BK481.out 3,zc_ BK482.out 0,zc_ BK482.out 1,zc_ BK482.out 2,zc_ BK482.out 3,((cb_ HB.out hw494_0:_)),((cb_ HB.out hw494_1:_)),((cb_ HB.out hw495_0:_)),((cb_ HB.out hw495_1:_))⟩ (fun hHeld=>?_);refine with_tabW helmsmanlaw12_TreeKinds.tab15 helmsmanlaw12_TreeKinds.bits15 (fun HT_ HW_=>?_)
                    generalize wc.drew=w84 at BK481 BK482 HB HR494_1 HR495_1 hx494_0 hx494_1 hx495_0 hx495_1 hHeld ⊢
                    refine pur_ 0 120 (flg 31 1) rfl rfl (any_of HT_.out (by kernel_rfl)) (fun _ _ _ h=>h) ?_
                    refine pur_ 2 122 (flg 31 5) rfl rfl (any_of HT_.out (by kernel_rfl)) (fun _ _ _ h=>h) ?_
                    refine pur_ 6 126 (flg 31 69) rfl rfl (any_of HT_.out (by kernel_rfl)) (fun _ _ _ h=>h) ?_
                    refine pur_ 8 128 (flg 31 325) rfl rfl (any_of HT_.out (by kernel_rfl)) (fun _ _ _ h=>h) ?_
                    refine tak_ 1 121 (flg 31 327) rfl rfl (take_ofW HT_.out HW_.out (by kernel_rfl)) (fun _ _ _ h=>h) hHeld ?_
                    refine pur_ 3 123 (flg 31 335) rfl rfl (any_of HT_.out (by kernel_rfl)) (fun _ _ _ h=>h) ?_
                    refine pur_ 4 124 (flg 31 351) rfl rfl (any_of HT_.out (by kernel_rfl)) (fun _ _ _ h=>h) ?_
                    refine tak_ 5 125 (flg 31 383) rfl rfl (take_ofW HT_.out HW_.out (by kernel_rfl)) (fun _ _ _ h=>h) hHeld ?_
                    refine tak_ 7 127 (flg 31 511) rfl rfl (take_ofW HT_.out HW_.out (by kernel_rfl)) (fun _ _ _ h=>h) hHeld ?_
                    refine pur_ 9 129 (flg 31 1023) rfl rfl (any_of HT_.out (by kernel_rfl)) (fun _ _ _ h=>h) ?_
                    refine pur_ 10 130 (flg 31 2047) rfl rfl (any_of HT_.out (by kernel_rfl)) (fun _ _ _ h=>h) ?_
                    refine tak_ 11 131 (flg 31 4095) rfl rfl (take_ofW HT_.out HW_.out (by kernel_rfl)) (fun _ _ _ h=>h) hHeld ?_
                    refine pur_ 12 132 (flg 31 8191) rfl rfl (any_of HT_.out (by kernel_rfl)) (fun _ _ _ h=>h) ?_
                    refine pur_ 13 133 (flg 31 16383) rfl rfl (any_of HT_.out (by kernel_rfl)) (fun _ _ _ h=>h) ?_
                    refine skp_ 14 134 (flg 31 32767) rfl rfl (any_of HT_.out (by kernel_rfl)) (fun _ _ _ h=>h) ?_
                    refine skp_ 15 135 (flg 31 65535) rfl rfl (any_of HT_.out (by kernel_rfl)) (fun _ _ _ h=>h) ?_
                    refine skp_ 16 136 (flg 31 131071) rfl rfl (any_of HT_.out (by kernel_rfl)) (fun _ _ _ h=>h) ?_
                    refine skp_ 17 137 (flg 31 262143) rfl rfl (any_of HT_.out (by kernel_rfl)) (fun _ _ _ h=>h) ?_
                    refine skp_ 18 138 (flg 31 524287) rfl rfl (any_of HT_.out (by kernel_rfl)) (fun _ _ _ h=>h) ?_
                    refine skp_ 19 139 (flg 31 1048575) rfl rfl (any_of HT_.out (by kernel_rfl)) (fun _ _ _ h=>h) ?_
                    refine skp_ 20 140 (flg 31 2097151) rfl rfl (any_of HT_.out (by kernel_rfl)) (fun _ _ _ h=>h) ?_
                    refine skp_ 21 141 (flg 31 4194303) rfl rfl (any_of HT_.out (by kernel_rfl)) (fun _ _ _ h=>h) ?_
                    refine skp_ 22 142 (flg 31 8388607) rfl rfl (any_of HT_.out (by kernel_rfl)) (fun _ _ _ h=>h) ?_
                    refine skp_ 23 143 (flg 31 16777215) rfl rfl (any_of HT_.out (by kernel_rfl)) (fun _ _ _ h=>h) ?_
                    refine skp_ 24 144 (flg 31 33554431) rfl rfl (any_of HT_.out (by kernel_rfl)) (fun _ _ _ h=>h) ?_
                    refine skp_ 25 145 (flg 31 67108863) rfl rfl (any_of HT_.out (by kernel_rfl)) (fun _ _ _ h=>h) ?_
                    refine skp_ 26 146 (flg 31 134217727) rfl rfl (any_of HT_.out (by kernel_rfl)) (fun _ _ _ h=>h) ?_
                    refine skp_ 27 147 (flg 31 268435455) rfl rfl (any_of HT_.out (by kernel_rfl)) (fun _ _ _ h=>h) ?_
                    refine skp_ 28 148 (flg 31 536870911) rfl rfl (any_of HT_.out (by kernel_rfl)) (fun _ _ _ h=>h) ?_
                    refine pur_ 29 149 (flg 31 1073741823) rfl rfl (any_of HT_.out (by kernel_rfl)) (fun _ _ _ h=>h) ?_
                    refine pur_ 30 5 (flg 31 2147483647) rfl rfl (any_of HT_.out (by kernel_rfl)) (fun _ _ _ h=>h) ?_
                    refine done_ (done_of HT_.out (by kernel_rfl)) ?_
                    try go_wp2
                    go_meet
                    case rel=>exact ⟨_,(false),rf_,H',⟨by have:=HJ2.out;have:=HJ19.out;have:=HJ46.out;have:=HJ56.out;have:=HK5.out;have:=HJ72.out;first|omega|exact Nat.le_refl _⟩,⟨kb_ BK481.out⟩,⟨kb_ BK482.out⟩,⟨bl_ HB.out⟩⟩
                  ·rw [if_neg c81] at H
                   exact absurd H (by simp)
                 ·rw [if_neg c80] at H
                  exact absurd H (by simp)
                ·rw [if_neg c79] at H
                 exact absurd H (by simp)
               case rest=>as_aux_lemma=>
                clear HC78
                (try clear c1);(try clear p2);(try clear c4);(try clear p4);(try clear q4);(try clear hx4);(try clear c7);(try clear c8);(try clear c49);(try clear p49);(try clear q49);(try clear hx49);(try clear c79);(try clear c79b0);(try clear c80);(try clear c80b0);(try clear c81);(try clear c81b0);(try clear c82);(try clear c82b0);(try clear c82b1);(try clear hx494_0);(try clear hx494_1);(try clear hx495_0);(try clear hx495_1);(try clear hx496_0);(try clear hx496_1);(try clear hx497_0);(try clear hx497_1);(try clear p494);(try clear p495);(try clear p496);(try clear p497);(try clear q494);(try clear q495);(try clear q496);(try clear q497)
                obtain ⟨kq,x5_77,rfl,HA,HJ77,BK481,BK482,HB⟩:=hcut
                cases kq with
                | zero=>exact absurd HA.out (by simp [helmsmanlaw12_TreeKinds.j8])
                | succ kj77=>
                 have H:=HA.out
                 clear HA
                 simp only [helmsmanlaw12_TreeKinds.j8] at H
                 have H':=Aside0.mk H
                 clear H
                 go_wp2
                 (try simp only [Act.put,List.setIfInBounds_toArray,List.set_cons_succ,List.set_cons_zero])
                 go_loopg [5,9] kj77 (fun kq v5 v9 w'=>∃ (x5_8:Bool) (x9_8:Int),v5=.bool x5_8∧v9=.int .i64 x9_8∧Aside0 (helmsmanlaw12_TreeKinds.l3 kq x5_8 x8_5 x9_8 l0_0 l0_1 l0_2 l0_3 l1_0 l1_1 l1_2 l1_3=some r)∧Aside0 (kq≤kj77)∧Aside0 (w'.heap[gb481]?=some (.cells #[(.slice A0_0 l0_0.length c0_0),(.slice A0_1 l0_1.length c0_1),(.slice A0_2 l0_2.length c0_2),(.slice A0_3 l0_3.length c0_3)] 43 (0,0)))∧Aside0 (w'.heap[gb482]?=some (.cells #[(.slice A1_0 l1_0.length c1_0),(.slice A1_1 l1_1.length c1_1),(.slice A1_2 l1_2.length c1_2),(.slice A1_3 l1_3.length c1_3)] 43 (0,0)))∧Aside0 (Below w.heap.size w w'))
                 case atStart=>exact ⟨(x5_77),(0),rf_,rf_,H',⟨Nat.le_refl _⟩,⟨kb_ BK481.out⟩,⟨kb_ BK482.out⟩,⟨bl_ HB.out⟩⟩
                 case round=>as_aux_lemma=>
                  clear H'
                  (try clear c1);(try clear p2);(try clear c4);(try clear p4);(try clear q4);(try clear hx4);(try clear c7);(try clear c8);(try clear c49);(try clear p49);(try clear q49);(try clear hx49);(try clear c79);(try clear c79b0);(try clear c80);(try clear c80b0);(try clear c81);(try clear c81b0);(try clear c82);(try clear c82b0);(try clear c82b1);(try clear hx494_0);(try clear hx494_1);(try clear hx495_0);(try clear hx495_1);(try clear hx496_0);(try clear hx496_1);(try clear hx497_0);(try clear hx497_1);(try clear p2);(try clear p4);(try clear p49);(try clear p494);(try clear p495);(try clear p496);(try clear p497);(try clear q4);(try clear q49);(try clear q494);(try clear q495);(try clear q496);(try clear q497)
                  obtain ⟨x5_8,x9_8,rfl,rfl,HA,HK8,BK481,BK482,HB⟩:=hrel
                  cases gk with
                  | zero=>exact absurd HA.out (by simp [helmsmanlaw12_TreeKinds.l3])
                  | succ k8=>
                   have H:=HA.out
                   clear HA
                   simp only [helmsmanlaw12_TreeKinds.l3] at H
                   by_cases c85:x5_8=true
                   ·subst c85
                    have H1:(if 0≤x8_5 then (if x8_5 < (l0_0.length:Int) then (if x9_8 < (((rd_T72 l0_0 x8_5).f1).length:Int) then (if 0≤x9_8 then (if x8_5 < (l1_0.length:Int) then (if x9_8 < (((rd_T72 l1_0 x8_5).f1).length:Int) then (helmsmanlaw12_TreeKinds.l3 k8 ((rdOf ByteArray.empty ((rd_T72 l0_0 x8_5).f1) x9_8).toList == (rdOf ByteArray.empty ((rd_T72 l1_0 x8_5).f1) x9_8).toList) x8_5 (wrap64 (x9_8+1)) l0_0 l0_1 l0_2 l0_3 l1_0 l1_1 l1_2 l1_3) else (none)) else (none)) else (none)) else (helmsmanlaw12_TreeKinds.l2 k8 true (wrap64 (x8_5+1)) l0_0 l0_1 l0_2 l0_3 l1_0 l1_1 l1_2 l1_3)) else (none)) else (none))=some r:=by rw [if_pos rfl] at H;exact H
                    clear H
                    have H:=H1
                    clear H1
                    by_cases c86:0≤x8_5
                    ·rw [if_pos c86] at H
                     have c86b0:decide (0≤x8_5)=true:=decide_eq_true c86
                     clear c86
                     by_cases c87:x8_5 < (l0_0.length:Int)
                     ·rw [if_pos c87] at H
                      have c87b0:decide (x8_5 < (l0_0.length:Int))=true:=decide_eq_true c87
                      clear c87
                      by_cases c88:x9_8 < (((rd_T72 l0_0 x8_5).f1).length:Int)
                      ·rw [if_pos c88] at H
                       have c88b0:decide (x9_8 < (((rd_T72 l0_0 x8_5).f1).length:Int))=true:=decide_eq_true c88
                       clear c88
                       by_cases c89:0≤x9_8
                       ·rw [if_pos c89] at H
                        have c89b0:decide (0≤x9_8)=true:=decide_eq_true c89
                        clear c89
                        by_cases c90:x8_5 < (l1_0.length:Int)
                        ·rw [if_pos c90] at H
                         have c90b0:decide (x8_5 < (l1_0.length:Int))=true:=decide_eq_true c90
                         clear c90
                         by_cases c91:x9_8 < (((rd_T72 l1_0 x8_5).f1).length:Int)
                         ·rw [if_pos c91] at H
                          have c91b0:decide (x9_8 < (((rd_T72 l1_0 x8_5).f1).length:Int))=true:=decide_eq_true c91
                          clear c91
                          have H':=Aside0.mk H
                          clear H
                          have hnb92:=NB481_482.out
                          have hnc92:=NB482_481.out
                          have hcz93_0:wr.cell? ⟨gb481,0,none⟩=some (.slice A0_0 l0_0.length c0_0):=zc_ BK481.out 0
                          have hcz93_1:wr.cell? ⟨gb481,1,none⟩=some (.slice A0_1 l0_1.length c0_1):=zc_ BK481.out 1
                          have hcz93_2:wr.cell? ⟨gb481,2,none⟩=some (.slice A0_2 l0_2.length c0_2):=zc_ BK481.out 2
                          have hcz93_3:wr.cell? ⟨gb481,3,none⟩=some (.slice A0_3 l0_3.length c0_3):=zc_ BK481.out 3
                          have hfz93_0:=blk_frozen BK481.out 0
                          have hfz93_1:=blk_frozen BK481.out 1
                          have hfz93_2:=blk_frozen BK481.out 2
                          have hfz93_3:=blk_frozen BK481.out 3
                          have p498:0≤(x8_5:Int):=of_decide_eq_true as_
                          have q498:x8_5 < (l0_0.length:Int):=of_decide_eq_true as_
                          obtain ⟨ad498,A498_1,c498_1,e498,hx498_0,hx498_1,hl498_1,hi498_1⟩:=at_T72 HR0_0.out x8_5 p498 q498
                          cases e498
                          replace hx498_0:=(cb_ HB.out hx498_0:_)
                          replace hx498_1:=(cb_ HB.out hx498_1:_)
                          have HR498_1:=Aside0.mk hi498_1
                          have HC498_1:=Aside0.mk hl498_1
                          clear hi498_1 hl498_1
                          replace p498:=eq_true p498
                          replace q498:=eq_true q498
                          try go_wp2
                          have n0_:=Aside0.mk (blk_drew BK481.out)
                          have n1_:=Aside0.mk (blk_drew BK482.out)
                          have n2_:=Aside0.mk (below_drew1 HB.out)
                          clear BK481
                          clear BK482
                          clear HB
                          have BK481:=n0_
                          have BK482:=n1_
                          have HB:=n2_
                          clear n0_ n1_ n2_
                          have p499:0≤(x8_5:Int):=of_decide_eq_true as_
                          have q499:x8_5 < (l0_0.length:Int):=of_decide_eq_true as_
                          obtain ⟨ad499,A499_1,c499_1,e499,hx499_0,hx499_1,hl499_1,hi499_1⟩:=at_T72 HR0_0.out x8_5 p499 q499
                          have hw499_1:=hx499_1
                          have hw499_0:=hx499_0
                          obtain rfl:ad498=ad499:=(by injection e499)
                          replace hx499_0:=(cb_ HB.out hx499_0:_)
                          replace hx499_1:=(cb_ HB.out hx499_1:_)
                          have HR499_1:=Aside0.mk hi499_1
                          have HC499_1:=Aside0.mk hl499_1
                          clear hi499_1 hl499_1
                          replace p499:=eq_true p499
                          replace q499:=eq_true q499
                          have p500:0≤(x9_8:Int):=of_decide_eq_true as_
                          have q500:x9_8 < (((rd_T72 l0_0 x8_5).f1).length:Int):=of_decide_eq_true as_
                          obtain ⟨ad500,e500,hx500_0⟩:=Kd.at_string HR499_1.out x9_8 p500 q500
                          have hw500_0:=hx500_0
                          cases e500
                          replace hx500_0:=(cb_ HB.out hx500_0:_)
                          replace p500:=eq_true p500
                          replace q500:=eq_true q500
                          have p501:0≤(x8_5:Int):=of_decide_eq_true as_
                          have q501:x8_5 < (l1_0.length:Int):=of_decide_eq_true as_
                          obtain ⟨ad501,A501_1,c501_1,e501,hx501_0,hx501_1,hl501_1,hi501_1⟩:=at_T72 HR1_0.out x8_5 p501 q501
                          have hw501_1:=hx501_1
                          have hw501_0:=hx501_0
                          cases e501
                          replace hx501_0:=(cb_ HB.out hx501_0:_)
                          replace hx501_1:=(cb_ HB.out hx501_1:_)
                          have HR501_1:=Aside0.mk hi501_1
                          have HC501_1:=Aside0.mk hl501_1
                          clear hi501_1 hl501_1
                          replace p501:=eq_true p501
                          replace q501:=eq_true q501
                          have p502:0≤(x9_8:Int):=of_decide_eq_true as_
                          have q502:x9_8 < (((rd_T72 l1_0 x8_5).f1).length:Int):=of_decide_eq_true as_
                          obtain ⟨ad502,e502,hx502_0⟩:=Kd.at_string HR501_1.out x9_8 p502 q502
                          have hw502_0:=hx502_0
                          cases e502
                          replace hx502_0:=(cb_ HB.out hx502_0:_)
                          replace p502:=eq_true p502
                          replace q502:=eq_true q502
                          refine start_ (n:=20) (S:=fun w'=>w'.cell? ⟨gb481,0,none⟩=some (.slice (some ad498) l0_0.length c0_0)∧w'.cell? ⟨gb481,1,none⟩=some (.slice A0_1 l0_1.length c0_1)∧w'.cell? ⟨gb481,2,none⟩=some (.slice A0_2 l0_2.length c0_2)∧w'.cell? ⟨gb481,3,none⟩=some (.slice A0_3 l0_3.length c0_3)∧w'.cell? ⟨gb482,0,none⟩=some (.slice (some ad501) l1_0.length c1_0)∧w'.cell? ⟨gb482,1,none⟩=some (.slice A1_1 l1_1.length c1_1)∧w'.cell? ⟨gb482,2,none⟩=some (.slice A1_2 l1_2.length c1_2)∧w'.cell? ⟨gb482,3,none⟩=some (.slice A1_3 l1_3.length c1_3)∧w'.cell? (ad498.add ((x8_5).toNat * 2))=some (.string ((rd_T72 l0_0 x8_5).f0))∧w'.cell? ⟨(ad498.add ((x8_5).toNat * 2)).block,(ad498.add ((x8_5).toNat * 2)).off+1,none⟩=some (.slice (some ad500) ((rd_T72 l0_0 x8_5).f1).length c499_1)∧w'.cell? (ad500.add (x9_8).toNat)=some (.string (rdOf ByteArray.empty ((rd_T72 l0_0 x8_5).f1) x9_8))∧w'.cell? (ad501.add ((x8_5).toNat * 2))=some (.string ((rd_T72 l1_0 x8_5).f0))∧w'.cell? ⟨(ad501.add ((x8_5).toNat * 2)).block,(ad501.add ((x8_5).toNat * 2)).off+1,none⟩=some (.slice (some ad502) ((rd_T72 l1_0 x8_5).f1).length c501_1)∧w'.cell? (ad502.add (x9_8).toNat)=some (.string (rdOf ByteArray.empty ((rd_T72 l1_0 x8_5).f1) x9_8))) (ds:=[]) (flg 20 0) (by kernel_rfl) rfl (by kernel_rfl) ⟨zc_ BK481.out 0,zc_ BK481.out 1,zc_ BK481.out 2,zc_ BK481.out 3,zc_ BK482.out 0,zc_ BK482.out 1,zc_ BK482.out 2,zc_ BK482.out 3,((cb_ HB.out hw499_0:_)),((cb_ HB.out hw499_1:_)),((cb_ HB.out hw500_0:_)),((cb_ HB.out hw501_0:_)),((cb_ HB.out hw501_1:_)),((cb_ HB.out hw502_0:_))⟩ (fun hHeld=>?_);refine with_tabW helmsmanlaw12_TreeKinds.tab19 helmsmanlaw12_TreeKinds.bits19 (fun HT_ HW_=>?_)
                          generalize wr.drew=w94 at BK481 BK482 HB HR499_1 HR501_1 hx499_0 hx499_1 hx500_0 hx501_0 hx501_1 hx502_0 hHeld ⊢
                          refine pur_ 0 164 (flg 20 1) rfl rfl (any_of HT_.out (by kernel_rfl)) (fun _ _ _ h=>h) ?_
                          refine pur_ 2 166 (flg 20 5) rfl rfl (any_of HT_.out (by kernel_rfl)) (fun _ _ _ h=>h) ?_
                          refine pur_ 6 170 (flg 20 69) rfl rfl (any_of HT_.out (by kernel_rfl)) (fun _ _ _ h=>h) ?_
                          refine pur_ 9 173 (flg 20 581) rfl rfl (any_of HT_.out (by kernel_rfl)) (fun _ _ _ h=>h) ?_
                          refine pur_ 11 175 (flg 20 2629) rfl rfl (any_of HT_.out (by kernel_rfl)) (fun _ _ _ h=>h) ?_
                          refine pur_ 15 179 (flg 20 35397) rfl rfl (any_of HT_.out (by kernel_rfl)) (fun _ _ _ h=>h) ?_
                          refine tak_ 1 165 (flg 20 35399) rfl rfl (take_ofW HT_.out HW_.out (by kernel_rfl)) (fun _ _ _ h=>h) hHeld ?_
                          refine pur_ 3 167 (flg 20 35407) rfl rfl (any_of HT_.out (by kernel_rfl)) (fun _ _ _ h=>h) ?_
                          refine pur_ 4 168 (flg 20 35423) rfl rfl (any_of HT_.out (by kernel_rfl)) (fun _ _ _ h=>h) ?_
                          refine tak_ 5 169 (flg 20 35455) rfl rfl (take_ofW HT_.out HW_.out (by kernel_rfl)) (fun _ _ _ h=>h) hHeld ?_
                          refine pur_ 7 171 (flg 20 35583) rfl rfl (any_of HT_.out (by kernel_rfl)) (fun _ _ _ h=>h) ?_
                          refine tak_ 8 172 (flg 20 35839) rfl rfl (take_ofW HT_.out HW_.out (by kernel_rfl)) (fun _ _ _ h=>h) hHeld ?_
                          refine tak_ 10 174 (flg 20 36863) rfl rfl (take_ofW HT_.out HW_.out (by kernel_rfl)) (fun _ _ _ h=>h) hHeld ?_
                          refine pur_ 12 176 (flg 20 40959) rfl rfl (any_of HT_.out (by kernel_rfl)) (fun _ _ _ h=>h) ?_
                          refine pur_ 13 177 (flg 20 49151) rfl rfl (any_of HT_.out (by kernel_rfl)) (fun _ _ _ h=>h) ?_
                          refine tak_ 14 178 (flg 20 65535) rfl rfl (take_ofW HT_.out HW_.out (by kernel_rfl)) (fun _ _ _ h=>h) hHeld ?_
                          refine pur_ 16 180 (flg 20 131071) rfl rfl (any_of HT_.out (by kernel_rfl)) (fun _ _ _ h=>h) ?_
                          refine tak_ 17 181 (flg 20 262143) rfl rfl (take_ofW HT_.out HW_.out (by kernel_rfl)) (fun _ _ _ h=>h) hHeld ?_
                          refine pur_ 18 182 (flg 20 524287) rfl rfl (any_of HT_.out (by kernel_rfl)) (fun _ _ _ h=>h) ?_
                          refine pur_ 19 5 (flg 20 1048575) rfl rfl (any_of HT_.out (by kernel_rfl)) (fun _ _ _ h=>h) ?_
                          refine done_ (done_of HT_.out (by kernel_rfl)) ?_
                          try go_wp2
                          go_roundg k8
                          case measure=>have:=HJ2.out;have:=HJ19.out;have:=HJ46.out;have:=HJ56.out;have:=HK5.out;have:=HJ72.out;have:=HJ77.out;have:=HK8.out;omega
                          case rel=>exact ⟨(((rdOf ByteArray.empty ((rd_T72 l0_0 x8_5).f1) x9_8).toList == (rdOf ByteArray.empty ((rd_T72 l1_0 x8_5).f1) x9_8).toList)),(wrap64 (x9_8+1)),rf_,rf_,H',⟨by have:=HJ2.out;have:=HJ19.out;have:=HJ46.out;have:=HJ56.out;have:=HK5.out;have:=HJ72.out;have:=HJ77.out;have:=HK8.out;omega⟩,⟨kb_ BK481.out⟩,⟨kb_ BK482.out⟩,⟨bl_ HB.out⟩⟩
                         ·rw [if_neg c91] at H
                          exact absurd H (by simp)
                        ·rw [if_neg c90] at H
                         exact absurd H (by simp)
                       ·rw [if_neg c89] at H
                        exact absurd H (by simp)
                      ·rw [if_neg c88] at H
                       have c88b0:decide (x9_8 < (((rd_T72 l0_0 x8_5).f1).length:Int))=false:=decide_eq_false c88
                       clear c88
                       have H':=Aside0.mk H
                       clear H
                       have hnb95:=NB481_482.out
                       have hnc95:=NB482_481.out
                       have hcz96_0:wr.cell? ⟨gb481,0,none⟩=some (.slice A0_0 l0_0.length c0_0):=zc_ BK481.out 0
                       have hcz96_1:wr.cell? ⟨gb481,1,none⟩=some (.slice A0_1 l0_1.length c0_1):=zc_ BK481.out 1
                       have hcz96_2:wr.cell? ⟨gb481,2,none⟩=some (.slice A0_2 l0_2.length c0_2):=zc_ BK481.out 2
                       have hcz96_3:wr.cell? ⟨gb481,3,none⟩=some (.slice A0_3 l0_3.length c0_3):=zc_ BK481.out 3
                       have hfz96_0:=blk_frozen BK481.out 0
                       have hfz96_1:=blk_frozen BK481.out 1
                       have hfz96_2:=blk_frozen BK481.out 2
                       have hfz96_3:=blk_frozen BK481.out 3
                       have p498:0≤(x8_5:Int):=of_decide_eq_true as_
                       have q498:x8_5 < (l0_0.length:Int):=of_decide_eq_true as_
                       obtain ⟨ad498,A498_1,c498_1,e498,hx498_0,hx498_1,hl498_1,hi498_1⟩:=at_T72 HR0_0.out x8_5 p498 q498
                       cases e498
                       replace hx498_0:=(cb_ HB.out hx498_0:_)
                       replace hx498_1:=(cb_ HB.out hx498_1:_)
                       have HR498_1:=Aside0.mk hi498_1
                       have HC498_1:=Aside0.mk hl498_1
                       clear hi498_1 hl498_1
                       replace p498:=eq_true p498
                       replace q498:=eq_true q498
                       go_wp2
                       go_roundg k8
                       case measure=>have:=HJ2.out;have:=HJ19.out;have:=HJ46.out;have:=HJ56.out;have:=HK5.out;have:=HJ72.out;have:=HJ77.out;have:=HK8.out;omega
                       case rel=>exact ⟨(true),(wrap64 (x8_5+1)),rf_,rf_,H',⟨by have:=HJ2.out;have:=HJ19.out;have:=HJ46.out;have:=HJ56.out;have:=HK5.out;have:=HJ72.out;have:=HJ77.out;have:=HK8.out;omega⟩,⟨kb_ BK481.out⟩,⟨kb_ BK482.out⟩,⟨bl_ HB.out⟩⟩
                     ·rw [if_neg c87] at H
                      exact absurd H (by simp)
                    ·rw [if_neg c86] at H
                     exact absurd H (by simp)
                   ·replace c85:=Bool.eq_false_iff.mpr c85
                    subst c85
                    have H1:(helmsmanlaw12_TreeKinds.l2 k8 false (wrap64 (x8_5+1)) l0_0 l0_1 l0_2 l0_3 l1_0 l1_1 l1_2 l1_3)=some r:=by rw [if_neg (show ¬ (false=true) by decide)] at H;exact H
                    clear H
                    have H:=H1
                    clear H1
                    have H':=Aside0.mk H
                    clear H
                    go_wp2
                    go_roundg k8
                    case measure=>have:=HJ2.out;have:=HJ19.out;have:=HJ46.out;have:=HJ56.out;have:=HK5.out;have:=HJ72.out;have:=HJ77.out;have:=HK8.out;omega
                    case rel=>exact ⟨(false),(wrap64 (x8_5+1)),rf_,rf_,H',⟨by have:=HJ2.out;have:=HJ19.out;have:=HJ46.out;have:=HJ56.out;have:=HK5.out;have:=HJ72.out;have:=HJ77.out;have:=HK8.out;omega⟩,⟨kb_ BK481.out⟩,⟨kb_ BK482.out⟩,⟨bl_ HB.out⟩⟩
              ·replace c77:=Bool.eq_false_iff.mpr c77
               subst c77
               have H1:((helmsmanlaw12_alive.f).bind fun t503=>(if t503=true then ((helmsmanlaw12_Prog.f kj72 l0_0 l0_1 l0_2 l0_3).bind fun bt504=>((helmsmanlaw12_Prog.f kj72 l1_0 l1_1 l1_2 l1_3).bind fun bt516=>((tree_Same.f kj72 bt504.1 bt504.2.1 bt504.2.2.1 bt504.2.2.2 bt516.1 bt516.2.1 bt516.2.2.1 bt516.2.2.2).bind fun t528=>(some (t528 == x5_5))))) else (some false)))=some r:=by rw [if_neg (show ¬ (false=true) by decide)] at H;exact H
               clear H
               have H:=H1
               clear H1
               replace H:=Option.bind_eq_some_iff.mp H
               obtain ⟨t503,A970,H⟩:=H
               replace H:(if t503=true then ((helmsmanlaw12_Prog.f kj72 l0_0 l0_1 l0_2 l0_3).bind fun bt504=>((helmsmanlaw12_Prog.f kj72 l1_0 l1_1 l1_2 l1_3).bind fun bt516=>((tree_Same.f kj72 bt504.1 bt504.2.1 bt504.2.2.1 bt504.2.2.2 bt516.1 bt516.2.1 bt516.2.2.1 bt516.2.2.2).bind fun t528=>(some (t528 == x5_5))))) else (some false))=some r:=H
               have A97:=Aside0.mk A970
               clear A970
               by_cases c98:t503=true
               ·subst c98
                have H1:((helmsmanlaw12_Prog.f kj72 l0_0 l0_1 l0_2 l0_3).bind fun bt504=>((helmsmanlaw12_Prog.f kj72 l1_0 l1_1 l1_2 l1_3).bind fun bt516=>((tree_Same.f kj72 bt504.1 bt504.2.1 bt504.2.2.1 bt504.2.2.2 bt516.1 bt516.2.1 bt516.2.2.1 bt516.2.2.2).bind fun t528=>(some (t528 == x5_5)))))=some r:=by rw [if_pos rfl] at H;exact H
                clear H
                have H:=H1
                clear H1
                replace H:=Option.bind_eq_some_iff.mp H
                obtain ⟨⟨t504,t507,t510,t513⟩,A990,H⟩:=H
                replace H:((helmsmanlaw12_Prog.f kj72 l1_0 l1_1 l1_2 l1_3).bind fun bt516=>((tree_Same.f kj72 t504 t507 t510 t513 bt516.1 bt516.2.1 bt516.2.2.1 bt516.2.2.2).bind fun t528=>(some (t528 == x5_5))))=some r:=H
                have A99:=Aside0.mk A990
                clear A990
                replace H:=Option.bind_eq_some_iff.mp H
                obtain ⟨⟨t516,t519,t522,t525⟩,A1000,H⟩:=H
                replace H:((tree_Same.f kj72 t504 t507 t510 t513 t516 t519 t522 t525).bind fun t528=>(some (t528 == x5_5)))=some r:=H
                have A100:=Aside0.mk A1000
                clear A1000
                replace H:=Option.bind_eq_some_iff.mp H
                obtain ⟨t528,A1010,H⟩:=H
                replace H:(some (t528 == x5_5))=some r:=H
                have A101:=Aside0.mk A1010
                clear A1010
                obtain rfl:=Option.some.inj H
                try go_wp2
                have n0_:=Aside0.mk (blk_drew BK481.out)
                have n1_:=Aside0.mk (blk_drew BK482.out)
                have n2_:=Aside0.mk (below_drew1 HB.out)
                clear BK481
                clear BK482
                clear HB
                have BK481:=n0_
                have BK482:=n1_
                have HB:=n2_
                clear n0_ n1_ n2_
                refine start_ (n:=11) (S:=fun w'=>w'.cell? ⟨gb481,0,none⟩=some (.slice A0_0 l0_0.length c0_0)∧w'.cell? ⟨gb481,1,none⟩=some (.slice A0_1 l0_1.length c0_1)∧w'.cell? ⟨gb481,2,none⟩=some (.slice A0_2 l0_2.length c0_2)∧w'.cell? ⟨gb481,3,none⟩=some (.slice A0_3 l0_3.length c0_3)∧w'.cell? ⟨gb482,0,none⟩=some (.slice A1_0 l1_0.length c1_0)∧w'.cell? ⟨gb482,1,none⟩=some (.slice A1_1 l1_1.length c1_1)∧w'.cell? ⟨gb482,2,none⟩=some (.slice A1_2 l1_2.length c1_2)∧w'.cell? ⟨gb482,3,none⟩=some (.slice A1_3 l1_3.length c1_3)) (ds:=[]) (flg 11 0) (by kernel_rfl) rfl (by kernel_rfl) ⟨zc_ BK481.out 0,zc_ BK481.out 1,zc_ BK481.out 2,zc_ BK481.out 3,zc_ BK482.out 0,zc_ BK482.out 1,zc_ BK482.out 2,zc_ BK482.out 3⟩ (fun hHeld=>?_);refine with_tabW helmsmanlaw12_TreeKinds.tab20 helmsmanlaw12_TreeKinds.bits20 (fun HT_ HW_=>?_)
                generalize wc.drew=w102 at BK481 BK482 HB hHeld ⊢
                refine one_ (i:=0) (N:=some 183) (flg 11 1) rfl rfl (one_of HT_.out (by kernel_rfl)) (by decide) (fun K hK=>?_)
                refine goes_ Tryd.func10 (by kernel_rfl) rfl #[] (by rfl) rfl rfl ar_ ?_
                with_reducible refine (helmsmanlaw12_alive.calls  true _ ?side1 A97.out).mono ?_
                (case side1=>exact hT.later (bl_ HB.out))
                rintro e w103 ⟨rfl,hb⟩
                refine ⟨_,rfl,?_⟩
                have n0_:=Aside0.mk (bb_ BK481.out hb)
                have n1_:=Aside0.mk (bb_ BK482.out hb)
                have n2_:=Aside0.mk (below_step (bl_ HB.out) hb)
                clear BK481
                clear BK482
                clear HB
                have BK481:=n0_
                have BK482:=n1_
                have HB:=n2_
                clear n0_ n1_ n2_
                (try clear hb)
                (try clear hb2)
                (try clear hk)
                (try clear hi)
                refine hK.out _ _ ⟨zc_ BK481.out 0,zc_ BK481.out 1,zc_ BK481.out 2,zc_ BK481.out 3,zc_ BK482.out 0,zc_ BK482.out 1,zc_ BK482.out 2,zc_ BK482.out 3⟩ (fun hHeld=>?_)
                clear hK K
                refine norm_ (a':=?_) ?_ ?_
                rotate_left
                ·show Act.put _ (some 183) _=_
                 simp only [Act.put,List.setIfInBounds_toArray,List.set_cons_zero,List.set_cons_succ,i64_w,i32_w]
                 rfl
                refine pur_ 1 184 (flg 11 3) rfl rfl (any_of HT_.out (by kernel_rfl)) (fun _ _ _ h=>h) ?_
                refine pur_ 7 190 (flg 11 131) rfl rfl (any_of HT_.out (by kernel_rfl)) (fun _ _ _ h=>h) ?_
                refine tak_ 2 185 (flg 11 135) rfl rfl (take_ofW HT_.out HW_.out (by kernel_rfl)) (fun _ _ _ h=>h) hHeld ?_
                refine tak_ 4 187 (flg 11 151) rfl rfl (take_ofW HT_.out HW_.out (by kernel_rfl)) (fun _ _ _ h=>h) hHeld ?_
                refine one_ (i:=3) (N:=some 186) (flg 11 159) rfl rfl (one_of HT_.out (by kernel_rfl)) (by decide) (fun K hK=>?_)
                refine goes_ Tryd.func17 (by kernel_rfl) rfl #[.agg #[.slice A0_0 l0_0.length c0_0,.slice A0_1 l0_1.length c0_1,.slice A0_2 l0_2.length c0_2,.slice A0_3 l0_3.length c0_3]] (by rfl) rfl rfl ar_ ?_
                with_reducible refine (helmsmanlaw12_Prog.calls kj72 (fun k_=>k_ < w.heap.size) _ _ l0_0 _ _ l0_1 _ _ l0_2 _ _ l0_3 t504 t507 t510 t513 _ ?side1 ?side2 ?side3 ?side4 ?side5 ?side6 ?side7 A99.out).mono ?_
                (case side1=>exact Kd.V_mk HC0_0.out (Kd.F_below (Kd.C_F k72_heap HR0_0.out) (bl_ HB.out)))
                (case side2=>exact kc_ HR0_1.out HB.out)
                (case side3=>exact HC0_1.out)
                (case side4=>exact kc_ HR0_2.out HB.out)
                (case side5=>exact HC0_2.out)
                (case side6=>exact kc_ HR0_3.out HB.out)
                (case side7=>exact HC0_3.out)
                rintro e w104 ⟨v505,v508,v511,v514,rfl,ho0,ho1,ho2,ho3,hb⟩
                refine ⟨_,rfl,?_⟩
                have n0_:=Aside0.mk (Kd.N_lower (Kd.N_mono (ok':=fun k_=>some k_≠(v508:Value).ownBlock∧some k_≠(v511:Value).ownBlock∧some k_≠(v514:Value).ownBlock∧k_≠gb481∧k_≠gb482) ho0 (fun k_ hk_=>⟨hk_.2.1,hk_.2.2.1,hk_.2.2.2,Or.elim hk_.1 (fun hs_=>fun e_=>Nat.not_le.2 hs_ (by rw [e_];exact GW481.out)) (fun hn_=>(Kd.freshB (g:=gb481) (o:=.cells #[.slice A0_0 l0_0.length c0_0,.slice A0_1 l0_1.length c0_1,.slice A0_2 l0_2.length c0_2,.slice A0_3 l0_3.length c0_3] 43 (0,0)) (kb_ BK481.out) k_ hn_)),Or.elim hk_.1 (fun hs_=>fun e_=>Nat.not_le.2 hs_ (by rw [e_];exact GW482.out)) (fun hn_=>(Kd.freshB (g:=gb482) (o:=.cells #[.slice A1_0 l1_0.length c1_0,.slice A1_1 l1_1.length c1_1,.slice A1_2 l1_2.length c1_2,.slice A1_3 l1_3.length c1_3] 43 (0,0)) (kb_ BK482.out) k_ hn_))⟩)) (below_size (bl_ HB.out)))
                have n1_:=Aside0.mk (Kd.R_lower (Kd.R_mono (ok':=fun k_=>True) ho1 (fun _ hk_=>trivial)) (below_size (bl_ HB.out)))
                have n2_:=Aside0.mk (Kd.N_lower (Kd.N_mono (ok':=fun k_=>some k_≠(v505:Value).ownBlock∧some k_≠(v508:Value).ownBlock∧some k_≠(v514:Value).ownBlock∧k_≠gb481∧k_≠gb482) ho2 (fun k_ hk_=>⟨hk_.2.1,hk_.2.2.1,hk_.2.2.2,Or.elim hk_.1 (fun hs_=>fun e_=>Nat.not_le.2 hs_ (by rw [e_];exact GW481.out)) (fun hn_=>(Kd.freshB (g:=gb481) (o:=.cells #[.slice A0_0 l0_0.length c0_0,.slice A0_1 l0_1.length c0_1,.slice A0_2 l0_2.length c0_2,.slice A0_3 l0_3.length c0_3] 43 (0,0)) (kb_ BK481.out) k_ hn_)),Or.elim hk_.1 (fun hs_=>fun e_=>Nat.not_le.2 hs_ (by rw [e_];exact GW482.out)) (fun hn_=>(Kd.freshB (g:=gb482) (o:=.cells #[.slice A1_0 l1_0.length c1_0,.slice A1_1 l1_1.length c1_1,.slice A1_2 l1_2.length c1_2,.slice A1_3 l1_3.length c1_3] 43 (0,0)) (kb_ BK482.out) k_ hn_))⟩)) (below_size (bl_ HB.out)))
                have n3_:=Aside0.mk (Kd.N_lower (Kd.N_mono (ok':=fun k_=>some k_≠(v505:Value).ownBlock∧some k_≠(v508:Value).ownBlock∧some k_≠(v511:Value).ownBlock∧k_≠gb481∧k_≠gb482) ho3 (fun k_ hk_=>⟨hk_.2.1,hk_.2.2.1,hk_.2.2.2,Or.elim hk_.1 (fun hs_=>fun e_=>Nat.not_le.2 hs_ (by rw [e_];exact GW481.out)) (fun hn_=>(Kd.freshB (g:=gb481) (o:=.cells #[.slice A0_0 l0_0.length c0_0,.slice A0_1 l0_1.length c0_1,.slice A0_2 l0_2.length c0_2,.slice A0_3 l0_3.length c0_3] 43 (0,0)) (kb_ BK481.out) k_ hn_)),Or.elim hk_.1 (fun hs_=>fun e_=>Nat.not_le.2 hs_ (by rw [e_];exact GW482.out)) (fun hn_=>(Kd.freshB (g:=gb482) (o:=.cells #[.slice A1_0 l1_0.length c1_0,.slice A1_1 l1_1.length c1_1,.slice A1_2 l1_2.length c1_2,.slice A1_3 l1_3.length c1_3] 43 (0,0)) (kb_ BK482.out) k_ hn_))⟩)) (below_size (bl_ HB.out)))
                have n4_:=Aside0.mk (bb_ BK481.out hb)
                have n5_:=Aside0.mk (bb_ BK482.out hb)
                have n6_:=Aside0.mk (below_step (bl_ HB.out) hb)
                clear BK481
                clear BK482
                clear HB
                have HO506:=n0_
                have HO509:=n1_
                have HO512:=n2_
                have HO515:=n3_
                have BK481:=n4_
                have BK482:=n5_
                have HB:=n6_
                clear n0_ n1_ n2_ n3_ n4_ n5_ n6_
                (try clear hb)
                (try clear hb2)
                (try clear hk)
                (try clear hi)
                (try clear ho0)
                (try clear ho1)
                (try clear ho2)
                (try clear ho3)
                refine hK.out _ _ ⟨zc_ BK481.out 0,zc_ BK481.out 1,zc_ BK481.out 2,zc_ BK481.out 3,zc_ BK482.out 0,zc_ BK482.out 1,zc_ BK482.out 2,zc_ BK482.out 3⟩ (fun hHeld=>?_)
                clear hK K
                refine norm_ (a':=?_) ?_ ?_
                rotate_left
                ·show Act.put _ (some 186) _=_
                 simp only [Act.put,List.setIfInBounds_toArray,List.set_cons_zero,List.set_cons_succ,i64_w,i32_w]
                 rfl
                refine one_ (i:=5) (N:=some 188) (flg 11 191) rfl rfl (one_of HT_.out (by kernel_rfl)) (by decide) (fun K hK=>?_)
                refine goes_ Tryd.func17 (by kernel_rfl) rfl #[.agg #[.slice A1_0 l1_0.length c1_0,.slice A1_1 l1_1.length c1_1,.slice A1_2 l1_2.length c1_2,.slice A1_3 l1_3.length c1_3]] (by rfl) rfl rfl ar_ ?_
                with_reducible refine (helmsmanlaw12_Prog.calls kj72 (fun k_=>k_ < w.heap.size) _ _ l1_0 _ _ l1_1 _ _ l1_2 _ _ l1_3 t516 t519 t522 t525 _ ?side1 ?side2 ?side3 ?side4 ?side5 ?side6 ?side7 A100.out).mono ?_
                (case side1=>exact Kd.V_mk HC1_0.out (Kd.F_below (Kd.C_F k72_heap HR1_0.out) (bl_ HB.out)))
                (case side2=>exact kc_ HR1_1.out HB.out)
                (case side3=>exact HC1_1.out)
                (case side4=>exact kc_ HR1_2.out HB.out)
                (case side5=>exact HC1_2.out)
                (case side6=>exact kc_ HR1_3.out HB.out)
                (case side7=>exact HC1_3.out)
                rintro e w105 ⟨v517,v520,v523,v526,rfl,ho0,ho1,ho2,ho3,hb⟩
                refine ⟨_,rfl,?_⟩
                have n0_:=Aside0.mk (Kd.N_mono (Kd.N_told (Kd.N_told (Kd.N_told (Kd.N_told (Kd.N_old (by (with_reducible repeat (first|apply Kd.N_alloc|apply Kd.N_drewN|apply Kd.N_drew));exact HO506.out) hb) (by first|exact Kd.N_base ho0|exact Kd.N_base (Kd.R_N ho0)|exact Kd.N_base (Kd.R_N (Kd.R_bound ho0)))) (Kd.R_base ho1)) (by first|exact Kd.N_base ho2|exact Kd.N_base (Kd.R_N ho2)|exact Kd.N_base (Kd.R_N (Kd.R_bound ho2)))) (by first|exact Kd.N_base ho3|exact Kd.N_base (Kd.R_N ho3)|exact Kd.N_base (Kd.R_N (Kd.R_bound ho3)))) (fun _ h_=>h_.1))
                have n1_:=Aside0.mk (Kd.R_elder' (by (with_reducible repeat (first|apply Kd.R_alloc|apply Kd.R_drewN|apply Kd.R_drew));exact HO509.out) (Kd.R_base ho1) hb)
                have n2_:=Aside0.mk (Kd.N_mono (Kd.N_told (Kd.N_told (Kd.N_told (Kd.N_told (Kd.N_old (by (with_reducible repeat (first|apply Kd.N_alloc|apply Kd.N_drewN|apply Kd.N_drew));exact HO512.out) hb) (by first|exact Kd.N_base ho0|exact Kd.N_base (Kd.R_N ho0)|exact Kd.N_base (Kd.R_N (Kd.R_bound ho0)))) (Kd.R_base ho1)) (by first|exact Kd.N_base ho2|exact Kd.N_base (Kd.R_N ho2)|exact Kd.N_base (Kd.R_N (Kd.R_bound ho2)))) (by first|exact Kd.N_base ho3|exact Kd.N_base (Kd.R_N ho3)|exact Kd.N_base (Kd.R_N (Kd.R_bound ho3)))) (fun _ h_=>h_.1))
                have n3_:=Aside0.mk (Kd.N_mono (Kd.N_told (Kd.N_told (Kd.N_told (Kd.N_told (Kd.N_old (by (with_reducible repeat (first|apply Kd.N_alloc|apply Kd.N_drewN|apply Kd.N_drew));exact HO515.out) hb) (by first|exact Kd.N_base ho0|exact Kd.N_base (Kd.R_N ho0)|exact Kd.N_base (Kd.R_N (Kd.R_bound ho0)))) (Kd.R_base ho1)) (by first|exact Kd.N_base ho2|exact Kd.N_base (Kd.R_N ho2)|exact Kd.N_base (Kd.R_N (Kd.R_bound ho2)))) (by first|exact Kd.N_base ho3|exact Kd.N_base (Kd.R_N ho3)|exact Kd.N_base (Kd.R_N (Kd.R_bound ho3)))) (fun _ h_=>h_.1))
                have n4_:=Aside0.mk (Kd.N_lower (Kd.N_mono (ok':=fun k_=>some k_≠(v520:Value).ownBlock∧some k_≠(v523:Value).ownBlock∧some k_≠(v526:Value).ownBlock∧some k_≠(v505:Value).ownBlock∧some k_≠(v508:Value).ownBlock∧some k_≠(v511:Value).ownBlock∧some k_≠(v514:Value).ownBlock∧k_≠gb481∧k_≠gb482) ho0 (fun k_ hk_=>⟨hk_.2.1,hk_.2.2.1,hk_.2.2.2,Or.elim hk_.1 (fun hs_=>fun e_=>Nat.not_le.2 hs_ (Kd.N_base HO506.out k_ e_.symm)) (fun hn_=>(Kd.fresh' (Kd.N_lt (by (with_reducible repeat (first|apply Kd.N_alloc|apply Kd.N_drewN|apply Kd.N_drew));exact HO506.out)) k_ hn_)),Or.elim hk_.1 (fun hs_=>fun e_=>Nat.not_le.2 hs_ (Kd.R_base HO509.out k_ e_.symm)) (fun hn_=>(Kd.fresh' (Kd.R_lt (by (with_reducible repeat (first|apply Kd.R_alloc|apply Kd.R_drewN|apply Kd.R_drew));exact HO509.out)) k_ hn_)),Or.elim hk_.1 (fun hs_=>fun e_=>Nat.not_le.2 hs_ (Kd.N_base HO512.out k_ e_.symm)) (fun hn_=>(Kd.fresh' (Kd.N_lt (by (with_reducible repeat (first|apply Kd.N_alloc|apply Kd.N_drewN|apply Kd.N_drew));exact HO512.out)) k_ hn_)),Or.elim hk_.1 (fun hs_=>fun e_=>Nat.not_le.2 hs_ (Kd.N_base HO515.out k_ e_.symm)) (fun hn_=>(Kd.fresh' (Kd.N_lt (by (with_reducible repeat (first|apply Kd.N_alloc|apply Kd.N_drewN|apply Kd.N_drew));exact HO515.out)) k_ hn_)),Or.elim hk_.1 (fun hs_=>fun e_=>Nat.not_le.2 hs_ (by rw [e_];exact GW481.out)) (fun hn_=>(Kd.freshB (g:=gb481) (o:=.cells #[.slice A0_0 l0_0.length c0_0,.slice A0_1 l0_1.length c0_1,.slice A0_2 l0_2.length c0_2,.slice A0_3 l0_3.length c0_3] 43 (0,0)) (kb_ BK481.out) k_ hn_)),Or.elim hk_.1 (fun hs_=>fun e_=>Nat.not_le.2 hs_ (by rw [e_];exact GW482.out)) (fun hn_=>(Kd.freshB (g:=gb482) (o:=.cells #[.slice A1_0 l1_0.length c1_0,.slice A1_1 l1_1.length c1_1,.slice A1_2 l1_2.length c1_2,.slice A1_3 l1_3.length c1_3] 43 (0,0)) (kb_ BK482.out) k_ hn_))⟩)) (below_size (bl_ HB.out)))
                have n5_:=Aside0.mk (Kd.R_lower (Kd.R_new' (Kd.R_mono (ok':=fun k_=>True) ho1 (fun _ hk_=>trivial)) (Kd.R_lt (by (with_reducible repeat (first|apply Kd.R_alloc|apply Kd.R_drewN|apply Kd.R_drew));exact HO509.out))) (below_size (bl_ HB.out)))
                have n6_:=Aside0.mk (Kd.N_lower (Kd.N_mono (ok':=fun k_=>some k_≠(v517:Value).ownBlock∧some k_≠(v520:Value).ownBlock∧some k_≠(v526:Value).ownBlock∧some k_≠(v505:Value).ownBlock∧some k_≠(v508:Value).ownBlock∧some k_≠(v511:Value).ownBlock∧some k_≠(v514:Value).ownBlock∧k_≠gb481∧k_≠gb482) ho2 (fun k_ hk_=>⟨hk_.2.1,hk_.2.2.1,hk_.2.2.2,Or.elim hk_.1 (fun hs_=>fun e_=>Nat.not_le.2 hs_ (Kd.N_base HO506.out k_ e_.symm)) (fun hn_=>(Kd.fresh' (Kd.N_lt (by (with_reducible repeat (first|apply Kd.N_alloc|apply Kd.N_drewN|apply Kd.N_drew));exact HO506.out)) k_ hn_)),Or.elim hk_.1 (fun hs_=>fun e_=>Nat.not_le.2 hs_ (Kd.R_base HO509.out k_ e_.symm)) (fun hn_=>(Kd.fresh' (Kd.R_lt (by (with_reducible repeat (first|apply Kd.R_alloc|apply Kd.R_drewN|apply Kd.R_drew));exact HO509.out)) k_ hn_)),Or.elim hk_.1 (fun hs_=>fun e_=>Nat.not_le.2 hs_ (Kd.N_base HO512.out k_ e_.symm)) (fun hn_=>(Kd.fresh' (Kd.N_lt (by (with_reducible repeat (first|apply Kd.N_alloc|apply Kd.N_drewN|apply Kd.N_drew));exact HO512.out)) k_ hn_)),Or.elim hk_.1 (fun hs_=>fun e_=>Nat.not_le.2 hs_ (Kd.N_base HO515.out k_ e_.symm)) (fun hn_=>(Kd.fresh' (Kd.N_lt (by (with_reducible repeat (first|apply Kd.N_alloc|apply Kd.N_drewN|apply Kd.N_drew));exact HO515.out)) k_ hn_)),Or.elim hk_.1 (fun hs_=>fun e_=>Nat.not_le.2 hs_ (by rw [e_];exact GW481.out)) (fun hn_=>(Kd.freshB (g:=gb481) (o:=.cells #[.slice A0_0 l0_0.length c0_0,.slice A0_1 l0_1.length c0_1,.slice A0_2 l0_2.length c0_2,.slice A0_3 l0_3.length c0_3] 43 (0,0)) (kb_ BK481.out) k_ hn_)),Or.elim hk_.1 (fun hs_=>fun e_=>Nat.not_le.2 hs_ (by rw [e_];exact GW482.out)) (fun hn_=>(Kd.freshB (g:=gb482) (o:=.cells #[.slice A1_0 l1_0.length c1_0,.slice A1_1 l1_1.length c1_1,.slice A1_2 l1_2.length c1_2,.slice A1_3 l1_3.length c1_3] 43 (0,0)) (kb_ BK482.out) k_ hn_))⟩)) (below_size (bl_ HB.out)))
                have n7_:=Aside0.mk (Kd.N_lower (Kd.N_mono (ok':=fun k_=>some k_≠(v517:Value).ownBlock∧some k_≠(v520:Value).ownBlock∧some k_≠(v523:Value).ownBlock∧some k_≠(v505:Value).ownBlock∧some k_≠(v508:Value).ownBlock∧some k_≠(v511:Value).ownBlock∧some k_≠(v514:Value).ownBlock∧k_≠gb481∧k_≠gb482) ho3 (fun k_ hk_=>⟨hk_.2.1,hk_.2.2.1,hk_.2.2.2,Or.elim hk_.1 (fun hs_=>fun e_=>Nat.not_le.2 hs_ (Kd.N_base HO506.out k_ e_.symm)) (fun hn_=>(Kd.fresh' (Kd.N_lt (by (with_reducible repeat (first|apply Kd.N_alloc|apply Kd.N_drewN|apply Kd.N_drew));exact HO506.out)) k_ hn_)),Or.elim hk_.1 (fun hs_=>fun e_=>Nat.not_le.2 hs_ (Kd.R_base HO509.out k_ e_.symm)) (fun hn_=>(Kd.fresh' (Kd.R_lt (by (with_reducible repeat (first|apply Kd.R_alloc|apply Kd.R_drewN|apply Kd.R_drew));exact HO509.out)) k_ hn_)),Or.elim hk_.1 (fun hs_=>fun e_=>Nat.not_le.2 hs_ (Kd.N_base HO512.out k_ e_.symm)) (fun hn_=>(Kd.fresh' (Kd.N_lt (by (with_reducible repeat (first|apply Kd.N_alloc|apply Kd.N_drewN|apply Kd.N_drew));exact HO512.out)) k_ hn_)),Or.elim hk_.1 (fun hs_=>fun e_=>Nat.not_le.2 hs_ (Kd.N_base HO515.out k_ e_.symm)) (fun hn_=>(Kd.fresh' (Kd.N_lt (by (with_reducible repeat (first|apply Kd.N_alloc|apply Kd.N_drewN|apply Kd.N_drew));exact HO515.out)) k_ hn_)),Or.elim hk_.1 (fun hs_=>fun e_=>Nat.not_le.2 hs_ (by rw [e_];exact GW481.out)) (fun hn_=>(Kd.freshB (g:=gb481) (o:=.cells #[.slice A0_0 l0_0.length c0_0,.slice A0_1 l0_1.length c0_1,.slice A0_2 l0_2.length c0_2,.slice A0_3 l0_3.length c0_3] 43 (0,0)) (kb_ BK481.out) k_ hn_)),Or.elim hk_.1 (fun hs_=>fun e_=>Nat.not_le.2 hs_ (by rw [e_];exact GW482.out)) (fun hn_=>(Kd.freshB (g:=gb482) (o:=.cells #[.slice A1_0 l1_0.length c1_0,.slice A1_1 l1_1.length c1_1,.slice A1_2 l1_2.length c1_2,.slice A1_3 l1_3.length c1_3] 43 (0,0)) (kb_ BK482.out) k_ hn_))⟩)) (below_size (bl_ HB.out)))
                have n8_:=Aside0.mk (bb_ BK481.out hb)
                have n9_:=Aside0.mk (bb_ BK482.out hb)
                have n10_:=Aside0.mk (below_step (bl_ HB.out) hb)
                clear HO506
                clear HO509
                clear HO512
                clear HO515
                clear BK481
                clear BK482
                clear HB
                have HO506:=n0_
                have HO509:=n1_
                have HO512:=n2_
                have HO515:=n3_
                have HO518:=n4_
                have HO521:=n5_
                have HO524:=n6_
                have HO527:=n7_
                have BK481:=n8_
                have BK482:=n9_
                have HB:=n10_
                clear n0_ n1_ n2_ n3_ n4_ n5_ n6_ n7_ n8_ n9_ n10_
                (try clear hb)
                (try clear hb2)
                (try clear hk)
                (try clear hi)
                (try clear ho0)
                (try clear ho1)
                (try clear ho2)
                (try clear ho3)
                obtain ⟨Ao106,co106,eo106⟩:=Kd.N_slice HO506.out
                (first|subst eo106|(injection eo106 with f1_ f2_ f3_;have f4_:=f1_.symm;have f5_:=f3_.symm;clear f1_ f2_ f3_;subst f4_;subst f5_))
                obtain ⟨Ao107,co107,eo107⟩:=Kd.R_slice HO509.out
                (first|subst eo107|(injection eo107 with f1_ f2_ f3_;have f4_:=f1_.symm;have f5_:=f3_.symm;clear f1_ f2_ f3_;subst f4_;subst f5_))
                obtain ⟨Ao108,co108,eo108⟩:=Kd.N_slice HO512.out
                (first|subst eo108|(injection eo108 with f1_ f2_ f3_;have f4_:=f1_.symm;have f5_:=f3_.symm;clear f1_ f2_ f3_;subst f4_;subst f5_))
                obtain ⟨Ao109,co109,eo109⟩:=Kd.N_slice HO515.out
                (first|subst eo109|(injection eo109 with f1_ f2_ f3_;have f4_:=f1_.symm;have f5_:=f3_.symm;clear f1_ f2_ f3_;subst f4_;subst f5_))
                obtain ⟨Ao110,co110,eo110⟩:=Kd.N_slice HO518.out
                (first|subst eo110|(injection eo110 with f1_ f2_ f3_;have f4_:=f1_.symm;have f5_:=f3_.symm;clear f1_ f2_ f3_;subst f4_;subst f5_))
                obtain ⟨Ao111,co111,eo111⟩:=Kd.R_slice HO521.out
                (first|subst eo111|(injection eo111 with f1_ f2_ f3_;have f4_:=f1_.symm;have f5_:=f3_.symm;clear f1_ f2_ f3_;subst f4_;subst f5_))
                obtain ⟨Ao112,co112,eo112⟩:=Kd.N_slice HO524.out
                (first|subst eo112|(injection eo112 with f1_ f2_ f3_;have f4_:=f1_.symm;have f5_:=f3_.symm;clear f1_ f2_ f3_;subst f4_;subst f5_))
                obtain ⟨Ao113,co113,eo113⟩:=Kd.N_slice HO527.out
                (first|subst eo113|(injection eo113 with f1_ f2_ f3_;have f4_:=f1_.symm;have f5_:=f3_.symm;clear f1_ f2_ f3_;subst f4_;subst f5_))
                refine hK.out _ _ ⟨zc_ BK481.out 0,zc_ BK481.out 1,zc_ BK481.out 2,zc_ BK481.out 3,zc_ BK482.out 0,zc_ BK482.out 1,zc_ BK482.out 2,zc_ BK482.out 3⟩ (fun hHeld=>?_)
                clear hK K
                refine norm_ (a':=?_) ?_ ?_
                rotate_left
                ·show Act.put _ (some 188) _=_
                 simp only [Act.put,List.setIfInBounds_toArray,List.set_cons_zero,List.set_cons_succ,i64_w,i32_w]
                 rfl
                refine one_ (i:=6) (N:=some 189) (flg 11 255) rfl rfl (one_of HT_.out (by kernel_rfl)) (by decide) (fun K hK=>?_)
                refine goes_ Tryd.func28 (by kernel_rfl) rfl #[.agg #[.slice Ao106 t504.length co106,.slice Ao107 t507.length co107,.slice Ao108 t510.length co108,.slice Ao109 t513.length co109],.agg #[.slice Ao110 t516.length co110,.slice Ao111 t519.length co111,.slice Ao112 t522.length co112,.slice Ao113 t525.length co113]] (by rfl) rfl rfl ar_ ?_
                with_reducible refine (tree_Same.calls kj72 _ _ t504 _ _ t507 _ _ t510 _ _ t513 _ _ t516 _ _ t519 _ _ t522 _ _ t525 t528 _ ?side1 ?side2 ?side3 ?side4 ?side5 ?side6 ?side7 ?side8 ?side9 ?side10 ?side11 ?side12 ?side13 ?side14 ?side15 ?side16 A101.out).mono ?_
                (case side1=>repeat (first|exact (Kd.N_reads' HO506.out).2.2|(with_reducible refine Kd.C_alloc ?_ _)|(with_reducible refine Kd.C_drewN ?_ _)|(with_reducible refine Kd.C_drew ?_)))
                (case side2=>exact (Kd.N_reads' HO506.out).2.1)
                (case side3=>repeat (first|exact (Kd.R_reads' HO509.out).2.2|(with_reducible refine Kd.C_alloc ?_ _)|(with_reducible refine Kd.C_drewN ?_ _)|(with_reducible refine Kd.C_drew ?_)))
                (case side4=>exact (Kd.R_reads' HO509.out).2.1)
                (case side5=>repeat (first|exact (Kd.N_reads' HO512.out).2.2|(with_reducible refine Kd.C_alloc ?_ _)|(with_reducible refine Kd.C_drewN ?_ _)|(with_reducible refine Kd.C_drew ?_)))
                (case side6=>exact (Kd.N_reads' HO512.out).2.1)
                (case side7=>repeat (first|exact (Kd.N_reads' HO515.out).2.2|(with_reducible refine Kd.C_alloc ?_ _)|(with_reducible refine Kd.C_drewN ?_ _)|(with_reducible refine Kd.C_drew ?_)))
                (case side8=>exact (Kd.N_reads' HO515.out).2.1)
                (case side9=>repeat (first|exact (Kd.N_reads' HO518.out).2.2|(with_reducible refine Kd.C_alloc ?_ _)|(with_reducible refine Kd.C_drewN ?_ _)|(with_reducible refine Kd.C_drew ?_)))
                (case side10=>exact (Kd.N_reads' HO518.out).2.1)
                (case side11=>repeat (first|exact (Kd.R_reads' HO521.out).2.2|(with_reducible refine Kd.C_alloc ?_ _)|(with_reducible refine Kd.C_drewN ?_ _)|(with_reducible refine Kd.C_drew ?_)))
                (case side12=>exact (Kd.R_reads' HO521.out).2.1)
                (case side13=>repeat (first|exact (Kd.N_reads' HO524.out).2.2|(with_reducible refine Kd.C_alloc ?_ _)|(with_reducible refine Kd.C_drewN ?_ _)|(with_reducible refine Kd.C_drew ?_)))
                (case side14=>exact (Kd.N_reads' HO524.out).2.1)
                (case side15=>repeat (first|exact (Kd.N_reads' HO527.out).2.2|(with_reducible refine Kd.C_alloc ?_ _)|(with_reducible refine Kd.C_drewN ?_ _)|(with_reducible refine Kd.C_drew ?_)))
                (case side16=>exact (Kd.N_reads' HO527.out).2.1)
                rintro e w114 ⟨rfl,hb⟩
                refine ⟨_,rfl,?_⟩
                have n0_:=Aside0.mk (Kd.N_below (by (with_reducible repeat (first|apply Kd.N_alloc|apply Kd.N_drewN|apply Kd.N_drew));exact HO506.out) hb)
                have n1_:=Aside0.mk (Kd.R_below (by (with_reducible repeat (first|apply Kd.R_alloc|apply Kd.R_drewN|apply Kd.R_drew));exact HO509.out) hb)
                have n2_:=Aside0.mk (Kd.N_below (by (with_reducible repeat (first|apply Kd.N_alloc|apply Kd.N_drewN|apply Kd.N_drew));exact HO512.out) hb)
                have n3_:=Aside0.mk (Kd.N_below (by (with_reducible repeat (first|apply Kd.N_alloc|apply Kd.N_drewN|apply Kd.N_drew));exact HO515.out) hb)
                have n4_:=Aside0.mk (Kd.N_below (by (with_reducible repeat (first|apply Kd.N_alloc|apply Kd.N_drewN|apply Kd.N_drew));exact HO518.out) hb)
                have n5_:=Aside0.mk (Kd.R_below (by (with_reducible repeat (first|apply Kd.R_alloc|apply Kd.R_drewN|apply Kd.R_drew));exact HO521.out) hb)
                have n6_:=Aside0.mk (Kd.N_below (by (with_reducible repeat (first|apply Kd.N_alloc|apply Kd.N_drewN|apply Kd.N_drew));exact HO524.out) hb)
                have n7_:=Aside0.mk (Kd.N_below (by (with_reducible repeat (first|apply Kd.N_alloc|apply Kd.N_drewN|apply Kd.N_drew));exact HO527.out) hb)
                have n8_:=Aside0.mk (bb_ BK481.out hb)
                have n9_:=Aside0.mk (bb_ BK482.out hb)
                have n10_:=Aside0.mk (below_step (bl_ HB.out) hb)
                clear HO506
                clear HO509
                clear HO512
                clear HO515
                clear HO518
                clear HO521
                clear HO524
                clear HO527
                clear BK481
                clear BK482
                clear HB
                have HO506:=n0_
                have HO509:=n1_
                have HO512:=n2_
                have HO515:=n3_
                have HO518:=n4_
                have HO521:=n5_
                have HO524:=n6_
                have HO527:=n7_
                have BK481:=n8_
                have BK482:=n9_
                have HB:=n10_
                clear n0_ n1_ n2_ n3_ n4_ n5_ n6_ n7_ n8_ n9_ n10_
                (try clear hb)
                (try clear hb2)
                (try clear hk)
                (try clear hi)
                refine hK.out _ _ ⟨zc_ BK481.out 0,zc_ BK481.out 1,zc_ BK481.out 2,zc_ BK481.out 3,zc_ BK482.out 0,zc_ BK482.out 1,zc_ BK482.out 2,zc_ BK482.out 3⟩ (fun hHeld=>?_)
                clear hK K
                refine norm_ (a':=?_) ?_ ?_
                rotate_left
                ·show Act.put _ (some 189) _=_
                 simp only [Act.put,List.setIfInBounds_toArray,List.set_cons_zero,List.set_cons_succ,i64_w,i32_w]
                 rfl
                refine pur_ 8 191 (flg 11 511) rfl rfl (any_of HT_.out (by kernel_rfl)) (fun _ _ _ h=>h) ?_
                refine pur_ 9 192 (flg 11 1023) rfl rfl (any_of HT_.out (by kernel_rfl)) (fun _ _ _ h=>h) ?_
                refine pur_ 10 4 (flg 11 2047) rfl rfl (any_of HT_.out (by kernel_rfl)) (fun _ _ _ h=>h) ?_
                refine done_ (done_of HT_.out (by kernel_rfl)) ?_
                try go_wp2
                go_ret
                exact ⟨rt_,bl_ HB.out⟩
               ·replace c98:=Bool.eq_false_iff.mpr c98
                subst c98
                have H1:(some false)=some r:=by rw [if_neg (show ¬ (false=true) by decide)] at H;exact H
                clear H
                have H:=H1
                clear H1
                obtain rfl:=Option.some.inj H
                try go_wp2
                have n0_:=Aside0.mk (blk_drew BK481.out)
                have n1_:=Aside0.mk (blk_drew BK482.out)
                have n2_:=Aside0.mk (below_drew1 HB.out)
                clear BK481
                clear BK482
                clear HB
                have BK481:=n0_
                have BK482:=n1_
                have HB:=n2_
                clear n0_ n1_ n2_
                refine start_ (n:=11) (S:=fun w'=>True) (ds:=[]) (flg 11 0) (by kernel_rfl) rfl (by kernel_rfl) trivial (fun hHeld=>?_);refine with_tabW helmsmanlaw12_TreeKinds.tab20 helmsmanlaw12_TreeKinds.bits20 (fun HT_ HW_=>?_)
                generalize wc.drew=w115 at BK481 BK482 HB hHeld ⊢
                refine one_ (i:=0) (N:=some 183) (flg 11 1) rfl rfl (one_of HT_.out (by kernel_rfl)) (by decide) (fun K hK=>?_)
                refine goes_ Tryd.func10 (by kernel_rfl) rfl #[] (by rfl) rfl rfl ar_ ?_
                with_reducible refine (helmsmanlaw12_alive.calls  false _ ?side1 A97.out).mono ?_
                (case side1=>exact hT.later (bl_ HB.out))
                rintro e w116 ⟨rfl,hb⟩
                refine ⟨_,rfl,?_⟩
                have n0_:=Aside0.mk (bb_ BK481.out hb)
                have n1_:=Aside0.mk (bb_ BK482.out hb)
                have n2_:=Aside0.mk (below_step (bl_ HB.out) hb)
                clear BK481
                clear BK482
                clear HB
                have BK481:=n0_
                have BK482:=n1_
                have HB:=n2_
                clear n0_ n1_ n2_
                (try clear hb)
                (try clear hb2)
                (try clear hk)
                (try clear hi)
                refine hK.out _ _ trivial (fun hHeld=>?_)
                clear hK K
                refine norm_ (a':=?_) ?_ ?_
                rotate_left
                ·show Act.put _ (some 183) _=_
                 simp only [Act.put,List.setIfInBounds_toArray,List.set_cons_zero,List.set_cons_succ,i64_w,i32_w]
                 rfl
                refine pur_ 1 184 (flg 11 3) rfl rfl (any_of HT_.out (by kernel_rfl)) (fun _ _ _ h=>h) ?_
                refine skp_ 2 185 (flg 11 7) rfl rfl (any_of HT_.out (by kernel_rfl)) (fun _ _ _ h=>h) ?_
                refine skp_ 3 186 (flg 11 15) rfl rfl (any_of HT_.out (by kernel_rfl)) (fun _ _ _ h=>h) ?_
                refine skp_ 4 187 (flg 11 31) rfl rfl (any_of HT_.out (by kernel_rfl)) (fun _ _ _ h=>h) ?_
                refine skp_ 5 188 (flg 11 63) rfl rfl (any_of HT_.out (by kernel_rfl)) (fun _ _ _ h=>h) ?_
                refine skp_ 6 189 (flg 11 127) rfl rfl (any_of HT_.out (by kernel_rfl)) (fun _ _ _ h=>h) ?_
                refine skp_ 7 190 (flg 11 255) rfl rfl (any_of HT_.out (by kernel_rfl)) (fun _ _ _ h=>h) ?_
                refine skp_ 8 191 (flg 11 511) rfl rfl (any_of HT_.out (by kernel_rfl)) (fun _ _ _ h=>h) ?_
                refine pur_ 9 192 (flg 11 1023) rfl rfl (any_of HT_.out (by kernel_rfl)) (fun _ _ _ h=>h) ?_
                refine pur_ 10 4 (flg 11 2047) rfl rfl (any_of HT_.out (by kernel_rfl)) (fun _ _ _ h=>h) ?_
                refine done_ (done_of HT_.out (by kernel_rfl)) ?_
                try go_wp2
                go_ret
                exact ⟨rt_,bl_ HB.out⟩
end Go.Proofs.YtnnbbeloifhofaaDoor.P
end
section
namespace Go.Proofs.YtnnbbeloifhofaaDoor.P
open Go Go.RowKit Go.Proofs
open Go.Proofs.YtnnbbeloifhofaaDoorW.PrintWords Go.Proofs.YtnnbbeloifhofaaDoorW.PrintLast Go.Proofs.YtnnbbeloifhofaaDoorW.PrintMore
set_option linter.unusedVariables false
theorem flag_loop {α β γ:Type} (xs:List α) (ys:List β) (za:α) (zb:β) (l0:Nat→Bool→Int→Option γ) (s:α→β→Bool) (fin:Bool→γ) (hl:xs.length=ys.length) (hlim:xs.length < 4611686018427387904)
    (hno : ∀ i:Nat,Ev (fun k=>l0 k false i) (fin false)) (hend:Ev (fun k=>l0 k true xs.length) (fin true))
    (hin : ∀ i:Nat,i < xs.length→∀ g:Bool→γ,(∀ b,Ev (fun k=>l0 k b (wrap64 ((i:Int)+1))) (g b))→Ev (fun k=>l0 k true i) (g (s (xs.getD i za) (ys.getD i zb)))) :
    Ev (fun k=>l0 k true 0) (fin (all2 s xs ys)):=by
  have key : ∀ (m i:Nat),xs.length - i=m→i≤xs.length→Ev (fun k=>l0 k true i) (fin (all2 s (xs.drop i) (ys.drop i))):=by
    intro m
    induction m with
    | zero=>
      intro i hm hi
      obtain rfl:i=xs.length:=by omega
      rw [List.drop_length,hl,List.drop_length,all2]
      rw [hl] at hend
      exact hend
    | succ m ih=>
      intro i hm hi
      have hx:i < xs.length:=by omega
      have hy:i < ys.length:=by omega
      have:=hin i hx (fun b=>fin (b && all2 s (xs.drop (i+1)) (ys.drop (i+1)))) (fun b=>by
        rw [wrap64_small (by omega) (by omega)]
        cases b with
        | false=>exact hno (i+1)
        | true=>exact ih (i+1) (by omega) (by omega))
      rw [List.getD_eq_getElem?_getD,List.getD_eq_getElem?_getD,List.getElem?_eq_getElem hx,List.getElem?_eq_getElem hy,Option.getD_some,Option.getD_some] at this
      rw [List.drop_eq_getElem_cons hx,List.drop_eq_getElem_cons hy,all2]
      exact this
  exact key _ 0 rfl (Nat.zero_le _)
theorem lists_beq (a b:ByteArray):(a.toList == b.toList)=decide (a=b):=by
  rw [Bool.eq_iff_iff,beq_iff_eq,decide_eq_true_eq];exact toList_iff
section
variable (e:List REn) (v:List RV) (p:List RP) (m:List RS) (e':List REn) (v':List RV) (p':List RP) (m':List RS)
theorem kinds_end (h:Small e v p m) (h':Small e' v' p' m') (b:Bool) (i:Int):Ev (fun k=>helmsmanlaw12_TreeKinds.j7 k b i false e v p m e' v' p' m') (sameP e v p m e' v' p' m' == b):=by
  refine Ev.step (fun k=>helmsmanlaw12_TreeKinds.j7.eq_2 _ _ _ _ _ _ _ _ _ _ _ k) (Ev.no (by simp) (alive_now (Ev.yes rfl ?_)))
  refine Ev.bind (Prog_ev e v p m h) (Ev.bind (Prog_ev e' v' p' m' h') (Ev.bind (Same_ev e v p m h e' v' p' m') (Ev.now _)))
theorem kinds_l2_no (h:Small e v p m) (h':Small e' v' p' m') (i:Int):Ev (fun k=>helmsmanlaw12_TreeKinds.l2 k false i e v p m e' v' p' m') (sameP e v p m e' v' p' m' == false):=
  Ev.step (fun k=>helmsmanlaw12_TreeKinds.l2.eq_2 _ _ _ _ _ _ _ _ _ _ k) (Ev.no (by simp) (kinds_end e v p m e' v' p' m' h h' false i))
theorem kinds_l3 (i:Nat) (hi:i < e.length) (hi':i < e'.length) (hlim:(e.getD i z72).f1.length < 4611686018427387904) (hl:(e.getD i z72).f1.length=(e'.getD i z72).f1.length) (g:Bool→Bool)
    (hg : ∀ b,Ev (fun k=>helmsmanlaw12_TreeKinds.l2 k b (wrap64 ((i:Int)+1)) e v p m e' v' p' m') (g b)) :
    Ev (fun k=>helmsmanlaw12_TreeKinds.l3 k true i 0 e v p m e' v' p' m') (g (all2 (fun a b=>decide (a=b)) (e.getD i z72).f1 (e'.getD i z72).f1)):=by
  refine flag_loop _ _ ByteArray.empty ByteArray.empty (fun k b j=>helmsmanlaw12_TreeKinds.l3 k b i j e v p m e' v' p' m') (fun a b=>decide (a=b)) g hl hlim ?_ ?_ ?_
  · intro j
    exact Ev.step (fun k=>helmsmanlaw12_TreeKinds.l3.eq_2 _ _ _ _ _ _ _ _ _ _ _ k) (Ev.no (by simp) (hg false))
  · refine Ev.step (fun k=>helmsmanlaw12_TreeKinds.l3.eq_2 _ _ _ _ _ _ _ _ _ _ _ k) (Ev.yes rfl (Ev.yes (by omega) (Ev.yes (by omega) (Ev.no ?_ (hg true)))))
    exact Int.lt_irrefl _
  · intro j hj g2 hg2
    refine Ev.step (fun k=>helmsmanlaw12_TreeKinds.l3.eq_2 _ _ _ _ _ _ _ _ _ _ _ k) (Ev.yes rfl (Ev.yes (by omega) (Ev.yes (by omega) (Ev.yes ?_ (Ev.yes (by omega) (Ev.yes (by omega) (Ev.yes ?_ ?_)))))))
    · exact (show ((j:Int) < ((e.getD i z72).f1.length:Int)) by omega)
    · exact (show ((j:Int) < ((e'.getD i z72).f1.length:Int)) by omega)
    · rw [lists_beq]
      exact hg2 _
theorem kinds_l2 (h:Small e v p m) (h':Small e' v' p' m') (hl:e.length=e'.length) :
    Ev (fun k=>helmsmanlaw12_TreeKinds.l2 k true 0 e v p m e' v' p' m') (sameP e v p m e' v' p' m' == all2 sameEn e e'):=by
  have h1:=h.en
  refine flag_loop e e' z72 z72 (fun k b i=>helmsmanlaw12_TreeKinds.l2 k b i e v p m e' v' p' m') sameEn (fun b=>sameP e v p m e' v' p' m' == b) hl (by omega) ?_ ?_ ?_
  · intro i;exact kinds_l2_no e v p m e' v' p' m' h h' _
  · refine Ev.step (fun k=>helmsmanlaw12_TreeKinds.l2.eq_2 _ _ _ _ _ _ _ _ _ _ k) (Ev.yes rfl ?_)
    rw [decide_eq_false (Int.lt_irrefl _)]
    exact kinds_end e v p m e' v' p' m' h h' true _
  · intro i hi g hg
    have hm:=getD_mem' z72 hi
    have hlim:=h.el _ hm
    refine Ev.step (fun k=>helmsmanlaw12_TreeKinds.l2.eq_2 _ _ _ _ _ _ _ _ _ _ k) (Ev.yes rfl ?_)
    rw [decide_eq_true (show (i:Int) < (e.length:Int) by omega)]
    refine Ev.step (fun k=>helmsmanlaw12_TreeKinds.j7.eq_2 _ _ _ _ _ _ _ _ _ _ _ k) (Ev.yes rfl (Ev.yes (by omega) (Ev.yes (by omega) (Ev.yes (by omega) ?_))))
    show Ev _ (g (sameEn (e.getD i z72) (e'.getD i z72)))
    unfold sameEn
    have no:Ev (fun k=>helmsmanlaw12_TreeKinds.j8 k false i e v p m e' v' p' m') (g false):=
      Ev.step (fun k=>helmsmanlaw12_TreeKinds.j8.eq_2 _ _ _ _ _ _ _ _ _ _ k) (Ev.step (fun k=>helmsmanlaw12_TreeKinds.l3.eq_2 _ _ _ _ _ _ _ _ _ _ _ k) (Ev.no (by simp) (hg false)))
    by_cases h0:(e.getD i z72).f0=(e'.getD i z72).f0
    · refine Ev.yes (show (e.getD i z72).f0.toList=(e'.getD i z72).f0.toList from toList_iff.2 h0) ?_
      rw [decide_eq_true h0,Bool.true_and]
      show Ev (fun k=>helmsmanlaw12_TreeKinds.j8 k (((e.getD i z72).f1.length:Int) == ((e'.getD i z72).f1.length:Int)) i e v p m e' v' p' m') _
      by_cases hl1:(e.getD i z72).f1.length=(e'.getD i z72).f1.length
      · rw [show (((e.getD i z72).f1.length:Int) == ((e'.getD i z72).f1.length:Int))=true from beq_iff_eq.2 (by omega)]
        exact Ev.step (fun k=>helmsmanlaw12_TreeKinds.j8.eq_2 _ _ _ _ _ _ _ _ _ _ k) (kinds_l3 e v p m e' v' p' m' i hi (by omega) (by omega) hl1 g hg)
      · rw [show (((e.getD i z72).f1.length:Int) == ((e'.getD i z72).f1.length:Int))=false from beq_eq_false_iff_ne.2 (by omega),all2_len hl1]
        exact no
    · refine Ev.no (show ¬ (e.getD i z72).f0.toList=(e'.getD i z72).f0.toList from fun q=>h0 (toList_iff.1 q)) ?_
      rw [decide_eq_false h0,Bool.false_and]
      exact no
theorem kinds_l1 (h:Small e v p m) (h':Small e' v' p' m') (hl:e.length=e'.length) (hlp:p.length=p'.length) :
    Ev (fun k=>helmsmanlaw12_TreeKinds.l1 k true 0 e v p m e' v' p' m') (sameP e v p m e' v' p' m' == (all2 samePr p p' && all2 sameEn e e')):=by
  have h1:=h.pr
  have no : ∀ i:Nat,Ev (fun k=>helmsmanlaw12_TreeKinds.l1 k false i e v p m e' v' p' m') (sameP e v p m e' v' p' m' == (false && all2 sameEn e e')):=fun i=>
    Ev.step (fun k=>helmsmanlaw12_TreeKinds.l1.eq_2 _ _ _ _ _ _ _ _ _ _ k) (Ev.no (by simp) (Ev.step (fun k=>helmsmanlaw12_TreeKinds.j5.eq_2 _ _ _ _ _ _ _ _ _ k) (kinds_l2_no e v p m e' v' p' m' h h' 0)))
  refine flag_loop p p' z69 z69 (fun k b i=>helmsmanlaw12_TreeKinds.l1 k b i e v p m e' v' p' m') samePr (fun b=>sameP e v p m e' v' p' m' == (b && all2 sameEn e e')) hlp (by omega) no ?_ ?_
  · refine Ev.step (fun k=>helmsmanlaw12_TreeKinds.l1.eq_2 _ _ _ _ _ _ _ _ _ _ k) (Ev.yes rfl (Ev.no (Int.lt_irrefl _) (Ev.step (fun k=>helmsmanlaw12_TreeKinds.j5.eq_2 _ _ _ _ _ _ _ _ _ k) ?_)))
    exact kinds_l2 e v p m e' v' p' m' h h' hl
  · intro i hi g hg
    have hm:=getD_mem' z69 hi
    have hb:=h.bo _ hm
    refine Ev.step (fun k=>helmsmanlaw12_TreeKinds.l1.eq_2 _ _ _ _ _ _ _ _ _ _ k) (Ev.yes rfl (Ev.yes (by omega) (Ev.yes (by omega) (Ev.yes (by omega) ?_))))
    show Ev _ (g (samePr (p.getD i z69) (p'.getD i z69)))
    unfold samePr
    by_cases h0:(p.getD i z69).f0=(p'.getD i z69).f0
    · refine Ev.yes (show (p.getD i z69).f0.toList=(p'.getD i z69).f0.toList from toList_iff.2 h0) ?_
      rw [decide_eq_true h0,Bool.true_and]
      exact Ev.bind (rSameSs_ev _ _ hb) (hg _)
    · refine Ev.no (show ¬ (p.getD i z69).f0.toList=(p'.getD i z69).f0.toList from fun q=>h0 (toList_iff.1 q)) ?_
      rw [decide_eq_false h0,Bool.false_and]
      exact hg false
theorem kinds_l0_no (h:Small e v p m) (h':Small e' v' p' m') (i:Int):Ev (fun k=>helmsmanlaw12_TreeKinds.l0 k false i e v p m e' v' p' m') (sameP e v p m e' v' p' m' == false):=
  Ev.step (fun k=>helmsmanlaw12_TreeKinds.l0.eq_2 _ _ _ _ _ _ _ _ _ _ k) (Ev.no (by simp) (Ev.step (fun k=>helmsmanlaw12_TreeKinds.j3.eq_2 _ _ _ _ _ _ _ _ _ k)
    (Ev.step (fun k=>helmsmanlaw12_TreeKinds.l1.eq_2 _ _ _ _ _ _ _ _ _ _ k) (Ev.no (by simp) (Ev.step (fun k=>helmsmanlaw12_TreeKinds.j5.eq_2 _ _ _ _ _ _ _ _ _ k) (kinds_l2_no e v p m e' v' p' m' h h' 0))))))
theorem kinds_l0 (h:Small e v p m) (h':Small e' v' p' m') (hl:e.length=e'.length) (hlp:p.length=p'.length) (hlv:v.length=v'.length) :
    Ev (fun k=>helmsmanlaw12_TreeKinds.l0 k true 0 e v p m e' v' p' m') (sameP e v p m e' v' p' m' == (all2 sameV v v' && (all2 samePr p p' && all2 sameEn e e'))):=by
  have h1:=h.va
  refine flag_loop v v' z56 z56 (fun k b i=>helmsmanlaw12_TreeKinds.l0 k b i e v p m e' v' p' m') sameV (fun b=>sameP e v p m e' v' p' m' == (b && (all2 samePr p p' && all2 sameEn e e'))) hlv (by omega) ?_ ?_ ?_
  · intro i;exact kinds_l0_no e v p m e' v' p' m' h h' _
  · refine Ev.step (fun k=>helmsmanlaw12_TreeKinds.l0.eq_2 _ _ _ _ _ _ _ _ _ _ k) (Ev.yes rfl (Ev.no (Int.lt_irrefl _) (Ev.step (fun k=>helmsmanlaw12_TreeKinds.j3.eq_2 _ _ _ _ _ _ _ _ _ k) ?_)))
    exact kinds_l1 e v p m e' v' p' m' h h' hl hlp
  · intro i hi g hg
    refine Ev.step (fun k=>helmsmanlaw12_TreeKinds.l0.eq_2 _ _ _ _ _ _ _ _ _ _ k) (Ev.yes rfl (Ev.yes (by omega) (Ev.yes (by omega) (Ev.yes (by omega) ?_))))
    rw [lists_beq,lists_beq]
    exact hg _
theorem TreeKinds_ev (hb:bulkP e v p m < 1099511627775) (hb':bulkP e' v' p' m' < 1099511627775):Ev (fun k=>helmsmanlaw12_TreeKinds.f k e v p m e' v' p' m') true:=by
  have h:=small_of e v p m hb
  have h':=small_of e' v' p' m' hb'
  have yes:Ev (fun k=>helmsmanlaw12_TreeKinds.j0 k true e v p m e' v' p' m') true:=Ev.step (fun k=>helmsmanlaw12_TreeKinds.j0.eq_2 _ _ _ _ _ _ _ _ _ k) (Ev.yes rfl (alive_now (Ev.now _)))
  unfold helmsmanlaw12_TreeKinds.f
  refine Ev.bind (Sized_ev e v p m h hb) ?_
  by_cases g1:(szP p m:Int) > 300
  · exact Ev.yes g1 yes
  refine Ev.no g1 (Ev.bind (Sized_ev e' v' p' m' h' hb') ?_)
  by_cases g2:(szP p' m':Int) > 300
  · rw [decide_eq_true g2];exact yes
  rw [decide_eq_false g2]
  refine Ev.step (fun k=>helmsmanlaw12_TreeKinds.j0.eq_2 _ _ _ _ _ _ _ _ _ k) (Ev.no (by simp) (Ev.bind (rSameSs_ev m m' h.ma) ?_))
  have no:sameP e v p m e' v' p' m'=false→Ev (fun k=>helmsmanlaw12_TreeKinds.j1 k false e v p m e' v' p' m') true:=fun q=>by
    have:=kinds_l0_no e v p m e' v' p' m' h h' 0
    rw [q] at this
    exact Ev.step (fun k=>helmsmanlaw12_TreeKinds.j1.eq_2 _ _ _ _ _ _ _ _ _ k) this
  cases c:sameSs m m' with
  | false=>exact Ev.no (by simp) (no (by unfold sameP;rw [c];simp only [Bool.and_false]))
  | true=>
    refine Ev.yes rfl ?_
    by_cases c1:e.length=e'.length
    · refine Ev.yes (by omega) ?_
      by_cases c2:v.length=v'.length
      · refine Ev.yes (by omega) ?_
        by_cases c3:p.length=p'.length
        · rw [show ((p.length:Int) == (p'.length:Int))=true from beq_iff_eq.2 (by omega)]
          have:=kinds_l0 e v p m e' v' p' m' h h' c1 c3 c2
          rw [show (sameP e v p m e' v' p' m' == (all2 sameV v v' && (all2 samePr p p' && all2 sameEn e e')))=true by
            unfold sameP;rw [c]
            cases all2 sameV v v' <;> cases all2 samePr p p' <;> cases all2 sameEn e e' <;> rfl] at this
          exact Ev.step (fun k=>helmsmanlaw12_TreeKinds.j1.eq_2 _ _ _ _ _ _ _ _ _ k) this
        · rw [show ((p.length:Int) == (p'.length:Int))=false from beq_eq_false_iff_ne.2 (by omega)]
          exact no (by unfold sameP;rw [all2_len c3];simp only [Bool.false_and,Bool.and_false])
      · exact Ev.no (by omega) (no (by unfold sameP;rw [all2_len c2];simp only [Bool.false_and,Bool.and_false]))
    · exact Ev.no (by omega) (no (by unfold sameP;rw [all2_len c1];simp only [Bool.false_and]))
end
end Go.Proofs.YtnnbbeloifhofaaDoor.P
end
section
namespace Go.Proofs.YtnnbbeloifhofaaDoor.treeKindsUpto
open Go.ChangeShapes Go.WideShapes Go.ChangeAt Go.RowKit
open Go.ChangeMaps (open_string shut_string)
set_option linter.unusedVariables false
theorem reads (os:Os) {H:Type} (enc:TypeId × Value→H) : ∃ places,DataW.whole enc Tryd.prog ((laidWorld os).forCall (fun _ _=>0) ⟨#[],#[.agg #[.slice none 0 0,.slice none 0 0,.slice none 0 0,.slice none 0 0],.agg #[.slice none 0 0,.slice none 0 0,.slice none 0 0,.slice none 0 0]],[]⟩).memory Tryd.f7.params.toList Rows.treeKindsSpec.vars false (#[.agg #[.slice none 0 0,.slice none 0 0,.slice none 0 0,.slice none 0 0],.agg #[.slice none 0 0,.slice none 0 0,.slice none 0 0,.slice none 0 0]]:Array Value).toList 8=some ([.agg [.nil,.nil,.nil,.nil],.agg [.nil,.nil,.nil,.nil]],[],places):=
  ⟨[],by kernel_rfl⟩
set_option maxRecDepth 100000 in
theorem lifted (os:Os) (started:os.Started) (H:Type) (enc:TypeId × Value→H) (F:Stop.Interp) :
    ReturnsInHanded {} Tryd.checked os 7 .any ((Rows.OpenSpec.upto Rows.treeKindsSpec).preRow enc Tryd.prog Tryd.f7 Rows.treeKindsUptoRow.domain false Rows.treeKindsUptoRow.laid) (((Rows.OpenSpec.upto Rows.treeKindsSpec).at F).post enc Tryd.prog Tryd.f7 false true false false):=by
  obtain ⟨places,hx⟩:=reads os enc
  refine returnsInHanded_of_row (C:=Tryd.checked) (s:=(Rows.OpenSpec.upto Rows.treeKindsSpec)) own started (by kernel_rfl) Tryd.func7
    (witness_row_atRef (enc:=enc) (C:=Tryd.checked) false (laidWorld os) #[.agg #[.slice none 0 0,.slice none 0 0,.slice none 0 0,.slice none 0 0],.agg #[.slice none 0 0,.slice none 0 0,.slice none 0 0,.slice none 0 0]] rfl (by kernel_rfl) (by kernel_rfl) (by kernel_rfl)
      (OpenSpec.preRow_of_cond 8 hx (by kernel_rfl) (fun k hk=>by cases hk;kernel_rfl) (by kernel_rfl) (laid_met os _))) ?_
  intro W base args ds gs before hval0 hW _ hcond hsz0 hL _ _
  have hval : ∀ (j:Nat) t v,Tryd.f7.params[j]?=some t→args[j]?=some v→Value.okWide Tryd.prog W .any base t v:=hval0
  have hW':=hW
  obtain ⟨p,q,hA0,hV,rfl,hfz,hnd⟩:=hW
  have hA:DataW.TrodAll enc Tryd.prog W 0 (fun _=>true) true Tryd.f7.params.toList args.toList ds p:=hA0
  rw [Tryd.params7] at hA hval
  obtain ⟨v0,vs0,d0,ds0,p0,q0,hargs,rfl,rfl,h0,r0⟩:=trodAll_cons hA
  obtain ⟨v1,vs1,d1,ds1,p1,q1,rfl,rfl,rfl,h1,r1⟩:=trodAll_cons r0
  obtain ⟨rfl,rfl,rfl⟩:=trodAll_nil r1
  obtain rfl:args=#[v0,v1]:=by cases args;simp_all
  obtain ⟨rfl,rfl⟩:=trodVars_none hV
  have lt0 : ∀ x ∈ p0,x.block < W.heap.size:=by obtain ⟨m,hm⟩:=h0;exact DataW.trod_lt m _ _ _ hm
  have lt1 : ∀ x ∈ p1,x.block < W.heap.size:=by obtain ⟨m,hm⟩:=h1;exact DataW.trod_lt m _ _ _ hm
  have hr0:=h0
  obtain ⟨m0,hm0⟩:=hr0
  have hr1:=h1
  obtain ⟨m1,hm1⟩:=hr1
  have hT:P.TabT W:=tabs hL
  obtain ⟨cs0,rfl,_⟩:=okWide_struct Tryd.underlying43 (hval 0 43 v0 rfl rfl)
  obtain ⟨E0,V0,P0,M0,A0_0,A0_1,A0_2,A0_3,c0_0,c0_1,c0_2,c0_3,hcs0,g0_0,l0_0,g0_1,l0_1,g0_2,l0_2,g0_3,l0_3,B0,O0⟩:=P.readProg m0 _ _ hm0
  replace hcs0:cs0.toList=[.slice A0_0 E0.length c0_0,.slice A0_1 V0.length c0_1,.slice A0_2 P0.length c0_2,.slice A0_3 M0.length c0_3]:=hcs0
  obtain rfl:cs0=#[.slice A0_0 E0.length c0_0,.slice A0_1 V0.length c0_1,.slice A0_2 P0.length c0_2,.slice A0_3 M0.length c0_3]:=by cases cs0;simp_all
  replace B0:_≤Rows.uptoBulk d0:=B0
  obtain ⟨cs1,rfl,_⟩:=okWide_struct Tryd.underlying43 (hval 1 43 v1 rfl rfl)
  obtain ⟨E1,V1,P1,M1,A1_0,A1_1,A1_2,A1_3,c1_0,c1_1,c1_2,c1_3,hcs1,g1_0,l1_0,g1_1,l1_1,g1_2,l1_2,g1_3,l1_3,B1,O1⟩:=P.readProg m1 _ _ hm1
  replace hcs1:cs1.toList=[.slice A1_0 E1.length c1_0,.slice A1_1 V1.length c1_1,.slice A1_2 P1.length c1_2,.slice A1_3 M1.length c1_3]:=hcs1
  obtain rfl:cs1=#[.slice A1_0 E1.length c1_0,.slice A1_1 V1.length c1_1,.slice A1_2 P1.length c1_2,.slice A1_3 M1.length c1_3]:=by cases cs1;simp_all
  replace B1:_≤Rows.uptoBulk d1:=B1
  have hB:Rows.uptoBulkAll [d0,d1]≤1048576:=of_decide_eq_true (hcond _ rfl)
  simp only [Rows.uptoBulkAll] at hB
  obtain ⟨k,hk⟩:=(P.TreeKinds_ev E0 V0 P0 M0 E1 V1 P1 M1 (by omega) (by omega)).rounds
  refine (P.helmsmanlaw12_TreeKinds.calls k A0_0 c0_0 E0 A0_1 c0_1 V0 A0_2 c0_2 P0 A0_3 c0_3 M0 A1_0 c1_0 E1 A1_1 c1_1 V1 A1_2 c1_2 P1 A1_3 c1_3 M1 true W hT g0_0 l0_0 g0_1 l0_1 g0_2 l0_2 g0_3 l0_3 g1_0 l1_0 g1_1 l1_1 g1_2 l1_2 g1_3 l1_3 hk).mono fun e W' ⟨he,bel⟩=>?_
  subst he
  exact ⟨_,rfl,_,_,_,[],_,[],hW',trodAll_mk1 (shut_bool Tryd.underlying4 _),(trodAll_cons_mk (Below.trod laidOut (by kernel_rfl) (of_decide_eq_true (by kernel_rfl)) h0 bel lt0) (trodAll_cons_mk (Below.trod laidOut (by kernel_rfl) (of_decide_eq_true (by kernel_rfl)) h1 bel lt1) trodAll_mk0)),rfl,bel.frame _,fun h=>by cases h⟩
theorem said:Rows.TreeKindsUptoSaid:=
  OpenClaim.holds_of_cond 7 Tryd.f7 rfl rfl rfl rfl rfl rfl rfl ⟨rfl,rfl,rfl,rfl,rfl⟩ rfl rfl rfl rfl rfl (by kernel_rfl) Tryd.func7 (by kernel_rfl)
    (of_decide_eq_true (by kernel_rfl)) (by unfold Func.isWrapper;first|(rw [if_pos (by decide +kernel)];kernel_rfl)|(rw [if_neg (by decide +kernel)];exact ⟨rfl,rfl⟩))
    (fun os started H enc _ F=>by rw [OpenClaim.pre_eq_preRow];exact lifted os started H enc F)
theorem plain (f:FuncId) (fn:Func) (hf:Tryd.pinned.checked.prog.funcNamed Rows.treeKindsUptoRow.func=some f) (hfn:Tryd.pinned.checked.prog.funcs[f]?=some fn) :
    false=Tryd.pinned.checked.prog.looks []∧∀ (j:Nat) t,fn.params[j]?=some t→Tryd.pinned.checked.prog.wantsStandIn t=false:=by
  obtain rfl:f=7:=Option.some.inj ((show Tryd.prog.funcNamed Rows.treeKindsUptoRow.func=some 7 by kernel_rfl).symm.trans hf) |>.symm
  obtain rfl:fn=Tryd.f7:=(Option.some.inj (Tryd.func7.symm.trans hfn)).symm
  refine ⟨by kernel_rfl,fun j t ht=>?_⟩
  rw [Tryd.params7] at ht
  have ht2:=Array.mem_of_getElem? ht
  have ht3:t=43:=by simpa using ht2
  obtain rfl:=ht3
  exact (show Tryd.prog.wantsStandIn 43=false by kernel_rfl)
end Go.Proofs.YtnnbbeloifhofaaDoor.treeKindsUpto
namespace Go.Proofs.YtnnbbeloifhofaaDoor
theorem treeKindsUpto_holds:Rows.TreeKindsUptoCardSaid:=
  Claim7.holds_tied_plain_at .later [] _ _ _ _ treeKindsUpto.said (fun _ h=>by cases h) (by kernel_rfl) (fun _ h=>by cases h) treeKindsUpto_row_tie rfl ⟨rfl,rfl⟩ (by kernel_rfl) rfl treeKindsUpto.plain (by kernel_rfl)
#print axioms treeKindsUpto_holds
end Go.Proofs.YtnnbbeloifhofaaDoor
end
