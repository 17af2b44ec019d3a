/- TreePlaces: for all programs (what is read of bulk at most 1048576) and any shift, where things stood is of no account: what is moved is the same, and is printed alike. The second form: no other condition. -/
import Derived.Test.YtnnbbeloifhofaaDoorCTreePlacesUpto0
import Derived.Test.YtnnbbeloifhofaaDoorCTreePlacesUpto3
import Derived.Test.YtnnbbeloifhofaaDoorCTreePlacesUpto1
import Derived.Test.YtnnbbeloifhofaaDoorCTreePlacesUpto2
import Derived.Test.YtnnbbeloifhofaaDoorCards
import Derived.Test.YtnnbbeloifhofaaDoorTie
import Derived.WalkKit
import Derived.ProofKit
import Derived.OpenShut
import Derived.ShutString
import Derived.ChangeOld
import Derived.Below
import Derived.SizedLaws
section
namespace Go.Proofs.YtnnbbeloifhofaaDoor.P
open Go.RowKit Go.Proofs.YtnnbbeloifhofaaDoorW.PrintWords Go.Proofs.YtnnbbeloifhofaaDoorW.PrintLast Go.Proofs.YtnnbbeloifhofaaDoorW.PrintMore
attribute [local go_sem] max2_int min2_int max_two min_two max_three min_three max_four min_four
set_option linter.unusedVariables false
set_option linter.unusedSimpArgs false
def tree_Sized.l0:Nat→Int→List (S66)→Int→Int→Option (Int)
 | 0,_,_,_,_=>none
 | k+1,x3,x10,x11,x12=>if x12 < x11 then (if 0≤x12 then (if x12 < (x10.length:Int) then ((tree_stmts.f k ((rd_T66 x10 x12).f1)).bind fun t248=>(tree_Sized.l0 k (wrap64 (x3+t248)) x10 x11 (wrap64 (x12+1)))) else (none)) else (none)) else (some x3)
def tree_Sized.f (k:Nat) (l0_0:List (S79)) (l0_1:List (S80)) (l0_2:List (S66)) (l0_3:List (S76)):Option (Int):=(tree_stmts.f k l0_3).bind fun t245=>(tree_Sized.l0 k t245 l0_2 (l0_2.length:Int) 0)
set_option maxHeartbeats 8000000 in
set_option maxRecDepth 100000 in
theorem tree_Sized.calls (k:Nat) (A0_0:Option Addr) (c0_0:Nat) (l0_0:List (S79)) (A0_1:Option Addr) (c0_1:Nat) (l0_1:List (S80)) (A0_2:Option Addr) (c0_2:Nat) (l0_2:List (S66)) (A0_3:Option Addr) (c0_3:Nat) (l0_3:List (S76)) (r:Int) (w:World) (hr0_0:Kd.C k79 w A0_0 l0_0.length l0_0) (hc0_0:l0_0.length≤c0_0) (hr0_1:Kd.C k80 w A0_1 l0_1.length l0_1) (hc0_1:l0_1.length≤c0_1) (hr0_2:Kd.C k66 w A0_2 l0_2.length l0_2) (hc0_2:l0_2.length≤c0_2) (hr0_3:Kd.C k76 w A0_3 l0_3.length l0_3) (hc0_3:l0_3.length≤c0_3) (h:tree_Sized.f k l0_0 l0_1 l0_2 l0_3=some r) :
  Calls Tryd.prog 20 #[.agg #[.slice A0_0 l0_0.length c0_0,.slice A0_1 l0_1.length c0_1,.slice A0_2 l0_2.length c0_2,.slice A0_3 l0_3.length c0_3]] w fun e w'=>e=.returned (.int .i64 r)∧Below w.heap.size w w':=by
 have hu50:=Tryd.underlying50
 have hu66:=Tryd.underlying66
 have HR0_0:=Aside0.mk hr0_0
 have HC0_0:=Aside0.mk hc0_0
 clear hr0_0 hc0_0
 have HR0_1:=Aside0.mk hr0_1
 have HC0_1:=Aside0.mk hc0_1
 clear hr0_1 hc0_1
 have HR0_2:=Aside0.mk hr0_2
 have HC0_2:=Aside0.mk hc0_2
 clear hr0_2 hc0_2
 have HR0_3:=Aside0.mk hr0_3
 have HC0_3:=Aside0.mk hc0_3
 clear hr0_3 hc0_3
 have HB:=Aside0.mk (Below.refl w.heap.size w)
 have H:((tree_stmts.f k l0_3).bind fun t245=>(tree_Sized.l0 k t245 l0_2 (l0_2.length:Int) 0))=some r:=h
 clear h
 replace H:=Option.bind_eq_some_iff.mp H
 obtain ⟨t245,A20,H⟩:=H
 replace H:(tree_Sized.l0 k t245 l0_2 (l0_2.length:Int) 0)=some r:=H
 have A2:=Aside0.mk A20
 clear A20
 have H':=Aside0.mk H
 clear H
 go_enter Tryd.func20,Tryd.ntmps20
 go_wp2_with (first|((with_reducible refine gate_dst (N:=1) rfl ?_);refine box_event ?hg (N:=1) ?hd (cs:=#[.slice A0_0 l0_0.length c0_0,.slice A0_1 l0_1.length c0_1,.slice A0_2 l0_2.length c0_2,.slice A0_3 l0_3.length c0_3]) (t:=50) ?hr ?_;(case hd=>rfl);(case hg=>rfl);(case hr=>first|(go_simp;done)|(go_simp;rfl));intro gb244 hg w3 hbox hb;have n0_:=Aside0.mk (below_step (bl_ HB.out) hb);have n1_:=Aside0.mk (hbox);have n2_:=Aside0.mk ((gs_ hg (bl_ HB.out):w.heap.size≤gb244));have n3_:=Aside0.mk ((gs_ hg (bl_ HB.out):w.heap.size≤gb244));clear HB;have HB:=n0_;have BK244:=n1_;have GW244:=n2_;have GE244:=n3_;clear n0_ n1_ n2_ n3_;clear hb hbox hg;have hcz4_0:w3.cell? ⟨gb244,0,none⟩=some (.slice A0_0 l0_0.length c0_0):=zc_ BK244.out 0;have hcz4_1:w3.cell? ⟨gb244,1,none⟩=some (.slice A0_1 l0_1.length c0_1):=zc_ BK244.out 1;have hcz4_2:w3.cell? ⟨gb244,2,none⟩=some (.slice A0_2 l0_2.length c0_2):=zc_ BK244.out 2;have hcz4_3:w3.cell? ⟨gb244,3,none⟩=some (.slice A0_3 l0_3.length c0_3):=zc_ BK244.out 3;have hfz4_0:=blk_frozen BK244.out 0;have hfz4_1:=blk_frozen BK244.out 1;have hfz4_2:=blk_frozen BK244.out 2;have hfz4_3:=blk_frozen BK244.out 3)|((with_reducible refine gate_callee (f:=36) rfl ?_);refine goesL_ (some 8) rfl rfl Tryd.func36 (by kernel_rfl) rfl #[.slice A0_3 l0_3.length c0_3] rfl ar_ ?_;(with_reducible refine (tree_stmts.calls k _ _ l0_3 t245 _ ?side1 ?side2 A2.out).mono ?_);(case side1=>exact kc_ HR0_3.out HB.out);(case side2=>exact HC0_3.out);rintro e w5 ⟨rfl,hb⟩;refine ⟨_,rfl,?_⟩;have n0_:=Aside0.mk (bb_ BK244.out hb);have n1_:=Aside0.mk (below_step (bl_ HB.out) hb);clear BK244;clear HB;have BK244:=n0_;have HB:=n1_;clear n0_ n1_;(try clear hb);(try clear hb2);(try clear hk);(try clear hi);have hcz6_0:w5.cell? ⟨gb244,0,none⟩=some (.slice A0_0 l0_0.length c0_0):=zc_ BK244.out 0;have hcz6_1:w5.cell? ⟨gb244,1,none⟩=some (.slice A0_1 l0_1.length c0_1):=zc_ BK244.out 1;have hcz6_2:w5.cell? ⟨gb244,2,none⟩=some (.slice A0_2 l0_2.length c0_2):=zc_ BK244.out 2;have hcz6_3:w5.cell? ⟨gb244,3,none⟩=some (.slice A0_3 l0_3.length c0_3):=zc_ BK244.out 3;have hfz6_0:=blk_frozen BK244.out 0;have hfz6_1:=blk_frozen BK244.out 1;have hfz6_2:=blk_frozen BK244.out 2;have hfz6_3:=blk_frozen BK244.out 3))
 (try simp only [Act.put,List.setIfInBounds_toArray,List.set_cons_succ,List.set_cons_zero])
 go_loopg [3,12] k (fun kq v3 v12 w'=>∃ (x3_1:Int) (x12_1:Int),v3=.int .i64 x3_1∧v12=.int .i64 x12_1∧Aside0 (tree_Sized.l0 kq x3_1 l0_2 (l0_2.length:Int) x12_1=some r)∧Aside0 (kq≤k)∧Aside0 (w'.heap[gb244]?=some (.cells #[(.slice A0_0 l0_0.length c0_0),(.slice A0_1 l0_1.length c0_1),(.slice A0_2 l0_2.length c0_2),(.slice A0_3 l0_3.length c0_3)] 50 (0,0)))∧Aside0 (Below w.heap.size w w'))
 case atStart=>exact ⟨(t245),(0),rf_,rf_,H',⟨Nat.le_refl _⟩,⟨kb_ BK244.out⟩,⟨bl_ HB.out⟩⟩
 case round=>
  clear H'
  (try clear c2);(try clear p2);(try clear c3);(try clear hcz4_0);(try clear hcz4_1);(try clear hcz4_2);(try clear hcz4_3);(try clear hcz6_0);(try clear hcz6_1);(try clear hcz6_2);(try clear hcz6_3);(try clear hfz4_0);(try clear hfz4_1);(try clear hfz4_2);(try clear hfz4_3);(try clear hfz6_0);(try clear hfz6_1);(try clear hfz6_2);(try clear hfz6_3)
  obtain ⟨x3_1,x12_1,rfl,rfl,HA,HK1,BK244,HB⟩:=hrel
  cases gk with
  | zero=>exact absurd HA.out (by simp [tree_Sized.l0])
  | succ k1=>
   have H:=HA.out
   clear HA
   simp only [tree_Sized.l0] at H
   by_cases c7:x12_1 < (l0_2.length:Int)
   ·rw [if_pos c7] at H
    have c7b0:decide (x12_1 < (l0_2.length:Int))=true:=decide_eq_true c7
    clear c7
    by_cases c8:0≤x12_1
    ·rw [if_pos c8] at H
     have c8b0:decide (0≤x12_1)=true:=decide_eq_true c8
     clear c8
     by_cases c9:x12_1 < (l0_2.length:Int)
     ·rw [if_pos c9] at H
      have c9b0:decide (x12_1 < (l0_2.length:Int))=true:=decide_eq_true c9
      clear c9
      replace H:=Option.bind_eq_some_iff.mp H
      obtain ⟨t248,A100,H⟩:=H
      replace H:(tree_Sized.l0 k1 (wrap64 (x3_1+t248)) l0_2 (l0_2.length:Int) (wrap64 (x12_1+1)))=some r:=H
      have A10:=Aside0.mk A100
      clear A100
      have H':=Aside0.mk H
      clear H
      have p246:0≤(x12_1:Int):=of_decide_eq_true as_
      have q246:x12_1 < (l0_2.length:Int):=of_decide_eq_true as_
      obtain ⟨ad246,A246_1,c246_1,e246,hx246_0,hx246_1,hl246_1,hi246_1⟩:=at_T66 HR0_2.out x12_1 p246 q246
      cases e246
      replace hx246_0:=(cb_ HB.out hx246_0:_)
      replace hx246_1:=(cb_ HB.out hx246_1:_)
      have HR246_1:=Aside0.mk hi246_1
      have HC246_1:=Aside0.mk hl246_1
      clear hi246_1 hl246_1
      replace p246:=eq_true p246
      replace q246:=eq_true q246
      go_wp2_with (first|((with_reducible refine gate_dst (N:=5) rfl ?_);refine box_event ?hg (N:=5) ?hd (cs:=#[.string (⟨#[]⟩:ByteArray),.slice none 0 0]) (t:=66) ?hr ?_;(case hd=>rfl);(case hg=>rfl);(case hr=>first|(go_simp;done)|(go_simp;rfl));intro gb247 hg w11 hbox hb;have n0_:=Aside0.mk (bb_ BK244.out hb);have n1_:=Aside0.mk (below_step (bl_ HB.out) hb);have n2_:=Aside0.mk (hbox);have n3_:=Aside0.mk ((gs_ hg (bl_ HB.out):w.heap.size≤gb247));have n4_:=Aside0.mk ((gs_ hg (bl_ HB.out):w.heap.size≤gb247));have n5_:=Aside0.mk ((nl_ hg BK244.out:gb244≠gb247));have n6_:=Aside0.mk ((nr_ hg BK244.out:gb247≠gb244));clear BK244;clear HB;have BK244:=n0_;have HB:=n1_;have BK247:=n2_;have GW247:=n3_;have GE247:=n4_;have NB244_247:=n5_;have NB247_244:=n6_;clear n0_ n1_ n2_ n3_ n4_ n5_ n6_;clear hb hbox hg;have hnb12:=NB247_244.out;have hnc12:=NB244_247.out;have hcz13_0:w11.cell? ⟨gb247,0,none⟩=some (.string (⟨#[]⟩:ByteArray)):=zc_ BK247.out 0;have hcz13_1:w11.cell? ⟨gb247,1,none⟩=some (.slice none 0 0):=zc_ BK247.out 1;have hfz13_0:=blk_frozen BK247.out 0;have hfz13_1:=blk_frozen BK247.out 1)|((with_reducible refine gate_callee (f:=36) rfl ?_);refine goesL_ (some 19) rfl rfl Tryd.func36 (by kernel_rfl) rfl #[.slice A246_1 ((rd_T66 l0_2 x12_1).f1).length c246_1] rfl ar_ ?_;(with_reducible refine (tree_stmts.calls k1 _ _ ((rd_T66 l0_2 x12_1).f1) t248 _ ?side1 ?side2 A10.out).mono ?_);(case side1=>exact Kd.C_below HR246_1.out (bl_ HB.out));(case side2=>exact HC246_1.out);rintro e w14 ⟨rfl,hb⟩;refine ⟨_,rfl,?_⟩;have n0_:=Aside0.mk (blk_below (g:=gb244) (o:=.cells #[.slice A0_0 l0_0.length c0_0,.slice A0_1 l0_1.length c0_1,.slice (some ad246) l0_2.length c0_2,.slice A0_3 l0_3.length c0_3] 50 (0,0)) (kbc_ BK244.out) hb);have n1_:=Aside0.mk (blk_below (g:=gb247) (o:=.cells #[.string ((rd_T66 l0_2 x12_1).f0),.slice A246_1 ((rd_T66 l0_2 x12_1).f1).length c246_1] 66 (0,0)) (kbc_ BK247.out) hb);have n2_:=Aside0.mk (below_step (bl_ HB.out) hb);clear BK244;clear BK247;clear HB;have BK244:=n0_;have BK247:=n1_;have HB:=n2_;clear n0_ n1_ n2_;(try clear hb);(try clear hb2);(try clear hk);(try clear hi)))
      go_roundg k1
      case measure=>have:=HK1.out;omega
      case rel=>exact ⟨(wrap64 (x3_1+t248)),(wrap64 (x12_1+1)),rf_,rf_,H',⟨by have:=HK1.out;omega⟩,⟨kb_ BK244.out⟩,⟨bl_ HB.out⟩⟩
     ·rw [if_neg c9] at H
      exact absurd H (by simp)
    ·rw [if_neg c8] at H
     exact absurd H (by simp)
   ·rw [if_neg c7] at H
    have c7b0:decide (x12_1 < (l0_2.length:Int))=false:=decide_eq_false c7
    clear c7
    obtain rfl:=Option.some.inj H
    go_wp2
    go_ret
    exact ⟨rt_,bl_ HB.out⟩
end Go.Proofs.YtnnbbeloifhofaaDoor.P
end
section
namespace Go.Proofs.YtnnbbeloifhofaaDoor.P
open Go Go.RowKit Go.Proofs
open Go.Proofs.YtnnbbeloifhofaaDoorW.PrintWords Go.Proofs.YtnnbbeloifhofaaDoorW.PrintLast Go.Proofs.YtnnbbeloifhofaaDoorW.PrintMore
set_option linter.unusedVariables false
theorem rdEn (pre:List REn) (x:REn) (xs:List REn):rd_T72 (pre++x :: xs) (pre.length:Int)=x:=getD_mid ..
theorem rdV (pre:List RV) (x:RV) (xs:List RV):rd_T56 (pre++x :: xs) (pre.length:Int)=x:=getD_mid ..
theorem rdP (pre:List RP) (x:RP) (xs:List RP):rd_T69 (pre++x :: xs) (pre.length:Int)=x:=getD_mid ..
theorem rdTP (pre:List TP) (x:TP) (xs:List TP):rd_T66 (pre++x :: xs) (pre.length:Int)=x:=getD_mid ..
section
variable (e:List REn) (v:List RV) (p:List RP) (m:List RS)
theorem Prog_l2 : ∀ (xs pre:List RP) (n:Int) (a:List ES) (b:List VS) (acc:List TP) (d:List TS),(∀ y ∈ xs,bulkSs y.f1 < 1099511627775)→n=((pre++xs).length:Int)→(pre++xs).length < 1099511627776→acc.length=pre.length→
    Ev (fun k=>helmsmanlaw12_Prog.l2 k (pre++xs) n pre.length a b acc d) (a,b,acc++convPs xs,d):=by
  intro xs
  induction xs with
  | nil=>
    intro pre n a b acc d _ hn _ _
    subst hn
    refine Ev.step (fun k=>helmsmanlaw12_Prog.l2.eq_2 _ _ _ _ _ _ _ k) (Ev.no (end_not pre) ?_)
    rw [show convPs []=[] from rfl,List.append_nil];exact Ev.now _
  | cons x xs ih=>
    intro pre n a b acc d h hn hl ha
    subst hn
    refine Ev.step (fun k=>helmsmanlaw12_Prog.l2.eq_2 _ _ _ _ _ _ _ k) (Ev.yes (mid_lt pre x xs) (Ev.yes (by omega) (Ev.yes (mid_lt pre x xs) ?_)))
    rw [rdP]
    refine Ev.bind (Stmts_ev x.f1 (h x (List.mem_cons_self ..))) (Ev.yes (by rw [ha];rw [List.length_append] at hl;omega) ?_)
    rw [next_len pre x xs (by omega)]
    have:=ih (pre++[x]) ((pre++x :: xs).length:Int) a b (acc++[convP x]) d (fun y hy=>h y (List.mem_cons_of_mem _ hy)) (by rw [← snoc]) (by rw [← snoc];exact hl) (by rw [List.length_append,List.length_append,ha];rfl)
    rw [← snoc,List.append_assoc,List.singleton_append] at this
    exact this
theorem Prog_l1 (hp : ∀ y ∈ p,bulkSs y.f1 < 1099511627775) (hl2:p.length < 1099511627776) : ∀ (xs pre:List RV) (n:Int) (a:List ES) (acc:List VS) (d:List TS),n=((pre++xs).length:Int)→(pre++xs).length < 1099511627776→acc.length=pre.length→
    Ev (fun k=>helmsmanlaw12_Prog.l1 k (pre++xs) n pre.length e v p m a acc d) (a,acc++xs.map convV,convPs p,d):=by
  intro xs
  induction xs with
  | nil=>
    intro pre n a acc d hn _ _
    subst hn
    refine Ev.step (fun k=>helmsmanlaw12_Prog.l1.eq_2 _ _ _ _ _ _ _ _ _ _ k) (Ev.no (end_not pre) ?_)
    rw [List.map_nil,List.append_nil]
    exact Prog_l2 p [] _ a acc [] d hp rfl (by rw [List.nil_append];exact hl2) rfl
  | cons x xs ih=>
    intro pre n a acc d hn hl ha
    subst hn
    refine Ev.step (fun k=>helmsmanlaw12_Prog.l1.eq_2 _ _ _ _ _ _ _ _ _ _ k) (Ev.yes (mid_lt pre x xs) (Ev.yes (by omega) (Ev.yes (mid_lt pre x xs) (Ev.yes (by rw [ha];rw [List.length_append] at hl;omega) ?_))))
    rw [rdV,next_len pre x xs (by omega)]
    have:=ih (pre++[x]) ((pre++x :: xs).length:Int) a (acc++[convV x]) d (by rw [← snoc]) (by rw [← snoc];exact hl) (by rw [List.length_append,List.length_append,ha];rfl)
    rw [← snoc,List.append_assoc,List.singleton_append] at this
    exact this
theorem Prog_l0 (hp : ∀ y ∈ p,bulkSs y.f1 < 1099511627775) (hl2:p.length < 1099511627776) (hl1:v.length < 1099511627776) : ∀ (xs pre:List REn) (n:Int) (acc:List ES) (d:List TS),n=((pre++xs).length:Int)→(pre++xs).length < 1099511627776→acc.length=pre.length→
    Ev (fun k=>helmsmanlaw12_Prog.l0 k (pre++xs) n pre.length e v p m acc d) (acc++xs.map convEn,v.map convV,convPs p,d):=by
  intro xs
  induction xs with
  | nil=>
    intro pre n acc d hn _ _
    subst hn
    refine Ev.step (fun k=>helmsmanlaw12_Prog.l0.eq_2 _ _ _ _ _ _ _ _ _ k) (Ev.no (end_not pre) ?_)
    rw [List.map_nil,List.append_nil]
    exact Prog_l1 e v p m hp hl2 v [] _ acc [] d rfl (by rw [List.nil_append];exact hl1) rfl
  | cons x xs ih=>
    intro pre n acc d hn hl ha
    subst hn
    refine Ev.step (fun k=>helmsmanlaw12_Prog.l0.eq_2 _ _ _ _ _ _ _ _ _ k) (Ev.yes (mid_lt pre x xs) (Ev.yes (by omega) (Ev.yes (mid_lt pre x xs) (Ev.yes (by rw [ha];rw [List.length_append] at hl;omega) ?_))))
    rw [rdEn,next_len pre x xs (by omega)]
    have:=ih (pre++[x]) ((pre++x :: xs).length:Int) (acc++[convEn x]) d (by rw [← snoc]) (by rw [← snoc];exact hl) (by rw [List.length_append,List.length_append,ha];rfl)
    rw [← snoc,List.append_assoc,List.singleton_append] at this
    exact this
structure Small:Prop where
  en:e.length < 1099511627776
  va:v.length < 1099511627776
  pr:p.length < 1099511627776
  el : ∀ x ∈ e,x.f1.length < 1099511627776
  bo : ∀ x ∈ p,bulkSs x.f1 < 1099511627775
  ma:bulkSs m < 1099511627775
theorem small_of (hb:bulkP e v p m < 1099511627775):Small e v p m:=by
  unfold bulkP at hb
  have l1:=len_sum bulkEn (fun x=>by unfold bulkEn;omega) e
  have l2:=len_sum bulkV (fun x=>by unfold bulkV;omega) v
  have l3:=len_sum bulkPr (fun x=>by unfold bulkPr;omega) p
  refine ⟨by omega,by omega,by omega,fun x hx=>?_,fun x hx=>?_,by omega⟩
  · have:=mem_sum bulkEn hx
    have e1:bulkEn x=x.f0.size+bulkN x.f1+1:=rfl
    have:=len_bulkN x.f1
    omega
  · have:=mem_sum bulkPr hx
    have e1:bulkPr x=x.f0.size+bulkSs x.f1+1:=rfl
    omega
theorem Prog_ev (h:Small e v p m):Ev (fun k=>helmsmanlaw12_Prog.f k e v p m) (e.map convEn,v.map convV,convPs p,convSs m):=
  Ev.bind (Stmts_ev m h.ma) (Prog_l0 e v p m h.bo h.pr h.va e [] _ [] (convSs m) rfl (by rw [List.nil_append];exact h.en) rfl)
def szP:Nat:=szSs m+(p.map fun x=>szSs x.f1).sum
end
theorem wrap_nat {a b:Nat} (h:a+b < 9223372036854775808):wrap64 ((a:Int)+(b:Int))=((a+b:Nat):Int):=by rw [wrap64_small (by omega) (by omega)];rfl
theorem Sized_l0 (e:List REn) (v:List RV) (m:List RS) : ∀ (xs pre:List RP) (a:Nat),(∀ y ∈ xs,bulkSs y.f1 < 1099511627775)→(pre++xs).length < 1099511627776→a+(xs.map fun x=>szSs x.f1).sum < 4611686018427387904→
    Ev (fun k=>helmsmanref12_Sized.l0 k (a:Int) pre.length e v (pre++xs) m) ((a+(xs.map fun x=>szSs x.f1).sum:Nat):Int):=by
  intro xs
  induction xs with
  | nil=>
    intro pre a _ _ _
    refine Ev.step (fun k=>helmsmanref12_Sized.l0.eq_2 _ _ _ _ _ _ k) (Ev.no (end_not pre) ?_)
    exact Ev.now _
  | cons x xs ih=>
    intro pre a h hl ha
    rw [List.map_cons,List.sum_cons] at ha ⊢
    refine Ev.step (fun k=>helmsmanref12_Sized.l0.eq_2 _ _ _ _ _ _ k) (Ev.yes (mid_lt pre x xs) (Ev.yes (by omega) ?_))
    rw [rdP]
    refine Ev.bind (Size_ev x.f1 (h x (List.mem_cons_self ..))) ?_
    rw [next_len pre x xs (by omega),wrap_nat (by omega)]
    have:=ih (pre++[x]) (a+szSs x.f1) (fun y hy=>h y (List.mem_cons_of_mem _ hy)) (by rw [← snoc];exact hl) (by omega)
    rw [← snoc] at this
    rw [← Nat.add_assoc]
    exact this
theorem sz_sum (p:List RP):(p.map fun x=>szSs x.f1).sum≤(p.map bulkPr).sum:=by
  induction p with
  | nil=>exact Nat.le_refl _
  | cons x xs ih=>rw [List.map_cons,List.sum_cons,List.map_cons,List.sum_cons];have:=szSs_bulk x.f1;unfold bulkPr at ih ⊢;omega
theorem szP_bulk (e:List REn) (v:List RV) (p:List RP) (m:List RS):szP p m≤bulkP e v p m:=by
  unfold szP bulkP
  have:=sz_sum p
  have:=szSs_bulk m
  omega
theorem Sized_ev (e:List REn) (v:List RV) (p:List RP) (m:List RS) (h:Small e v p m) (hb:bulkP e v p m < 1099511627775):Ev (fun k=>helmsmanref12_Sized.f k e v p m) (szP p m:Int):=by
  have hz:=szP_bulk e v p m
  unfold szP at hz ⊢
  exact Ev.bind (Size_ev m h.ma) (Sized_l0 e v m p [] (szSs m) h.bo (by rw [List.nil_append];exact h.pr) (by omega))
theorem strs_ev (xs ys:List ByteArray) (hlim:xs.length < 4611686018427387904):Ev (fun k=>slices_Equal_string_string.f k xs ys) (all2 (fun a b=>decide (a=b)) xs ys):=by
  unfold slices_Equal_string_string.f
  by_cases hl:xs.length=ys.length
  · refine Ev.yes (by omega) ?_
    rw [← Bool.and_true (all2 _ xs ys)]
    refine all_step xs ys ByteArray.empty ByteArray.empty (fun k i=>slices_Equal_string_string.l0 k xs ys (xs.length:Int) i) (fun a b=>decide (a=b)) true hl hlim ?_ ?_
    · intro i hi r hr
      refine Ev.step (fun k=>slices_Equal_string_string.l0.eq_2 _ _ _ _ k) (Ev.yes (by omega) (Ev.yes (by omega) (Ev.yes (by omega) (Ev.yes (by omega) ?_))))
      show Ev _ (decide (xs.getD i ByteArray.empty=ys.getD i ByteArray.empty) && r)
      by_cases h:xs.getD i ByteArray.empty=ys.getD i ByteArray.empty
      · refine Ev.yes (show (xs.getD i ByteArray.empty).toList=(ys.getD i ByteArray.empty).toList from toList_iff.2 h) ?_
        rw [decide_eq_true h,Bool.true_and];exact hr
      · refine Ev.no (show ¬ (xs.getD i ByteArray.empty).toList=(ys.getD i ByteArray.empty).toList from fun e=>h (toList_iff.1 e)) ?_
        rw [decide_eq_false h,Bool.false_and];exact Ev.now _
    · exact Ev.step (fun k=>slices_Equal_string_string.l0.eq_2 _ _ _ _ k) (Ev.no (by omega) (Ev.now _))
  · refine Ev.no (by omega) ?_
    rw [all2_len hl];exact Ev.now _
def sameEn (x y:REn):Bool:=decide (x.f0=y.f0) && all2 (fun a b=>decide (a=b)) x.f1 y.f1
theorem ens_ev (xs ys:List REn) (hlim:xs.length < 4611686018427387904) (hin : ∀ x ∈ xs,x.f1.length < 4611686018427387904):Ev (fun k=>tree_Enum_at_tree_Same_1.f k (xs.map convEn) (ys.map convEn)) (all2 sameEn xs ys):=by
  unfold tree_Enum_at_tree_Same_1.f
  rw [List.length_map,List.length_map]
  by_cases hl:xs.length=ys.length
  · refine Ev.yes (by omega) ?_
    rw [← Bool.and_true (all2 _ xs ys)]
    refine all_step xs ys z72 z72 (fun k i=>tree_Enum_at_tree_Same_1.l0 k (ys.map convEn) (xs.map convEn) (xs.length:Int) i) sameEn true hl hlim ?_ ?_
    · intro i hi r hr
      have hm:=getD_mem' z72 hi
      refine Ev.step (fun k=>tree_Enum_at_tree_Same_1.l0.eq_2 _ _ _ _ k) (Ev.yes (by omega) (Ev.yes (by omega) (Ev.yes (by rw [List.length_map];omega) (Ev.yes (by rw [List.length_map];omega) ?_))))
      rw [show rd_T79 (xs.map convEn) (i:Int)=convEn (xs.getD i z72) from getD_map' convEn xs i _ _ hi,show rd_T79 (ys.map convEn) (i:Int)=convEn (ys.getD i z72) from getD_map' convEn ys i _ _ (by omega)]
      have hq:=hin _ hm
      revert hq
      generalize xs.getD i z72=x
      generalize ys.getD i z72=y
      intro hq
      have:Ev (fun k=>tree_Same_1.f k (convEn x).f0 (convEn x).f1 (convEn y).f0 (convEn y).f1) (sameEn x y):=by
        unfold tree_Same_1.f sameEn
        by_cases h:x.f0=y.f0
        · refine Ev.yes (toList_iff.2 h) ?_
          rw [decide_eq_true h,Bool.true_and]
          exact Ev.bind (strs_ev x.f1 y.f1 hq) (Ev.now _)
        · refine Ev.no (fun e=>h (toList_iff.1 e)) ?_
          rw [decide_eq_false h,Bool.false_and];exact Ev.now _
      refine Ev.bind this ?_
      cases e:sameEn x y with
      | false=>exact Ev.no (by simp) (Ev.now _)
      | true=>exact Ev.yes rfl (by rw [Bool.true_and];exact hr)
    · exact Ev.step (fun k=>tree_Enum_at_tree_Same_1.l0.eq_2 _ _ _ _ k) (Ev.no (by omega) (Ev.now _))
  · refine Ev.no (by omega) ?_
    rw [all2_len hl];exact Ev.now _
def sameV (x y:RV):Bool:=decide (x.f0=y.f0) && (decide (x.f1=y.f1) && decide (x.f2=y.f2))
theorem vars_ev (xs ys:List RV) (hlim:xs.length < 4611686018427387904):Ev (fun k=>tree_Var.f k (xs.map convV) (ys.map convV)) (all2 sameV xs ys):=by
  unfold tree_Var.f
  rw [List.length_map,List.length_map]
  by_cases hl:xs.length=ys.length
  · refine Ev.yes (by omega) ?_
    rw [← Bool.and_true (all2 _ xs ys)]
    refine all_step xs ys z56 z56 (fun k i=>tree_Var.l0 k (xs.map convV) (ys.map convV) (xs.length:Int) i) sameV true hl hlim ?_ ?_
    · intro i hi r hr
      refine Ev.step (fun k=>tree_Var.l0.eq_2 _ _ _ _ k) (Ev.yes (by omega) (Ev.yes (by omega) (Ev.yes (by rw [List.length_map];omega) (Ev.yes (by rw [List.length_map];omega) ?_))))
      rw [show rd_T80 (xs.map convV) (i:Int)=convV (xs.getD i z56) from getD_map' convV xs i _ _ hi,show rd_T80 (ys.map convV) (i:Int)=convV (ys.getD i z56) from getD_map' convV ys i _ _ (by omega)]
      generalize xs.getD i z56=x
      generalize ys.getD i z56=y
      have e:(!((convV x).f0.toList == (convV y).f0.toList) || (!((convV x).f1.toList == (convV y).f1.toList) || !((convV x).f2 == (convV y).f2))) = !(sameV x y):=by
        have a0:((convV x).f0.toList == (convV y).f0.toList)=decide (x.f0=y.f0):=by
          rw [Bool.eq_iff_iff,beq_iff_eq,decide_eq_true_eq];exact toList_iff
        have a1:((convV x).f1.toList == (convV y).f1.toList)=decide (x.f1=y.f1):=by
          rw [Bool.eq_iff_iff,beq_iff_eq,decide_eq_true_eq];exact toList_iff
        have a2:((convV x).f2 == (convV y).f2)=decide (x.f2=y.f2):=by
          rw [Bool.eq_iff_iff,beq_iff_eq,decide_eq_true_eq];exact Iff.rfl
        rw [a0,a1,a2];unfold sameV;simp only [Bool.not_and]
      rw [e]
      cases h:sameV x y with
      | false=>exact Ev.yes rfl (Ev.now _)
      | true=>exact Ev.no (by simp) (by rw [Bool.true_and];exact hr)
    · exact Ev.step (fun k=>tree_Var.l0.eq_2 _ _ _ _ k) (Ev.no (by omega) (Ev.now _))
  · refine Ev.no (by omega) ?_
    rw [all2_len hl];exact Ev.now _
def samePr (x y:RP):Bool:=decide (x.f0=y.f0) && sameSs x.f1 y.f1
theorem procs_ev (xs ys:List RP) (hlim:xs.length < 4611686018427387904) (hin : ∀ x ∈ xs,bulkSs x.f1 < 1099511627775):Ev (fun k=>tree_Proc_at_tree_Same_2.f k (convPs xs) (convPs ys)) (all2 samePr xs ys):=by
  unfold tree_Proc_at_tree_Same_2.f
  rw [convPs_len,convPs_len]
  by_cases hl:xs.length=ys.length
  · refine Ev.yes (by omega) ?_
    rw [← Bool.and_true (all2 _ xs ys)]
    refine all_step xs ys z69 z69 (fun k i=>tree_Proc_at_tree_Same_2.l0 k (convPs ys) (convPs xs) (xs.length:Int) i) samePr true hl hlim ?_ ?_
    · intro i hi r hr
      have hm:=getD_mem' z69 hi
      refine Ev.step (fun k=>tree_Proc_at_tree_Same_2.l0.eq_2 _ _ _ _ k) (Ev.yes (by omega) (Ev.yes (by omega) (Ev.yes (by rw [convPs_len];omega) (Ev.yes (by rw [convPs_len];omega) ?_))))
      rw [show rd_T66 (convPs xs) (i:Int)=convP (xs.getD i z69) from getD_map' convP xs i _ _ hi,show rd_T66 (convPs ys) (i:Int)=convP (ys.getD i z69) from getD_map' convP ys i _ _ (by omega)]
      have hq:=hin _ hm
      revert hq
      generalize xs.getD i z69=x
      generalize ys.getD i z69=y
      intro hq
      have:Ev (fun k=>tree_Same_2.f k (convP x).f0 (convP x).f1 (convP y).f0 (convP y).f1) (samePr x y):=by
        unfold tree_Same_2.f samePr
        by_cases h:x.f0=y.f0
        · refine Ev.yes (toList_iff.2 h) ?_
          rw [decide_eq_true h,Bool.true_and]
          exact Ev.bind (tSameSs_ev x.f1 y.f1 hq) (Ev.now _)
        · refine Ev.no (fun e=>h (toList_iff.1 e)) ?_
          rw [decide_eq_false h,Bool.false_and];exact Ev.now _
      refine Ev.bind this ?_
      cases e:samePr x y with
      | false=>exact Ev.no (by simp) (Ev.now _)
      | true=>exact Ev.yes rfl (by rw [Bool.true_and];exact hr)
    · exact Ev.step (fun k=>tree_Proc_at_tree_Same_2.l0.eq_2 _ _ _ _ k) (Ev.no (by omega) (Ev.now _))
  · refine Ev.no (by omega) ?_
    rw [all2_len hl];exact Ev.now _
def sameP (e:List REn) (v:List RV) (p:List RP) (m:List RS) (e':List REn) (v':List RV) (p':List RP) (m':List RS):Bool:=all2 sameEn e e' && (all2 sameV v v' && (all2 samePr p p' && sameSs m m'))
theorem Same_ev (e:List REn) (v:List RV) (p:List RP) (m:List RS) (h:Small e v p m) (e':List REn) (v':List RV) (p':List RP) (m':List RS) :
    Ev (fun k=>tree_Same.f k (e.map convEn) (v.map convV) (convPs p) (convSs m) (e'.map convEn) (v'.map convV) (convPs p') (convSs m')) (sameP e v p m e' v' p' m'):=by
  have h1:=h.en
  have h2:=h.va
  have h3:=h.pr
  unfold tree_Same.f sameP
  refine Ev.bind (ens_ev e e' (by omega) (fun x hx=>by have:=h.el x hx;omega)) ?_
  cases all2 sameEn e e' with
  | false=>exact Ev.no (by simp) (Ev.now _)
  | true=>
    refine Ev.yes rfl (Ev.bind (vars_ev v v' (by omega)) ?_)
    cases all2 sameV v v' with
    | false=>exact Ev.no (by simp) (Ev.now _)
    | true=>
      refine Ev.yes rfl (Ev.bind (procs_ev p p' (by omega) h.bo) ?_)
      cases all2 samePr p p' with
      | false=>exact Ev.no (by simp) (Ev.now _)
      | true=>exact Ev.yes rfl (Ev.bind (tSameSs_ev m m' h.ma) (by simp only [Bool.true_and];exact Ev.now _))
end Go.Proofs.YtnnbbeloifhofaaDoor.P
end
section
namespace Go.Proofs.YtnnbbeloifhofaaDoor.P
open Go Go.RowKit Go.Proofs
open Go.Proofs.YtnnbbeloifhofaaDoorW.PrintWords Go.Proofs.YtnnbbeloifhofaaDoorW.PrintLast Go.Proofs.YtnnbbeloifhofaaDoorW.PrintMore
set_option linter.unusedVariables false
theorem C_one {α:Type} {d:Kd α} {w:World} {b:Nat} {c:List Value} {t:TypeId} {x:α} (hb:w.heap[b]?=some (.cells c.toArray t (0,0))) (hK:d.K w x c):d.C w (some ⟨b,0,none⟩) [x].length [x]:=by
  refine ⟨rfl,by simp,fun _=>⟨⟨b,0,none⟩,rfl,fun j p hj=>?_⟩⟩
  match j,hj with
  | 0,hj=>
    obtain rfl:x=p:=by simpa using hj
    refine ⟨c,d.K_len hK,hK,fun i u hu=>?_⟩
    rw [Nat.zero_mul,Nat.zero_add,add_plain,blk_cell hb]
    simpa using hu
  | j+1,hj=>simp at hj
theorem C_two {α:Type} {d:Kd α} {w:World} {b:Nat} {c c':List Value} {t:TypeId} {x y:α} (hb:w.heap[b]?=some (.cells (c++c').toArray t (0,0))) (hK:d.K w x c) (hK':d.K w y c'):d.C w (some ⟨b,0,none⟩) [x,y].length [x,y]:=by
  refine ⟨rfl,by simp,fun _=>⟨⟨b,0,none⟩,rfl,fun j p hj=>?_⟩⟩
  match j,hj with
  | 0,hj=>
    obtain rfl:x=p:=by simpa using hj
    refine ⟨c,d.K_len hK,hK,fun i u hu=>?_⟩
    rw [Nat.zero_mul,Nat.zero_add,add_plain,blk_cell hb]
    have hi:i < c.length:=by
      rcases Nat.lt_or_ge i c.length with h|h
      · exact h
      · rw [List.getElem?_eq_none h] at hu;cases hu
    simpa [List.getElem?_append_left hi] using hu
  | 1,hj=>
    obtain rfl:y=p:=by simpa using hj
    refine ⟨c',d.K_len hK',hK',fun i u hu=>?_⟩
    have hl:=d.K_len hK
    rw [Nat.one_mul,add_plain,blk_cell hb,← hl]
    have h2:(c++c')[c.length+i]?=c'[i]?:=by rw [List.getElem?_append_right (by omega)];congr 1;omega
    simpa [h2] using hu
  | j+2,hj=>simp at hj
theorem blk_at {W:World} {n:Nat} (hn:W.heap.size=n) (o:Obj):(W.alloc o).heap[n]?=some o:=hn ▸ blk_new W o
theorem size_at {W:World} {n:Nat} (hn:W.heap.size=n) (o:Obj):(W.alloc o).heap.size=n+1:=by simp [hn]
def aX:TE:=⟨lit [110,97,109,101],lit [120],0,[],0⟩
def aOne:TE:=⟨lit [110,117,109],lit [],1,[],0⟩
def aAt:TE:=⟨lit [97,116],lit [97],0,[aX],0⟩
def aNeg:TE:=⟨lit [110,101,103],lit [],0,[aX],0⟩
def aPlus:TE:=⟨lit [43],lit [],0,[aOne,aAt],0⟩
def aE:TE:=⟨lit [45],lit [],0,[aNeg,aPlus],0⟩
def aS:TS:=⟨lit [115,101,116],lit [120],[aE],[],[],0⟩
def aliveW (w:World):World:=((((((((((w.alloc (.cells #[.string ⟨#[110,97,109,101]⟩,.string ⟨#[120]⟩,.int .i64 0,.slice none 0 0,.int .i64 0] 33 (0,0))).alloc (.cells #[.string ⟨#[110,117,109]⟩,.string ⟨#[]⟩,.int .i64 1,.slice none 0 0,.int .i64 0] 33 (0,0))).alloc (.cells #[.string ⟨#[110,97,109,101]⟩,.string ⟨#[120]⟩,.int .i64 0,.slice none 0 0,.int .i64 0] 33 (0,0))).alloc (.cells #[.string ⟨#[110,97,109,101]⟩,.string ⟨#[120]⟩,.int .i64 0,.slice none 0 0,.int .i64 0] 33 (0,0))).alloc (.cells #[.string ⟨#[110,117,109]⟩,.string ⟨#[]⟩,.int .i64 1,.slice none 0 0,.int .i64 0,.string ⟨#[97,116]⟩,.string ⟨#[97]⟩,.int .i64 0,.slice (some ⟨(w.heap.size+1+1+1),0,none⟩) 1 1,.int .i64 0] 33 (0,0))).alloc (.cells #[.string ⟨#[110,101,103]⟩,.string ⟨#[]⟩,.int .i64 0,.slice (some ⟨(w.heap.size+1+1),0,none⟩) 1 1,.int .i64 0,.string ⟨#[43]⟩,.string ⟨#[]⟩,.int .i64 0,.slice (some ⟨(w.heap.size+1+1+1+1),0,none⟩) 2 2,.int .i64 0] 33 (0,0))).alloc (.cells #[.string ⟨#[45]⟩,.string ⟨#[]⟩,.int .i64 0,.slice (some ⟨(w.heap.size+1+1+1+1+1),0,none⟩) 2 2,.int .i64 0] 33 (0,0))).alloc (.cells #[.string ⟨#[45]⟩,.string ⟨#[]⟩,.int .i64 0,.slice (some ⟨(w.heap.size+1+1+1+1+1),0,none⟩) 2 2,.int .i64 0] 33 (0,0))).alloc (.cells #[.string ⟨#[115,101,116]⟩,.string ⟨#[120]⟩,.slice (some ⟨(w.heap.size+1+1+1+1+1+1+1),0,none⟩) 1 1,.slice none 0 0,.slice none 0 0,.int .i64 0] 76 (0,0))).alloc (.cells #[.slice none 0 0,.slice none 0 0,.slice none 0 0,.slice (some ⟨(w.heap.size+1+1+1+1+1+1+1+1),0,none⟩) 1 1] 50 (0,0)))
structure AliveAt (w W:World):Prop where
  below:Below w.heap.size w W
  B6:W.heap[(w.heap.size+1+1+1+1+1+1)]?=some (.cells #[.string ⟨#[45]⟩,.string ⟨#[]⟩,.int .i64 0,.slice (some ⟨(w.heap.size+1+1+1+1+1),0,none⟩) 2 2,.int .i64 0] 33 (0,0))
  B9:W.heap[(w.heap.size+1+1+1+1+1+1+1+1+1)]?=some (.cells #[.slice none 0 0,.slice none 0 0,.slice none 0 0,.slice (some ⟨(w.heap.size+1+1+1+1+1+1+1+1),0,none⟩) 1 1] 50 (0,0))
  C5:Kd.C k33 W (some ⟨(w.heap.size+1+1+1+1+1),0,none⟩) [aNeg,aPlus].length [aNeg,aPlus]
  C8:Kd.C k76 W (some ⟨(w.heap.size+1+1+1+1+1+1+1+1),0,none⟩) [aS].length [aS]
theorem AliveAt.later {w W W':World} (h:AliveAt w W) (hb:Below W.heap.size W W'):AliveAt w W':=
  ⟨h.below.trans (hb.mono h.below.size),blk_below h.B6 hb,blk_below h.B9 hb,Kd.C_below h.C5 hb,Kd.C_below h.C8 hb⟩
theorem aliveW_at (w:World):AliveAt w (aliveW w):=by
  have hb:Below w.heap.size w (aliveW w):=below_alloc (below_alloc (below_alloc (below_alloc (below_alloc (below_alloc (below_alloc (below_alloc (below_alloc (below_alloc (Below.refl _ _) _) _) _) _) _) _) _) _) _) _
  have B2:(aliveW w).heap[(w.heap.size+1+1)]?=some (.cells #[.string ⟨#[110,97,109,101]⟩,.string ⟨#[120]⟩,.int .i64 0,.slice none 0 0,.int .i64 0] 33 (0,0)):=by unfold aliveW;exact blk_alloc (blk_alloc (blk_alloc (blk_alloc (blk_alloc (blk_alloc (blk_alloc (blk_at (size_at (size_at (rfl) _) _) _) _) _) _) _) _) _) _
  have B3:(aliveW w).heap[(w.heap.size+1+1+1)]?=some (.cells #[.string ⟨#[110,97,109,101]⟩,.string ⟨#[120]⟩,.int .i64 0,.slice none 0 0,.int .i64 0] 33 (0,0)):=by unfold aliveW;exact blk_alloc (blk_alloc (blk_alloc (blk_alloc (blk_alloc (blk_alloc (blk_at (size_at (size_at (size_at (rfl) _) _) _) _) _) _) _) _) _) _
  have B4:(aliveW w).heap[(w.heap.size+1+1+1+1)]?=some (.cells #[.string ⟨#[110,117,109]⟩,.string ⟨#[]⟩,.int .i64 1,.slice none 0 0,.int .i64 0,.string ⟨#[97,116]⟩,.string ⟨#[97]⟩,.int .i64 0,.slice (some ⟨(w.heap.size+1+1+1),0,none⟩) 1 1,.int .i64 0] 33 (0,0)):=by unfold aliveW;exact blk_alloc (blk_alloc (blk_alloc (blk_alloc (blk_alloc (blk_at (size_at (size_at (size_at (size_at (rfl) _) _) _) _) _) _) _) _) _) _
  have B5:(aliveW w).heap[(w.heap.size+1+1+1+1+1)]?=some (.cells #[.string ⟨#[110,101,103]⟩,.string ⟨#[]⟩,.int .i64 0,.slice (some ⟨(w.heap.size+1+1),0,none⟩) 1 1,.int .i64 0,.string ⟨#[43]⟩,.string ⟨#[]⟩,.int .i64 0,.slice (some ⟨(w.heap.size+1+1+1+1),0,none⟩) 2 2,.int .i64 0] 33 (0,0)):=by unfold aliveW;exact blk_alloc (blk_alloc (blk_alloc (blk_alloc (blk_at (size_at (size_at (size_at (size_at (size_at (rfl) _) _) _) _) _) _) _) _) _) _
  have B6:(aliveW w).heap[(w.heap.size+1+1+1+1+1+1)]?=some (.cells #[.string ⟨#[45]⟩,.string ⟨#[]⟩,.int .i64 0,.slice (some ⟨(w.heap.size+1+1+1+1+1),0,none⟩) 2 2,.int .i64 0] 33 (0,0)):=by unfold aliveW;exact blk_alloc (blk_alloc (blk_alloc (blk_at (size_at (size_at (size_at (size_at (size_at (size_at (rfl) _) _) _) _) _) _) _) _) _) _
  have B7:(aliveW w).heap[(w.heap.size+1+1+1+1+1+1+1)]?=some (.cells #[.string ⟨#[45]⟩,.string ⟨#[]⟩,.int .i64 0,.slice (some ⟨(w.heap.size+1+1+1+1+1),0,none⟩) 2 2,.int .i64 0] 33 (0,0)):=by unfold aliveW;exact blk_alloc (blk_alloc (blk_at (size_at (size_at (size_at (size_at (size_at (size_at (size_at (rfl) _) _) _) _) _) _) _) _) _) _
  have B8:(aliveW w).heap[(w.heap.size+1+1+1+1+1+1+1+1)]?=some (.cells #[.string ⟨#[115,101,116]⟩,.string ⟨#[120]⟩,.slice (some ⟨(w.heap.size+1+1+1+1+1+1+1),0,none⟩) 1 1,.slice none 0 0,.slice none 0 0,.int .i64 0] 76 (0,0)):=by unfold aliveW;exact blk_alloc (blk_at (size_at (size_at (size_at (size_at (size_at (size_at (size_at (size_at (rfl) _) _) _) _) _) _) _) _) _) _
  have B9:(aliveW w).heap[(w.heap.size+1+1+1+1+1+1+1+1+1)]?=some (.cells #[.slice none 0 0,.slice none 0 0,.slice none 0 0,.slice (some ⟨(w.heap.size+1+1+1+1+1+1+1+1),0,none⟩) 1 1] 50 (0,0)):=by unfold aliveW;exact blk_at (size_at (size_at (size_at (size_at (size_at (size_at (size_at (size_at (size_at (rfl) _) _) _) _) _) _) _) _) _) _
  generalize aliveW w=W at hb B2 B3 B4 B5 B6 B7 B8 B9 ⊢
  have C0:Kd.C k33 W none ([]:List TE).length []:=Kd.C_nil _ _
  have Z0:Kd.C k76 W none ([]:List TS).length []:=Kd.C_nil _ _
  have kX:=k33_mk W aX (A3:=none) (c3:=0) (Nat.le_refl _) C0
  have k1:=k33_mk W aOne (A3:=none) (c3:=0) (Nat.le_refl _) C0
  have C2:=C_one (c:=[.string ⟨#[110,97,109,101]⟩,.string ⟨#[120]⟩,.int .i64 0,.slice none 0 0,.int .i64 0]) B2 kX
  have C3:=C_one (c:=[.string ⟨#[110,97,109,101]⟩,.string ⟨#[120]⟩,.int .i64 0,.slice none 0 0,.int .i64 0]) B3 kX
  have kAt:=k33_mk W aAt (A3:=some ⟨(w.heap.size+1+1+1),0,none⟩) (c3:=1) (Nat.le_refl _) C3
  have kNeg:=k33_mk W aNeg (A3:=some ⟨(w.heap.size+1+1),0,none⟩) (c3:=1) (Nat.le_refl _) C2
  have C4:=C_two (c:=[.string ⟨#[110,117,109]⟩,.string ⟨#[]⟩,.int .i64 1,.slice none 0 0,.int .i64 0]) (c':=[.string ⟨#[97,116]⟩,.string ⟨#[97]⟩,.int .i64 0,.slice (some ⟨(w.heap.size+1+1+1),0,none⟩) 1 1,.int .i64 0]) B4 k1 kAt
  have kPlus:=k33_mk W aPlus (A3:=some ⟨(w.heap.size+1+1+1+1),0,none⟩) (c3:=2) (Nat.le_refl _) C4
  have C5:=C_two (c:=[.string ⟨#[110,101,103]⟩,.string ⟨#[]⟩,.int .i64 0,.slice (some ⟨(w.heap.size+1+1),0,none⟩) 1 1,.int .i64 0]) (c':=[.string ⟨#[43]⟩,.string ⟨#[]⟩,.int .i64 0,.slice (some ⟨(w.heap.size+1+1+1+1),0,none⟩) 2 2,.int .i64 0]) B5 kNeg kPlus
  have kE:=k33_mk W aE (A3:=some ⟨(w.heap.size+1+1+1+1+1),0,none⟩) (c3:=2) (Nat.le_refl _) C5
  have C7:=C_one (c:=[.string ⟨#[45]⟩,.string ⟨#[]⟩,.int .i64 0,.slice (some ⟨(w.heap.size+1+1+1+1+1),0,none⟩) 2 2,.int .i64 0]) B7 kE
  have kS:=k76_mk W aS (A2:=some ⟨(w.heap.size+1+1+1+1+1+1+1),0,none⟩) (c2:=1) (Nat.le_refl _) C7 (A3:=none) (c3:=0) (Nat.le_refl _) Z0 (A4:=none) (c4:=0) (Nat.le_refl _) Z0
  exact ⟨hb,B6,B9,C5,C_one (c:=[.string ⟨#[115,101,116]⟩,.string ⟨#[120]⟩,.slice (some ⟨(w.heap.size+1+1+1+1+1+1+1),0,none⟩) 1 1,.slice none 0 0,.slice none 0 0,.int .i64 0]) B8 kS⟩
theorem alive_ok:PrintOk [] [] [] (backSs [aS]) where
  hE:=by decide
  hV:=by decide
  hP:=by decide
  hJ:=fun e h=>by cases h
  hI:=fun e h=>by cases h
  hB:=fun e h=>by cases h
  hM:=by simp [backSs,backS,backEs,backE,aS,aE,aNeg,aPlus,aOne,aAt,aX,okSs,okS,okEs,okE,okI]
  hMb:=by decide +kernel
  hlen:=by decide +kernel
theorem alive_print:tree_Print.f [] [] [] [aS]=some (⟨#[109,97,105,110,32,123,10,32,32,120,32,61,32,40,45,120,41,32,45,32,40,49,32,43,32,97,91,120,93,41,59,10,125,10]⟩:ByteArray):=by
  unfold tree_Print.f
  rw [show backPs []=[] from rfl,if_pos ((printOkB_iff ..).2 alive_ok)]
  exact congrArg some (show strOf (printB [] [] [] (backSs [aS]))=_ by kernel_rfl)
set_option maxHeartbeats 4000000 in
set_option maxRecDepth 100000 in
theorem alive_pr (w:World) (hT:TabT w):Calls Tryd.prog 10 #[] w fun e w'=>e=.returned (.bool true)∧Below w.heap.size w w':=by
  go_enter Tryd.func10,Tryd.ntmps10
  go_wp2_with fail
  show Calls _ _ _ (aliveW w) _
  have HA:=Aside0.mk (aliveW_at w)
  generalize aliveW w=w1 at HA ⊢
  refine (tree_Text.calls 40 (lit [45]) (lit []) 0 (some ⟨(w.heap.size+1+1+1+1+1),0,none⟩) 2 [aNeg,aPlus] 0 (⟨#[40,45,120,41,32,45,32,40,49,32,43,32,97,91,120,93,41]⟩:ByteArray) w1 (hT.later HA.out.below) HA.out.C5 (Nat.le_refl _) (by kernel_rfl)).mono ?_
  rintro e_ w2 ⟨rfl,hb⟩
  have HA:=Aside0.mk (HA.out.later hb)
  clear hb
  have y0:w2.cell? ⟨(w.heap.size+1+1+1+1+1+1),0,none⟩=some (.string ⟨#[45]⟩):=(blk_cell HA.out.B6 0).trans rfl
  have y1:w2.cell? ⟨(w.heap.size+1+1+1+1+1+1),1,none⟩=some (.string ⟨#[]⟩):=(blk_cell HA.out.B6 1).trans rfl
  have y2:w2.cell? ⟨(w.heap.size+1+1+1+1+1+1),2,none⟩=some (.int .i64 0):=(blk_cell HA.out.B6 2).trans rfl
  have y3:w2.cell? ⟨(w.heap.size+1+1+1+1+1+1),3,none⟩=some (.slice (some ⟨(w.heap.size+1+1+1+1+1),0,none⟩) 2 2):=(blk_cell HA.out.B6 3).trans rfl
  have y4:w2.cell? ⟨(w.heap.size+1+1+1+1+1+1),4,none⟩=some (.int .i64 0):=(blk_cell HA.out.B6 4).trans rfl
  have x0:w2.cell? ⟨(w.heap.size+1+1+1+1+1+1+1+1+1),0,none⟩=some (.slice none 0 0):=(blk_cell HA.out.B9 0).trans rfl
  have x1:w2.cell? ⟨(w.heap.size+1+1+1+1+1+1+1+1+1),1,none⟩=some (.slice none 0 0):=(blk_cell HA.out.B9 1).trans rfl
  have x2:w2.cell? ⟨(w.heap.size+1+1+1+1+1+1+1+1+1),2,none⟩=some (.slice none 0 0):=(blk_cell HA.out.B9 2).trans rfl
  have x3:w2.cell? ⟨(w.heap.size+1+1+1+1+1+1+1+1+1),3,none⟩=some (.slice (some ⟨(w.heap.size+1+1+1+1+1+1+1+1),0,none⟩) 1 1):=(blk_cell HA.out.B9 3).trans rfl
  go_wp2_with fail
  refine (tree_Deep.calls 40 (lit [45]) (lit []) 0 (some ⟨(w.heap.size+1+1+1+1+1),0,none⟩) 2 [aNeg,aPlus] 0 4 w2 HA.out.C5 (Nat.le_refl _) (by kernel_rfl)).mono ?_
  rintro e_ w3 ⟨rfl,hb⟩
  have HA:=Aside0.mk (HA.out.later hb)
  clear y0 y1 y2 y3 y4 x0 x1 x2 x3
  clear hb
  have y0:w3.cell? ⟨(w.heap.size+1+1+1+1+1+1),0,none⟩=some (.string ⟨#[45]⟩):=(blk_cell HA.out.B6 0).trans rfl
  have y1:w3.cell? ⟨(w.heap.size+1+1+1+1+1+1),1,none⟩=some (.string ⟨#[]⟩):=(blk_cell HA.out.B6 1).trans rfl
  have y2:w3.cell? ⟨(w.heap.size+1+1+1+1+1+1),2,none⟩=some (.int .i64 0):=(blk_cell HA.out.B6 2).trans rfl
  have y3:w3.cell? ⟨(w.heap.size+1+1+1+1+1+1),3,none⟩=some (.slice (some ⟨(w.heap.size+1+1+1+1+1),0,none⟩) 2 2):=(blk_cell HA.out.B6 3).trans rfl
  have y4:w3.cell? ⟨(w.heap.size+1+1+1+1+1+1),4,none⟩=some (.int .i64 0):=(blk_cell HA.out.B6 4).trans rfl
  have x0:w3.cell? ⟨(w.heap.size+1+1+1+1+1+1+1+1+1),0,none⟩=some (.slice none 0 0):=(blk_cell HA.out.B9 0).trans rfl
  have x1:w3.cell? ⟨(w.heap.size+1+1+1+1+1+1+1+1+1),1,none⟩=some (.slice none 0 0):=(blk_cell HA.out.B9 1).trans rfl
  have x2:w3.cell? ⟨(w.heap.size+1+1+1+1+1+1+1+1+1),2,none⟩=some (.slice none 0 0):=(blk_cell HA.out.B9 2).trans rfl
  have x3:w3.cell? ⟨(w.heap.size+1+1+1+1+1+1+1+1+1),3,none⟩=some (.slice (some ⟨(w.heap.size+1+1+1+1+1+1+1+1),0,none⟩) 1 1):=(blk_cell HA.out.B9 3).trans rfl
  go_wp2_with fail
  refine (tree_Depth.calls 40 (some ⟨(w.heap.size+1+1+1+1+1+1+1+1),0,none⟩) 1 [aS] 1 w3 HA.out.C8 (Nat.le_refl _) (by kernel_rfl)).mono ?_
  rintro e_ w4 ⟨rfl,hb⟩
  have HA:=Aside0.mk (HA.out.later hb)
  clear y0 y1 y2 y3 y4 x0 x1 x2 x3
  clear hb
  have y0:w4.cell? ⟨(w.heap.size+1+1+1+1+1+1),0,none⟩=some (.string ⟨#[45]⟩):=(blk_cell HA.out.B6 0).trans rfl
  have y1:w4.cell? ⟨(w.heap.size+1+1+1+1+1+1),1,none⟩=some (.string ⟨#[]⟩):=(blk_cell HA.out.B6 1).trans rfl
  have y2:w4.cell? ⟨(w.heap.size+1+1+1+1+1+1),2,none⟩=some (.int .i64 0):=(blk_cell HA.out.B6 2).trans rfl
  have y3:w4.cell? ⟨(w.heap.size+1+1+1+1+1+1),3,none⟩=some (.slice (some ⟨(w.heap.size+1+1+1+1+1),0,none⟩) 2 2):=(blk_cell HA.out.B6 3).trans rfl
  have y4:w4.cell? ⟨(w.heap.size+1+1+1+1+1+1),4,none⟩=some (.int .i64 0):=(blk_cell HA.out.B6 4).trans rfl
  have x0:w4.cell? ⟨(w.heap.size+1+1+1+1+1+1+1+1+1),0,none⟩=some (.slice none 0 0):=(blk_cell HA.out.B9 0).trans rfl
  have x1:w4.cell? ⟨(w.heap.size+1+1+1+1+1+1+1+1+1),1,none⟩=some (.slice none 0 0):=(blk_cell HA.out.B9 1).trans rfl
  have x2:w4.cell? ⟨(w.heap.size+1+1+1+1+1+1+1+1+1),2,none⟩=some (.slice none 0 0):=(blk_cell HA.out.B9 2).trans rfl
  have x3:w4.cell? ⟨(w.heap.size+1+1+1+1+1+1+1+1+1),3,none⟩=some (.slice (some ⟨(w.heap.size+1+1+1+1+1+1+1+1),0,none⟩) 1 1):=(blk_cell HA.out.B9 3).trans rfl
  go_wp2_with fail
  refine (tree_Sized.calls 40 none 0 ([]:List S79) none 0 ([]:List S80) none 0 ([]:List S66) (some ⟨(w.heap.size+1+1+1+1+1+1+1+1),0,none⟩) 1 [aS] 8 w4 (Kd.C_nil (α:=S79) k79 _) (Nat.le_refl _) (Kd.C_nil (α:=S80) k80 _) (Nat.le_refl _) (Kd.C_nil (α:=S66) k66 _) (Nat.le_refl _) HA.out.C8 (Nat.le_refl _) (by kernel_rfl)).mono ?_
  rintro e_ w5 ⟨rfl,hb⟩
  have HA:=Aside0.mk (HA.out.later hb)
  clear y0 y1 y2 y3 y4 x0 x1 x2 x3
  clear hb
  have y0:w5.cell? ⟨(w.heap.size+1+1+1+1+1+1),0,none⟩=some (.string ⟨#[45]⟩):=(blk_cell HA.out.B6 0).trans rfl
  have y1:w5.cell? ⟨(w.heap.size+1+1+1+1+1+1),1,none⟩=some (.string ⟨#[]⟩):=(blk_cell HA.out.B6 1).trans rfl
  have y2:w5.cell? ⟨(w.heap.size+1+1+1+1+1+1),2,none⟩=some (.int .i64 0):=(blk_cell HA.out.B6 2).trans rfl
  have y3:w5.cell? ⟨(w.heap.size+1+1+1+1+1+1),3,none⟩=some (.slice (some ⟨(w.heap.size+1+1+1+1+1),0,none⟩) 2 2):=(blk_cell HA.out.B6 3).trans rfl
  have y4:w5.cell? ⟨(w.heap.size+1+1+1+1+1+1),4,none⟩=some (.int .i64 0):=(blk_cell HA.out.B6 4).trans rfl
  have x0:w5.cell? ⟨(w.heap.size+1+1+1+1+1+1+1+1+1),0,none⟩=some (.slice none 0 0):=(blk_cell HA.out.B9 0).trans rfl
  have x1:w5.cell? ⟨(w.heap.size+1+1+1+1+1+1+1+1+1),1,none⟩=some (.slice none 0 0):=(blk_cell HA.out.B9 1).trans rfl
  have x2:w5.cell? ⟨(w.heap.size+1+1+1+1+1+1+1+1+1),2,none⟩=some (.slice none 0 0):=(blk_cell HA.out.B9 2).trans rfl
  have x3:w5.cell? ⟨(w.heap.size+1+1+1+1+1+1+1+1+1),3,none⟩=some (.slice (some ⟨(w.heap.size+1+1+1+1+1+1+1+1),0,none⟩) 1 1):=(blk_cell HA.out.B9 3).trans rfl
  go_wp2_with fail
  refine (tree_Same.calls 40 none 0 ([]:List S79) none 0 ([]:List S80) none 0 ([]:List S66) (some ⟨(w.heap.size+1+1+1+1+1+1+1+1),0,none⟩) 1 [aS] none 0 ([]:List S79) none 0 ([]:List S80) none 0 ([]:List S66) (some ⟨(w.heap.size+1+1+1+1+1+1+1+1),0,none⟩) 1 [aS] true w5 (Kd.C_nil (α:=S79) k79 _) (Nat.le_refl _) (Kd.C_nil (α:=S80) k80 _) (Nat.le_refl _) (Kd.C_nil (α:=S66) k66 _) (Nat.le_refl _) HA.out.C8 (Nat.le_refl _) (Kd.C_nil (α:=S79) k79 _) (Nat.le_refl _) (Kd.C_nil (α:=S80) k80 _) (Nat.le_refl _) (Kd.C_nil (α:=S66) k66 _) (Nat.le_refl _) HA.out.C8 (Nat.le_refl _) (by kernel_rfl)).mono ?_
  rintro e_ w6 ⟨rfl,hb⟩
  have HA:=Aside0.mk (HA.out.later hb)
  clear y0 y1 y2 y3 y4 x0 x1 x2 x3
  clear hb
  have y0:w6.cell? ⟨(w.heap.size+1+1+1+1+1+1),0,none⟩=some (.string ⟨#[45]⟩):=(blk_cell HA.out.B6 0).trans rfl
  have y1:w6.cell? ⟨(w.heap.size+1+1+1+1+1+1),1,none⟩=some (.string ⟨#[]⟩):=(blk_cell HA.out.B6 1).trans rfl
  have y2:w6.cell? ⟨(w.heap.size+1+1+1+1+1+1),2,none⟩=some (.int .i64 0):=(blk_cell HA.out.B6 2).trans rfl
  have y3:w6.cell? ⟨(w.heap.size+1+1+1+1+1+1),3,none⟩=some (.slice (some ⟨(w.heap.size+1+1+1+1+1),0,none⟩) 2 2):=(blk_cell HA.out.B6 3).trans rfl
  have y4:w6.cell? ⟨(w.heap.size+1+1+1+1+1+1),4,none⟩=some (.int .i64 0):=(blk_cell HA.out.B6 4).trans rfl
  have x0:w6.cell? ⟨(w.heap.size+1+1+1+1+1+1+1+1+1),0,none⟩=some (.slice none 0 0):=(blk_cell HA.out.B9 0).trans rfl
  have x1:w6.cell? ⟨(w.heap.size+1+1+1+1+1+1+1+1+1),1,none⟩=some (.slice none 0 0):=(blk_cell HA.out.B9 1).trans rfl
  have x2:w6.cell? ⟨(w.heap.size+1+1+1+1+1+1+1+1+1),2,none⟩=some (.slice none 0 0):=(blk_cell HA.out.B9 2).trans rfl
  have x3:w6.cell? ⟨(w.heap.size+1+1+1+1+1+1+1+1+1),3,none⟩=some (.slice (some ⟨(w.heap.size+1+1+1+1+1+1+1+1),0,none⟩) 1 1):=(blk_cell HA.out.B9 3).trans rfl
  go_wp2_with fail
  refine (tree_SameExpr.calls 40 (lit [45]) (lit []) 0 (some ⟨(w.heap.size+1+1+1+1+1),0,none⟩) 2 [aNeg,aPlus] 0 (lit [45]) (lit []) 0 (some ⟨(w.heap.size+1+1+1+1+1),0,none⟩) 2 [aNeg,aPlus] 0 true w6 HA.out.C5 (Nat.le_refl _) HA.out.C5 (Nat.le_refl _) (by kernel_rfl)).mono ?_
  rintro e_ w7 ⟨rfl,hb⟩
  have HA:=Aside0.mk (HA.out.later hb)
  clear y0 y1 y2 y3 y4 x0 x1 x2 x3
  clear hb
  have y0:w7.cell? ⟨(w.heap.size+1+1+1+1+1+1),0,none⟩=some (.string ⟨#[45]⟩):=(blk_cell HA.out.B6 0).trans rfl
  have y1:w7.cell? ⟨(w.heap.size+1+1+1+1+1+1),1,none⟩=some (.string ⟨#[]⟩):=(blk_cell HA.out.B6 1).trans rfl
  have y2:w7.cell? ⟨(w.heap.size+1+1+1+1+1+1),2,none⟩=some (.int .i64 0):=(blk_cell HA.out.B6 2).trans rfl
  have y3:w7.cell? ⟨(w.heap.size+1+1+1+1+1+1),3,none⟩=some (.slice (some ⟨(w.heap.size+1+1+1+1+1),0,none⟩) 2 2):=(blk_cell HA.out.B6 3).trans rfl
  have y4:w7.cell? ⟨(w.heap.size+1+1+1+1+1+1),4,none⟩=some (.int .i64 0):=(blk_cell HA.out.B6 4).trans rfl
  have x0:w7.cell? ⟨(w.heap.size+1+1+1+1+1+1+1+1+1),0,none⟩=some (.slice none 0 0):=(blk_cell HA.out.B9 0).trans rfl
  have x1:w7.cell? ⟨(w.heap.size+1+1+1+1+1+1+1+1+1),1,none⟩=some (.slice none 0 0):=(blk_cell HA.out.B9 1).trans rfl
  have x2:w7.cell? ⟨(w.heap.size+1+1+1+1+1+1+1+1+1),2,none⟩=some (.slice none 0 0):=(blk_cell HA.out.B9 2).trans rfl
  have x3:w7.cell? ⟨(w.heap.size+1+1+1+1+1+1+1+1+1),3,none⟩=some (.slice (some ⟨(w.heap.size+1+1+1+1+1+1+1+1),0,none⟩) 1 1):=(blk_cell HA.out.B9 3).trans rfl
  go_wp2_with fail
  refine (tree_Print.calls none 0 ([]:List S79) none 0 ([]:List S80) none 0 ([]:List S66) (some ⟨(w.heap.size+1+1+1+1+1+1+1+1),0,none⟩) 1 [aS] (⟨#[109,97,105,110,32,123,10,32,32,120,32,61,32,40,45,120,41,32,45,32,40,49,32,43,32,97,91,120,93,41,59,10,125,10]⟩:ByteArray) w7 (hT.later HA.out.below) (Kd.C_nil (α:=S79) k79 _) (Nat.le_refl _) (Kd.C_nil (α:=S80) k80 _) (Nat.le_refl _) (Kd.C_nil (α:=S66) k66 _) (Nat.le_refl _) HA.out.C8 (Nat.le_refl _) alive_print).mono ?_
  rintro e_ w8 ⟨rfl,hb⟩
  have HA:=Aside0.mk (HA.out.later hb)
  clear y0 y1 y2 y3 y4 x0 x1 x2 x3
  clear hb
  have y0:w8.cell? ⟨(w.heap.size+1+1+1+1+1+1),0,none⟩=some (.string ⟨#[45]⟩):=(blk_cell HA.out.B6 0).trans rfl
  have y1:w8.cell? ⟨(w.heap.size+1+1+1+1+1+1),1,none⟩=some (.string ⟨#[]⟩):=(blk_cell HA.out.B6 1).trans rfl
  have y2:w8.cell? ⟨(w.heap.size+1+1+1+1+1+1),2,none⟩=some (.int .i64 0):=(blk_cell HA.out.B6 2).trans rfl
  have y3:w8.cell? ⟨(w.heap.size+1+1+1+1+1+1),3,none⟩=some (.slice (some ⟨(w.heap.size+1+1+1+1+1),0,none⟩) 2 2):=(blk_cell HA.out.B6 3).trans rfl
  have y4:w8.cell? ⟨(w.heap.size+1+1+1+1+1+1),4,none⟩=some (.int .i64 0):=(blk_cell HA.out.B6 4).trans rfl
  have x0:w8.cell? ⟨(w.heap.size+1+1+1+1+1+1+1+1+1),0,none⟩=some (.slice none 0 0):=(blk_cell HA.out.B9 0).trans rfl
  have x1:w8.cell? ⟨(w.heap.size+1+1+1+1+1+1+1+1+1),1,none⟩=some (.slice none 0 0):=(blk_cell HA.out.B9 1).trans rfl
  have x2:w8.cell? ⟨(w.heap.size+1+1+1+1+1+1+1+1+1),2,none⟩=some (.slice none 0 0):=(blk_cell HA.out.B9 2).trans rfl
  have x3:w8.cell? ⟨(w.heap.size+1+1+1+1+1+1+1+1+1),3,none⟩=some (.slice (some ⟨(w.heap.size+1+1+1+1+1+1+1+1),0,none⟩) 1 1):=(blk_cell HA.out.B9 3).trans rfl
  go_wp2
  go_ret
  exact ⟨rfl,HA.out.below⟩
def helmsmanlaw12_alive.f:Option Bool:=some true
theorem helmsmanlaw12_alive.calls (r:Bool) (w:World) (hT:TabT w) (h:helmsmanlaw12_alive.f=some r):Calls Tryd.prog 10 #[] w fun e w'=>e=.returned (.bool r)∧Below w.heap.size w w':=by
  obtain rfl:=Option.some.inj h
  exact alive_pr w hT
theorem alive_now {f:Nat→Bool→Option Bool} {r:Bool} (h:Ev (fun k=>f k true) r):Ev (fun k=>helmsmanlaw12_alive.f.bind (f k)) r:=h
end Go.Proofs.YtnnbbeloifhofaaDoor.P
end
section
namespace Go.Proofs.YtnnbbeloifhofaaDoor.P
open Go.RowKit Go.Proofs.YtnnbbeloifhofaaDoorW.PrintWords Go.Proofs.YtnnbbeloifhofaaDoorW.PrintLast Go.Proofs.YtnnbbeloifhofaaDoorW.PrintMore
attribute [local go_sem] max2_int min2_int max_two min_two max_three min_three max_four min_four
set_option linter.unusedVariables false
set_option linter.unusedSimpArgs false
mutual
def helmsmanlaw12_TreePlaces.j0:Nat→Int→Bool→List (S72)→List (S56)→List (S69)→List (S29)→Option (Bool)
 | 0,_,_,_,_,_,_=>none
 | k+1,x1,x19,x449000,x449001,x449002,x449003=>if x19=true then ((helmsmanlaw12_alive.f).bind fun t450=>(some t450)) else ((helmsmanlaw12_Prog.f k x449000 x449001 x449002 x449003).bind fun bt451=>((helmsmanlaw12_moved.f k bt451.2.2.2 x1).bind fun t464=>(helmsmanlaw12_TreePlaces.l0 k x1 bt451.2.2.1 (bt451.2.2.1.length:Int) 0 bt451.1 bt451.2.1 bt451.2.2.1 bt451.2.2.2 bt451.1 bt451.2.1 ([]:List (S66)) t464)))
def helmsmanlaw12_TreePlaces.l0:Nat→Int→List (S66)→Int→Int→List (S79)→List (S80)→List (S66)→List (S76)→List (S79)→List (S80)→List (S66)→List (S76)→Option (Bool)
 | 0,_,_,_,_,_,_,_,_,_,_,_,_=>none
 | k+1,x1,x33,x34,x35,x464000,x464001,x464002,x464003,x468000,x468001,x468002,x468003=>if x35 < x34 then (if 0≤x35 then (if x35 < (x33.length:Int) then ((helmsmanlaw12_moved.f k ((rd_T66 x33 x35).f1) x1).bind fun t470=>(if x468002.length < 3518437208883 then (helmsmanlaw12_TreePlaces.l0 k x1 x33 x34 (wrap64 (x35+1)) x464000 x464001 x464002 x464003 x468000 x468001 (x468002++[(⟨(rd_T66 x33 x35).f0,t470⟩:S66)]) x468003) else (none))) else (none)) else (none)) else ((helmsmanlaw12_alive.f).bind fun t476=>(if t476=true then ((tree_Same.f k x464000 x464001 x464002 x464003 x468000 x468001 x468002 x468003).bind fun t477=>(if t477=true then ((tree_Same.f k x464000 x464001 x464002 x464003 x464000 x464001 x464002 x464003).bind fun t478=>(if t478=true then ((tree_Print.f x464000 x464001 x464002 x464003).bind fun t479=>((tree_Print.f x468000 x468001 x468002 x468003).bind fun t480=>(some (t479.toList == t480.toList)))) else (some false))) else (some false))) else (some false)))
end
def helmsmanlaw12_TreePlaces.f (k:Nat) (l0_0:List (S72)) (l0_1:List (S56)) (l0_2:List (S69)) (l0_3:List (S29)) (a1:Int):Option (Bool):=(helmsmanref12_Sized.f k l0_0 l0_1 l0_2 l0_3).bind fun t449=>(if t449 > 300 then (helmsmanlaw12_TreePlaces.j0 k a1 true l0_0 l0_1 l0_2 l0_3) else (if a1 < (-1000) then (helmsmanlaw12_TreePlaces.j0 k a1 true l0_0 l0_1 l0_2 l0_3) else (helmsmanlaw12_TreePlaces.j0 k a1 (decide (a1 > 1000)) l0_0 l0_1 l0_2 l0_3)))
def helmsmanlaw12_TreePlaces.T4:Bool × List (List Nat × List Nat):=(true,[([],[]),([0],[0]),([],[]),([2],[2]),([],[]),([4],[4]),([],[]),([5,6],[5,6]),([1,3,7],[1,3,7]),([],[]),([9,8,7,0,1,2,3,4,5,6,7,8,9],[8,9])])
def helmsmanlaw12_TreePlaces.B4:List Nat:=[0,1,0,4,0,16,0,112,255,0,1023]
theorem helmsmanlaw12_TreePlaces.tab4:rtab .any (opsOf Tryd.f6 4)=helmsmanlaw12_TreePlaces.T4:=by kernel_rfl
theorem helmsmanlaw12_TreePlaces.bits4:waitsOk helmsmanlaw12_TreePlaces.T4.2 helmsmanlaw12_TreePlaces.B4=true:=by kernel_rfl
def helmsmanlaw12_TreePlaces.T8:Bool × List (List Nat × List Nat):=(true,[([],[]),([0],[0]),([],[]),([2],[2]),([],[]),([4],[4]),([],[]),([5,6],[5,6]),([3,7],[3,7]),([8],[8]),([1,9,7],[1,9]),([0,1,2,3,4,5,6,7,8,9,10],[]),([11,10,10,0,1,2,3,4,5,6,7,8,9,10],[10,11])])
def helmsmanlaw12_TreePlaces.B8:List Nat:=[0,1,0,4,0,16,0,112,252,508,1023,2047,4095]
theorem helmsmanlaw12_TreePlaces.tab8:rtab .any (opsOf Tryd.f6 8)=helmsmanlaw12_TreePlaces.T8:=by kernel_rfl
theorem helmsmanlaw12_TreePlaces.bits8:waitsOk helmsmanlaw12_TreePlaces.T8.2 helmsmanlaw12_TreePlaces.B8=true:=by kernel_rfl
def helmsmanlaw12_TreePlaces.T10:Bool × List (List Nat × List Nat):=(true,[([],[]),([0,0],[0]),([1],[1]),([1],[1]),([2,3,1,1],[1,2,3]),([1,4],[1,4]),([5,4],[5]),([6],[6]),([6],[6]),([7,8,6,6],[6,7,8]),([6,9],[6,9]),([10,9],[10]),([11],[11]),([12,11,11],[11,12]),([11],[11]),([14,13,11],[11,14]),([13,15,11],[11,13,15]),([11,16],[11,16]),([17,15,0,1,2,3,4,5,6,7,8,9,10,11,12,13,14,15,16,17],[17])])
def helmsmanlaw12_TreePlaces.B10:List Nat:=[0,1,3,3,15,31,63,127,127,511,1023,2047,4095,8191,4095,32767,65535,131071,262143]
theorem helmsmanlaw12_TreePlaces.tab10:rtab .any (opsOf Tryd.f6 10)=helmsmanlaw12_TreePlaces.T10:=by kernel_rfl
theorem helmsmanlaw12_TreePlaces.bits10:waitsOk helmsmanlaw12_TreePlaces.T10.2 helmsmanlaw12_TreePlaces.B10=true:=by kernel_rfl
set_option maxHeartbeats 8000000 in
set_option maxRecDepth 100000 in
theorem helmsmanlaw12_TreePlaces.calls (k:Nat) (A0_0:Option Addr) (c0_0:Nat) (l0_0:List (S72)) (A0_1:Option Addr) (c0_1:Nat) (l0_1:List (S56)) (A0_2:Option Addr) (c0_2:Nat) (l0_2:List (S69)) (A0_3:Option Addr) (c0_3:Nat) (l0_3:List (S29)) (a1:Int) (r:Bool) (w:World) (hT:TabT w) (hr0_0:Kd.C k72 w A0_0 l0_0.length l0_0) (hc0_0:l0_0.length≤c0_0) (hr0_1:Kd.C k56 w A0_1 l0_1.length l0_1) (hc0_1:l0_1.length≤c0_1) (hr0_2:Kd.C k69 w A0_2 l0_2.length l0_2) (hc0_2:l0_2.length≤c0_2) (hr0_3:Kd.C k29 w A0_3 l0_3.length l0_3) (hc0_3:l0_3.length≤c0_3) (h:helmsmanlaw12_TreePlaces.f k l0_0 l0_1 l0_2 l0_3 a1=some r) :
  Calls Tryd.prog 6 #[.agg #[.slice A0_0 l0_0.length c0_0,.slice A0_1 l0_1.length c0_1,.slice A0_2 l0_2.length c0_2,.slice A0_3 l0_3.length c0_3],.int .i64 a1] w fun e w'=>e=.returned (.bool r)∧Below w.heap.size w w':=by
 have hu43:=Tryd.underlying43
 have hu50:=Tryd.underlying50
 have hu66:=Tryd.underlying66
 have HR0_0:=Aside0.mk hr0_0
 have HC0_0:=Aside0.mk hc0_0
 clear hr0_0 hc0_0
 have HR0_1:=Aside0.mk hr0_1
 have HC0_1:=Aside0.mk hc0_1
 clear hr0_1 hc0_1
 have HR0_2:=Aside0.mk hr0_2
 have HC0_2:=Aside0.mk hc0_2
 clear hr0_2 hc0_2
 have HR0_3:=Aside0.mk hr0_3
 have HC0_3:=Aside0.mk hc0_3
 clear hr0_3 hc0_3
 have HB:=Aside0.mk (Below.refl w.heap.size w)
 have H:((helmsmanref12_Sized.f k l0_0 l0_1 l0_2 l0_3).bind fun t449=>(if t449 > 300 then (helmsmanlaw12_TreePlaces.j0 k a1 true l0_0 l0_1 l0_2 l0_3) else (if a1 < (-1000) then (helmsmanlaw12_TreePlaces.j0 k a1 true l0_0 l0_1 l0_2 l0_3) else (helmsmanlaw12_TreePlaces.j0 k a1 (decide (a1 > 1000)) l0_0 l0_1 l0_2 l0_3))))=some r:=h
 clear h
 have HC3:=Aside0.mk H
 clear H
 go_enter Tryd.func6,Tryd.ntmps6
 go_upto_region 1 with (first|((with_reducible refine gate_dst (N:=2) rfl ?_);refine box_event ?hg (N:=2) ?hd (cs:=#[.slice A0_0 l0_0.length c0_0,.slice A0_1 l0_1.length c0_1,.slice A0_2 l0_2.length c0_2,.slice A0_3 l0_3.length c0_3]) (t:=43) ?hr ?_;(case hd=>rfl);(case hg=>rfl);(case hr=>first|(go_simp;done)|(go_simp;rfl));intro gb448 hg w4 hbox hb;have n0_:=Aside0.mk (below_step (bl_ HB.out) hb);have n1_:=Aside0.mk (hbox);have n2_:=Aside0.mk ((gs_ hg (bl_ HB.out):w.heap.size≤gb448));have n3_:=Aside0.mk ((gs_ hg (bl_ HB.out):w.heap.size≤gb448));clear HB;have HB:=n0_;have BK448:=n1_;have GW448:=n2_;have GE448:=n3_;clear n0_ n1_ n2_ n3_;clear hb hbox hg))
 (try simp only [Act.put,List.setIfInBounds_toArray,List.set_cons_zero,List.set_cons_succ])
 go_cut [19] (fun v19 wc=>∃ (kq:Nat) (x19_2:Bool),v19=.bool x19_2∧Aside0 (helmsmanlaw12_TreePlaces.j0 kq a1 x19_2 l0_0 l0_1 l0_2 l0_3=some r)∧Aside0 (kq≤k)∧Aside0 (wc.heap[gb448]?=some (.cells #[(.slice A0_0 l0_0.length c0_0),(.slice A0_1 l0_1.length c0_1),(.slice A0_2 l0_2.length c0_2),(.slice A0_3 l0_3.length c0_3)] 43 (0,0)))∧Aside0 (Below w.heap.size w wc))
 case first=>as_aux_lemma=>
  have H:=HC3.out
  clear HC3
  replace H:=Option.bind_eq_some_iff.mp H
  obtain ⟨t449,A50,H⟩:=H
  replace H:(if t449 > 300 then (helmsmanlaw12_TreePlaces.j0 k a1 true l0_0 l0_1 l0_2 l0_3) else (if a1 < (-1000) then (helmsmanlaw12_TreePlaces.j0 k a1 true l0_0 l0_1 l0_2 l0_3) else (helmsmanlaw12_TreePlaces.j0 k a1 (decide (a1 > 1000)) l0_0 l0_1 l0_2 l0_3)))=some r:=H
  have A5:=Aside0.mk A50
  clear A50
  by_cases c6:t449 > 300
  ·rw [if_pos c6] at H
   have c6b0:decide (300 < t449)=true:=decide_eq_true c6
   clear c6
   (first|rw [c6b0]|(simp only [i64_w,i32_w];rw [c6b0])|skip)
   have H':=Aside0.mk H
   clear H
   have hcz7_0:w4.cell? ⟨gb448,0,none⟩=some (.slice A0_0 l0_0.length c0_0):=zc_ BK448.out 0
   have hcz7_1:w4.cell? ⟨gb448,1,none⟩=some (.slice A0_1 l0_1.length c0_1):=zc_ BK448.out 1
   have hcz7_2:w4.cell? ⟨gb448,2,none⟩=some (.slice A0_2 l0_2.length c0_2):=zc_ BK448.out 2
   have hcz7_3:w4.cell? ⟨gb448,3,none⟩=some (.slice A0_3 l0_3.length c0_3):=zc_ BK448.out 3
   have hfz7_0:=blk_frozen BK448.out 0
   have hfz7_1:=blk_frozen BK448.out 1
   have hfz7_2:=blk_frozen BK448.out 2
   have hfz7_3:=blk_frozen BK448.out 3
   go_wp2_with (first|((with_reducible refine gate_callee (f:=16) rfl ?_);refine goesL_ (some 10) rfl rfl Tryd.func16 (by kernel_rfl) rfl #[.agg #[.slice A0_0 l0_0.length c0_0,.slice A0_1 l0_1.length c0_1,.slice A0_2 l0_2.length c0_2,.slice A0_3 l0_3.length c0_3]] rfl ar_ ?_;(with_reducible refine (helmsmanref12_Sized.calls k _ _ l0_0 _ _ l0_1 _ _ l0_2 _ _ l0_3 t449 _ ?side1 ?side2 ?side3 ?side4 ?side5 ?side6 ?side7 ?side8 A5.out).mono ?_);(case side1=>exact kc_ HR0_0.out HB.out);(case side2=>exact HC0_0.out);(case side3=>exact kc_ HR0_1.out HB.out);(case side4=>exact HC0_1.out);(case side5=>exact kc_ HR0_2.out HB.out);(case side6=>exact HC0_2.out);(case side7=>exact kc_ HR0_3.out HB.out);(case side8=>exact HC0_3.out);rintro e w8 ⟨rfl,hb⟩;refine ⟨_,rfl,?_⟩;have n0_:=Aside0.mk (bb_ BK448.out hb);have n1_:=Aside0.mk (below_step (bl_ HB.out) hb);clear BK448;clear HB;have BK448:=n0_;have HB:=n1_;clear n0_ n1_;(try clear hb);(try clear hb2);(try clear hk);(try clear hi)))
   go_meet
   case rel=>exact ⟨_,(true),rf_,H',⟨by first|omega|exact Nat.le_refl _⟩,⟨kb_ BK448.out⟩,⟨bl_ HB.out⟩⟩
  ·rw [if_neg c6] at H
   have c6b0:decide (300 < t449)=false:=decide_eq_false c6
   clear c6
   (first|rw [c6b0]|(simp only [i64_w,i32_w];rw [c6b0])|skip)
   by_cases c9:a1 < (-1000)
   ·rw [if_pos c9] at H
    have c9b0:decide (a1 < (-1000))=true:=decide_eq_true c9
    clear c9
    have H':=Aside0.mk H
    clear H
    have hcz10_0:w4.cell? ⟨gb448,0,none⟩=some (.slice A0_0 l0_0.length c0_0):=zc_ BK448.out 0
    have hcz10_1:w4.cell? ⟨gb448,1,none⟩=some (.slice A0_1 l0_1.length c0_1):=zc_ BK448.out 1
    have hcz10_2:w4.cell? ⟨gb448,2,none⟩=some (.slice A0_2 l0_2.length c0_2):=zc_ BK448.out 2
    have hcz10_3:w4.cell? ⟨gb448,3,none⟩=some (.slice A0_3 l0_3.length c0_3):=zc_ BK448.out 3
    have hfz10_0:=blk_frozen BK448.out 0
    have hfz10_1:=blk_frozen BK448.out 1
    have hfz10_2:=blk_frozen BK448.out 2
    have hfz10_3:=blk_frozen BK448.out 3
    go_wp2_with (first|((with_reducible refine gate_callee (f:=16) rfl ?_);refine goesL_ (some 10) rfl rfl Tryd.func16 (by kernel_rfl) rfl #[.agg #[.slice A0_0 l0_0.length c0_0,.slice A0_1 l0_1.length c0_1,.slice A0_2 l0_2.length c0_2,.slice A0_3 l0_3.length c0_3]] rfl ar_ ?_;(with_reducible refine (helmsmanref12_Sized.calls k _ _ l0_0 _ _ l0_1 _ _ l0_2 _ _ l0_3 t449 _ ?side1 ?side2 ?side3 ?side4 ?side5 ?side6 ?side7 ?side8 A5.out).mono ?_);(case side1=>exact kc_ HR0_0.out HB.out);(case side2=>exact HC0_0.out);(case side3=>exact kc_ HR0_1.out HB.out);(case side4=>exact HC0_1.out);(case side5=>exact kc_ HR0_2.out HB.out);(case side6=>exact HC0_2.out);(case side7=>exact kc_ HR0_3.out HB.out);(case side8=>exact HC0_3.out);rintro e w11 ⟨rfl,hb⟩;refine ⟨_,rfl,?_⟩;have n0_:=Aside0.mk (bb_ BK448.out hb);have n1_:=Aside0.mk (below_step (bl_ HB.out) hb);clear BK448;clear HB;have BK448:=n0_;have HB:=n1_;clear n0_ n1_;(try clear hb);(try clear hb2);(try clear hk);(try clear hi)))
    go_meet
    case rel=>exact ⟨_,(true),rf_,H',⟨by first|omega|exact Nat.le_refl _⟩,⟨kb_ BK448.out⟩,⟨bl_ HB.out⟩⟩
   ·rw [if_neg c9] at H
    have c9b0:decide (a1 < (-1000))=false:=decide_eq_false c9
    clear c9
    have H':=Aside0.mk H
    clear H
    have hcz12_0:w4.cell? ⟨gb448,0,none⟩=some (.slice A0_0 l0_0.length c0_0):=zc_ BK448.out 0
    have hcz12_1:w4.cell? ⟨gb448,1,none⟩=some (.slice A0_1 l0_1.length c0_1):=zc_ BK448.out 1
    have hcz12_2:w4.cell? ⟨gb448,2,none⟩=some (.slice A0_2 l0_2.length c0_2):=zc_ BK448.out 2
    have hcz12_3:w4.cell? ⟨gb448,3,none⟩=some (.slice A0_3 l0_3.length c0_3):=zc_ BK448.out 3
    have hfz12_0:=blk_frozen BK448.out 0
    have hfz12_1:=blk_frozen BK448.out 1
    have hfz12_2:=blk_frozen BK448.out 2
    have hfz12_3:=blk_frozen BK448.out 3
    go_wp2_with (first|((with_reducible refine gate_callee (f:=16) rfl ?_);refine goesL_ (some 10) rfl rfl Tryd.func16 (by kernel_rfl) rfl #[.agg #[.slice A0_0 l0_0.length c0_0,.slice A0_1 l0_1.length c0_1,.slice A0_2 l0_2.length c0_2,.slice A0_3 l0_3.length c0_3]] rfl ar_ ?_;(with_reducible refine (helmsmanref12_Sized.calls k _ _ l0_0 _ _ l0_1 _ _ l0_2 _ _ l0_3 t449 _ ?side1 ?side2 ?side3 ?side4 ?side5 ?side6 ?side7 ?side8 A5.out).mono ?_);(case side1=>exact kc_ HR0_0.out HB.out);(case side2=>exact HC0_0.out);(case side3=>exact kc_ HR0_1.out HB.out);(case side4=>exact HC0_1.out);(case side5=>exact kc_ HR0_2.out HB.out);(case side6=>exact HC0_2.out);(case side7=>exact kc_ HR0_3.out HB.out);(case side8=>exact HC0_3.out);rintro e w13 ⟨rfl,hb⟩;refine ⟨_,rfl,?_⟩;have n0_:=Aside0.mk (bb_ BK448.out hb);have n1_:=Aside0.mk (below_step (bl_ HB.out) hb);clear BK448;clear HB;have BK448:=n0_;have HB:=n1_;clear n0_ n1_;(try clear hb);(try clear hb2);(try clear hk);(try clear hi)))
    go_meet
    case rel=>exact ⟨_,(decide (a1 > 1000)),rf_,H',⟨by first|omega|exact Nat.le_refl _⟩,⟨kb_ BK448.out⟩,⟨bl_ HB.out⟩⟩
 case rest=>as_aux_lemma=>
  clear HC3
  (try clear c1);(try clear p2);(try clear c6);(try clear c6b0);(try clear c9);(try clear c9b0);(try clear hcz10_0);(try clear hcz10_1);(try clear hcz10_2);(try clear hcz10_3);(try clear hcz12_0);(try clear hcz12_1);(try clear hcz12_2);(try clear hcz12_3);(try clear hcz7_0);(try clear hcz7_1);(try clear hcz7_2);(try clear hcz7_3);(try clear hfz10_0);(try clear hfz10_1);(try clear hfz10_2);(try clear hfz10_3);(try clear hfz12_0);(try clear hfz12_1);(try clear hfz12_2);(try clear hfz12_3);(try clear hfz7_0);(try clear hfz7_1);(try clear hfz7_2);(try clear hfz7_3)
  obtain ⟨kq,x19_2,rfl,HA,HJ2,BK448,HB⟩:=hcut
  cases kq with
  | zero=>exact absurd HA.out (by simp [helmsmanlaw12_TreePlaces.j0])
  | succ kj2=>
   have H:=HA.out
   clear HA
   simp only [helmsmanlaw12_TreePlaces.j0] at H
   by_cases c14:x19_2=true
   ·subst c14
    have H1:((helmsmanlaw12_alive.f).bind fun t450=>(some t450))=some r:=by rw [if_pos rfl] at H;exact H
    clear H
    have H:=H1
    clear H1
    replace H:=Option.bind_eq_some_iff.mp H
    obtain ⟨t450,A150,H⟩:=H
    replace H:(some t450)=some r:=H
    have A15:=Aside0.mk A150
    clear A150
    obtain rfl:=Option.some.inj H
    go_wp2_with (first|((with_reducible refine gate_callee (f:=10) rfl ?_);refine goesL_ (some 20) rfl rfl Tryd.func10 (by kernel_rfl) rfl #[] rfl ar_ ?_;(with_reducible refine (helmsmanlaw12_alive.calls  t450 _ ?side1 A15.out).mono ?_);(case side1=>exact hT.later (bl_ HB.out));rintro e w16 ⟨rfl,hb⟩;refine ⟨_,rfl,?_⟩;have n0_:=Aside0.mk (bb_ BK448.out hb);have n1_:=Aside0.mk (below_step (bl_ HB.out) hb);clear BK448;clear HB;have BK448:=n0_;have HB:=n1_;clear n0_ n1_;(try clear hb);(try clear hb2);(try clear hk);(try clear hi)))
    go_ret
    exact ⟨rt_,bl_ HB.out⟩
   ·replace c14:=Bool.eq_false_iff.mpr c14
    subst c14
    have H1:((helmsmanlaw12_Prog.f kj2 l0_0 l0_1 l0_2 l0_3).bind fun bt451=>((helmsmanlaw12_moved.f kj2 bt451.2.2.2 a1).bind fun t464=>(helmsmanlaw12_TreePlaces.l0 kj2 a1 bt451.2.2.1 (bt451.2.2.1.length:Int) 0 bt451.1 bt451.2.1 bt451.2.2.1 bt451.2.2.2 bt451.1 bt451.2.1 ([]:List (S66)) t464)))=some r:=by rw [if_neg (show ¬ (false=true) by decide)] at H;exact H
    clear H
    have H:=H1
    clear H1
    replace H:=Option.bind_eq_some_iff.mp H
    obtain ⟨⟨t451,t454,t457,t460⟩,A170,H⟩:=H
    replace H:((helmsmanlaw12_moved.f kj2 t460 a1).bind fun t464=>(helmsmanlaw12_TreePlaces.l0 kj2 a1 t457 (t457.length:Int) 0 t451 t454 t457 t460 t451 t454 ([]:List (S66)) t464))=some r:=H
    have A17:=Aside0.mk A170
    clear A170
    replace H:=Option.bind_eq_some_iff.mp H
    obtain ⟨t464,A180,H⟩:=H
    replace H:(helmsmanlaw12_TreePlaces.l0 kj2 a1 t457 (t457.length:Int) 0 t451 t454 t457 t460 t451 t454 ([]:List (S66)) t464)=some r:=H
    have A18:=Aside0.mk A180
    clear A180
    have H':=Aside0.mk H
    clear H
    have hcz19_0:wc.cell? ⟨gb448,0,none⟩=some (.slice A0_0 l0_0.length c0_0):=zc_ BK448.out 0
    have hcz19_1:wc.cell? ⟨gb448,1,none⟩=some (.slice A0_1 l0_1.length c0_1):=zc_ BK448.out 1
    have hcz19_2:wc.cell? ⟨gb448,2,none⟩=some (.slice A0_2 l0_2.length c0_2):=zc_ BK448.out 2
    have hcz19_3:wc.cell? ⟨gb448,3,none⟩=some (.slice A0_3 l0_3.length c0_3):=zc_ BK448.out 3
    have hfz19_0:=blk_frozen BK448.out 0
    have hfz19_1:=blk_frozen BK448.out 1
    have hfz19_2:=blk_frozen BK448.out 2
    have hfz19_3:=blk_frozen BK448.out 3
    try go_wp2_with (first|((with_reducible refine gate_callee (f:=17) rfl ?_);refine goesL_ (some 22) rfl rfl Tryd.func17 (by kernel_rfl) rfl #[.agg #[.slice A0_0 l0_0.length c0_0,.slice A0_1 l0_1.length c0_1,.slice A0_2 l0_2.length c0_2,.slice A0_3 l0_3.length c0_3]] rfl ar_ ?_;(with_reducible refine (helmsmanlaw12_Prog.calls kj2 (fun k_=>k_ < w.heap.size) _ _ l0_0 _ _ l0_1 _ _ l0_2 _ _ l0_3 t451 t454 t457 t460 _ ?side1 ?side2 ?side3 ?side4 ?side5 ?side6 ?side7 A17.out).mono ?_);(case side1=>exact Kd.V_mk HC0_0.out (Kd.F_below (Kd.C_F k72_heap HR0_0.out) (bl_ HB.out)));(case side2=>exact kc_ HR0_1.out HB.out);(case side3=>exact HC0_1.out);(case side4=>exact kc_ HR0_2.out HB.out);(case side5=>exact HC0_2.out);(case side6=>exact kc_ HR0_3.out HB.out);(case side7=>exact HC0_3.out);rintro e w20 ⟨v452,v455,v458,v461,rfl,ho0,ho1,ho2,ho3,hb⟩;refine ⟨_,rfl,?_⟩;have n0_:=Aside0.mk (Kd.N_lower (Kd.N_mono (ok':=fun k_=>some k_≠(v455:Value).ownBlock∧some k_≠(v458:Value).ownBlock∧some k_≠(v461:Value).ownBlock∧k_≠gb448) ho0 (fun k_ hk_=>⟨hk_.2.1,hk_.2.2.1,hk_.2.2.2,Or.elim hk_.1 (fun hs_=>fun e_=>Nat.not_le.2 hs_ (by rw [e_];exact GW448.out)) (fun hn_=>(Kd.freshB (g:=gb448) (o:=.cells #[.slice A0_0 l0_0.length c0_0,.slice A0_1 l0_1.length c0_1,.slice A0_2 l0_2.length c0_2,.slice A0_3 l0_3.length c0_3] 43 (0,0)) (kb_ BK448.out) k_ hn_))⟩)) (below_size (bl_ HB.out)));have n1_:=Aside0.mk (Kd.R_lower (Kd.R_mono (ok':=fun k_=>True) ho1 (fun _ hk_=>trivial)) (below_size (bl_ HB.out)));have n2_:=Aside0.mk (Kd.N_lower (Kd.N_mono (ok':=fun k_=>some k_≠(v452:Value).ownBlock∧some k_≠(v455:Value).ownBlock∧some k_≠(v461:Value).ownBlock∧k_≠gb448) ho2 (fun k_ hk_=>⟨hk_.2.1,hk_.2.2.1,hk_.2.2.2,Or.elim hk_.1 (fun hs_=>fun e_=>Nat.not_le.2 hs_ (by rw [e_];exact GW448.out)) (fun hn_=>(Kd.freshB (g:=gb448) (o:=.cells #[.slice A0_0 l0_0.length c0_0,.slice A0_1 l0_1.length c0_1,.slice A0_2 l0_2.length c0_2,.slice A0_3 l0_3.length c0_3] 43 (0,0)) (kb_ BK448.out) k_ hn_))⟩)) (below_size (bl_ HB.out)));have n3_:=Aside0.mk (Kd.N_lower (Kd.N_mono (ok':=fun k_=>some k_≠(v452:Value).ownBlock∧some k_≠(v455:Value).ownBlock∧some k_≠(v458:Value).ownBlock∧k_≠gb448) ho3 (fun k_ hk_=>⟨hk_.2.1,hk_.2.2.1,hk_.2.2.2,Or.elim hk_.1 (fun hs_=>fun e_=>Nat.not_le.2 hs_ (by rw [e_];exact GW448.out)) (fun hn_=>(Kd.freshB (g:=gb448) (o:=.cells #[.slice A0_0 l0_0.length c0_0,.slice A0_1 l0_1.length c0_1,.slice A0_2 l0_2.length c0_2,.slice A0_3 l0_3.length c0_3] 43 (0,0)) (kb_ BK448.out) k_ hn_))⟩)) (below_size (bl_ HB.out)));have n4_:=Aside0.mk (bb_ BK448.out hb);have n5_:=Aside0.mk (below_step (bl_ HB.out) hb);clear BK448;clear HB;have HO453:=n0_;have HO456:=n1_;have HO459:=n2_;have HO462:=n3_;have BK448:=n4_;have HB:=n5_;clear n0_ n1_ n2_ n3_ n4_ n5_;(try clear hb);(try clear hb2);(try clear hk);(try clear hi);(try clear ho0);(try clear ho1);(try clear ho2);(try clear ho3))|((with_reducible refine gate_dst (N:=5) rfl ?_);refine box_event ?hg (N:=5) ?hd (cs:=#[.slice none 0 0,.slice none 0 0,.slice none 0 0,.slice none 0 0]) (t:=50) ?hr ?_;(case hd=>rfl);(case hg=>rfl);(case hr=>first|(go_simp;done)|(go_simp;rfl));intro gb463 hg w21 hbox hb;have n0_:=Aside0.mk (Kd.N_below (Kd.N_elderB (by (with_reducible repeat (first|apply Kd.N_alloc|apply Kd.N_drewN|apply Kd.N_drew));exact HO453.out) gb463 (Nat.le_of_eq hg.symm)) hb);have n1_:=Aside0.mk (Kd.R_below (by (with_reducible repeat (first|apply Kd.R_alloc|apply Kd.R_drewN|apply Kd.R_drew));exact HO456.out) hb);have n2_:=Aside0.mk (Kd.N_below (Kd.N_elderB (by (with_reducible repeat (first|apply Kd.N_alloc|apply Kd.N_drewN|apply Kd.N_drew));exact HO459.out) gb463 (Nat.le_of_eq hg.symm)) hb);have n3_:=Aside0.mk (Kd.N_below (Kd.N_elderB (by (with_reducible repeat (first|apply Kd.N_alloc|apply Kd.N_drewN|apply Kd.N_drew));exact HO462.out) gb463 (Nat.le_of_eq hg.symm)) hb);have n4_:=Aside0.mk (bb_ BK448.out hb);have n5_:=Aside0.mk (below_step (bl_ HB.out) hb);have n6_:=Aside0.mk (hbox);have n7_:=Aside0.mk ((gs_ hg (bl_ HB.out):w.heap.size≤gb463));have n8_:=Aside0.mk ((gs_ hg (bl_ HB.out):w.heap.size≤gb463));have n9_:=Aside0.mk ((nl_ hg BK448.out:gb448≠gb463));have n10_:=Aside0.mk ((nr_ hg BK448.out:gb463≠gb448));clear HO453;clear HO456;clear HO459;clear HO462;clear BK448;clear HB;have HO453:=n0_;have HO456:=n1_;have HO459:=n2_;have HO462:=n3_;have BK448:=n4_;have HB:=n5_;have BK463:=n6_;have GW463:=n7_;have GE463:=n8_;have NB448_463:=n9_;have NB463_448:=n10_;clear n0_ n1_ n2_ n3_ n4_ n5_ n6_ n7_ n8_ n9_ n10_;clear hb hbox hg;obtain ⟨Ao22,co22,eo22⟩:=Kd.N_slice HO453.out;subst eo22;have hnb23:=NB463_448.out;have hnc23:=NB448_463.out;have hcz24_0:w21.cell? ⟨gb463,0,none⟩=some (.slice none 0 0):=zc_ BK463.out 0;have hcz24_1:w21.cell? ⟨gb463,1,none⟩=some (.slice none 0 0):=zc_ BK463.out 1;have hcz24_2:w21.cell? ⟨gb463,2,none⟩=some (.slice none 0 0):=zc_ BK463.out 2;have hcz24_3:w21.cell? ⟨gb463,3,none⟩=some (.slice none 0 0):=zc_ BK463.out 3;have hfz24_0:=blk_frozen BK463.out 0;have hfz24_1:=blk_frozen BK463.out 1;have hfz24_2:=blk_frozen BK463.out 2;have hfz24_3:=blk_frozen BK463.out 3;obtain ⟨Ao25,co25,eo25⟩:=Kd.R_slice HO456.out;subst eo25;obtain ⟨Ao26,co26,eo26⟩:=Kd.N_slice HO459.out;subst eo26;obtain ⟨Ao27,co27,eo27⟩:=Kd.N_slice HO462.out;subst eo27))
    have n0_:Aside0 (Kd.N k79 79 ((((w21.setCell ⟨gb463,0,none⟩ (.slice Ao22 t451.length co22)).setCell ⟨gb463,1,none⟩ (.slice Ao25 t454.length co25)).setCell ⟨gb463,2,none⟩ (.slice Ao26 t457.length co26)).setCell ⟨gb463,3,none⟩ (.slice Ao27 t460.length co27)) w.heap.size (fun k_=>some k_≠(.slice Ao25 t454.length co25:Value).ownBlock∧some k_≠(.slice Ao26 t457.length co26:Value).ownBlock∧some k_≠(.slice Ao27 t460.length co27:Value).ownBlock∧k_≠gb448∧k_≠gb463) (.slice Ao22 t451.length co22) t451):=⟨by (with_reducible repeat (first|apply Kd.N_alloc|apply Kd.N_drewN|apply Kd.N_drew));exact Kd.N_mono (Kd.N_far (p:=⟨gb463,3,none⟩) (Kd.N_far (p:=⟨gb463,2,none⟩) (Kd.N_far (p:=⟨gb463,1,none⟩) (Kd.N_far (p:=⟨gb463,0,none⟩) (Kd.N_mono HO453.out (fun k_ hk=>(⟨hk,hk.2⟩:_∧k_≠gb463))) (fun _ hk=>hk.2) (.slice Ao22 t451.length co22)) (fun _ hk=>hk.2) (.slice Ao25 t454.length co25)) (fun _ hk=>hk.2) (.slice Ao26 t457.length co26)) (fun _ hk=>hk.2) (.slice Ao27 t460.length co27)) (fun _ hk=>⟨hk.1.1.1,⟨hk.1.1.2.1,⟨hk.1.1.2.2.1,⟨hk.1.1.2.2.2,hk.1.2⟩⟩⟩⟩)⟩
    have n1_:Aside0 (Kd.R k80 80 ((((w21.setCell ⟨gb463,0,none⟩ (.slice Ao22 t451.length co22)).setCell ⟨gb463,1,none⟩ (.slice Ao25 t454.length co25)).setCell ⟨gb463,2,none⟩ (.slice Ao26 t457.length co26)).setCell ⟨gb463,3,none⟩ (.slice Ao27 t460.length co27)) w.heap.size (fun _=>True) (.slice Ao25 t454.length co25) t454):=⟨by (with_reducible repeat (first|apply Kd.R_alloc|apply Kd.R_drewN|apply Kd.R_drew));exact Kd.R_mono (Kd.R_far (p:=⟨gb463,3,none⟩) (Kd.R_far (p:=⟨gb463,2,none⟩) (Kd.R_far (p:=⟨gb463,1,none⟩) (Kd.R_far (p:=⟨gb463,0,none⟩) (Kd.R_types HO456.out BK463.out (by decide)) (fun _ hk=>hk.2) (.slice Ao22 t451.length co22)) (fun _ hk=>hk.2) (.slice Ao25 t454.length co25)) (fun _ hk=>hk.2) (.slice Ao26 t457.length co26)) (fun _ hk=>hk.2) (.slice Ao27 t460.length co27)) (fun _ hk=>trivial)⟩
    have n2_:Aside0 (Kd.N k66 66 ((((w21.setCell ⟨gb463,0,none⟩ (.slice Ao22 t451.length co22)).setCell ⟨gb463,1,none⟩ (.slice Ao25 t454.length co25)).setCell ⟨gb463,2,none⟩ (.slice Ao26 t457.length co26)).setCell ⟨gb463,3,none⟩ (.slice Ao27 t460.length co27)) w.heap.size (fun k_=>some k_≠(.slice Ao22 t451.length co22:Value).ownBlock∧some k_≠(.slice Ao25 t454.length co25:Value).ownBlock∧some k_≠(.slice Ao27 t460.length co27:Value).ownBlock∧k_≠gb448∧k_≠gb463) (.slice Ao26 t457.length co26) t457):=⟨by (with_reducible repeat (first|apply Kd.N_alloc|apply Kd.N_drewN|apply Kd.N_drew));exact Kd.N_mono (Kd.N_far (p:=⟨gb463,3,none⟩) (Kd.N_far (p:=⟨gb463,2,none⟩) (Kd.N_far (p:=⟨gb463,1,none⟩) (Kd.N_far (p:=⟨gb463,0,none⟩) (Kd.N_mono HO459.out (fun k_ hk=>(⟨hk,hk.2⟩:_∧k_≠gb463))) (fun _ hk=>hk.2) (.slice Ao22 t451.length co22)) (fun _ hk=>hk.2) (.slice Ao25 t454.length co25)) (fun _ hk=>hk.2) (.slice Ao26 t457.length co26)) (fun _ hk=>hk.2) (.slice Ao27 t460.length co27)) (fun _ hk=>⟨hk.1.1.1,⟨hk.1.1.2.1,⟨hk.1.1.2.2.1,⟨hk.1.1.2.2.2,hk.1.2⟩⟩⟩⟩)⟩
    have n3_:Aside0 (Kd.N k76 76 ((((w21.setCell ⟨gb463,0,none⟩ (.slice Ao22 t451.length co22)).setCell ⟨gb463,1,none⟩ (.slice Ao25 t454.length co25)).setCell ⟨gb463,2,none⟩ (.slice Ao26 t457.length co26)).setCell ⟨gb463,3,none⟩ (.slice Ao27 t460.length co27)) w.heap.size (fun k_=>some k_≠(.slice Ao22 t451.length co22:Value).ownBlock∧some k_≠(.slice Ao25 t454.length co25:Value).ownBlock∧some k_≠(.slice Ao26 t457.length co26:Value).ownBlock∧k_≠gb448∧k_≠gb463) (.slice Ao27 t460.length co27) t460):=⟨by (with_reducible repeat (first|apply Kd.N_alloc|apply Kd.N_drewN|apply Kd.N_drew));exact Kd.N_mono (Kd.N_far (p:=⟨gb463,3,none⟩) (Kd.N_far (p:=⟨gb463,2,none⟩) (Kd.N_far (p:=⟨gb463,1,none⟩) (Kd.N_far (p:=⟨gb463,0,none⟩) (Kd.N_mono HO462.out (fun k_ hk=>(⟨hk,hk.2⟩:_∧k_≠gb463))) (fun _ hk=>hk.2) (.slice Ao22 t451.length co22)) (fun _ hk=>hk.2) (.slice Ao25 t454.length co25)) (fun _ hk=>hk.2) (.slice Ao26 t457.length co26)) (fun _ hk=>hk.2) (.slice Ao27 t460.length co27)) (fun _ hk=>⟨hk.1.1.1,⟨hk.1.1.2.1,⟨hk.1.1.2.2.1,⟨hk.1.1.2.2.2,hk.1.2⟩⟩⟩⟩)⟩
    have n4_:Aside0 (((((w21.setCell ⟨gb463,0,none⟩ (.slice Ao22 t451.length co22)).setCell ⟨gb463,1,none⟩ (.slice Ao25 t454.length co25)).setCell ⟨gb463,2,none⟩ (.slice Ao26 t457.length co26)).setCell ⟨gb463,3,none⟩ (.slice Ao27 t460.length co27)).heap[gb448]?=some (.cells #[.slice A0_0 l0_0.length c0_0,.slice A0_1 l0_1.length c0_1,.slice A0_2 l0_2.length c0_2,.slice A0_3 l0_3.length c0_3] 43 (0,0))):=⟨kbc_ BK448.out⟩
    have n5_:Aside0 (((((w21.setCell ⟨gb463,0,none⟩ (.slice Ao22 t451.length co22)).setCell ⟨gb463,1,none⟩ (.slice Ao25 t454.length co25)).setCell ⟨gb463,2,none⟩ (.slice Ao26 t457.length co26)).setCell ⟨gb463,3,none⟩ (.slice Ao27 t460.length co27)).heap[gb463]?=some (.cells #[.slice Ao22 t451.length co22,.slice Ao25 t454.length co25,.slice Ao26 t457.length co26,.slice Ao27 t460.length co27] 50 (0,0))):=⟨kbc_ BK463.out⟩
    have n6_:Aside0 (Below w.heap.size w ((((w21.setCell ⟨gb463,0,none⟩ (.slice Ao22 t451.length co22)).setCell ⟨gb463,1,none⟩ (.slice Ao25 t454.length co25)).setCell ⟨gb463,2,none⟩ (.slice Ao26 t457.length co26)).setCell ⟨gb463,3,none⟩ (.slice Ao27 t460.length co27))):=⟨bl_ HB.out⟩
    (try clear HO453)
    (try clear HO456)
    (try clear HO459)
    (try clear HO462)
    (try clear BK448)
    (try clear BK463)
    (try clear HB)
    generalize ((((w21.setCell ⟨gb463,0,none⟩ (.slice Ao22 t451.length co22)).setCell ⟨gb463,1,none⟩ (.slice Ao25 t454.length co25)).setCell ⟨gb463,2,none⟩ (.slice Ao26 t457.length co26)).setCell ⟨gb463,3,none⟩ (.slice Ao27 t460.length co27))=w28 at n0_ n1_ n2_ n3_ n4_ n5_ n6_ ⊢
    have HO453:=n0_
    have HO456:=n1_
    have HO459:=n2_
    have HO462:=n3_
    have BK448:=n4_
    have BK463:=n5_
    have HB:=n6_
    clear n0_ n1_ n2_ n3_ n4_ n5_ n6_
    have n0_:=Aside0.mk (Kd.N_drew HO453.out)
    have n1_:=Aside0.mk (Kd.R_drew HO456.out)
    have n2_:=Aside0.mk (Kd.N_drew HO459.out)
    have n3_:=Aside0.mk (Kd.N_drew HO462.out)
    have n4_:=Aside0.mk (blk_drew BK448.out)
    have n5_:=Aside0.mk (blk_drew BK463.out)
    have n6_:=Aside0.mk (below_drew1 HB.out)
    clear HO453
    clear HO456
    clear HO459
    clear HO462
    clear BK448
    clear BK463
    clear HB
    have HO453:=n0_
    have HO456:=n1_
    have HO459:=n2_
    have HO462:=n3_
    have BK448:=n4_
    have BK463:=n5_
    have HB:=n6_
    clear n0_ n1_ n2_ n3_ n4_ n5_ n6_
    refine start_ (n:=11) (S:=fun w'=>w'.cell? ⟨gb463,0,none⟩=some (.slice Ao22 t451.length co22)∧w'.cell? ⟨gb463,1,none⟩=some (.slice Ao25 t454.length co25)∧w'.cell? ⟨gb463,2,none⟩=some (.slice Ao26 t457.length co26)∧w'.cell? ⟨gb463,3,none⟩=some (.slice Ao27 t460.length co27)) (ds:=[]) (flg 11 0) (by kernel_rfl) rfl (by kernel_rfl) ⟨zc_ BK463.out 0,zc_ BK463.out 1,zc_ BK463.out 2,zc_ BK463.out 3⟩ (fun hHeld=>?_);refine with_tabW helmsmanlaw12_TreePlaces.tab4 helmsmanlaw12_TreePlaces.bits4 (fun HT_ HW_=>?_)
    generalize w28.drew=w29 at HO453 HO456 HO459 HO462 BK448 BK463 HB hHeld ⊢
    refine pur_ 0 23 (flg 11 1) rfl rfl (any_of HT_.out (by kernel_rfl)) (fun _ _ _ h=>h) ?_
    refine pur_ 2 25 (flg 11 5) rfl rfl (any_of HT_.out (by kernel_rfl)) (fun _ _ _ h=>h) ?_
    refine pur_ 4 27 (flg 11 21) rfl rfl (any_of HT_.out (by kernel_rfl)) (fun _ _ _ h=>h) ?_
    refine pur_ 6 29 (flg 11 85) rfl rfl (any_of HT_.out (by kernel_rfl)) (fun _ _ _ h=>h) ?_
    refine tak_ 1 24 (flg 11 87) rfl rfl (take_ofW HT_.out HW_.out (by kernel_rfl)) (fun _ _ _ h=>h) hHeld ?_
    refine tak_ 3 26 (flg 11 95) rfl rfl (take_ofW HT_.out HW_.out (by kernel_rfl)) (fun _ _ _ h=>h) hHeld ?_
    refine tak_ 5 28 (flg 11 127) rfl rfl (take_ofW HT_.out HW_.out (by kernel_rfl)) (fun _ _ _ h=>h) hHeld ?_
    refine join_ (σ:=Value × Nat) 1 (flg 11 1023) (fun s_=>[(30,s_.1),(6,.pointer (some ⟨s_.2,0,none⟩)),(31,.agg #[.slice Ao22 t451.length co22,.slice Ao25 t454.length co25,.slice none 0 0,s_.1])]) (fun s_ w'=>(w'.cell? ⟨gb463,0,none⟩=some (.slice Ao22 t451.length co22)∧w'.cell? ⟨gb463,1,none⟩=some (.slice Ao25 t454.length co25)∧w'.cell? ⟨gb463,2,none⟩=some (.slice Ao26 t457.length co26)∧w'.cell? ⟨gb463,3,none⟩=some (.slice Ao27 t460.length co27))∧(Kd.N k79 79 w' w.heap.size (fun k_=>some k_≠(.slice Ao25 t454.length co25:Value).ownBlock∧some k_≠(.slice Ao26 t457.length co26:Value).ownBlock∧some k_≠(.slice Ao27 t460.length co27:Value).ownBlock∧some k_≠(s_.1:Value).ownBlock∧k_≠gb448∧k_≠gb463∧k_≠s_.2) (.slice Ao22 t451.length co22) t451)∧(Kd.R k80 80 w' w.heap.size (fun _=>True) (.slice Ao25 t454.length co25) t454)∧(Kd.N k66 66 w' w.heap.size (fun k_=>some k_≠(.slice Ao22 t451.length co22:Value).ownBlock∧some k_≠(.slice Ao25 t454.length co25:Value).ownBlock∧some k_≠(.slice Ao27 t460.length co27:Value).ownBlock∧some k_≠(s_.1:Value).ownBlock∧k_≠gb448∧k_≠gb463∧k_≠s_.2) (.slice Ao26 t457.length co26) t457)∧(Kd.N k76 76 w' w.heap.size (fun k_=>some k_≠(.slice Ao22 t451.length co22:Value).ownBlock∧some k_≠(.slice Ao25 t454.length co25:Value).ownBlock∧some k_≠(.slice Ao26 t457.length co26:Value).ownBlock∧some k_≠(s_.1:Value).ownBlock∧k_≠gb448∧k_≠gb463∧k_≠s_.2) (.slice Ao27 t460.length co27) t460)∧(Kd.N k76 76 w' w.heap.size (fun k_=>some k_≠(.slice Ao22 t451.length co22:Value).ownBlock∧some k_≠(.slice Ao25 t454.length co25:Value).ownBlock∧some k_≠(.slice Ao26 t457.length co26:Value).ownBlock∧some k_≠(.slice Ao27 t460.length co27:Value).ownBlock∧k_≠gb448∧k_≠gb463∧k_≠s_.2) s_.1 t464)∧(w'.heap[gb448]?=some (.cells #[.slice A0_0 l0_0.length c0_0,.slice A0_1 l0_1.length c0_1,.slice A0_2 l0_2.length c0_2,.slice A0_3 l0_3.length c0_3] 43 (0,0)))∧(w'.heap[gb463]?=some (.cells #[.slice Ao22 t451.length co22,.slice Ao25 t454.length co25,.slice Ao26 t457.length co26,.slice Ao27 t460.length co27] 50 (0,0)))∧(w'.heap[s_.2]?=some (.cells #[.slice none 0 0,.slice none 0 0,.slice none 0 0,.slice none 0 0] 50 (0,0)))∧(w.heap.size≤s_.2)∧(w.heap.size≤s_.2)∧(gb448≠s_.2)∧(s_.2≠gb448)∧(gb463≠s_.2)∧(s_.2≠gb463)∧(Below w.heap.size w w')) ?_ ?_
    rotate_left
    ·intro hCont
     refine two_ (i:=7) (j:=9) (Ni:=some 30) (Nj:=some 6) (flg 11 255) (flg 11 639) rfl rfl rfl rfl (two_of HT_.out (by kernel_rfl)) (by decide) (by decide) (fun K hK=>?_) (fun K hK=>?_)
     ·skip
      refine goes_ Tryd.func29 (by kernel_rfl) rfl #[.slice Ao27 t460.length co27,.int .i64 a1] (by rfl) rfl rfl ar_ ?_
      with_reducible refine (helmsmanlaw12_moved.calls kj2 _ _ t460 a1 t464 _ ?side1 ?side2 A18.out).mono ?_
      (case side1=>repeat (first|exact (Kd.N_reads' HO462.out).2.2|(with_reducible refine Kd.C_alloc ?_ _)|(with_reducible refine Kd.C_drewN ?_ _)|(with_reducible refine Kd.C_drew ?_)))
      (case side2=>exact (Kd.N_reads' HO462.out).2.1)
      rintro e w30 ⟨v465,rfl,ho0,hb⟩
      refine ⟨_,rfl,?_⟩
      have n0_:=Aside0.mk (Kd.N_elder' (by (with_reducible repeat (first|apply Kd.N_alloc|apply Kd.N_drewN|apply Kd.N_drew));exact HO453.out) (by first|exact Kd.N_base ho0|exact Kd.N_base (Kd.R_N ho0)|exact Kd.N_base (Kd.R_N (Kd.R_bound ho0))) hb)
      have n1_:=Aside0.mk (Kd.R_below (by (with_reducible repeat (first|apply Kd.R_alloc|apply Kd.R_drewN|apply Kd.R_drew));exact HO456.out) hb)
      have n2_:=Aside0.mk (Kd.N_elder' (by (with_reducible repeat (first|apply Kd.N_alloc|apply Kd.N_drewN|apply Kd.N_drew));exact HO459.out) (by first|exact Kd.N_base ho0|exact Kd.N_base (Kd.R_N ho0)|exact Kd.N_base (Kd.R_N (Kd.R_bound ho0))) hb)
      have n3_:=Aside0.mk (Kd.N_elder' (by (with_reducible repeat (first|apply Kd.N_alloc|apply Kd.N_drewN|apply Kd.N_drew));exact HO462.out) (by first|exact Kd.N_base ho0|exact Kd.N_base (Kd.R_N ho0)|exact Kd.N_base (Kd.R_N (Kd.R_bound ho0))) hb)
      have n4_:=Aside0.mk (Kd.N_lower (Kd.N_mono (ok':=fun k_=>some k_≠(.slice Ao22 t451.length co22:Value).ownBlock∧some k_≠(.slice Ao25 t454.length co25:Value).ownBlock∧some k_≠(.slice Ao26 t457.length co26:Value).ownBlock∧some k_≠(.slice Ao27 t460.length co27:Value).ownBlock∧k_≠gb448∧k_≠gb463) (Kd.R_N (Kd.R_bound ho0)) (fun k_ hk_=>⟨(Kd.fresh' (Kd.N_lt (by (with_reducible repeat (first|apply Kd.N_alloc|apply Kd.N_drewN|apply Kd.N_drew));exact HO453.out)) k_ hk_.2.1),(Kd.fresh' (Kd.R_lt (by (with_reducible repeat (first|apply Kd.R_alloc|apply Kd.R_drewN|apply Kd.R_drew));exact HO456.out)) k_ hk_.2.1),(Kd.fresh' (Kd.N_lt (by (with_reducible repeat (first|apply Kd.N_alloc|apply Kd.N_drewN|apply Kd.N_drew));exact HO459.out)) k_ hk_.2.1),(Kd.fresh' (Kd.N_lt (by (with_reducible repeat (first|apply Kd.N_alloc|apply Kd.N_drewN|apply Kd.N_drew));exact HO462.out)) k_ hk_.2.1),(Kd.freshB (g:=gb448) (o:=.cells #[.slice A0_0 l0_0.length c0_0,.slice A0_1 l0_1.length c0_1,.slice A0_2 l0_2.length c0_2,.slice A0_3 l0_3.length c0_3] 43 (0,0)) (kb_ BK448.out) k_ hk_.2.1),(Kd.freshB (g:=gb463) (o:=.cells #[.slice Ao22 t451.length co22,.slice Ao25 t454.length co25,.slice Ao26 t457.length co26,.slice Ao27 t460.length co27] 50 (0,0)) (kb_ BK463.out) k_ hk_.2.1)⟩)) (below_size (bl_ HB.out)))
      have n5_:=Aside0.mk (bb_ BK448.out hb)
      have n6_:=Aside0.mk (bb_ BK463.out hb)
      have n7_:=Aside0.mk (below_step (bl_ HB.out) hb)
      clear HO453
      clear HO456
      clear HO459
      clear HO462
      clear BK448
      clear BK463
      clear HB
      have HO453:=n0_
      have HO456:=n1_
      have HO459:=n2_
      have HO462:=n3_
      have HO466:=n4_
      have BK448:=n5_
      have BK463:=n6_
      have HB:=n7_
      clear n0_ n1_ n2_ n3_ n4_ n5_ n6_ n7_
      (try clear hb)
      (try clear hb2)
      (try clear hk)
      (try clear hi)
      (try clear ho0)
      obtain ⟨Ao31,co31,eo31⟩:=Kd.N_slice HO466.out
      (first|subst eo31|(injection eo31 with f1_ f2_ f3_;have f4_:=f1_.symm;have f5_:=f3_.symm;clear f1_ f2_ f3_;subst f4_;subst f5_))
      refine hK.out _ _ ⟨zc_ BK463.out 0,zc_ BK463.out 1,zc_ BK463.out 2,zc_ BK463.out 3⟩ (fun hHeld=>?_)
      clear hK K
      refine norm_ (a':=?_) ?_ ?_
      rotate_left
      ·show Act.put _ (some 30) _=_
       simp only [Act.put,List.setIfInBounds_toArray,List.set_cons_zero,List.set_cons_succ,i64_w,i32_w]
       rfl
      refine pur_ 8 31 (flg 11 511) rfl rfl (any_of HT_.out (by kernel_rfl)) (fun _ _ _ h=>h) ?_
      refine one_ (i:=9) (N:=some 6) (flg 11 1023) rfl rfl (one_of HT_.out (by kernel_rfl)) (by decide) (fun K hK=>?_)
      refine box_step ?hg (N:=6) ?hd (cs:=#[.slice none 0 0,.slice none 0 0,.slice none 0 0,.slice none 0 0]) (t:=50) ?hr ?_;(case hd=>rfl);(case hg=>rfl);(case hr=>first|(go_simp;done)|(go_simp;rfl))
      intro gb467 hg w32 hbox hb
      have n0_:=Aside0.mk (Kd.N_below (Kd.N_elderB (by (with_reducible repeat (first|apply Kd.N_alloc|apply Kd.N_drewN|apply Kd.N_drew));exact HO453.out) gb467 (Nat.le_of_eq hg.symm)) hb)
      have n1_:=Aside0.mk (Kd.R_below (by (with_reducible repeat (first|apply Kd.R_alloc|apply Kd.R_drewN|apply Kd.R_drew));exact HO456.out) hb)
      have n2_:=Aside0.mk (Kd.N_below (Kd.N_elderB (by (with_reducible repeat (first|apply Kd.N_alloc|apply Kd.N_drewN|apply Kd.N_drew));exact HO459.out) gb467 (Nat.le_of_eq hg.symm)) hb)
      have n3_:=Aside0.mk (Kd.N_below (Kd.N_elderB (by (with_reducible repeat (first|apply Kd.N_alloc|apply Kd.N_drewN|apply Kd.N_drew));exact HO462.out) gb467 (Nat.le_of_eq hg.symm)) hb)
      have n4_:=Aside0.mk (Kd.N_below (Kd.N_elderB (by (with_reducible repeat (first|apply Kd.N_alloc|apply Kd.N_drewN|apply Kd.N_drew));exact HO466.out) gb467 (Nat.le_of_eq hg.symm)) hb)
      have n5_:=Aside0.mk (bb_ BK448.out hb)
      have n6_:=Aside0.mk (bb_ BK463.out hb)
      have n7_:=Aside0.mk (below_step (bl_ HB.out) hb)
      have n8_:=Aside0.mk (hbox)
      have n9_:=Aside0.mk ((gs_ hg (bl_ HB.out):w.heap.size≤gb467))
      have n10_:=Aside0.mk ((gs_ hg (bl_ HB.out):w.heap.size≤gb467))
      have n11_:=Aside0.mk ((nl_ hg BK448.out:gb448≠gb467))
      have n12_:=Aside0.mk ((nr_ hg BK448.out:gb467≠gb448))
      have n13_:=Aside0.mk ((nl_ hg BK463.out:gb463≠gb467))
      have n14_:=Aside0.mk ((nr_ hg BK463.out:gb467≠gb463))
      clear HO453
      clear HO456
      clear HO459
      clear HO462
      clear HO466
      clear BK448
      clear BK463
      clear HB
      have HO453:=n0_
      have HO456:=n1_
      have HO459:=n2_
      have HO462:=n3_
      have HO466:=n4_
      have BK448:=n5_
      have BK463:=n6_
      have HB:=n7_
      have BK467:=n8_
      have GW467:=n9_
      have GE467:=n10_
      have NB448_467:=n11_
      have NB467_448:=n12_
      have NB463_467:=n13_
      have NB467_463:=n14_
      clear n0_ n1_ n2_ n3_ n4_ n5_ n6_ n7_ n8_ n9_ n10_ n11_ n12_ n13_ n14_
      clear hb hbox hg
      refine hK.out _ _ ⟨zc_ BK463.out 0,zc_ BK463.out 1,zc_ BK463.out 2,zc_ BK463.out 3⟩ (fun hHeld=>?_)
      clear hK K
      refine norm_ (a':=?_) ?_ ?_
      rotate_left
      ·show Act.put _ (some 6) _=_
       simp only [Act.put,List.setIfInBounds_toArray,List.set_cons_zero,List.set_cons_succ,i64_w,i32_w]
       rfl
      exact norm_ (by simp only [putAll,Act.put,List.setIfInBounds_toArray,List.set_cons_zero,List.set_cons_succ]) (hCont (.slice Ao31 t464.length co31,gb467) _ ⟨hHeld,(by (with_reducible repeat (first|apply Kd.N_alloc|apply Kd.N_drewN|apply Kd.N_drew));exact Kd.N_mono HO453.out (fun _ hk=>⟨hk.1.1.1,⟨hk.1.1.2.1,⟨hk.1.1.2.2.1,⟨hk.1.2,⟨hk.1.1.2.2.2.1,⟨hk.1.1.2.2.2.2,hk.2⟩⟩⟩⟩⟩⟩)),(by (with_reducible repeat (first|apply Kd.R_alloc|apply Kd.R_drewN|apply Kd.R_drew));exact HO456.out),(by (with_reducible repeat (first|apply Kd.N_alloc|apply Kd.N_drewN|apply Kd.N_drew));exact Kd.N_mono HO459.out (fun _ hk=>⟨hk.1.1.1,⟨hk.1.1.2.1,⟨hk.1.1.2.2.1,⟨hk.1.2,⟨hk.1.1.2.2.2.1,⟨hk.1.1.2.2.2.2,hk.2⟩⟩⟩⟩⟩⟩)),(by (with_reducible repeat (first|apply Kd.N_alloc|apply Kd.N_drewN|apply Kd.N_drew));exact Kd.N_mono HO462.out (fun _ hk=>⟨hk.1.1.1,⟨hk.1.1.2.1,⟨hk.1.1.2.2.1,⟨hk.1.2,⟨hk.1.1.2.2.2.1,⟨hk.1.1.2.2.2.2,hk.2⟩⟩⟩⟩⟩⟩)),(by (with_reducible repeat (first|apply Kd.N_alloc|apply Kd.N_drewN|apply Kd.N_drew));exact Kd.N_mono HO466.out (fun _ hk=>⟨hk.1.1,⟨hk.1.2.1,⟨hk.1.2.2.1,⟨hk.1.2.2.2.1,⟨hk.1.2.2.2.2.1,⟨hk.1.2.2.2.2.2,hk.2⟩⟩⟩⟩⟩⟩)),(kb_ BK448.out),(kb_ BK463.out),(kb_ BK467.out),GW467.out,GE467.out,NB448_467.out,NB467_448.out,NB463_467.out,NB467_463.out,(bl_ HB.out)⟩)
     ·skip
      refine box_step ?hg (N:=6) ?hd (cs:=#[.slice none 0 0,.slice none 0 0,.slice none 0 0,.slice none 0 0]) (t:=50) ?hr ?_;(case hd=>rfl);(case hg=>rfl);(case hr=>first|(go_simp;done)|(go_simp;rfl))
      intro gb467 hg w30 hbox hb
      have n0_:=Aside0.mk (Kd.N_below (Kd.N_elderB (by (with_reducible repeat (first|apply Kd.N_alloc|apply Kd.N_drewN|apply Kd.N_drew));exact HO453.out) gb467 (Nat.le_of_eq hg.symm)) hb)
      have n1_:=Aside0.mk (Kd.R_below (by (with_reducible repeat (first|apply Kd.R_alloc|apply Kd.R_drewN|apply Kd.R_drew));exact HO456.out) hb)
      have n2_:=Aside0.mk (Kd.N_below (Kd.N_elderB (by (with_reducible repeat (first|apply Kd.N_alloc|apply Kd.N_drewN|apply Kd.N_drew));exact HO459.out) gb467 (Nat.le_of_eq hg.symm)) hb)
      have n3_:=Aside0.mk (Kd.N_below (Kd.N_elderB (by (with_reducible repeat (first|apply Kd.N_alloc|apply Kd.N_drewN|apply Kd.N_drew));exact HO462.out) gb467 (Nat.le_of_eq hg.symm)) hb)
      have n4_:=Aside0.mk (bb_ BK448.out hb)
      have n5_:=Aside0.mk (bb_ BK463.out hb)
      have n6_:=Aside0.mk (below_step (bl_ HB.out) hb)
      have n7_:=Aside0.mk (hbox)
      have n8_:=Aside0.mk ((gs_ hg (bl_ HB.out):w.heap.size≤gb467))
      have n9_:=Aside0.mk ((gs_ hg (bl_ HB.out):w.heap.size≤gb467))
      have n10_:=Aside0.mk ((nl_ hg BK448.out:gb448≠gb467))
      have n11_:=Aside0.mk ((nr_ hg BK448.out:gb467≠gb448))
      have n12_:=Aside0.mk ((nl_ hg BK463.out:gb463≠gb467))
      have n13_:=Aside0.mk ((nr_ hg BK463.out:gb467≠gb463))
      clear HO453
      clear HO456
      clear HO459
      clear HO462
      clear BK448
      clear BK463
      clear HB
      have HO453:=n0_
      have HO456:=n1_
      have HO459:=n2_
      have HO462:=n3_
      have BK448:=n4_
      have BK463:=n5_
      have HB:=n6_
      have BK467:=n7_
      have GW467:=n8_
      have GE467:=n9_
      have NB448_467:=n10_
      have NB467_448:=n11_
      have NB463_467:=n12_
      have NB467_463:=n13_
      clear n0_ n1_ n2_ n3_ n4_ n5_ n6_ n7_ n8_ n9_ n10_ n11_ n12_ n13_
      clear hb hbox hg
      refine hK.out _ _ ⟨zc_ BK463.out 0,zc_ BK463.out 1,zc_ BK463.out 2,zc_ BK463.out 3⟩ (fun hHeld=>?_)
      clear hK K
      refine norm_ (a':=?_) ?_ ?_
      rotate_left
      ·show Act.put _ (some 6) _=_
       simp only [Act.put,List.setIfInBounds_toArray,List.set_cons_zero,List.set_cons_succ,i64_w,i32_w]
       rfl
      refine one_ (i:=7) (N:=some 30) (flg 11 767) rfl rfl (one_of HT_.out (by kernel_rfl)) (by decide) (fun K hK=>?_)
      refine goes_ Tryd.func29 (by kernel_rfl) rfl #[.slice Ao27 t460.length co27,.int .i64 a1] (by rfl) rfl rfl ar_ ?_
      with_reducible refine (helmsmanlaw12_moved.calls kj2 _ _ t460 a1 t464 _ ?side1 ?side2 A18.out).mono ?_
      (case side1=>repeat (first|exact (Kd.N_reads' HO462.out).2.2|(with_reducible refine Kd.C_alloc ?_ _)|(with_reducible refine Kd.C_drewN ?_ _)|(with_reducible refine Kd.C_drew ?_)))
      (case side2=>exact (Kd.N_reads' HO462.out).2.1)
      rintro e w31 ⟨v465,rfl,ho0,hb⟩
      refine ⟨_,rfl,?_⟩
      have n0_:=Aside0.mk (Kd.N_elder' (by (with_reducible repeat (first|apply Kd.N_alloc|apply Kd.N_drewN|apply Kd.N_drew));exact HO453.out) (by first|exact Kd.N_base ho0|exact Kd.N_base (Kd.R_N ho0)|exact Kd.N_base (Kd.R_N (Kd.R_bound ho0))) hb)
      have n1_:=Aside0.mk (Kd.R_below (by (with_reducible repeat (first|apply Kd.R_alloc|apply Kd.R_drewN|apply Kd.R_drew));exact HO456.out) hb)
      have n2_:=Aside0.mk (Kd.N_elder' (by (with_reducible repeat (first|apply Kd.N_alloc|apply Kd.N_drewN|apply Kd.N_drew));exact HO459.out) (by first|exact Kd.N_base ho0|exact Kd.N_base (Kd.R_N ho0)|exact Kd.N_base (Kd.R_N (Kd.R_bound ho0))) hb)
      have n3_:=Aside0.mk (Kd.N_elder' (by (with_reducible repeat (first|apply Kd.N_alloc|apply Kd.N_drewN|apply Kd.N_drew));exact HO462.out) (by first|exact Kd.N_base ho0|exact Kd.N_base (Kd.R_N ho0)|exact Kd.N_base (Kd.R_N (Kd.R_bound ho0))) hb)
      have n4_:=Aside0.mk (Kd.N_lower (Kd.N_mono (ok':=fun k_=>some k_≠(.slice Ao22 t451.length co22:Value).ownBlock∧some k_≠(.slice Ao25 t454.length co25:Value).ownBlock∧some k_≠(.slice Ao26 t457.length co26:Value).ownBlock∧some k_≠(.slice Ao27 t460.length co27:Value).ownBlock∧k_≠gb448∧k_≠gb463∧k_≠gb467) (Kd.R_N (Kd.R_bound ho0)) (fun k_ hk_=>⟨(Kd.fresh' (Kd.N_lt (by (with_reducible repeat (first|apply Kd.N_alloc|apply Kd.N_drewN|apply Kd.N_drew));exact HO453.out)) k_ hk_.2.1),(Kd.fresh' (Kd.R_lt (by (with_reducible repeat (first|apply Kd.R_alloc|apply Kd.R_drewN|apply Kd.R_drew));exact HO456.out)) k_ hk_.2.1),(Kd.fresh' (Kd.N_lt (by (with_reducible repeat (first|apply Kd.N_alloc|apply Kd.N_drewN|apply Kd.N_drew));exact HO459.out)) k_ hk_.2.1),(Kd.fresh' (Kd.N_lt (by (with_reducible repeat (first|apply Kd.N_alloc|apply Kd.N_drewN|apply Kd.N_drew));exact HO462.out)) k_ hk_.2.1),(Kd.freshB (g:=gb448) (o:=.cells #[.slice A0_0 l0_0.length c0_0,.slice A0_1 l0_1.length c0_1,.slice A0_2 l0_2.length c0_2,.slice A0_3 l0_3.length c0_3] 43 (0,0)) (kb_ BK448.out) k_ hk_.2.1),(Kd.freshB (g:=gb463) (o:=.cells #[.slice Ao22 t451.length co22,.slice Ao25 t454.length co25,.slice Ao26 t457.length co26,.slice Ao27 t460.length co27] 50 (0,0)) (kb_ BK463.out) k_ hk_.2.1),(Kd.freshB (g:=gb467) (o:=.cells #[.slice none 0 0,.slice none 0 0,.slice none 0 0,.slice none 0 0] 50 (0,0)) (kb_ BK467.out) k_ hk_.2.1)⟩)) (below_size (bl_ HB.out)))
      have n5_:=Aside0.mk (bb_ BK448.out hb)
      have n6_:=Aside0.mk (bb_ BK463.out hb)
      have n7_:=Aside0.mk (bb_ BK467.out hb)
      have n8_:=Aside0.mk (below_step (bl_ HB.out) hb)
      clear HO453
      clear HO456
      clear HO459
      clear HO462
      clear BK448
      clear BK463
      clear BK467
      clear HB
      have HO453:=n0_
      have HO456:=n1_
      have HO459:=n2_
      have HO462:=n3_
      have HO466:=n4_
      have BK448:=n5_
      have BK463:=n6_
      have BK467:=n7_
      have HB:=n8_
      clear n0_ n1_ n2_ n3_ n4_ n5_ n6_ n7_ n8_
      (try clear hb)
      (try clear hb2)
      (try clear hk)
      (try clear hi)
      (try clear ho0)
      obtain ⟨Ao32,co32,eo32⟩:=Kd.N_slice HO466.out
      (first|subst eo32|(injection eo32 with f1_ f2_ f3_;have f4_:=f1_.symm;have f5_:=f3_.symm;clear f1_ f2_ f3_;subst f4_;subst f5_))
      refine hK.out _ _ ⟨zc_ BK463.out 0,zc_ BK463.out 1,zc_ BK463.out 2,zc_ BK463.out 3⟩ (fun hHeld=>?_)
      clear hK K
      refine norm_ (a':=?_) ?_ ?_
      rotate_left
      ·show Act.put _ (some 30) _=_
       simp only [Act.put,List.setIfInBounds_toArray,List.set_cons_zero,List.set_cons_succ,i64_w,i32_w]
       rfl
      refine pur_ 8 31 (flg 11 1023) rfl rfl (any_of HT_.out (by kernel_rfl)) (fun _ _ _ h=>h) ?_
      exact norm_ (by simp only [putAll,Act.put,List.setIfInBounds_toArray,List.set_cons_zero,List.set_cons_succ]) (hCont (.slice Ao32 t464.length co32,gb467) _ ⟨hHeld,(by (with_reducible repeat (first|apply Kd.N_alloc|apply Kd.N_drewN|apply Kd.N_drew));exact Kd.N_mono HO453.out (fun _ hk=>⟨hk.1.1.1,⟨hk.1.1.2.1,⟨hk.1.1.2.2.1,⟨hk.2,⟨hk.1.1.2.2.2.1,⟨hk.1.1.2.2.2.2,hk.1.2⟩⟩⟩⟩⟩⟩)),(by (with_reducible repeat (first|apply Kd.R_alloc|apply Kd.R_drewN|apply Kd.R_drew));exact HO456.out),(by (with_reducible repeat (first|apply Kd.N_alloc|apply Kd.N_drewN|apply Kd.N_drew));exact Kd.N_mono HO459.out (fun _ hk=>⟨hk.1.1.1,⟨hk.1.1.2.1,⟨hk.1.1.2.2.1,⟨hk.2,⟨hk.1.1.2.2.2.1,⟨hk.1.1.2.2.2.2,hk.1.2⟩⟩⟩⟩⟩⟩)),(by (with_reducible repeat (first|apply Kd.N_alloc|apply Kd.N_drewN|apply Kd.N_drew));exact Kd.N_mono HO462.out (fun _ hk=>⟨hk.1.1.1,⟨hk.1.1.2.1,⟨hk.1.1.2.2.1,⟨hk.2,⟨hk.1.1.2.2.2.1,⟨hk.1.1.2.2.2.2,hk.1.2⟩⟩⟩⟩⟩⟩)),(by (with_reducible repeat (first|apply Kd.N_alloc|apply Kd.N_drewN|apply Kd.N_drew));exact HO466.out),(kb_ BK448.out),(kb_ BK463.out),(kb_ BK467.out),GW467.out,GE467.out,NB448_467.out,NB467_448.out,NB463_467.out,NB467_463.out,(bl_ HB.out)⟩)
    rintro ⟨v465,gb467⟩ w33 ⟨hS_,h0_,h1_,h2_,h3_,h4_,h5_,h6_,h7_,h8_,h9_,h10_,h11_,h12_,h13_,h14_⟩
    have n0_:Aside0 (Kd.N k79 79 w33 w.heap.size (fun k_=>some k_≠(.slice Ao25 t454.length co25:Value).ownBlock∧some k_≠(.slice Ao26 t457.length co26:Value).ownBlock∧some k_≠(.slice Ao27 t460.length co27:Value).ownBlock∧some k_≠(v465:Value).ownBlock∧k_≠gb448∧k_≠gb463∧k_≠gb467) (.slice Ao22 t451.length co22) t451):=⟨h0_⟩
    have n1_:Aside0 (Kd.R k80 80 w33 w.heap.size (fun _=>True) (.slice Ao25 t454.length co25) t454):=⟨h1_⟩
    have n2_:Aside0 (Kd.N k66 66 w33 w.heap.size (fun k_=>some k_≠(.slice Ao22 t451.length co22:Value).ownBlock∧some k_≠(.slice Ao25 t454.length co25:Value).ownBlock∧some k_≠(.slice Ao27 t460.length co27:Value).ownBlock∧some k_≠(v465:Value).ownBlock∧k_≠gb448∧k_≠gb463∧k_≠gb467) (.slice Ao26 t457.length co26) t457):=⟨h2_⟩
    have n3_:Aside0 (Kd.N k76 76 w33 w.heap.size (fun k_=>some k_≠(.slice Ao22 t451.length co22:Value).ownBlock∧some k_≠(.slice Ao25 t454.length co25:Value).ownBlock∧some k_≠(.slice Ao26 t457.length co26:Value).ownBlock∧some k_≠(v465:Value).ownBlock∧k_≠gb448∧k_≠gb463∧k_≠gb467) (.slice Ao27 t460.length co27) t460):=⟨h3_⟩
    have n4_:Aside0 (Kd.N k76 76 w33 w.heap.size (fun k_=>some k_≠(.slice Ao22 t451.length co22:Value).ownBlock∧some k_≠(.slice Ao25 t454.length co25:Value).ownBlock∧some k_≠(.slice Ao26 t457.length co26:Value).ownBlock∧some k_≠(.slice Ao27 t460.length co27:Value).ownBlock∧k_≠gb448∧k_≠gb463∧k_≠gb467) v465 t464):=⟨h4_⟩
    have n5_:Aside0 (w33.heap[gb448]?=some (.cells #[.slice A0_0 l0_0.length c0_0,.slice A0_1 l0_1.length c0_1,.slice A0_2 l0_2.length c0_2,.slice A0_3 l0_3.length c0_3] 43 (0,0))):=⟨h5_⟩
    have n6_:Aside0 (w33.heap[gb463]?=some (.cells #[.slice Ao22 t451.length co22,.slice Ao25 t454.length co25,.slice Ao26 t457.length co26,.slice Ao27 t460.length co27] 50 (0,0))):=⟨h6_⟩
    have n7_:Aside0 (w33.heap[gb467]?=some (.cells #[.slice none 0 0,.slice none 0 0,.slice none 0 0,.slice none 0 0] 50 (0,0))):=⟨h7_⟩
    have n8_:Aside0 (w.heap.size≤gb467):=⟨h8_⟩
    have n9_:Aside0 (w.heap.size≤gb467):=⟨h9_⟩
    have n10_:Aside0 (gb448≠gb467):=⟨h10_⟩
    have n11_:Aside0 (gb467≠gb448):=⟨h11_⟩
    have n12_:Aside0 (gb463≠gb467):=⟨h12_⟩
    have n13_:Aside0 (gb467≠gb463):=⟨h13_⟩
    have n14_:Aside0 (Below w.heap.size w w33):=⟨h14_⟩
    clear HO453
    clear HO456
    clear HO459
    clear HO462
    clear BK448
    clear BK463
    clear HB
    clear h0_ h1_ h2_ h3_ h4_ h5_ h6_ h7_ h8_ h9_ h10_ h11_ h12_ h13_ h14_
    have HO453:=n0_
    have HO456:=n1_
    have HO459:=n2_
    have HO462:=n3_
    have HO466:=n4_
    have BK448:=n5_
    have BK463:=n6_
    have BK467:=n7_
    have GW467:=n8_
    have GE467:=n9_
    have NB448_467:=n10_
    have NB467_448:=n11_
    have NB463_467:=n12_
    have NB467_463:=n13_
    have HB:=n14_
    clear n0_ n1_ n2_ n3_ n4_ n5_ n6_ n7_ n8_ n9_ n10_ n11_ n12_ n13_ n14_
    have hHeld:w33.cell? ⟨gb463,0,none⟩=some (.slice Ao22 t451.length co22)∧w33.cell? ⟨gb463,1,none⟩=some (.slice Ao25 t454.length co25)∧w33.cell? ⟨gb463,2,none⟩=some (.slice Ao26 t457.length co26)∧w33.cell? ⟨gb463,3,none⟩=some (.slice Ao27 t460.length co27):=hS_
    obtain ⟨Ao34,co34,eo34⟩:=Kd.N_slice HO466.out
    (first|subst eo34|(injection eo34 with f1_ f2_ f3_;have f4_:=f1_.symm;have f5_:=f3_.symm;clear f1_ f2_ f3_;subst f4_;subst f5_))
    refine norm_ (a':=?_) ?_ ?_
    rotate_left
    ·simp only [putAll,Act.put,List.setIfInBounds_toArray,List.set_cons_zero,List.set_cons_succ]
     rfl
    refine one_ (i:=10) (N:=none) (flg 11 2047) rfl rfl (one_of HT_.out (by kernel_rfl)) (by decide) (fun K hK=>?_)
    have hs35:w33.cell? ⟨gb467,0,none⟩=some (.slice none 0 0):=zc_ BK467.out 0
    have hfs35:=blk_frozen BK467.out 0
    have hns35_0:=NB448_467.out
    have hns35_1:=NB463_467.out
    have hms35_0:=NB467_448.out
    have hms35_1:=NB467_463.out
    have hs36:w33.cell? ⟨gb467,1,none⟩=some (.slice none 0 0):=zc_ BK467.out 1
    have hfs36:=blk_frozen BK467.out 1
    have hns36_0:=NB448_467.out
    have hns36_1:=NB463_467.out
    have hms36_0:=NB467_448.out
    have hms36_1:=NB467_463.out
    have hs37:w33.cell? ⟨gb467,2,none⟩=some (.slice none 0 0):=zc_ BK467.out 2
    have hfs37:=blk_frozen BK467.out 2
    have hns37_0:=NB448_467.out
    have hns37_1:=NB463_467.out
    have hms37_0:=NB467_448.out
    have hms37_1:=NB467_463.out
    have hs38:w33.cell? ⟨gb467,3,none⟩=some (.slice none 0 0):=zc_ BK467.out 3
    have hfs38:=blk_frozen BK467.out 3
    have hns38_0:=NB448_467.out
    have hns38_1:=NB463_467.out
    have hms38_0:=NB467_448.out
    have hms38_1:=NB467_463.out
    refine skip_ (w1:=?_) (by rfl) rfl ?_ ?_
    rotate_left
    ·go_simp
     rfl
    refine hK.out _ _ ⟨((cell_far (p:=⟨gb467,_,none⟩) NB463_467.out _).trans (((cell_far (p:=⟨gb467,_,none⟩) NB463_467.out _).trans (((cell_far (p:=⟨gb467,_,none⟩) NB463_467.out _).trans (((cell_far (p:=⟨gb467,_,none⟩) NB463_467.out _).trans (hHeld.1)))))))),((cell_far (p:=⟨gb467,_,none⟩) NB463_467.out _).trans (((cell_far (p:=⟨gb467,_,none⟩) NB463_467.out _).trans (((cell_far (p:=⟨gb467,_,none⟩) NB463_467.out _).trans (((cell_far (p:=⟨gb467,_,none⟩) NB463_467.out _).trans (hHeld.2.1)))))))),((cell_far (p:=⟨gb467,_,none⟩) NB463_467.out _).trans (((cell_far (p:=⟨gb467,_,none⟩) NB463_467.out _).trans (((cell_far (p:=⟨gb467,_,none⟩) NB463_467.out _).trans (((cell_far (p:=⟨gb467,_,none⟩) NB463_467.out _).trans (hHeld.2.2.1)))))))),((cell_far (p:=⟨gb467,_,none⟩) NB463_467.out _).trans (((cell_far (p:=⟨gb467,_,none⟩) NB463_467.out _).trans (((cell_far (p:=⟨gb467,_,none⟩) NB463_467.out _).trans (((cell_far (p:=⟨gb467,_,none⟩) NB463_467.out _).trans (hHeld.2.2.2))))))))⟩ (fun hHeld=>?_)
    clear hK K
    refine done_ (done_of HT_.out (by kernel_rfl)) ?_
    have hnb39:=NB463_467.out
    have hnc39:=NB467_463.out
    have hcz40_0:w33.cell? ⟨gb463,0,none⟩=some (.slice Ao22 t451.length co22):=zc_ BK463.out 0
    have hcz40_1:w33.cell? ⟨gb463,1,none⟩=some (.slice Ao25 t454.length co25):=zc_ BK463.out 1
    have hcz40_2:w33.cell? ⟨gb463,2,none⟩=some (.slice Ao26 t457.length co26):=zc_ BK463.out 2
    have hcz40_3:w33.cell? ⟨gb463,3,none⟩=some (.slice Ao27 t460.length co27):=zc_ BK463.out 3
    have hfz40_0:=blk_frozen BK463.out 0
    have hfz40_1:=blk_frozen BK463.out 1
    have hfz40_2:=blk_frozen BK463.out 2
    have hfz40_3:=blk_frozen BK463.out 3
    try go_wp2
    (try simp only [Act.put,List.setIfInBounds_toArray,List.set_cons_succ,List.set_cons_zero])
    go_loopg [35] kj2 (fun kq v35 w'=>∃ (x35_2:Int) (x468002_2:List (S66)) (u468002:Value),v35=.int .i64 x35_2∧Aside0 (helmsmanlaw12_TreePlaces.l0 kq a1 t457 (t457.length:Int) x35_2 t451 t454 t457 t460 t451 t454 x468002_2 t464=some r)∧Aside0 (kq≤kj2)∧Aside0 (Kd.N k66 66 w' w.heap.size (fun k_=>some k_≠((.slice Ao22 t451.length co22):Value).ownBlock∧some k_≠((.slice Ao25 t454.length co25):Value).ownBlock∧some k_≠((.slice Ao27 t460.length co27):Value).ownBlock∧some k_≠((.slice Ao22 t451.length co22):Value).ownBlock∧some k_≠((.slice Ao25 t454.length co25):Value).ownBlock∧some k_≠(u468002:Value).ownBlock∧some k_≠((.slice Ao34 t464.length co34):Value).ownBlock∧k_≠gb448∧k_≠gb463∧k_≠gb467) (.slice Ao26 t457.length co26) t457)∧Aside0 (Kd.N k79 79 w' w.heap.size (fun k_=>some k_≠((.slice Ao26 t457.length co26):Value).ownBlock∧some k_≠((.slice Ao25 t454.length co25):Value).ownBlock∧some k_≠((.slice Ao26 t457.length co26):Value).ownBlock∧some k_≠((.slice Ao27 t460.length co27):Value).ownBlock∧some k_≠((.slice Ao25 t454.length co25):Value).ownBlock∧some k_≠(u468002:Value).ownBlock∧some k_≠((.slice Ao34 t464.length co34):Value).ownBlock∧k_≠gb448∧k_≠gb463∧k_≠gb467) (.slice Ao22 t451.length co22) t451)∧Aside0 (Kd.R k80 80 w' w.heap.size (fun _=>True) (.slice Ao25 t454.length co25) t454)∧Aside0 (Kd.N k66 66 w' w.heap.size (fun k_=>some k_≠((.slice Ao22 t451.length co22):Value).ownBlock∧some k_≠((.slice Ao25 t454.length co25):Value).ownBlock∧some k_≠((.slice Ao27 t460.length co27):Value).ownBlock∧some k_≠((.slice Ao22 t451.length co22):Value).ownBlock∧some k_≠((.slice Ao25 t454.length co25):Value).ownBlock∧some k_≠(u468002:Value).ownBlock∧some k_≠((.slice Ao34 t464.length co34):Value).ownBlock∧k_≠gb448∧k_≠gb463∧k_≠gb467) (.slice Ao26 t457.length co26) t457)∧Aside0 (Kd.N k76 76 w' w.heap.size (fun k_=>some k_≠((.slice Ao26 t457.length co26):Value).ownBlock∧some k_≠((.slice Ao22 t451.length co22):Value).ownBlock∧some k_≠((.slice Ao25 t454.length co25):Value).ownBlock∧some k_≠((.slice Ao26 t457.length co26):Value).ownBlock∧some k_≠((.slice Ao22 t451.length co22):Value).ownBlock∧some k_≠((.slice Ao25 t454.length co25):Value).ownBlock∧some k_≠(u468002:Value).ownBlock∧some k_≠((.slice Ao34 t464.length co34):Value).ownBlock∧k_≠gb448∧k_≠gb463∧k_≠gb467) (.slice Ao27 t460.length co27) t460)∧Aside0 (Kd.N k79 79 w' w.heap.size (fun k_=>some k_≠((.slice Ao26 t457.length co26):Value).ownBlock∧some k_≠((.slice Ao25 t454.length co25):Value).ownBlock∧some k_≠((.slice Ao26 t457.length co26):Value).ownBlock∧some k_≠((.slice Ao27 t460.length co27):Value).ownBlock∧some k_≠((.slice Ao25 t454.length co25):Value).ownBlock∧some k_≠(u468002:Value).ownBlock∧some k_≠((.slice Ao34 t464.length co34):Value).ownBlock∧k_≠gb448∧k_≠gb463∧k_≠gb467) (.slice Ao22 t451.length co22) t451)∧Aside0 (Kd.R k80 80 w' w.heap.size (fun _=>True) (.slice Ao25 t454.length co25) t454)∧Aside0 (Kd.N k66 66 w' w.heap.size (fun k_=>some k_≠((.slice Ao26 t457.length co26):Value).ownBlock∧some k_≠((.slice Ao22 t451.length co22):Value).ownBlock∧some k_≠((.slice Ao25 t454.length co25):Value).ownBlock∧some k_≠((.slice Ao26 t457.length co26):Value).ownBlock∧some k_≠((.slice Ao27 t460.length co27):Value).ownBlock∧some k_≠((.slice Ao22 t451.length co22):Value).ownBlock∧some k_≠((.slice Ao25 t454.length co25):Value).ownBlock∧some k_≠((.slice Ao34 t464.length co34):Value).ownBlock∧k_≠gb448∧k_≠gb463∧k_≠gb467) u468002 x468002_2)∧Aside0 (Kd.N k76 76 w' w.heap.size (fun k_=>some k_≠((.slice Ao26 t457.length co26):Value).ownBlock∧some k_≠((.slice Ao22 t451.length co22):Value).ownBlock∧some k_≠((.slice Ao25 t454.length co25):Value).ownBlock∧some k_≠((.slice Ao26 t457.length co26):Value).ownBlock∧some k_≠((.slice Ao27 t460.length co27):Value).ownBlock∧some k_≠((.slice Ao22 t451.length co22):Value).ownBlock∧some k_≠((.slice Ao25 t454.length co25):Value).ownBlock∧some k_≠(u468002:Value).ownBlock∧k_≠gb448∧k_≠gb463∧k_≠gb467) (.slice Ao34 t464.length co34) t464)∧Aside0 (w'.heap[gb448]?=some (.cells #[(.slice A0_0 l0_0.length c0_0),(.slice A0_1 l0_1.length c0_1),(.slice A0_2 l0_2.length c0_2),(.slice A0_3 l0_3.length c0_3)] 43 (0,0)))∧Aside0 (w'.heap[gb463]?=some (.cells #[(.slice Ao22 t451.length co22),(.slice Ao25 t454.length co25),(.slice Ao26 t457.length co26),(.slice Ao27 t460.length co27)] 50 (0,0)))∧Aside0 (w'.heap[gb467]?=some (.cells #[(.slice Ao22 t451.length co22),(.slice Ao25 t454.length co25),u468002,(.slice Ao34 t464.length co34)] 50 (0,0)))∧Aside0 (Below w.heap.size w w'))
    case atStart=>exact ⟨(0),(([]:List (S66))),(.slice none 0 0),rf_,H',⟨Nat.le_refl _⟩,⟨by (with_reducible repeat (first|apply Kd.N_alloc|apply Kd.N_drewN|apply Kd.N_drew));exact Kd.N_mono (Kd.N_far (p:=⟨gb467,3,none⟩) (Kd.N_far (p:=⟨gb467,2,none⟩) (Kd.N_far (p:=⟨gb467,1,none⟩) (Kd.N_far (p:=⟨gb467,0,none⟩) (Kd.N_mono HO459.out (fun k_ hk=>(⟨hk,hk.2.2.2.2.2.2⟩:_∧k_≠gb467))) (fun _ hk=>hk.2) (.slice Ao22 t451.length co22)) (fun _ hk=>hk.2) (.slice Ao25 t454.length co25)) (fun _ hk=>hk.2) (.slice none 0 0)) (fun _ hk=>hk.2) (.slice Ao34 t464.length co34)) (fun _ hk=>⟨hk.1.1,⟨hk.1.2.1,⟨hk.1.2.2.1,⟨hk.1.1,⟨hk.1.2.1,⟨(by simp [Value.ownBlock]),⟨hk.1.2.2.2.1,⟨hk.1.2.2.2.2.1,⟨hk.1.2.2.2.2.2.1,hk.1.2.2.2.2.2.2⟩⟩⟩⟩⟩⟩⟩⟩⟩)⟩,⟨by (with_reducible repeat (first|apply Kd.N_alloc|apply Kd.N_drewN|apply Kd.N_drew));exact Kd.N_mono (Kd.N_far (p:=⟨gb467,3,none⟩) (Kd.N_far (p:=⟨gb467,2,none⟩) (Kd.N_far (p:=⟨gb467,1,none⟩) (Kd.N_far (p:=⟨gb467,0,none⟩) (Kd.N_mono HO453.out (fun k_ hk=>(⟨hk,hk.2.2.2.2.2.2⟩:_∧k_≠gb467))) (fun _ hk=>hk.2) (.slice Ao22 t451.length co22)) (fun _ hk=>hk.2) (.slice Ao25 t454.length co25)) (fun _ hk=>hk.2) (.slice none 0 0)) (fun _ hk=>hk.2) (.slice Ao34 t464.length co34)) (fun _ hk=>⟨hk.1.2.1,⟨hk.1.1,⟨hk.1.2.1,⟨hk.1.2.2.1,⟨hk.1.1,⟨(by simp [Value.ownBlock]),⟨hk.1.2.2.2.1,⟨hk.1.2.2.2.2.1,⟨hk.1.2.2.2.2.2.1,hk.1.2.2.2.2.2.2⟩⟩⟩⟩⟩⟩⟩⟩⟩)⟩,⟨by (with_reducible repeat (first|apply Kd.R_alloc|apply Kd.R_drewN|apply Kd.R_drew));exact Kd.R_mono (Kd.R_far (p:=⟨gb467,3,none⟩) (Kd.R_far (p:=⟨gb467,2,none⟩) (Kd.R_far (p:=⟨gb467,1,none⟩) (Kd.R_far (p:=⟨gb467,0,none⟩) (Kd.R_types HO456.out BK467.out (by decide)) (fun _ hk=>hk.2) (.slice Ao22 t451.length co22)) (fun _ hk=>hk.2) (.slice Ao25 t454.length co25)) (fun _ hk=>hk.2) (.slice none 0 0)) (fun _ hk=>hk.2) (.slice Ao34 t464.length co34)) (fun _ hk=>trivial)⟩,⟨by (with_reducible repeat (first|apply Kd.N_alloc|apply Kd.N_drewN|apply Kd.N_drew));exact Kd.N_mono (Kd.N_far (p:=⟨gb467,3,none⟩) (Kd.N_far (p:=⟨gb467,2,none⟩) (Kd.N_far (p:=⟨gb467,1,none⟩) (Kd.N_far (p:=⟨gb467,0,none⟩) (Kd.N_mono HO459.out (fun k_ hk=>(⟨hk,hk.2.2.2.2.2.2⟩:_∧k_≠gb467))) (fun _ hk=>hk.2) (.slice Ao22 t451.length co22)) (fun _ hk=>hk.2) (.slice Ao25 t454.length co25)) (fun _ hk=>hk.2) (.slice none 0 0)) (fun _ hk=>hk.2) (.slice Ao34 t464.length co34)) (fun _ hk=>⟨hk.1.1,⟨hk.1.2.1,⟨hk.1.2.2.1,⟨hk.1.1,⟨hk.1.2.1,⟨(by simp [Value.ownBlock]),⟨hk.1.2.2.2.1,⟨hk.1.2.2.2.2.1,⟨hk.1.2.2.2.2.2.1,hk.1.2.2.2.2.2.2⟩⟩⟩⟩⟩⟩⟩⟩⟩)⟩,⟨by (with_reducible repeat (first|apply Kd.N_alloc|apply Kd.N_drewN|apply Kd.N_drew));exact Kd.N_mono (Kd.N_far (p:=⟨gb467,3,none⟩) (Kd.N_far (p:=⟨gb467,2,none⟩) (Kd.N_far (p:=⟨gb467,1,none⟩) (Kd.N_far (p:=⟨gb467,0,none⟩) (Kd.N_mono HO462.out (fun k_ hk=>(⟨hk,hk.2.2.2.2.2.2⟩:_∧k_≠gb467))) (fun _ hk=>hk.2) (.slice Ao22 t451.length co22)) (fun _ hk=>hk.2) (.slice Ao25 t454.length co25)) (fun _ hk=>hk.2) (.slice none 0 0)) (fun _ hk=>hk.2) (.slice Ao34 t464.length co34)) (fun _ hk=>⟨hk.1.2.2.1,⟨hk.1.1,⟨hk.1.2.1,⟨hk.1.2.2.1,⟨hk.1.1,⟨hk.1.2.1,⟨(by simp [Value.ownBlock]),⟨hk.1.2.2.2.1,⟨hk.1.2.2.2.2.1,⟨hk.1.2.2.2.2.2.1,hk.1.2.2.2.2.2.2⟩⟩⟩⟩⟩⟩⟩⟩⟩⟩)⟩,⟨by (with_reducible repeat (first|apply Kd.N_alloc|apply Kd.N_drewN|apply Kd.N_drew));exact Kd.N_mono (Kd.N_far (p:=⟨gb467,3,none⟩) (Kd.N_far (p:=⟨gb467,2,none⟩) (Kd.N_far (p:=⟨gb467,1,none⟩) (Kd.N_far (p:=⟨gb467,0,none⟩) (Kd.N_mono HO453.out (fun k_ hk=>(⟨hk,hk.2.2.2.2.2.2⟩:_∧k_≠gb467))) (fun _ hk=>hk.2) (.slice Ao22 t451.length co22)) (fun _ hk=>hk.2) (.slice Ao25 t454.length co25)) (fun _ hk=>hk.2) (.slice none 0 0)) (fun _ hk=>hk.2) (.slice Ao34 t464.length co34)) (fun _ hk=>⟨hk.1.2.1,⟨hk.1.1,⟨hk.1.2.1,⟨hk.1.2.2.1,⟨hk.1.1,⟨(by simp [Value.ownBlock]),⟨hk.1.2.2.2.1,⟨hk.1.2.2.2.2.1,⟨hk.1.2.2.2.2.2.1,hk.1.2.2.2.2.2.2⟩⟩⟩⟩⟩⟩⟩⟩⟩)⟩,⟨by (with_reducible repeat (first|apply Kd.R_alloc|apply Kd.R_drewN|apply Kd.R_drew));exact Kd.R_mono (Kd.R_far (p:=⟨gb467,3,none⟩) (Kd.R_far (p:=⟨gb467,2,none⟩) (Kd.R_far (p:=⟨gb467,1,none⟩) (Kd.R_far (p:=⟨gb467,0,none⟩) (Kd.R_types HO456.out BK467.out (by decide)) (fun _ hk=>hk.2) (.slice Ao22 t451.length co22)) (fun _ hk=>hk.2) (.slice Ao25 t454.length co25)) (fun _ hk=>hk.2) (.slice none 0 0)) (fun _ hk=>hk.2) (.slice Ao34 t464.length co34)) (fun _ hk=>trivial)⟩,⟨by first|exact Kd.R_nil _ _ _ _ _|exact Kd.N_nil _ _ _ _ _|exact Kd.V_nil _ _ _ _ _|exact Kd.Q_nil _ _ _ _ _|exact Kd.S_nil _ _ _ _ _⟩,⟨by (with_reducible repeat (first|apply Kd.N_alloc|apply Kd.N_drewN|apply Kd.N_drew));exact Kd.N_mono (Kd.N_far (p:=⟨gb467,3,none⟩) (Kd.N_far (p:=⟨gb467,2,none⟩) (Kd.N_far (p:=⟨gb467,1,none⟩) (Kd.N_far (p:=⟨gb467,0,none⟩) (Kd.N_mono HO466.out (fun k_ hk=>(⟨hk,hk.2.2.2.2.2.2⟩:_∧k_≠gb467))) (fun _ hk=>hk.2) (.slice Ao22 t451.length co22)) (fun _ hk=>hk.2) (.slice Ao25 t454.length co25)) (fun _ hk=>hk.2) (.slice none 0 0)) (fun _ hk=>hk.2) (.slice Ao34 t464.length co34)) (fun _ hk=>⟨hk.1.2.2.1,⟨hk.1.1,⟨hk.1.2.1,⟨hk.1.2.2.1,⟨hk.1.2.2.2.1,⟨hk.1.1,⟨hk.1.2.1,⟨(by simp [Value.ownBlock]),⟨hk.1.2.2.2.2.1,⟨hk.1.2.2.2.2.2.1,hk.1.2.2.2.2.2.2⟩⟩⟩⟩⟩⟩⟩⟩⟩⟩)⟩,⟨kbc_ BK448.out⟩,⟨kbc_ BK463.out⟩,⟨kbc_ BK467.out⟩,⟨bl_ HB.out⟩⟩
    case round=>as_aux_lemma=>
     clear H'
     (try clear c1);(try clear c2);(try clear p2);(try clear c3);(try clear c6);(try clear c6b0);(try clear c9);(try clear c9b0);(try clear c10);(try clear c14);(try clear c16);(try clear c17);(try clear c23);(try clear c29);(try clear c39);(try clear hcz10_0);(try clear hcz10_1);(try clear hcz10_2);(try clear hcz10_3);(try clear hcz12_0);(try clear hcz12_1);(try clear hcz12_2);(try clear hcz12_3);(try clear hcz19_0);(try clear hcz19_1);(try clear hcz19_2);(try clear hcz19_3);(try clear hcz24_0);(try clear hcz24_1);(try clear hcz24_2);(try clear hcz24_3);(try clear hcz40_0);(try clear hcz40_1);(try clear hcz40_2);(try clear hcz40_3);(try clear hcz7_0);(try clear hcz7_1);(try clear hcz7_2);(try clear hcz7_3);(try clear hfz10_0);(try clear hfz10_1);(try clear hfz10_2);(try clear hfz10_3);(try clear hfz12_0);(try clear hfz12_1);(try clear hfz12_2);(try clear hfz12_3);(try clear hfz19_0);(try clear hfz19_1);(try clear hfz19_2);(try clear hfz19_3);(try clear hfz24_0);(try clear hfz24_1);(try clear hfz24_2);(try clear hfz24_3);(try clear hfz40_0);(try clear hfz40_1);(try clear hfz40_2);(try clear hfz40_3);(try clear hfz7_0);(try clear hfz7_1);(try clear hfz7_2);(try clear hfz7_3);(try clear p2)
     obtain ⟨x35_2,x468002_2,u468002,rfl,HA,HK2,HO_33,HO_464000,HO_464001,HO_464002,HO_464003,HO_468000,HO_468001,HO_468002,HO_468003,BK448,BK463,BK467,HB⟩:=hrel
     cases gk with
     | zero=>exact absurd HA.out (by simp [helmsmanlaw12_TreePlaces.l0])
     | succ k2=>
      have H:=HA.out
      clear HA
      simp only [helmsmanlaw12_TreePlaces.l0] at H
      by_cases c41:x35_2 < (t457.length:Int)
      ·rw [if_pos c41] at H
       have c41b0:decide (x35_2 < (t457.length:Int))=true:=decide_eq_true c41
       clear c41
       by_cases c42:0≤x35_2
       ·rw [if_pos c42] at H
        have c42b0:decide (0≤x35_2)=true:=decide_eq_true c42
        clear c42
        by_cases c43:x35_2 < (t457.length:Int)
        ·rw [if_pos c43] at H
         have c43b0:decide (x35_2 < (t457.length:Int))=true:=decide_eq_true c43
         clear c43
         replace H:=Option.bind_eq_some_iff.mp H
         obtain ⟨t470,A440,H⟩:=H
         replace H:(if x468002_2.length < 3518437208883 then (helmsmanlaw12_TreePlaces.l0 k2 a1 t457 (t457.length:Int) (wrap64 (x35_2+1)) t451 t454 t457 t460 t451 t454 (x468002_2++[(⟨(rd_T66 t457 x35_2).f0,t470⟩:S66)]) t464) else (none))=some r:=H
         have A44:=Aside0.mk A440
         clear A440
         by_cases c45:x468002_2.length < 3518437208883
         ·rw [if_pos c45] at H
          have LMc45:=Aside0.mk c45
          clear c45
          obtain ⟨y473,hy473⟩ : ∃ y_:List (S66),y_=(x468002_2++[(⟨(rd_T66 t457 x35_2).f0,t470⟩:S66)]):=⟨_,rfl⟩
          replace H:(helmsmanlaw12_TreePlaces.l0 k2 a1 t457 (t457.length:Int) (wrap64 (x35_2+1)) t451 t454 t457 t460 t451 t454 y473 t464)=some r:=by first|(rw [hy473];with_reducible exact H)|(have H2_:=(Option.bind_some _ _).symm.trans H;rw [hy473];with_reducible exact H2_)|(have H2_:=(Option.bind_some _ _).symm.trans H;with_reducible exact H2_)|with_reducible exact H|(rw [hy473];exact H)|exact H
          have Ny473:=Aside0.mk hy473
          clear hy473
          have H':=Aside0.mk H
          clear H
          have p468:0≤(x35_2:Int):=of_decide_eq_true as_
          have q468:x35_2 < (t457.length:Int):=of_decide_eq_true as_
          obtain ⟨ad468,A468_1,c468_1,e468,hx468_0,hx468_1,hl468_1,hi468_1⟩:=at_T66 (Kd.N_reads' HO_33.out).2.2 x35_2 p468 q468
          cases e468
          obtain ⟨ce468,hce468,hMe468,hcc468⟩:=Kd.N_get HO_33.out z66 x35_2 p468 (by first|exact q468|exact of_decide_eq_true as_|(have e_:=(Kd.N_reads' HO_33.out).1;omega))
          obtain ⟨ua468_1,uc468_1,rfl,ul468_1,ge468_1⟩:=k66_openF hMe468
          have hv468_1:=hcc468 1 _ rfl
          rw [add_field _ _ 1 (by omega)] at hv468_1
          replace hv468_1:=Option.some.inj (hv468_1.symm.trans hx468_1)
          injection hv468_1 with hva_ hvn_ hvc_
          rw [hva_] at ge468_1
          rw [hvc_] at ul468_1
          have HL468_1:=Aside0.mk (show Kd.V k76 76 _ w.heap.size _ _ ((rd_T66 t457 x35_2).f1) from Kd.V_mk ul468_1 ge468_1)
          clear hva_ hvn_ hvc_ ge468_1 ul468_1
          clear hcc468 hce468
          have HR468_1:=Aside0.mk hi468_1
          have HC468_1:=Aside0.mk hl468_1
          clear hi468_1 hl468_1
          replace p468:=eq_true p468
          replace q468:=eq_true q468
          try go_wp2_with (first|((with_reducible refine gate_dst (N:=8) rfl ?_);refine box_event ?hg (N:=8) ?hd (cs:=#[.string (⟨#[]⟩:ByteArray),.slice none 0 0]) (t:=66) ?hr ?_;(case hd=>rfl);(case hg=>rfl);(case hr=>first|(go_simp;done)|(go_simp;rfl));intro gb469 hg w46 hbox hb;have n0_:=Aside0.mk (Kd.N_below (Kd.N_elderB (by (with_reducible repeat (first|apply Kd.N_alloc|apply Kd.N_drewN|apply Kd.N_drew));exact HO_33.out) gb469 (Nat.le_of_eq hg.symm)) hb);have n1_:=Aside0.mk (Kd.N_below (Kd.N_elderB (by (with_reducible repeat (first|apply Kd.N_alloc|apply Kd.N_drewN|apply Kd.N_drew));exact HO_464000.out) gb469 (Nat.le_of_eq hg.symm)) hb);have n2_:=Aside0.mk (Kd.R_below (by (with_reducible repeat (first|apply Kd.R_alloc|apply Kd.R_drewN|apply Kd.R_drew));exact HO_464001.out) hb);have n3_:=Aside0.mk (Kd.N_below (Kd.N_elderB (by (with_reducible repeat (first|apply Kd.N_alloc|apply Kd.N_drewN|apply Kd.N_drew));exact HO_464002.out) gb469 (Nat.le_of_eq hg.symm)) hb);have n4_:=Aside0.mk (Kd.N_below (Kd.N_elderB (by (with_reducible repeat (first|apply Kd.N_alloc|apply Kd.N_drewN|apply Kd.N_drew));exact HO_464003.out) gb469 (Nat.le_of_eq hg.symm)) hb);have n5_:=Aside0.mk (Kd.N_below (Kd.N_elderB (by (with_reducible repeat (first|apply Kd.N_alloc|apply Kd.N_drewN|apply Kd.N_drew));exact HO_468000.out) gb469 (Nat.le_of_eq hg.symm)) hb);have n6_:=Aside0.mk (Kd.R_below (by (with_reducible repeat (first|apply Kd.R_alloc|apply Kd.R_drewN|apply Kd.R_drew));exact HO_468001.out) hb);have n7_:=Aside0.mk (Kd.N_below (Kd.N_elderB (by (with_reducible repeat (first|apply Kd.N_alloc|apply Kd.N_drewN|apply Kd.N_drew));exact HO_468002.out) gb469 (Nat.le_of_eq hg.symm)) hb);have n8_:=Aside0.mk (Kd.N_below (Kd.N_elderB (by (with_reducible repeat (first|apply Kd.N_alloc|apply Kd.N_drewN|apply Kd.N_drew));exact HO_468003.out) gb469 (Nat.le_of_eq hg.symm)) hb);have n9_:=Aside0.mk (Kd.V_below (Kd.V_elderB (by (with_reducible repeat (first|apply Kd.V_alloc|apply Kd.V_drewN|apply Kd.V_drew));exact HL468_1.out) gb469 (Nat.le_of_eq hg.symm)) hb);have n10_:=Aside0.mk (bb_ BK448.out hb);have n11_:=Aside0.mk (bb_ BK463.out hb);have n12_:=Aside0.mk (bb_ BK467.out hb);have n13_:=Aside0.mk (Kd.C_below (by repeat (first|(with_reducible exact HR468_1.out)|(with_reducible refine Kd.C_alloc ?_ _)|(with_reducible refine Kd.C_drewN ?_ _)|(with_reducible refine Kd.C_drew ?_)|exact HR468_1.out)) hb);have n14_:=Aside0.mk (below_step (bl_ HB.out) hb);have n15_:=Aside0.mk (hbox);have n16_:=Aside0.mk ((gs_ hg (bl_ HB.out):w.heap.size≤gb469));have n17_:=Aside0.mk ((gs_ hg (bl_ HB.out):w.heap.size≤gb469));have n18_:=Aside0.mk ((nl_ hg BK448.out:gb448≠gb469));have n19_:=Aside0.mk ((nr_ hg BK448.out:gb469≠gb448));have n20_:=Aside0.mk ((nl_ hg BK463.out:gb463≠gb469));have n21_:=Aside0.mk ((nr_ hg BK463.out:gb469≠gb463));have n22_:=Aside0.mk ((nl_ hg BK467.out:gb467≠gb469));have n23_:=Aside0.mk ((nr_ hg BK467.out:gb469≠gb467));clear HO_33;clear HO_464000;clear HO_464001;clear HO_464002;clear HO_464003;clear HO_468000;clear HO_468001;clear HO_468002;clear HO_468003;clear HL468_1;clear BK448;clear BK463;clear BK467;clear HR468_1;clear HB;have HO_33:=n0_;have HO_464000:=n1_;have HO_464001:=n2_;have HO_464002:=n3_;have HO_464003:=n4_;have HO_468000:=n5_;have HO_468001:=n6_;have HO_468002:=n7_;have HO_468003:=n8_;have HL468_1:=n9_;have BK448:=n10_;have BK463:=n11_;have BK467:=n12_;have HR468_1:=n13_;have HB:=n14_;have BK469:=n15_;have GW469:=n16_;have GE469:=n17_;have NB448_469:=n18_;have NB469_448:=n19_;have NB463_469:=n20_;have NB469_463:=n21_;have NB467_469:=n22_;have NB469_467:=n23_;clear n0_ n1_ n2_ n3_ n4_ n5_ n6_ n7_ n8_ n9_ n10_ n11_ n12_ n13_ n14_ n15_ n16_ n17_ n18_ n19_ n20_ n21_ n22_ n23_;clear hb hbox hg;have hnb47:=NB469_448.out;have hnc47:=NB448_469.out;have hnb48:=NB469_463.out;have hnc48:=NB463_469.out;have hnb49:=NB469_467.out;have hnc49:=NB467_469.out;have hcz50_0:w46.cell? ⟨gb469,0,none⟩=some (.string (⟨#[]⟩:ByteArray)):=zc_ BK469.out 0;have hcz50_1:w46.cell? ⟨gb469,1,none⟩=some (.slice none 0 0):=zc_ BK469.out 1;have hfz50_0:=blk_frozen BK469.out 0;have hfz50_1:=blk_frozen BK469.out 1))
          have n0_:Aside0 (Kd.N k66 66 ((w46.setCell ⟨gb469,0,none⟩ (.string ((rd_T66 t457 x35_2).f0))).setCell ⟨gb469,1,none⟩ (.slice A468_1 ((rd_T66 t457 x35_2).f1).length c468_1)) w.heap.size (fun k_=>some k_≠(.slice Ao22 t451.length co22:Value).ownBlock∧some k_≠(.slice Ao25 t454.length co25:Value).ownBlock∧some k_≠(.slice Ao27 t460.length co27:Value).ownBlock∧some k_≠(.slice Ao22 t451.length co22:Value).ownBlock∧some k_≠(.slice Ao25 t454.length co25:Value).ownBlock∧some k_≠(u468002:Value).ownBlock∧some k_≠(.slice Ao34 t464.length co34:Value).ownBlock∧k_≠gb448∧k_≠gb463∧k_≠gb467∧k_≠gb469) (.slice (some ad468) t457.length co26) t457):=⟨by (with_reducible repeat (first|apply Kd.N_alloc|apply Kd.N_drewN|apply Kd.N_drew));exact Kd.N_mono (Kd.N_far (p:=⟨gb469,1,none⟩) (Kd.N_far (p:=⟨gb469,0,none⟩) (Kd.N_mono HO_33.out (fun k_ hk=>(⟨hk,hk.2⟩:_∧k_≠gb469))) (fun _ hk=>hk.2) (.string ((rd_T66 t457 x35_2).f0))) (fun _ hk=>hk.2) (.slice A468_1 ((rd_T66 t457 x35_2).f1).length c468_1)) (fun _ hk=>⟨hk.1.1.1,⟨hk.1.1.2.1,⟨hk.1.1.2.2.1,⟨hk.1.1.2.2.2.1,⟨hk.1.1.2.2.2.2.1,⟨hk.1.1.2.2.2.2.2.1,⟨hk.1.1.2.2.2.2.2.2.1,⟨hk.1.1.2.2.2.2.2.2.2.1,⟨hk.1.1.2.2.2.2.2.2.2.2.1,⟨hk.1.1.2.2.2.2.2.2.2.2.2,hk.1.2⟩⟩⟩⟩⟩⟩⟩⟩⟩⟩)⟩
          have n1_:Aside0 (Kd.N k79 79 ((w46.setCell ⟨gb469,0,none⟩ (.string ((rd_T66 t457 x35_2).f0))).setCell ⟨gb469,1,none⟩ (.slice A468_1 ((rd_T66 t457 x35_2).f1).length c468_1)) w.heap.size (fun k_=>some k_≠(.slice (some ad468) t457.length co26:Value).ownBlock∧some k_≠(.slice Ao25 t454.length co25:Value).ownBlock∧some k_≠(.slice (some ad468) t457.length co26:Value).ownBlock∧some k_≠(.slice Ao27 t460.length co27:Value).ownBlock∧some k_≠(.slice Ao25 t454.length co25:Value).ownBlock∧some k_≠(u468002:Value).ownBlock∧some k_≠(.slice Ao34 t464.length co34:Value).ownBlock∧k_≠gb448∧k_≠gb463∧k_≠gb467∧k_≠gb469) (.slice Ao22 t451.length co22) t451):=⟨by (with_reducible repeat (first|apply Kd.N_alloc|apply Kd.N_drewN|apply Kd.N_drew));exact Kd.N_mono (Kd.N_far (p:=⟨gb469,1,none⟩) (Kd.N_far (p:=⟨gb469,0,none⟩) (Kd.N_mono HO_464000.out (fun k_ hk=>(⟨hk,hk.2⟩:_∧k_≠gb469))) (fun _ hk=>hk.2) (.string ((rd_T66 t457 x35_2).f0))) (fun _ hk=>hk.2) (.slice A468_1 ((rd_T66 t457 x35_2).f1).length c468_1)) (fun _ hk=>⟨hk.1.1.1,⟨hk.1.1.2.1,⟨hk.1.1.2.2.1,⟨hk.1.1.2.2.2.1,⟨hk.1.1.2.2.2.2.1,⟨hk.1.1.2.2.2.2.2.1,⟨hk.1.1.2.2.2.2.2.2.1,⟨hk.1.1.2.2.2.2.2.2.2.1,⟨hk.1.1.2.2.2.2.2.2.2.2.1,⟨hk.1.1.2.2.2.2.2.2.2.2.2,hk.1.2⟩⟩⟩⟩⟩⟩⟩⟩⟩⟩)⟩
          have n2_:Aside0 (Kd.R k80 80 ((w46.setCell ⟨gb469,0,none⟩ (.string ((rd_T66 t457 x35_2).f0))).setCell ⟨gb469,1,none⟩ (.slice A468_1 ((rd_T66 t457 x35_2).f1).length c468_1)) w.heap.size (fun _=>True) (.slice Ao25 t454.length co25) t454):=⟨by (with_reducible repeat (first|apply Kd.R_alloc|apply Kd.R_drewN|apply Kd.R_drew));exact Kd.R_mono (Kd.R_far (p:=⟨gb469,1,none⟩) (Kd.R_far (p:=⟨gb469,0,none⟩) (Kd.R_types HO_464001.out BK469.out (by decide)) (fun _ hk=>hk.2) (.string ((rd_T66 t457 x35_2).f0))) (fun _ hk=>hk.2) (.slice A468_1 ((rd_T66 t457 x35_2).f1).length c468_1)) (fun _ hk=>trivial)⟩
          have n3_:Aside0 (Kd.N k66 66 ((w46.setCell ⟨gb469,0,none⟩ (.string ((rd_T66 t457 x35_2).f0))).setCell ⟨gb469,1,none⟩ (.slice A468_1 ((rd_T66 t457 x35_2).f1).length c468_1)) w.heap.size (fun k_=>some k_≠(.slice Ao22 t451.length co22:Value).ownBlock∧some k_≠(.slice Ao25 t454.length co25:Value).ownBlock∧some k_≠(.slice Ao27 t460.length co27:Value).ownBlock∧some k_≠(.slice Ao22 t451.length co22:Value).ownBlock∧some k_≠(.slice Ao25 t454.length co25:Value).ownBlock∧some k_≠(u468002:Value).ownBlock∧some k_≠(.slice Ao34 t464.length co34:Value).ownBlock∧k_≠gb448∧k_≠gb463∧k_≠gb467∧k_≠gb469) (.slice (some ad468) t457.length co26) t457):=⟨by (with_reducible repeat (first|apply Kd.N_alloc|apply Kd.N_drewN|apply Kd.N_drew));exact Kd.N_mono (Kd.N_far (p:=⟨gb469,1,none⟩) (Kd.N_far (p:=⟨gb469,0,none⟩) (Kd.N_mono HO_464002.out (fun k_ hk=>(⟨hk,hk.2⟩:_∧k_≠gb469))) (fun _ hk=>hk.2) (.string ((rd_T66 t457 x35_2).f0))) (fun _ hk=>hk.2) (.slice A468_1 ((rd_T66 t457 x35_2).f1).length c468_1)) (fun _ hk=>⟨hk.1.1.1,⟨hk.1.1.2.1,⟨hk.1.1.2.2.1,⟨hk.1.1.2.2.2.1,⟨hk.1.1.2.2.2.2.1,⟨hk.1.1.2.2.2.2.2.1,⟨hk.1.1.2.2.2.2.2.2.1,⟨hk.1.1.2.2.2.2.2.2.2.1,⟨hk.1.1.2.2.2.2.2.2.2.2.1,⟨hk.1.1.2.2.2.2.2.2.2.2.2,hk.1.2⟩⟩⟩⟩⟩⟩⟩⟩⟩⟩)⟩
          have n4_:Aside0 (Kd.N k76 76 ((w46.setCell ⟨gb469,0,none⟩ (.string ((rd_T66 t457 x35_2).f0))).setCell ⟨gb469,1,none⟩ (.slice A468_1 ((rd_T66 t457 x35_2).f1).length c468_1)) w.heap.size (fun k_=>some k_≠(.slice (some ad468) t457.length co26:Value).ownBlock∧some k_≠(.slice Ao22 t451.length co22:Value).ownBlock∧some k_≠(.slice Ao25 t454.length co25:Value).ownBlock∧some k_≠(.slice (some ad468) t457.length co26:Value).ownBlock∧some k_≠(.slice Ao22 t451.length co22:Value).ownBlock∧some k_≠(.slice Ao25 t454.length co25:Value).ownBlock∧some k_≠(u468002:Value).ownBlock∧some k_≠(.slice Ao34 t464.length co34:Value).ownBlock∧k_≠gb448∧k_≠gb463∧k_≠gb467∧k_≠gb469) (.slice Ao27 t460.length co27) t460):=⟨by (with_reducible repeat (first|apply Kd.N_alloc|apply Kd.N_drewN|apply Kd.N_drew));exact Kd.N_mono (Kd.N_far (p:=⟨gb469,1,none⟩) (Kd.N_far (p:=⟨gb469,0,none⟩) (Kd.N_mono HO_464003.out (fun k_ hk=>(⟨hk,hk.2⟩:_∧k_≠gb469))) (fun _ hk=>hk.2) (.string ((rd_T66 t457 x35_2).f0))) (fun _ hk=>hk.2) (.slice A468_1 ((rd_T66 t457 x35_2).f1).length c468_1)) (fun _ hk=>⟨hk.1.1.1,⟨hk.1.1.2.1,⟨hk.1.1.2.2.1,⟨hk.1.1.2.2.2.1,⟨hk.1.1.2.2.2.2.1,⟨hk.1.1.2.2.2.2.2.1,⟨hk.1.1.2.2.2.2.2.2.1,⟨hk.1.1.2.2.2.2.2.2.2.1,⟨hk.1.1.2.2.2.2.2.2.2.2.1,⟨hk.1.1.2.2.2.2.2.2.2.2.2.1,⟨hk.1.1.2.2.2.2.2.2.2.2.2.2,hk.1.2⟩⟩⟩⟩⟩⟩⟩⟩⟩⟩⟩)⟩
          have n5_:Aside0 (Kd.N k79 79 ((w46.setCell ⟨gb469,0,none⟩ (.string ((rd_T66 t457 x35_2).f0))).setCell ⟨gb469,1,none⟩ (.slice A468_1 ((rd_T66 t457 x35_2).f1).length c468_1)) w.heap.size (fun k_=>some k_≠(.slice (some ad468) t457.length co26:Value).ownBlock∧some k_≠(.slice Ao25 t454.length co25:Value).ownBlock∧some k_≠(.slice (some ad468) t457.length co26:Value).ownBlock∧some k_≠(.slice Ao27 t460.length co27:Value).ownBlock∧some k_≠(.slice Ao25 t454.length co25:Value).ownBlock∧some k_≠(u468002:Value).ownBlock∧some k_≠(.slice Ao34 t464.length co34:Value).ownBlock∧k_≠gb448∧k_≠gb463∧k_≠gb467∧k_≠gb469) (.slice Ao22 t451.length co22) t451):=⟨by (with_reducible repeat (first|apply Kd.N_alloc|apply Kd.N_drewN|apply Kd.N_drew));exact Kd.N_mono (Kd.N_far (p:=⟨gb469,1,none⟩) (Kd.N_far (p:=⟨gb469,0,none⟩) (Kd.N_mono HO_468000.out (fun k_ hk=>(⟨hk,hk.2⟩:_∧k_≠gb469))) (fun _ hk=>hk.2) (.string ((rd_T66 t457 x35_2).f0))) (fun _ hk=>hk.2) (.slice A468_1 ((rd_T66 t457 x35_2).f1).length c468_1)) (fun _ hk=>⟨hk.1.1.1,⟨hk.1.1.2.1,⟨hk.1.1.2.2.1,⟨hk.1.1.2.2.2.1,⟨hk.1.1.2.2.2.2.1,⟨hk.1.1.2.2.2.2.2.1,⟨hk.1.1.2.2.2.2.2.2.1,⟨hk.1.1.2.2.2.2.2.2.2.1,⟨hk.1.1.2.2.2.2.2.2.2.2.1,⟨hk.1.1.2.2.2.2.2.2.2.2.2,hk.1.2⟩⟩⟩⟩⟩⟩⟩⟩⟩⟩)⟩
          have n6_:Aside0 (Kd.R k80 80 ((w46.setCell ⟨gb469,0,none⟩ (.string ((rd_T66 t457 x35_2).f0))).setCell ⟨gb469,1,none⟩ (.slice A468_1 ((rd_T66 t457 x35_2).f1).length c468_1)) w.heap.size (fun _=>True) (.slice Ao25 t454.length co25) t454):=⟨by (with_reducible repeat (first|apply Kd.R_alloc|apply Kd.R_drewN|apply Kd.R_drew));exact Kd.R_mono (Kd.R_far (p:=⟨gb469,1,none⟩) (Kd.R_far (p:=⟨gb469,0,none⟩) (Kd.R_types HO_468001.out BK469.out (by decide)) (fun _ hk=>hk.2) (.string ((rd_T66 t457 x35_2).f0))) (fun _ hk=>hk.2) (.slice A468_1 ((rd_T66 t457 x35_2).f1).length c468_1)) (fun _ hk=>trivial)⟩
          have n7_:Aside0 (Kd.N k66 66 ((w46.setCell ⟨gb469,0,none⟩ (.string ((rd_T66 t457 x35_2).f0))).setCell ⟨gb469,1,none⟩ (.slice A468_1 ((rd_T66 t457 x35_2).f1).length c468_1)) w.heap.size (fun k_=>some k_≠(.slice (some ad468) t457.length co26:Value).ownBlock∧some k_≠(.slice Ao22 t451.length co22:Value).ownBlock∧some k_≠(.slice Ao25 t454.length co25:Value).ownBlock∧some k_≠(.slice (some ad468) t457.length co26:Value).ownBlock∧some k_≠(.slice Ao27 t460.length co27:Value).ownBlock∧some k_≠(.slice Ao22 t451.length co22:Value).ownBlock∧some k_≠(.slice Ao25 t454.length co25:Value).ownBlock∧some k_≠(.slice Ao34 t464.length co34:Value).ownBlock∧k_≠gb448∧k_≠gb463∧k_≠gb467∧k_≠gb469) u468002 x468002_2):=⟨by (with_reducible repeat (first|apply Kd.N_alloc|apply Kd.N_drewN|apply Kd.N_drew));exact Kd.N_mono (Kd.N_far (p:=⟨gb469,1,none⟩) (Kd.N_far (p:=⟨gb469,0,none⟩) (Kd.N_mono HO_468002.out (fun k_ hk=>(⟨hk,hk.2⟩:_∧k_≠gb469))) (fun _ hk=>hk.2) (.string ((rd_T66 t457 x35_2).f0))) (fun _ hk=>hk.2) (.slice A468_1 ((rd_T66 t457 x35_2).f1).length c468_1)) (fun _ hk=>⟨hk.1.1.1,⟨hk.1.1.2.1,⟨hk.1.1.2.2.1,⟨hk.1.1.2.2.2.1,⟨hk.1.1.2.2.2.2.1,⟨hk.1.1.2.2.2.2.2.1,⟨hk.1.1.2.2.2.2.2.2.1,⟨hk.1.1.2.2.2.2.2.2.2.1,⟨hk.1.1.2.2.2.2.2.2.2.2.1,⟨hk.1.1.2.2.2.2.2.2.2.2.2.1,⟨hk.1.1.2.2.2.2.2.2.2.2.2.2,hk.1.2⟩⟩⟩⟩⟩⟩⟩⟩⟩⟩⟩)⟩
          have n8_:Aside0 (Kd.N k76 76 ((w46.setCell ⟨gb469,0,none⟩ (.string ((rd_T66 t457 x35_2).f0))).setCell ⟨gb469,1,none⟩ (.slice A468_1 ((rd_T66 t457 x35_2).f1).length c468_1)) w.heap.size (fun k_=>some k_≠(.slice (some ad468) t457.length co26:Value).ownBlock∧some k_≠(.slice Ao22 t451.length co22:Value).ownBlock∧some k_≠(.slice Ao25 t454.length co25:Value).ownBlock∧some k_≠(.slice (some ad468) t457.length co26:Value).ownBlock∧some k_≠(.slice Ao27 t460.length co27:Value).ownBlock∧some k_≠(.slice Ao22 t451.length co22:Value).ownBlock∧some k_≠(.slice Ao25 t454.length co25:Value).ownBlock∧some k_≠(u468002:Value).ownBlock∧k_≠gb448∧k_≠gb463∧k_≠gb467∧k_≠gb469) (.slice Ao34 t464.length co34) t464):=⟨by (with_reducible repeat (first|apply Kd.N_alloc|apply Kd.N_drewN|apply Kd.N_drew));exact Kd.N_mono (Kd.N_far (p:=⟨gb469,1,none⟩) (Kd.N_far (p:=⟨gb469,0,none⟩) (Kd.N_mono HO_468003.out (fun k_ hk=>(⟨hk,hk.2⟩:_∧k_≠gb469))) (fun _ hk=>hk.2) (.string ((rd_T66 t457 x35_2).f0))) (fun _ hk=>hk.2) (.slice A468_1 ((rd_T66 t457 x35_2).f1).length c468_1)) (fun _ hk=>⟨hk.1.1.1,⟨hk.1.1.2.1,⟨hk.1.1.2.2.1,⟨hk.1.1.2.2.2.1,⟨hk.1.1.2.2.2.2.1,⟨hk.1.1.2.2.2.2.2.1,⟨hk.1.1.2.2.2.2.2.2.1,⟨hk.1.1.2.2.2.2.2.2.2.1,⟨hk.1.1.2.2.2.2.2.2.2.2.1,⟨hk.1.1.2.2.2.2.2.2.2.2.2.1,⟨hk.1.1.2.2.2.2.2.2.2.2.2.2,hk.1.2⟩⟩⟩⟩⟩⟩⟩⟩⟩⟩⟩)⟩
          have n9_:Aside0 (Kd.V k76 76 ((w46.setCell ⟨gb469,0,none⟩ (.string ((rd_T66 t457 x35_2).f0))).setCell ⟨gb469,1,none⟩ (.slice A468_1 ((rd_T66 t457 x35_2).f1).length c468_1)) w.heap.size (fun k_=>some k_≠(.slice (some ad468) t457.length co26:Value).ownBlock∧some k_≠(.slice Ao22 t451.length co22:Value).ownBlock∧some k_≠(.slice Ao25 t454.length co25:Value).ownBlock∧some k_≠(.slice Ao27 t460.length co27:Value).ownBlock∧some k_≠(.slice Ao22 t451.length co22:Value).ownBlock∧some k_≠(.slice Ao25 t454.length co25:Value).ownBlock∧some k_≠(u468002:Value).ownBlock∧some k_≠(.slice Ao34 t464.length co34:Value).ownBlock∧k_≠gb448∧k_≠gb463∧k_≠gb467∧k_≠gb469) (.slice A468_1 ((rd_T66 t457 x35_2).f1).length c468_1) ((rd_T66 t457 x35_2).f1)):=⟨by (with_reducible repeat (first|apply Kd.V_alloc|apply Kd.V_drewN|apply Kd.V_drew));exact Kd.V_mono (Kd.V_far (p:=⟨gb469,1,none⟩) (Kd.V_far (p:=⟨gb469,0,none⟩) (Kd.V_mono HL468_1.out (fun k_ hk=>(⟨hk,hk.2⟩:_∧k_≠gb469))) (fun _ hk=>hk.2) (.string ((rd_T66 t457 x35_2).f0))) (fun _ hk=>hk.2) (.slice A468_1 ((rd_T66 t457 x35_2).f1).length c468_1)) (fun _ hk=>⟨hk.1.1.2,⟨hk.1.1.1.1,⟨hk.1.1.1.2.1,⟨hk.1.1.1.2.2.1,⟨hk.1.1.1.2.2.2.1,⟨hk.1.1.1.2.2.2.2.1,⟨hk.1.1.1.2.2.2.2.2.1,⟨hk.1.1.1.2.2.2.2.2.2.1,⟨hk.1.1.1.2.2.2.2.2.2.2.1,⟨hk.1.1.1.2.2.2.2.2.2.2.2.1,⟨hk.1.1.1.2.2.2.2.2.2.2.2.2,hk.1.2⟩⟩⟩⟩⟩⟩⟩⟩⟩⟩⟩)⟩
          have n10_:Aside0 (((w46.setCell ⟨gb469,0,none⟩ (.string ((rd_T66 t457 x35_2).f0))).setCell ⟨gb469,1,none⟩ (.slice A468_1 ((rd_T66 t457 x35_2).f1).length c468_1)).heap[gb448]?=some (.cells #[.slice A0_0 l0_0.length c0_0,.slice A0_1 l0_1.length c0_1,.slice A0_2 l0_2.length c0_2,.slice A0_3 l0_3.length c0_3] 43 (0,0))):=⟨kbc_ BK448.out⟩
          have n11_:Aside0 (((w46.setCell ⟨gb469,0,none⟩ (.string ((rd_T66 t457 x35_2).f0))).setCell ⟨gb469,1,none⟩ (.slice A468_1 ((rd_T66 t457 x35_2).f1).length c468_1)).heap[gb463]?=some (.cells #[.slice Ao22 t451.length co22,.slice Ao25 t454.length co25,.slice (some ad468) t457.length co26,.slice Ao27 t460.length co27] 50 (0,0))):=⟨kbc_ BK463.out⟩
          have n12_:Aside0 (((w46.setCell ⟨gb469,0,none⟩ (.string ((rd_T66 t457 x35_2).f0))).setCell ⟨gb469,1,none⟩ (.slice A468_1 ((rd_T66 t457 x35_2).f1).length c468_1)).heap[gb467]?=some (.cells #[.slice Ao22 t451.length co22,.slice Ao25 t454.length co25,u468002,.slice Ao34 t464.length co34] 50 (0,0))):=⟨kbc_ BK467.out⟩
          have n13_:Aside0 (((w46.setCell ⟨gb469,0,none⟩ (.string ((rd_T66 t457 x35_2).f0))).setCell ⟨gb469,1,none⟩ (.slice A468_1 ((rd_T66 t457 x35_2).f1).length c468_1)).heap[gb469]?=some (.cells #[.string ((rd_T66 t457 x35_2).f0),.slice A468_1 ((rd_T66 t457 x35_2).f1).length c468_1] 66 (0,0))):=⟨kbc_ BK469.out⟩
          have n14_:Aside0 (Below w.heap.size w ((w46.setCell ⟨gb469,0,none⟩ (.string ((rd_T66 t457 x35_2).f0))).setCell ⟨gb469,1,none⟩ (.slice A468_1 ((rd_T66 t457 x35_2).f1).length c468_1))):=⟨bl_ HB.out⟩
          (try clear HO_33)
          (try clear HO_464000)
          (try clear HO_464001)
          (try clear HO_464002)
          (try clear HO_464003)
          (try clear HO_468000)
          (try clear HO_468001)
          (try clear HO_468002)
          (try clear HO_468003)
          (try clear HL468_1)
          (try clear BK448)
          (try clear BK463)
          (try clear BK467)
          (try clear BK469)
          (try clear HB)
          generalize ((w46.setCell ⟨gb469,0,none⟩ (.string ((rd_T66 t457 x35_2).f0))).setCell ⟨gb469,1,none⟩ (.slice A468_1 ((rd_T66 t457 x35_2).f1).length c468_1))=w51 at n0_ n1_ n2_ n3_ n4_ n5_ n6_ n7_ n8_ n9_ n10_ n11_ n12_ n13_ n14_ ⊢
          have HO_33:=n0_
          have HO_464000:=n1_
          have HO_464001:=n2_
          have HO_464002:=n3_
          have HO_464003:=n4_
          have HO_468000:=n5_
          have HO_468001:=n6_
          have HO_468002:=n7_
          have HO_468003:=n8_
          have HL468_1:=n9_
          have BK448:=n10_
          have BK463:=n11_
          have BK467:=n12_
          have BK469:=n13_
          have HB:=n14_
          clear n0_ n1_ n2_ n3_ n4_ n5_ n6_ n7_ n8_ n9_ n10_ n11_ n12_ n13_ n14_
          have n0_:=Aside0.mk (Kd.N_drew HO_33.out)
          have n1_:=Aside0.mk (Kd.N_drew HO_464000.out)
          have n2_:=Aside0.mk (Kd.R_drew HO_464001.out)
          have n3_:=Aside0.mk (Kd.N_drew HO_464002.out)
          have n4_:=Aside0.mk (Kd.N_drew HO_464003.out)
          have n5_:=Aside0.mk (Kd.N_drew HO_468000.out)
          have n6_:=Aside0.mk (Kd.R_drew HO_468001.out)
          have n7_:=Aside0.mk (Kd.N_drew HO_468002.out)
          have n8_:=Aside0.mk (Kd.N_drew HO_468003.out)
          have n9_:=Aside0.mk (Kd.V_drew HL468_1.out)
          have n10_:=Aside0.mk (blk_drew BK448.out)
          have n11_:=Aside0.mk (blk_drew BK463.out)
          have n12_:=Aside0.mk (blk_drew BK467.out)
          have n13_:=Aside0.mk (blk_drew BK469.out)
          have n14_:=Aside0.mk (below_drew1 HB.out)
          clear HO_33
          clear HO_464000
          clear HO_464001
          clear HO_464002
          clear HO_464003
          clear HO_468000
          clear HO_468001
          clear HO_468002
          clear HO_468003
          clear HL468_1
          clear BK448
          clear BK463
          clear BK467
          clear BK469
          clear HB
          have HO_33:=n0_
          have HO_464000:=n1_
          have HO_464001:=n2_
          have HO_464002:=n3_
          have HO_464003:=n4_
          have HO_468000:=n5_
          have HO_468001:=n6_
          have HO_468002:=n7_
          have HO_468003:=n8_
          have HL468_1:=n9_
          have BK448:=n10_
          have BK463:=n11_
          have BK467:=n12_
          have BK469:=n13_
          have HB:=n14_
          clear n0_ n1_ n2_ n3_ n4_ n5_ n6_ n7_ n8_ n9_ n10_ n11_ n12_ n13_ n14_
          refine start_ (n:=13) (S:=fun w'=>w'.cell? ⟨gb467,0,none⟩=some (.slice Ao22 t451.length co22)∧w'.cell? ⟨gb467,1,none⟩=some (.slice Ao25 t454.length co25)∧w'.cell? ⟨gb467,2,none⟩=some (u468002)∧w'.cell? ⟨gb467,3,none⟩=some (.slice Ao34 t464.length co34)∧w'.cell? ⟨gb469,0,none⟩=some (.string ((rd_T66 t457 x35_2).f0))∧w'.cell? ⟨gb469,1,none⟩=some (.slice A468_1 ((rd_T66 t457 x35_2).f1).length c468_1)) (ds:=[12]) (flg 13 0) (by kernel_rfl) rfl (by kernel_rfl) ⟨zc_ BK467.out 0,zc_ BK467.out 1,zc_ BK467.out 2,zc_ BK467.out 3,zc_ BK469.out 0,zc_ BK469.out 1⟩ (fun hHeld=>?_);refine with_tabW helmsmanlaw12_TreePlaces.tab8 helmsmanlaw12_TreePlaces.bits8 (fun HT_ HW_=>?_)
          generalize w51.drew=w52 at HO_33 HO_464000 HO_464001 HO_464002 HO_464003 HO_468000 HO_468001 HO_468002 HO_468003 HL468_1 BK448 BK463 BK467 BK469 HB hHeld ⊢
          refine pur_ 0 39 (flg 13 1) rfl rfl (any_of HT_.out (by kernel_rfl)) (fun _ _ _ h=>h) ?_
          refine pur_ 2 41 (flg 13 5) rfl rfl (any_of HT_.out (by kernel_rfl)) (fun _ _ _ h=>h) ?_
          refine pur_ 4 43 (flg 13 21) rfl rfl (any_of HT_.out (by kernel_rfl)) (fun _ _ _ h=>h) ?_
          refine pur_ 6 45 (flg 13 85) rfl rfl (any_of HT_.out (by kernel_rfl)) (fun _ _ _ h=>h) ?_
          refine tak_ 1 40 (flg 13 87) rfl rfl (take_ofW HT_.out HW_.out (by kernel_rfl)) (fun _ _ _ h=>h) hHeld ?_
          refine tak_ 3 42 (flg 13 95) rfl rfl (take_ofW HT_.out HW_.out (by kernel_rfl)) (fun _ _ _ h=>h) hHeld ?_
          refine tak_ 5 44 (flg 13 127) rfl rfl (take_ofW HT_.out HW_.out (by kernel_rfl)) (fun _ _ _ h=>h) hHeld ?_
          refine one_ (i:=7) (N:=some 46) (flg 13 255) rfl rfl (one_of HT_.out (by kernel_rfl)) (by decide) (fun K hK=>?_)
          refine goes_ Tryd.func29 (by kernel_rfl) rfl #[.slice A468_1 ((rd_T66 t457 x35_2).f1).length c468_1,.int .i64 a1] (by rfl) rfl rfl ar_ ?_
          with_reducible refine (helmsmanlaw12_moved.calls k2 _ _ ((rd_T66 t457 x35_2).f1) a1 t470 _ ?side1 ?side2 A44.out).mono ?_
          (case side1=>repeat (first|exact ((Kd.V_reads' (by (with_reducible repeat (first|apply Kd.V_alloc|apply Kd.V_drewN|apply Kd.V_drew));exact HL468_1.out)).2.2)|(with_reducible refine Kd.C_alloc ?_ _)|(with_reducible refine Kd.C_drewN ?_ _)|(with_reducible refine Kd.C_drew ?_)))
          (case side2=>exact HC468_1.out)
          rintro e w53 ⟨v471,rfl,ho0,hb⟩
          refine ⟨_,rfl,?_⟩
          have n0_:=Aside0.mk (Kd.N_elder' (by (with_reducible repeat (first|apply Kd.N_alloc|apply Kd.N_drewN|apply Kd.N_drew));exact HO_33.out) (by first|exact Kd.N_base ho0|exact Kd.N_base (Kd.R_N ho0)|exact Kd.N_base (Kd.R_N (Kd.R_bound ho0))) hb)
          have n1_:=Aside0.mk (Kd.N_elder' (by (with_reducible repeat (first|apply Kd.N_alloc|apply Kd.N_drewN|apply Kd.N_drew));exact HO_464000.out) (by first|exact Kd.N_base ho0|exact Kd.N_base (Kd.R_N ho0)|exact Kd.N_base (Kd.R_N (Kd.R_bound ho0))) hb)
          have n2_:=Aside0.mk (Kd.R_below (by (with_reducible repeat (first|apply Kd.R_alloc|apply Kd.R_drewN|apply Kd.R_drew));exact HO_464001.out) hb)
          have n3_:=Aside0.mk (Kd.N_elder' (by (with_reducible repeat (first|apply Kd.N_alloc|apply Kd.N_drewN|apply Kd.N_drew));exact HO_464002.out) (by first|exact Kd.N_base ho0|exact Kd.N_base (Kd.R_N ho0)|exact Kd.N_base (Kd.R_N (Kd.R_bound ho0))) hb)
          have n4_:=Aside0.mk (Kd.N_elder' (by (with_reducible repeat (first|apply Kd.N_alloc|apply Kd.N_drewN|apply Kd.N_drew));exact HO_464003.out) (by first|exact Kd.N_base ho0|exact Kd.N_base (Kd.R_N ho0)|exact Kd.N_base (Kd.R_N (Kd.R_bound ho0))) hb)
          have n5_:=Aside0.mk (Kd.N_elder' (by (with_reducible repeat (first|apply Kd.N_alloc|apply Kd.N_drewN|apply Kd.N_drew));exact HO_468000.out) (by first|exact Kd.N_base ho0|exact Kd.N_base (Kd.R_N ho0)|exact Kd.N_base (Kd.R_N (Kd.R_bound ho0))) hb)
          have n6_:=Aside0.mk (Kd.R_below (by (with_reducible repeat (first|apply Kd.R_alloc|apply Kd.R_drewN|apply Kd.R_drew));exact HO_468001.out) hb)
          have n7_:=Aside0.mk (Kd.N_elder' (by (with_reducible repeat (first|apply Kd.N_alloc|apply Kd.N_drewN|apply Kd.N_drew));exact HO_468002.out) (by first|exact Kd.N_base ho0|exact Kd.N_base (Kd.R_N ho0)|exact Kd.N_base (Kd.R_N (Kd.R_bound ho0))) hb)
          have n8_:=Aside0.mk (Kd.N_elder' (by (with_reducible repeat (first|apply Kd.N_alloc|apply Kd.N_drewN|apply Kd.N_drew));exact HO_468003.out) (by first|exact Kd.N_base ho0|exact Kd.N_base (Kd.R_N ho0)|exact Kd.N_base (Kd.R_N (Kd.R_bound ho0))) hb)
          have n9_:=Aside0.mk (Kd.V_elder' (by (with_reducible repeat (first|apply Kd.V_alloc|apply Kd.V_drewN|apply Kd.V_drew));exact HL468_1.out) (by first|exact Kd.N_base ho0|exact Kd.N_base (Kd.R_N ho0)|exact Kd.N_base (Kd.R_N (Kd.R_bound ho0))) hb)
          have n10_:=Aside0.mk (Kd.N_lower (Kd.N_mono (ok':=fun k_=>some k_≠(.slice (some ad468) t457.length co26:Value).ownBlock∧some k_≠(.slice Ao22 t451.length co22:Value).ownBlock∧some k_≠(.slice Ao25 t454.length co25:Value).ownBlock∧some k_≠(.slice (some ad468) t457.length co26:Value).ownBlock∧some k_≠(.slice Ao27 t460.length co27:Value).ownBlock∧some k_≠(.slice Ao22 t451.length co22:Value).ownBlock∧some k_≠(.slice Ao25 t454.length co25:Value).ownBlock∧some k_≠(u468002:Value).ownBlock∧some k_≠(.slice Ao34 t464.length co34:Value).ownBlock∧k_≠gb448∧k_≠gb463∧k_≠gb467∧k_≠gb469) (Kd.R_N (Kd.R_bound ho0)) (fun k_ hk_=>⟨(Kd.fresh' (Kd.N_lt (by (with_reducible repeat (first|apply Kd.N_alloc|apply Kd.N_drewN|apply Kd.N_drew));exact HO_33.out)) k_ hk_.2.1),(Kd.fresh' (Kd.N_lt (by (with_reducible repeat (first|apply Kd.N_alloc|apply Kd.N_drewN|apply Kd.N_drew));exact HO_464000.out)) k_ hk_.2.1),(Kd.fresh' (Kd.R_lt (by (with_reducible repeat (first|apply Kd.R_alloc|apply Kd.R_drewN|apply Kd.R_drew));exact HO_464001.out)) k_ hk_.2.1),(Kd.fresh' (Kd.N_lt (by (with_reducible repeat (first|apply Kd.N_alloc|apply Kd.N_drewN|apply Kd.N_drew));exact HO_464002.out)) k_ hk_.2.1),(Kd.fresh' (Kd.N_lt (by (with_reducible repeat (first|apply Kd.N_alloc|apply Kd.N_drewN|apply Kd.N_drew));exact HO_464003.out)) k_ hk_.2.1),(Kd.fresh' (Kd.N_lt (by (with_reducible repeat (first|apply Kd.N_alloc|apply Kd.N_drewN|apply Kd.N_drew));exact HO_468000.out)) k_ hk_.2.1),(Kd.fresh' (Kd.R_lt (by (with_reducible repeat (first|apply Kd.R_alloc|apply Kd.R_drewN|apply Kd.R_drew));exact HO_468001.out)) k_ hk_.2.1),(Kd.fresh' (Kd.N_lt (by (with_reducible repeat (first|apply Kd.N_alloc|apply Kd.N_drewN|apply Kd.N_drew));exact HO_468002.out)) k_ hk_.2.1),(Kd.fresh' (Kd.N_lt (by (with_reducible repeat (first|apply Kd.N_alloc|apply Kd.N_drewN|apply Kd.N_drew));exact HO_468003.out)) k_ hk_.2.1),(Kd.freshB (g:=gb448) (o:=.cells #[.slice A0_0 l0_0.length c0_0,.slice A0_1 l0_1.length c0_1,.slice A0_2 l0_2.length c0_2,.slice A0_3 l0_3.length c0_3] 43 (0,0)) (kb_ BK448.out) k_ hk_.2.1),(Kd.freshB (g:=gb463) (o:=.cells #[.slice Ao22 t451.length co22,.slice Ao25 t454.length co25,.slice (some ad468) t457.length co26,.slice Ao27 t460.length co27] 50 (0,0)) (kb_ BK463.out) k_ hk_.2.1),(Kd.freshB (g:=gb467) (o:=.cells #[.slice Ao22 t451.length co22,.slice Ao25 t454.length co25,u468002,.slice Ao34 t464.length co34] 50 (0,0)) (kb_ BK467.out) k_ hk_.2.1),(Kd.freshB (g:=gb469) (o:=.cells #[.string ((rd_T66 t457 x35_2).f0),.slice A468_1 ((rd_T66 t457 x35_2).f1).length c468_1] 66 (0,0)) (kb_ BK469.out) k_ hk_.2.1)⟩)) (below_size (bl_ HB.out)))
          have n11_:=Aside0.mk (bb_ BK448.out hb)
          have n12_:=Aside0.mk (bb_ BK463.out hb)
          have n13_:=Aside0.mk (bb_ BK467.out hb)
          have n14_:=Aside0.mk (bb_ BK469.out hb)
          have n15_:=Aside0.mk (below_step (bl_ HB.out) hb)
          clear HO_33
          clear HO_464000
          clear HO_464001
          clear HO_464002
          clear HO_464003
          clear HO_468000
          clear HO_468001
          clear HO_468002
          clear HO_468003
          clear HL468_1
          clear BK448
          clear BK463
          clear BK467
          clear BK469
          clear HB
          have HO_33:=n0_
          have HO_464000:=n1_
          have HO_464001:=n2_
          have HO_464002:=n3_
          have HO_464003:=n4_
          have HO_468000:=n5_
          have HO_468001:=n6_
          have HO_468002:=n7_
          have HO_468003:=n8_
          have HL468_1:=n9_
          have HO472:=n10_
          have BK448:=n11_
          have BK463:=n12_
          have BK467:=n13_
          have BK469:=n14_
          have HB:=n15_
          clear n0_ n1_ n2_ n3_ n4_ n5_ n6_ n7_ n8_ n9_ n10_ n11_ n12_ n13_ n14_ n15_
          (try clear hb)
          (try clear hb2)
          (try clear hk)
          (try clear hi)
          (try clear ho0)
          obtain ⟨Ao54,co54,eo54⟩:=Kd.N_slice HO472.out
          (first|subst eo54|(injection eo54 with f1_ f2_ f3_;have f4_:=f1_.symm;have f5_:=f3_.symm;clear f1_ f2_ f3_;subst f4_;subst f5_))
          refine hK.out _ _ ⟨zc_ BK467.out 0,zc_ BK467.out 1,zc_ BK467.out 2,zc_ BK467.out 3,zc_ BK469.out 0,zc_ BK469.out 1⟩ (fun hHeld=>?_)
          clear hK K
          refine norm_ (a':=?_) ?_ ?_
          rotate_left
          ·show Act.put _ (some 46) _=_
           simp only [Act.put,List.setIfInBounds_toArray,List.set_cons_zero,List.set_cons_succ,i64_w,i32_w]
           rfl
          refine pur_ 8 47 (flg 13 511) rfl rfl (any_of HT_.out (by kernel_rfl)) (fun _ _ _ h=>h) ?_
          refine one_ (i:=9) (N:=some 48) (flg 13 1023) rfl rfl (one_of HT_.out (by kernel_rfl)) (by decide) (fun K hK=>?_)
          refine value_ (w1:=?_) (v:=?_) (by rfl) rfl ?_ ?_
          rotate_left 2
          ·go_simp
           constructor
           ·rfl
           ·rfl
          refine hK.out _ _ ⟨(blk_cell (blk_alloc BK467.out _) 0).trans rfl,(blk_cell (blk_alloc BK467.out _) 1).trans rfl,(blk_cell (blk_alloc BK467.out _) 2).trans rfl,(blk_cell (blk_alloc BK467.out _) 3).trans rfl,(blk_cell (blk_alloc BK469.out _) 0).trans rfl,(blk_cell (blk_alloc BK469.out _) 1).trans rfl⟩ (fun hHeld=>?_)
          clear hK K
          refine norm_ (a':=?_) ?_ ?_
          rotate_left
          ·show Act.put _ (some 48) _=_
           simp only [Act.put,List.setIfInBounds_toArray,List.set_cons_zero,List.set_cons_succ,i64_w,i32_w]
           rfl
          refine one_ (i:=10) (N:=some 49) (flg 13 2047) rfl rfl (one_of HT_.out (by kernel_rfl)) (by decide) (fun K hK=>?_)
          refine Kd.N_append_step k66 (w0:=w) w.heap.size (by rfl) (.tmp 40) (.tmp 48) 47 66 (.agg #[(.string ⟨#[]⟩),(.slice none 0 0)]) 40 rfl Tryd.underlying47 info66 rfl (by decide) (by omega) u468002 x468002_2 (⟨(rd_T66 t457 x35_2).f0,t470⟩:S66) [.string ((rd_T66 t457 x35_2).f0),.slice Ao54 t470.length co54] (fun k_=>some k_≠(.slice (some ad468) t457.length co26:Value).ownBlock∧some k_≠(.slice Ao22 t451.length co22:Value).ownBlock∧some k_≠(.slice Ao25 t454.length co25:Value).ownBlock∧some k_≠(.slice (some ad468) t457.length co26:Value).ownBlock∧some k_≠(.slice Ao27 t460.length co27:Value).ownBlock∧some k_≠(.slice Ao22 t451.length co22:Value).ownBlock∧some k_≠(.slice Ao25 t454.length co25:Value).ownBlock∧some k_≠(.slice Ao34 t464.length co34:Value).ownBlock∧k_≠gb448∧k_≠gb463∧k_≠gb467∧k_≠gb469) (fun k_=>((fun k_=>some k_≠(.slice (some ad468) t457.length co26:Value).ownBlock∧some k_≠(.slice Ao22 t451.length co22:Value).ownBlock∧some k_≠(.slice Ao25 t454.length co25:Value).ownBlock∧some k_≠(.slice (some ad468) t457.length co26:Value).ownBlock∧some k_≠(.slice Ao27 t460.length co27:Value).ownBlock∧some k_≠(.slice Ao22 t451.length co22:Value).ownBlock∧some k_≠(.slice Ao25 t454.length co25:Value).ownBlock∧some k_≠(.slice Ao34 t464.length co34:Value).ownBlock∧k_≠gb448∧k_≠gb463∧k_≠gb467∧k_≠gb469)) k_∧some k_≠(u468002:Value).ownBlock) rfl rfl ?aP (fun _ hk=>hk) ?aF ?aO ?aB ?aS ?aL ?_
          (case aP=>exact (k66_mkF _ _ (⟨(rd_T66 t457 x35_2).f0,t470⟩:S66) (Kd.N_reads' (Kd.N_mono (ok':=(fun k_=>((fun k_=>some k_≠(.slice (some ad468) t457.length co26:Value).ownBlock∧some k_≠(.slice Ao22 t451.length co22:Value).ownBlock∧some k_≠(.slice Ao25 t454.length co25:Value).ownBlock∧some k_≠(.slice (some ad468) t457.length co26:Value).ownBlock∧some k_≠(.slice Ao27 t460.length co27:Value).ownBlock∧some k_≠(.slice Ao22 t451.length co22:Value).ownBlock∧some k_≠(.slice Ao25 t454.length co25:Value).ownBlock∧some k_≠(.slice Ao34 t464.length co34:Value).ownBlock∧k_≠gb448∧k_≠gb463∧k_≠gb467∧k_≠gb469)) k_∧some k_≠(u468002:Value).ownBlock)) (HO472.out) (fun k_ hk=>⟨⟨hk.1,⟨hk.2.1,⟨hk.2.2.1,⟨hk.2.2.2.1,⟨hk.2.2.2.2.1,⟨hk.2.2.2.2.2.1,⟨hk.2.2.2.2.2.2.1,⟨hk.2.2.2.2.2.2.2.2.1,⟨hk.2.2.2.2.2.2.2.2.2.1,⟨hk.2.2.2.2.2.2.2.2.2.2.1,⟨hk.2.2.2.2.2.2.2.2.2.2.2.1,hk.2.2.2.2.2.2.2.2.2.2.2.2⟩⟩⟩⟩⟩⟩⟩⟩⟩⟩⟩,hk.2.2.2.2.2.2.2.1⟩))).2.1 (Kd.N_F (Kd.N_mono (ok':=(fun k_=>((fun k_=>some k_≠(.slice (some ad468) t457.length co26:Value).ownBlock∧some k_≠(.slice Ao22 t451.length co22:Value).ownBlock∧some k_≠(.slice Ao25 t454.length co25:Value).ownBlock∧some k_≠(.slice (some ad468) t457.length co26:Value).ownBlock∧some k_≠(.slice Ao27 t460.length co27:Value).ownBlock∧some k_≠(.slice Ao22 t451.length co22:Value).ownBlock∧some k_≠(.slice Ao25 t454.length co25:Value).ownBlock∧some k_≠(.slice Ao34 t464.length co34:Value).ownBlock∧k_≠gb448∧k_≠gb463∧k_≠gb467∧k_≠gb469)) k_∧some k_≠(u468002:Value).ownBlock)) (HO472.out) (fun k_ hk=>⟨⟨hk.1,⟨hk.2.1,⟨hk.2.2.1,⟨hk.2.2.2.1,⟨hk.2.2.2.2.1,⟨hk.2.2.2.2.2.1,⟨hk.2.2.2.2.2.2.1,⟨hk.2.2.2.2.2.2.2.2.1,⟨hk.2.2.2.2.2.2.2.2.2.1,⟨hk.2.2.2.2.2.2.2.2.2.2.1,⟨hk.2.2.2.2.2.2.2.2.2.2.2.1,hk.2.2.2.2.2.2.2.2.2.2.2.2⟩⟩⟩⟩⟩⟩⟩⟩⟩⟩⟩,hk.2.2.2.2.2.2.2.1⟩)))))
          (case aB=>exact (bl_ HB.out))
          (case aF=>exact (fun k_ hk=>⟨Kd.fresh' (Kd.N_lt (by (with_reducible repeat (first|apply Kd.N_alloc|apply Kd.N_drewN|apply Kd.N_drew));exact HO_33.out)) k_ hk,Kd.fresh' (Kd.N_lt (by (with_reducible repeat (first|apply Kd.N_alloc|apply Kd.N_drewN|apply Kd.N_drew));exact HO_464000.out)) k_ hk,Kd.fresh' (Kd.R_lt (by (with_reducible repeat (first|apply Kd.R_alloc|apply Kd.R_drewN|apply Kd.R_drew));exact HO_464001.out)) k_ hk,Kd.fresh' (Kd.N_lt (by (with_reducible repeat (first|apply Kd.N_alloc|apply Kd.N_drewN|apply Kd.N_drew));exact HO_464002.out)) k_ hk,Kd.fresh' (Kd.N_lt (by (with_reducible repeat (first|apply Kd.N_alloc|apply Kd.N_drewN|apply Kd.N_drew));exact HO_464003.out)) k_ hk,Kd.fresh' (Kd.N_lt (by (with_reducible repeat (first|apply Kd.N_alloc|apply Kd.N_drewN|apply Kd.N_drew));exact HO_468000.out)) k_ hk,Kd.fresh' (Kd.R_lt (by (with_reducible repeat (first|apply Kd.R_alloc|apply Kd.R_drewN|apply Kd.R_drew));exact HO_468001.out)) k_ hk,Kd.fresh' (Kd.N_lt (by (with_reducible repeat (first|apply Kd.N_alloc|apply Kd.N_drewN|apply Kd.N_drew));exact HO_468003.out)) k_ hk,Kd.freshB (g:=gb448) (o:=.cells #[.slice A0_0 l0_0.length c0_0,.slice A0_1 l0_1.length c0_1,.slice A0_2 l0_2.length c0_2,.slice A0_3 l0_3.length c0_3] 43 (0,0)) (kb_ BK448.out) k_ hk,Kd.freshB (g:=gb463) (o:=.cells #[.slice Ao22 t451.length co22,.slice Ao25 t454.length co25,.slice (some ad468) t457.length co26,.slice Ao27 t460.length co27] 50 (0,0)) (kb_ BK463.out) k_ hk,Kd.freshB (g:=gb467) (o:=.cells #[.slice Ao22 t451.length co22,.slice Ao25 t454.length co25,u468002,.slice Ao34 t464.length co34] 50 (0,0)) (kb_ BK467.out) k_ hk,Kd.freshB (g:=gb469) (o:=.cells #[.string ((rd_T66 t457 x35_2).f0),.slice A468_1 ((rd_T66 t457 x35_2).f1).length c468_1] 66 (0,0)) (kb_ BK469.out) k_ hk⟩))
          (case aO=>exact (by (with_reducible repeat (first|apply Kd.N_alloc|apply Kd.N_drewN|apply Kd.N_drew));exact Kd.N_mono HO_468002.out (fun _ hk=>⟨hk.1.1,⟨hk.1.2.1,⟨hk.1.2.2.1,⟨hk.1.2.2.2.1,⟨hk.1.2.2.2.2.1,⟨hk.1.2.2.2.2.2.1,⟨hk.1.2.2.2.2.2.2.1,⟨hk.1.2.2.2.2.2.2.2.1,⟨hk.1.2.2.2.2.2.2.2.2.1,⟨hk.1.2.2.2.2.2.2.2.2.2.1,⟨hk.1.2.2.2.2.2.2.2.2.2.2.1,hk.1.2.2.2.2.2.2.2.2.2.2.2⟩⟩⟩⟩⟩⟩⟩⟩⟩⟩⟩)))
          (case aS=>exact (below_size (bl_ HB.out)))
          (case aL=>have:=LMc45.out;omega)
          intro v474 w55 ho hb hg hat
          rw [← Ny473.out] at ho
          have n0_:=Aside0.mk (Kd.N_afterv (ok:=(fun k_=>some k_≠(.slice Ao22 t451.length co22:Value).ownBlock∧some k_≠(.slice Ao25 t454.length co25:Value).ownBlock∧some k_≠(.slice Ao27 t460.length co27:Value).ownBlock∧some k_≠(.slice Ao22 t451.length co22:Value).ownBlock∧some k_≠(.slice Ao25 t454.length co25:Value).ownBlock∧some k_≠(.slice Ao34 t464.length co34:Value).ownBlock∧some k_≠(.slice Ao54 t470.length co54:Value).ownBlock∧k_≠gb448∧k_≠gb463∧k_≠gb467∧k_≠gb469)) (by (with_reducible repeat (first|apply Kd.N_alloc|apply Kd.N_drewN|apply Kd.N_drew));exact Kd.N_mono HO_33.out (fun _ hk=>⟨⟨hk.1.1,⟨hk.1.2.1,⟨hk.1.2.2.1,⟨hk.1.2.2.2.1,⟨hk.1.2.2.2.2.1,⟨hk.1.2.2.2.2.2.2.1,⟨hk.2,⟨hk.1.2.2.2.2.2.2.2.1,⟨hk.1.2.2.2.2.2.2.2.2.1,⟨hk.1.2.2.2.2.2.2.2.2.2.1,hk.1.2.2.2.2.2.2.2.2.2.2⟩⟩⟩⟩⟩⟩⟩⟩⟩⟩,hk.1.2.2.2.2.2.1⟩)) hg hat)
          have n1_:=Aside0.mk (Kd.N_afterv (ok:=(fun k_=>some k_≠(.slice (some ad468) t457.length co26:Value).ownBlock∧some k_≠(.slice Ao25 t454.length co25:Value).ownBlock∧some k_≠(.slice (some ad468) t457.length co26:Value).ownBlock∧some k_≠(.slice Ao27 t460.length co27:Value).ownBlock∧some k_≠(.slice Ao25 t454.length co25:Value).ownBlock∧some k_≠(.slice Ao34 t464.length co34:Value).ownBlock∧some k_≠(.slice Ao54 t470.length co54:Value).ownBlock∧k_≠gb448∧k_≠gb463∧k_≠gb467∧k_≠gb469)) (by (with_reducible repeat (first|apply Kd.N_alloc|apply Kd.N_drewN|apply Kd.N_drew));exact Kd.N_mono HO_464000.out (fun _ hk=>⟨⟨hk.1.1,⟨hk.1.2.1,⟨hk.1.2.2.1,⟨hk.1.2.2.2.1,⟨hk.1.2.2.2.2.1,⟨hk.1.2.2.2.2.2.2.1,⟨hk.2,⟨hk.1.2.2.2.2.2.2.2.1,⟨hk.1.2.2.2.2.2.2.2.2.1,⟨hk.1.2.2.2.2.2.2.2.2.2.1,hk.1.2.2.2.2.2.2.2.2.2.2⟩⟩⟩⟩⟩⟩⟩⟩⟩⟩,hk.1.2.2.2.2.2.1⟩)) hg hat)
          have n2_:=Aside0.mk (Kd.R_over' (by (with_reducible repeat (first|apply Kd.R_alloc|apply Kd.R_drewN|apply Kd.R_drew));exact HO_464001.out) (Kd.N_typed (by (with_reducible repeat (first|apply Kd.N_alloc|apply Kd.N_drewN|apply Kd.N_drew));exact HO_468002.out)) (by decide) hg)
          have n3_:=Aside0.mk (Kd.N_afterv (ok:=(fun k_=>some k_≠(.slice Ao22 t451.length co22:Value).ownBlock∧some k_≠(.slice Ao25 t454.length co25:Value).ownBlock∧some k_≠(.slice Ao27 t460.length co27:Value).ownBlock∧some k_≠(.slice Ao22 t451.length co22:Value).ownBlock∧some k_≠(.slice Ao25 t454.length co25:Value).ownBlock∧some k_≠(.slice Ao34 t464.length co34:Value).ownBlock∧some k_≠(.slice Ao54 t470.length co54:Value).ownBlock∧k_≠gb448∧k_≠gb463∧k_≠gb467∧k_≠gb469)) (by (with_reducible repeat (first|apply Kd.N_alloc|apply Kd.N_drewN|apply Kd.N_drew));exact Kd.N_mono HO_464002.out (fun _ hk=>⟨⟨hk.1.1,⟨hk.1.2.1,⟨hk.1.2.2.1,⟨hk.1.2.2.2.1,⟨hk.1.2.2.2.2.1,⟨hk.1.2.2.2.2.2.2.1,⟨hk.2,⟨hk.1.2.2.2.2.2.2.2.1,⟨hk.1.2.2.2.2.2.2.2.2.1,⟨hk.1.2.2.2.2.2.2.2.2.2.1,hk.1.2.2.2.2.2.2.2.2.2.2⟩⟩⟩⟩⟩⟩⟩⟩⟩⟩,hk.1.2.2.2.2.2.1⟩)) hg hat)
          have n4_:=Aside0.mk (Kd.N_afterv (ok:=(fun k_=>some k_≠(.slice (some ad468) t457.length co26:Value).ownBlock∧some k_≠(.slice Ao22 t451.length co22:Value).ownBlock∧some k_≠(.slice Ao25 t454.length co25:Value).ownBlock∧some k_≠(.slice (some ad468) t457.length co26:Value).ownBlock∧some k_≠(.slice Ao22 t451.length co22:Value).ownBlock∧some k_≠(.slice Ao25 t454.length co25:Value).ownBlock∧some k_≠(.slice Ao34 t464.length co34:Value).ownBlock∧some k_≠(.slice Ao54 t470.length co54:Value).ownBlock∧k_≠gb448∧k_≠gb463∧k_≠gb467∧k_≠gb469)) (by (with_reducible repeat (first|apply Kd.N_alloc|apply Kd.N_drewN|apply Kd.N_drew));exact Kd.N_mono HO_464003.out (fun _ hk=>⟨⟨hk.1.1,⟨hk.1.2.1,⟨hk.1.2.2.1,⟨hk.1.2.2.2.1,⟨hk.1.2.2.2.2.1,⟨hk.1.2.2.2.2.2.1,⟨hk.1.2.2.2.2.2.2.2.1,⟨hk.2,⟨hk.1.2.2.2.2.2.2.2.2.1,⟨hk.1.2.2.2.2.2.2.2.2.2.1,⟨hk.1.2.2.2.2.2.2.2.2.2.2.1,hk.1.2.2.2.2.2.2.2.2.2.2.2⟩⟩⟩⟩⟩⟩⟩⟩⟩⟩⟩,hk.1.2.2.2.2.2.2.1⟩)) hg hat)
          have n5_:=Aside0.mk (Kd.N_afterv (ok:=(fun k_=>some k_≠(.slice (some ad468) t457.length co26:Value).ownBlock∧some k_≠(.slice Ao25 t454.length co25:Value).ownBlock∧some k_≠(.slice (some ad468) t457.length co26:Value).ownBlock∧some k_≠(.slice Ao27 t460.length co27:Value).ownBlock∧some k_≠(.slice Ao25 t454.length co25:Value).ownBlock∧some k_≠(.slice Ao34 t464.length co34:Value).ownBlock∧some k_≠(.slice Ao54 t470.length co54:Value).ownBlock∧k_≠gb448∧k_≠gb463∧k_≠gb467∧k_≠gb469)) (by (with_reducible repeat (first|apply Kd.N_alloc|apply Kd.N_drewN|apply Kd.N_drew));exact Kd.N_mono HO_468000.out (fun _ hk=>⟨⟨hk.1.1,⟨hk.1.2.1,⟨hk.1.2.2.1,⟨hk.1.2.2.2.1,⟨hk.1.2.2.2.2.1,⟨hk.1.2.2.2.2.2.2.1,⟨hk.2,⟨hk.1.2.2.2.2.2.2.2.1,⟨hk.1.2.2.2.2.2.2.2.2.1,⟨hk.1.2.2.2.2.2.2.2.2.2.1,hk.1.2.2.2.2.2.2.2.2.2.2⟩⟩⟩⟩⟩⟩⟩⟩⟩⟩,hk.1.2.2.2.2.2.1⟩)) hg hat)
          have n6_:=Aside0.mk (Kd.R_over' (by (with_reducible repeat (first|apply Kd.R_alloc|apply Kd.R_drewN|apply Kd.R_drew));exact HO_468001.out) (Kd.N_typed (by (with_reducible repeat (first|apply Kd.N_alloc|apply Kd.N_drewN|apply Kd.N_drew));exact HO_468002.out)) (by decide) hg)
          have n7_:=Aside0.mk (Kd.N_afterv (ok:=(fun k_=>some k_≠(.slice (some ad468) t457.length co26:Value).ownBlock∧some k_≠(.slice Ao22 t451.length co22:Value).ownBlock∧some k_≠(.slice Ao25 t454.length co25:Value).ownBlock∧some k_≠(.slice (some ad468) t457.length co26:Value).ownBlock∧some k_≠(.slice Ao27 t460.length co27:Value).ownBlock∧some k_≠(.slice Ao22 t451.length co22:Value).ownBlock∧some k_≠(.slice Ao25 t454.length co25:Value).ownBlock∧some k_≠(.slice Ao54 t470.length co54:Value).ownBlock∧k_≠gb448∧k_≠gb463∧k_≠gb467∧k_≠gb469)) (by (with_reducible repeat (first|apply Kd.N_alloc|apply Kd.N_drewN|apply Kd.N_drew));exact Kd.N_mono HO_468003.out (fun _ hk=>⟨⟨hk.1.1,⟨hk.1.2.1,⟨hk.1.2.2.1,⟨hk.1.2.2.2.1,⟨hk.1.2.2.2.2.1,⟨hk.1.2.2.2.2.2.1,⟨hk.1.2.2.2.2.2.2.1,⟨hk.2,⟨hk.1.2.2.2.2.2.2.2.2.1,⟨hk.1.2.2.2.2.2.2.2.2.2.1,⟨hk.1.2.2.2.2.2.2.2.2.2.2.1,hk.1.2.2.2.2.2.2.2.2.2.2.2⟩⟩⟩⟩⟩⟩⟩⟩⟩⟩⟩,hk.1.2.2.2.2.2.2.2.1⟩)) hg hat)
          have n8_:=Aside0.mk (bg_ BK448.out hg (Kd.N_ne HO_468002.out BK448.out (by decide)))
          have n9_:=Aside0.mk (bg_ BK463.out hg (Kd.N_ne HO_468002.out BK463.out (by decide)))
          have n10_:=Aside0.mk (bg_ BK467.out hg (Kd.N_ne HO_468002.out BK467.out (by decide)))
          have n11_:=Aside0.mk (Kd.V_afterv (ok:=(fun k_=>some k_≠(.slice (some ad468) t457.length co26:Value).ownBlock∧some k_≠(.slice Ao22 t451.length co22:Value).ownBlock∧some k_≠(.slice Ao25 t454.length co25:Value).ownBlock∧some k_≠(.slice Ao27 t460.length co27:Value).ownBlock∧some k_≠(.slice Ao22 t451.length co22:Value).ownBlock∧some k_≠(.slice Ao25 t454.length co25:Value).ownBlock∧some k_≠(.slice Ao34 t464.length co34:Value).ownBlock∧some k_≠(.slice Ao54 t470.length co54:Value).ownBlock∧k_≠gb448∧k_≠gb463∧k_≠gb467∧k_≠gb469)) (by (with_reducible repeat (first|apply Kd.V_alloc|apply Kd.V_drewN|apply Kd.V_drew));exact Kd.V_mono HL468_1.out (fun _ hk=>⟨⟨hk.1.1,⟨hk.1.2.1,⟨hk.1.2.2.1,⟨hk.1.2.2.2.1,⟨hk.1.2.2.2.2.1,⟨hk.1.2.2.2.2.2.1,⟨hk.1.2.2.2.2.2.2.2.1,⟨hk.2,⟨hk.1.2.2.2.2.2.2.2.2.1,⟨hk.1.2.2.2.2.2.2.2.2.2.1,⟨hk.1.2.2.2.2.2.2.2.2.2.2.1,hk.1.2.2.2.2.2.2.2.2.2.2.2⟩⟩⟩⟩⟩⟩⟩⟩⟩⟩⟩,hk.1.2.2.2.2.2.2.1⟩)) hg hat)
          have n12_:=Aside0.mk (bg_ BK469.out hg (Kd.N_away HO_468002.out (fun _ hk=>hk.1.2.2.2.2.2.2.2.2.2.2.2)))
          have n13_:=Aside0.mk (hb)
          have n14_:=Aside0.mk (ho)
          clear HO_33
          clear HO_464000
          clear HO_464001
          clear HO_464002
          clear HO_464003
          clear HO_468000
          clear HO_468001
          clear HO_468003
          clear BK448
          clear BK463
          clear BK467
          clear HL468_1
          clear BK469
          clear HB
          clear HO_468002
          clear HO472
          have HO_33:=n0_
          have HO_464000:=n1_
          have HO_464001:=n2_
          have HO_464002:=n3_
          have HO_464003:=n4_
          have HO_468000:=n5_
          have HO_468001:=n6_
          have HO_468003:=n7_
          have BK448:=n8_
          have BK463:=n9_
          have BK467:=n10_
          have HL468_1:=n11_
          have BK469:=n12_
          have HB:=n13_
          have HO475:=n14_
          clear n0_ n1_ n2_ n3_ n4_ n5_ n6_ n7_ n8_ n9_ n10_ n11_ n12_ n13_ n14_
          clear ho hb hg hat
          obtain ⟨Ao56,co56,eo56⟩:=Kd.N_slice HO475.out
          (first|subst eo56|(injection eo56 with f1_ f2_ f3_;have f4_:=f1_.symm;have f5_:=f3_.symm;clear f1_ f2_ f3_;subst f4_;subst f5_))
          refine hK.out _ _ ⟨zc_ BK467.out 0,zc_ BK467.out 1,zc_ BK467.out 2,zc_ BK467.out 3,zc_ BK469.out 0,zc_ BK469.out 1⟩ (fun hHeld=>?_)
          clear hK K
          refine norm_ (a':=?_) ?_ ?_
          rotate_left
          ·show Act.put _ (some 49) _=_
           simp only [Act.put,List.setIfInBounds_toArray,List.set_cons_zero,List.set_cons_succ,i64_w,i32_w]
           rfl
          refine pur_ 11 50 (flg 13 4095) rfl rfl (any_of HT_.out (by kernel_rfl)) (fun _ _ _ h=>h) ?_
          refine last_ (i:=12) (N:=none) (flg 13 8191) rfl rfl (one_of HT_.out (by kernel_rfl)) (by decide) (fun K hK=>?_)
          have hs57:w55.cell? ⟨gb467,2,none⟩=some (u468002):=zc_ BK467.out 2
          have hfs57:=blk_frozen BK467.out 2
          have hns57_0:=NB448_467.out
          have hns57_1:=NB463_467.out
          have hns57_3:=NB469_467.out
          have hms57_0:=NB467_448.out
          have hms57_1:=NB467_463.out
          have hms57_3:=NB467_469.out
          refine skip_ (w1:=?_) (by rfl) rfl ?_ ?_
          rotate_left
          ·go_simp
           rfl
          refine hK.out _ _ ?_
          clear hK K
          refine done_ (done_of HT_.out (by kernel_rfl)) ?_
          try go_wp2
          go_roundg k2
          case measure=>have:=HJ2.out;have:=HK2.out;omega
          case rel=>exact ⟨(wrap64 (x35_2+1)),(y473),(.slice Ao56 y473.length co56),rf_,H',⟨by have:=HJ2.out;have:=HK2.out;omega⟩,⟨by (with_reducible repeat (first|apply Kd.N_alloc|apply Kd.N_drewN|apply Kd.N_drew));exact Kd.N_mono (Kd.N_far (p:=⟨gb467,2,none⟩) (Kd.N_mono HO_33.out (fun k_ hk=>(⟨hk,hk.1.2.2.2.2.2.2.2.2.2.1⟩:_∧k_≠gb467))) (fun _ hk=>hk.2) (.slice Ao56 y473.length co56)) (fun _ hk=>⟨hk.1.1.1,⟨hk.1.1.2.1,⟨hk.1.1.2.2.1,⟨hk.1.1.2.2.2.1,⟨hk.1.1.2.2.2.2.1,⟨hk.1.2,⟨hk.1.1.2.2.2.2.2.1,⟨hk.1.1.2.2.2.2.2.2.2.1,⟨hk.1.1.2.2.2.2.2.2.2.2.1,hk.1.1.2.2.2.2.2.2.2.2.2.1⟩⟩⟩⟩⟩⟩⟩⟩⟩)⟩,⟨by (with_reducible repeat (first|apply Kd.N_alloc|apply Kd.N_drewN|apply Kd.N_drew));exact Kd.N_mono (Kd.N_far (p:=⟨gb467,2,none⟩) (Kd.N_mono HO_464000.out (fun k_ hk=>(⟨hk,hk.1.2.2.2.2.2.2.2.2.2.1⟩:_∧k_≠gb467))) (fun _ hk=>hk.2) (.slice Ao56 y473.length co56)) (fun _ hk=>⟨hk.1.1.1,⟨hk.1.1.2.1,⟨hk.1.1.2.2.1,⟨hk.1.1.2.2.2.1,⟨hk.1.1.2.2.2.2.1,⟨hk.1.2,⟨hk.1.1.2.2.2.2.2.1,⟨hk.1.1.2.2.2.2.2.2.2.1,⟨hk.1.1.2.2.2.2.2.2.2.2.1,hk.1.1.2.2.2.2.2.2.2.2.2.1⟩⟩⟩⟩⟩⟩⟩⟩⟩)⟩,⟨by (with_reducible repeat (first|apply Kd.R_alloc|apply Kd.R_drewN|apply Kd.R_drew));exact Kd.R_mono (Kd.R_far (p:=⟨gb467,2,none⟩) (Kd.R_types HO_464001.out BK467.out (by decide)) (fun _ hk=>hk.2) (.slice Ao56 y473.length co56)) (fun _ hk=>trivial)⟩,⟨by (with_reducible repeat (first|apply Kd.N_alloc|apply Kd.N_drewN|apply Kd.N_drew));exact Kd.N_mono (Kd.N_far (p:=⟨gb467,2,none⟩) (Kd.N_mono HO_464002.out (fun k_ hk=>(⟨hk,hk.1.2.2.2.2.2.2.2.2.2.1⟩:_∧k_≠gb467))) (fun _ hk=>hk.2) (.slice Ao56 y473.length co56)) (fun _ hk=>⟨hk.1.1.1,⟨hk.1.1.2.1,⟨hk.1.1.2.2.1,⟨hk.1.1.2.2.2.1,⟨hk.1.1.2.2.2.2.1,⟨hk.1.2,⟨hk.1.1.2.2.2.2.2.1,⟨hk.1.1.2.2.2.2.2.2.2.1,⟨hk.1.1.2.2.2.2.2.2.2.2.1,hk.1.1.2.2.2.2.2.2.2.2.2.1⟩⟩⟩⟩⟩⟩⟩⟩⟩)⟩,⟨by (with_reducible repeat (first|apply Kd.N_alloc|apply Kd.N_drewN|apply Kd.N_drew));exact Kd.N_mono (Kd.N_far (p:=⟨gb467,2,none⟩) (Kd.N_mono HO_464003.out (fun k_ hk=>(⟨hk,hk.1.2.2.2.2.2.2.2.2.2.2.1⟩:_∧k_≠gb467))) (fun _ hk=>hk.2) (.slice Ao56 y473.length co56)) (fun _ hk=>⟨hk.1.1.1,⟨hk.1.1.2.1,⟨hk.1.1.2.2.1,⟨hk.1.1.2.2.2.1,⟨hk.1.1.2.2.2.2.1,⟨hk.1.1.2.2.2.2.2.1,⟨hk.1.2,⟨hk.1.1.2.2.2.2.2.2.1,⟨hk.1.1.2.2.2.2.2.2.2.2.1,⟨hk.1.1.2.2.2.2.2.2.2.2.2.1,hk.1.1.2.2.2.2.2.2.2.2.2.2.1⟩⟩⟩⟩⟩⟩⟩⟩⟩⟩)⟩,⟨by (with_reducible repeat (first|apply Kd.N_alloc|apply Kd.N_drewN|apply Kd.N_drew));exact Kd.N_mono (Kd.N_far (p:=⟨gb467,2,none⟩) (Kd.N_mono HO_468000.out (fun k_ hk=>(⟨hk,hk.1.2.2.2.2.2.2.2.2.2.1⟩:_∧k_≠gb467))) (fun _ hk=>hk.2) (.slice Ao56 y473.length co56)) (fun _ hk=>⟨hk.1.1.1,⟨hk.1.1.2.1,⟨hk.1.1.2.2.1,⟨hk.1.1.2.2.2.1,⟨hk.1.1.2.2.2.2.1,⟨hk.1.2,⟨hk.1.1.2.2.2.2.2.1,⟨hk.1.1.2.2.2.2.2.2.2.1,⟨hk.1.1.2.2.2.2.2.2.2.2.1,hk.1.1.2.2.2.2.2.2.2.2.2.1⟩⟩⟩⟩⟩⟩⟩⟩⟩)⟩,⟨by (with_reducible repeat (first|apply Kd.R_alloc|apply Kd.R_drewN|apply Kd.R_drew));exact Kd.R_mono (Kd.R_far (p:=⟨gb467,2,none⟩) (Kd.R_types HO_468001.out BK467.out (by decide)) (fun _ hk=>hk.2) (.slice Ao56 y473.length co56)) (fun _ hk=>trivial)⟩,⟨by (with_reducible repeat (first|apply Kd.N_alloc|apply Kd.N_drewN|apply Kd.N_drew));exact Kd.N_mono (Kd.N_far (p:=⟨gb467,2,none⟩) (Kd.N_mono HO475.out (fun k_ hk=>(⟨hk,hk.2.2.2.2.2.2.2.2.2.2.1⟩:_∧k_≠gb467))) (fun _ hk=>hk.2) (.slice Ao56 y473.length co56)) (fun _ hk=>⟨hk.1.1,⟨hk.1.2.1,⟨hk.1.2.2.1,⟨hk.1.2.2.2.1,⟨hk.1.2.2.2.2.1,⟨hk.1.2.2.2.2.2.1,⟨hk.1.2.2.2.2.2.2.1,⟨hk.1.2.2.2.2.2.2.2.1,⟨hk.1.2.2.2.2.2.2.2.2.1,⟨hk.1.2.2.2.2.2.2.2.2.2.1,hk.1.2.2.2.2.2.2.2.2.2.2.1⟩⟩⟩⟩⟩⟩⟩⟩⟩⟩)⟩,⟨by (with_reducible repeat (first|apply Kd.N_alloc|apply Kd.N_drewN|apply Kd.N_drew));exact Kd.N_mono (Kd.N_far (p:=⟨gb467,2,none⟩) (Kd.N_mono HO_468003.out (fun k_ hk=>(⟨hk,hk.1.2.2.2.2.2.2.2.2.2.2.1⟩:_∧k_≠gb467))) (fun _ hk=>hk.2) (.slice Ao56 y473.length co56)) (fun _ hk=>⟨hk.1.1.1,⟨hk.1.1.2.1,⟨hk.1.1.2.2.1,⟨hk.1.1.2.2.2.1,⟨hk.1.1.2.2.2.2.1,⟨hk.1.1.2.2.2.2.2.1,⟨hk.1.1.2.2.2.2.2.2.1,⟨hk.1.2,⟨hk.1.1.2.2.2.2.2.2.2.2.1,⟨hk.1.1.2.2.2.2.2.2.2.2.2.1,hk.1.1.2.2.2.2.2.2.2.2.2.2.1⟩⟩⟩⟩⟩⟩⟩⟩⟩⟩)⟩,⟨kbc_ BK448.out⟩,⟨kbc_ BK463.out⟩,⟨kbc_ BK467.out⟩,⟨bl_ HB.out⟩⟩
         ·rw [if_neg c45] at H
          exact absurd H (by simp)
        ·rw [if_neg c43] at H
         exact absurd H (by simp)
       ·rw [if_neg c42] at H
        exact absurd H (by simp)
      ·rw [if_neg c41] at H
       have c41b0:decide (x35_2 < (t457.length:Int))=false:=decide_eq_false c41
       clear c41
       replace H:=Option.bind_eq_some_iff.mp H
       obtain ⟨t476,A580,H⟩:=H
       replace H:(if t476=true then ((tree_Same.f k2 t451 t454 t457 t460 t451 t454 x468002_2 t464).bind fun t477=>(if t477=true then ((tree_Same.f k2 t451 t454 t457 t460 t451 t454 t457 t460).bind fun t478=>(if t478=true then ((tree_Print.f t451 t454 t457 t460).bind fun t479=>((tree_Print.f t451 t454 x468002_2 t464).bind fun t480=>(some (t479.toList == t480.toList)))) else (some false))) else (some false))) else (some false))=some r:=H
       have A58:=Aside0.mk A580
       clear A580
       by_cases c59:t476=true
       ·subst c59
        have H1:((tree_Same.f k2 t451 t454 t457 t460 t451 t454 x468002_2 t464).bind fun t477=>(if t477=true then ((tree_Same.f k2 t451 t454 t457 t460 t451 t454 t457 t460).bind fun t478=>(if t478=true then ((tree_Print.f t451 t454 t457 t460).bind fun t479=>((tree_Print.f t451 t454 x468002_2 t464).bind fun t480=>(some (t479.toList == t480.toList)))) else (some false))) else (some false)))=some r:=by rw [if_pos rfl] at H;exact H
        clear H
        have H:=H1
        clear H1
        replace H:=Option.bind_eq_some_iff.mp H
        obtain ⟨t477,A600,H⟩:=H
        replace H:(if t477=true then ((tree_Same.f k2 t451 t454 t457 t460 t451 t454 t457 t460).bind fun t478=>(if t478=true then ((tree_Print.f t451 t454 t457 t460).bind fun t479=>((tree_Print.f t451 t454 x468002_2 t464).bind fun t480=>(some (t479.toList == t480.toList)))) else (some false))) else (some false))=some r:=H
        have A60:=Aside0.mk A600
        clear A600
        by_cases c61:t477=true
        ·subst c61
         have H1:((tree_Same.f k2 t451 t454 t457 t460 t451 t454 t457 t460).bind fun t478=>(if t478=true then ((tree_Print.f t451 t454 t457 t460).bind fun t479=>((tree_Print.f t451 t454 x468002_2 t464).bind fun t480=>(some (t479.toList == t480.toList)))) else (some false)))=some r:=by rw [if_pos rfl] at H;exact H
         clear H
         have H:=H1
         clear H1
         replace H:=Option.bind_eq_some_iff.mp H
         obtain ⟨t478,A620,H⟩:=H
         replace H:(if t478=true then ((tree_Print.f t451 t454 t457 t460).bind fun t479=>((tree_Print.f t451 t454 x468002_2 t464).bind fun t480=>(some (t479.toList == t480.toList)))) else (some false))=some r:=H
         have A62:=Aside0.mk A620
         clear A620
         by_cases c63:t478=true
         ·subst c63
          have H1:((tree_Print.f t451 t454 t457 t460).bind fun t479=>((tree_Print.f t451 t454 x468002_2 t464).bind fun t480=>(some (t479.toList == t480.toList))))=some r:=by rw [if_pos rfl] at H;exact H
          clear H
          have H:=H1
          clear H1
          replace H:=Option.bind_eq_some_iff.mp H
          obtain ⟨t479,A640,H⟩:=H
          replace H:((tree_Print.f t451 t454 x468002_2 t464).bind fun t480=>(some (t479.toList == t480.toList)))=some r:=H
          have A64:=Aside0.mk A640
          clear A640
          replace H:=Option.bind_eq_some_iff.mp H
          obtain ⟨t480,A650,H⟩:=H
          replace H:(some (t479.toList == t480.toList))=some r:=H
          have A65:=Aside0.mk A650
          clear A650
          obtain rfl:=Option.some.inj H
          try go_wp2
          have n0_:=Aside0.mk (Kd.N_drew HO_33.out)
          have n1_:=Aside0.mk (Kd.N_drew HO_464000.out)
          have n2_:=Aside0.mk (Kd.R_drew HO_464001.out)
          have n3_:=Aside0.mk (Kd.N_drew HO_464002.out)
          have n4_:=Aside0.mk (Kd.N_drew HO_464003.out)
          have n5_:=Aside0.mk (Kd.N_drew HO_468000.out)
          have n6_:=Aside0.mk (Kd.R_drew HO_468001.out)
          have n7_:=Aside0.mk (Kd.N_drew HO_468002.out)
          have n8_:=Aside0.mk (Kd.N_drew HO_468003.out)
          have n9_:=Aside0.mk (blk_drew BK448.out)
          have n10_:=Aside0.mk (blk_drew BK463.out)
          have n11_:=Aside0.mk (blk_drew BK467.out)
          have n12_:=Aside0.mk (below_drew1 HB.out)
          clear HO_33
          clear HO_464000
          clear HO_464001
          clear HO_464002
          clear HO_464003
          clear HO_468000
          clear HO_468001
          clear HO_468002
          clear HO_468003
          clear BK448
          clear BK463
          clear BK467
          clear HB
          have HO_33:=n0_
          have HO_464000:=n1_
          have HO_464001:=n2_
          have HO_464002:=n3_
          have HO_464003:=n4_
          have HO_468000:=n5_
          have HO_468001:=n6_
          have HO_468002:=n7_
          have HO_468003:=n8_
          have BK448:=n9_
          have BK463:=n10_
          have BK467:=n11_
          have HB:=n12_
          clear n0_ n1_ n2_ n3_ n4_ n5_ n6_ n7_ n8_ n9_ n10_ n11_ n12_
          refine start_ (n:=19) (S:=fun w'=>w'.cell? ⟨gb463,0,none⟩=some (.slice Ao22 t451.length co22)∧w'.cell? ⟨gb463,1,none⟩=some (.slice Ao25 t454.length co25)∧w'.cell? ⟨gb463,2,none⟩=some (.slice Ao26 t457.length co26)∧w'.cell? ⟨gb463,3,none⟩=some (.slice Ao27 t460.length co27)∧w'.cell? ⟨gb467,0,none⟩=some (.slice Ao22 t451.length co22)∧w'.cell? ⟨gb467,1,none⟩=some (.slice Ao25 t454.length co25)∧w'.cell? ⟨gb467,2,none⟩=some (u468002)∧w'.cell? ⟨gb467,3,none⟩=some (.slice Ao34 t464.length co34)) (ds:=[]) (flg 19 0) (by kernel_rfl) rfl (by kernel_rfl) ⟨zc_ BK463.out 0,zc_ BK463.out 1,zc_ BK463.out 2,zc_ BK463.out 3,zc_ BK467.out 0,zc_ BK467.out 1,zc_ BK467.out 2,zc_ BK467.out 3⟩ (fun hHeld=>?_);refine with_tabW helmsmanlaw12_TreePlaces.tab10 helmsmanlaw12_TreePlaces.bits10 (fun HT_ HW_=>?_)
          generalize wr.drew=w66 at HO_33 HO_464000 HO_464001 HO_464002 HO_464003 HO_468000 HO_468001 HO_468002 HO_468003 BK448 BK463 BK467 HB hHeld ⊢
          refine one_ (i:=0) (N:=some 52) (flg 19 1) rfl rfl (one_of HT_.out (by kernel_rfl)) (by decide) (fun K hK=>?_)
          refine goes_ Tryd.func10 (by kernel_rfl) rfl #[] (by rfl) rfl rfl ar_ ?_
          with_reducible refine (helmsmanlaw12_alive.calls  true _ ?side1 A58.out).mono ?_
          (case side1=>exact hT.later (bl_ HB.out))
          rintro e w67 ⟨rfl,hb⟩
          refine ⟨_,rfl,?_⟩
          have n0_:=Aside0.mk (Kd.N_below (by (with_reducible repeat (first|apply Kd.N_alloc|apply Kd.N_drewN|apply Kd.N_drew));exact HO_33.out) hb)
          have n1_:=Aside0.mk (Kd.N_below (by (with_reducible repeat (first|apply Kd.N_alloc|apply Kd.N_drewN|apply Kd.N_drew));exact HO_464000.out) hb)
          have n2_:=Aside0.mk (Kd.R_below (by (with_reducible repeat (first|apply Kd.R_alloc|apply Kd.R_drewN|apply Kd.R_drew));exact HO_464001.out) hb)
          have n3_:=Aside0.mk (Kd.N_below (by (with_reducible repeat (first|apply Kd.N_alloc|apply Kd.N_drewN|apply Kd.N_drew));exact HO_464002.out) hb)
          have n4_:=Aside0.mk (Kd.N_below (by (with_reducible repeat (first|apply Kd.N_alloc|apply Kd.N_drewN|apply Kd.N_drew));exact HO_464003.out) hb)
          have n5_:=Aside0.mk (Kd.N_below (by (with_reducible repeat (first|apply Kd.N_alloc|apply Kd.N_drewN|apply Kd.N_drew));exact HO_468000.out) hb)
          have n6_:=Aside0.mk (Kd.R_below (by (with_reducible repeat (first|apply Kd.R_alloc|apply Kd.R_drewN|apply Kd.R_drew));exact HO_468001.out) hb)
          have n7_:=Aside0.mk (Kd.N_below (by (with_reducible repeat (first|apply Kd.N_alloc|apply Kd.N_drewN|apply Kd.N_drew));exact HO_468002.out) hb)
          have n8_:=Aside0.mk (Kd.N_below (by (with_reducible repeat (first|apply Kd.N_alloc|apply Kd.N_drewN|apply Kd.N_drew));exact HO_468003.out) hb)
          have n9_:=Aside0.mk (bb_ BK448.out hb)
          have n10_:=Aside0.mk (bb_ BK463.out hb)
          have n11_:=Aside0.mk (bb_ BK467.out hb)
          have n12_:=Aside0.mk (below_step (bl_ HB.out) hb)
          clear HO_33
          clear HO_464000
          clear HO_464001
          clear HO_464002
          clear HO_464003
          clear HO_468000
          clear HO_468001
          clear HO_468002
          clear HO_468003
          clear BK448
          clear BK463
          clear BK467
          clear HB
          have HO_33:=n0_
          have HO_464000:=n1_
          have HO_464001:=n2_
          have HO_464002:=n3_
          have HO_464003:=n4_
          have HO_468000:=n5_
          have HO_468001:=n6_
          have HO_468002:=n7_
          have HO_468003:=n8_
          have BK448:=n9_
          have BK463:=n10_
          have BK467:=n11_
          have HB:=n12_
          clear n0_ n1_ n2_ n3_ n4_ n5_ n6_ n7_ n8_ n9_ n10_ n11_ n12_
          (try clear hb)
          (try clear hb2)
          (try clear hk)
          (try clear hi)
          obtain ⟨Ao68,co68,eo68⟩:=Kd.N_slice HO_468002.out
          (first|subst eo68|(injection eo68 with f1_ f2_ f3_;have f4_:=f1_.symm;have f5_:=f3_.symm;clear f1_ f2_ f3_;subst f4_;subst f5_))
          refine hK.out _ _ ⟨zc_ BK463.out 0,zc_ BK463.out 1,zc_ BK463.out 2,zc_ BK463.out 3,zc_ BK467.out 0,zc_ BK467.out 1,zc_ BK467.out 2,zc_ BK467.out 3⟩ (fun hHeld=>?_)
          clear hK K
          refine norm_ (a':=?_) ?_ ?_
          rotate_left
          ·show Act.put _ (some 52) _=_
           simp only [Act.put,List.setIfInBounds_toArray,List.set_cons_zero,List.set_cons_succ,i64_w,i32_w]
           rfl
          refine pur_ 1 53 (flg 19 3) rfl rfl (any_of HT_.out (by kernel_rfl)) (fun _ _ _ h=>h) ?_
          refine tak_ 2 54 (flg 19 7) rfl rfl (take_ofW HT_.out HW_.out (by kernel_rfl)) (fun _ _ _ h=>h) hHeld ?_
          refine tak_ 3 55 (flg 19 15) rfl rfl (take_ofW HT_.out HW_.out (by kernel_rfl)) (fun _ _ _ h=>h) hHeld ?_
          refine one_ (i:=4) (N:=some 56) (flg 19 31) rfl rfl (one_of HT_.out (by kernel_rfl)) (by decide) (fun K hK=>?_)
          refine goes_ Tryd.func28 (by kernel_rfl) rfl #[.agg #[.slice Ao22 t451.length co22,.slice Ao25 t454.length co25,.slice Ao26 t457.length co26,.slice Ao27 t460.length co27],.agg #[.slice Ao22 t451.length co22,.slice Ao25 t454.length co25,.slice Ao68 x468002_2.length co68,.slice Ao34 t464.length co34]] (by rfl) rfl rfl ar_ ?_
          with_reducible refine (tree_Same.calls k2 _ _ t451 _ _ t454 _ _ t457 _ _ t460 _ _ t451 _ _ t454 _ _ x468002_2 _ _ t464 true _ ?side1 ?side2 ?side3 ?side4 ?side5 ?side6 ?side7 ?side8 ?side9 ?side10 ?side11 ?side12 ?side13 ?side14 ?side15 ?side16 A60.out).mono ?_
          (case side1=>repeat (first|exact (Kd.N_reads' HO_464000.out).2.2|(with_reducible refine Kd.C_alloc ?_ _)|(with_reducible refine Kd.C_drewN ?_ _)|(with_reducible refine Kd.C_drew ?_)))
          (case side2=>exact (Kd.N_reads' HO_464000.out).2.1)
          (case side3=>repeat (first|exact (Kd.R_reads' HO_464001.out).2.2|(with_reducible refine Kd.C_alloc ?_ _)|(with_reducible refine Kd.C_drewN ?_ _)|(with_reducible refine Kd.C_drew ?_)))
          (case side4=>exact (Kd.R_reads' HO_464001.out).2.1)
          (case side5=>repeat (first|exact (Kd.N_reads' HO_464002.out).2.2|(with_reducible refine Kd.C_alloc ?_ _)|(with_reducible refine Kd.C_drewN ?_ _)|(with_reducible refine Kd.C_drew ?_)))
          (case side6=>exact (Kd.N_reads' HO_464002.out).2.1)
          (case side7=>repeat (first|exact (Kd.N_reads' HO_464003.out).2.2|(with_reducible refine Kd.C_alloc ?_ _)|(with_reducible refine Kd.C_drewN ?_ _)|(with_reducible refine Kd.C_drew ?_)))
          (case side8=>exact (Kd.N_reads' HO_464003.out).2.1)
          (case side9=>repeat (first|exact (Kd.N_reads' HO_468000.out).2.2|(with_reducible refine Kd.C_alloc ?_ _)|(with_reducible refine Kd.C_drewN ?_ _)|(with_reducible refine Kd.C_drew ?_)))
          (case side10=>exact (Kd.N_reads' HO_468000.out).2.1)
          (case side11=>repeat (first|exact (Kd.R_reads' HO_468001.out).2.2|(with_reducible refine Kd.C_alloc ?_ _)|(with_reducible refine Kd.C_drewN ?_ _)|(with_reducible refine Kd.C_drew ?_)))
          (case side12=>exact (Kd.R_reads' HO_468001.out).2.1)
          (case side13=>repeat (first|exact (Kd.N_reads' HO_468002.out).2.2|(with_reducible refine Kd.C_alloc ?_ _)|(with_reducible refine Kd.C_drewN ?_ _)|(with_reducible refine Kd.C_drew ?_)))
          (case side14=>exact (Kd.N_reads' HO_468002.out).2.1)
          (case side15=>repeat (first|exact (Kd.N_reads' HO_468003.out).2.2|(with_reducible refine Kd.C_alloc ?_ _)|(with_reducible refine Kd.C_drewN ?_ _)|(with_reducible refine Kd.C_drew ?_)))
          (case side16=>exact (Kd.N_reads' HO_468003.out).2.1)
          rintro e w69 ⟨rfl,hb⟩
          refine ⟨_,rfl,?_⟩
          have n0_:=Aside0.mk (Kd.N_below (by (with_reducible repeat (first|apply Kd.N_alloc|apply Kd.N_drewN|apply Kd.N_drew));exact HO_33.out) hb)
          have n1_:=Aside0.mk (Kd.N_below (by (with_reducible repeat (first|apply Kd.N_alloc|apply Kd.N_drewN|apply Kd.N_drew));exact HO_464000.out) hb)
          have n2_:=Aside0.mk (Kd.R_below (by (with_reducible repeat (first|apply Kd.R_alloc|apply Kd.R_drewN|apply Kd.R_drew));exact HO_464001.out) hb)
          have n3_:=Aside0.mk (Kd.N_below (by (with_reducible repeat (first|apply Kd.N_alloc|apply Kd.N_drewN|apply Kd.N_drew));exact HO_464002.out) hb)
          have n4_:=Aside0.mk (Kd.N_below (by (with_reducible repeat (first|apply Kd.N_alloc|apply Kd.N_drewN|apply Kd.N_drew));exact HO_464003.out) hb)
          have n5_:=Aside0.mk (Kd.N_below (by (with_reducible repeat (first|apply Kd.N_alloc|apply Kd.N_drewN|apply Kd.N_drew));exact HO_468000.out) hb)
          have n6_:=Aside0.mk (Kd.R_below (by (with_reducible repeat (first|apply Kd.R_alloc|apply Kd.R_drewN|apply Kd.R_drew));exact HO_468001.out) hb)
          have n7_:=Aside0.mk (Kd.N_below (by (with_reducible repeat (first|apply Kd.N_alloc|apply Kd.N_drewN|apply Kd.N_drew));exact HO_468002.out) hb)
          have n8_:=Aside0.mk (Kd.N_below (by (with_reducible repeat (first|apply Kd.N_alloc|apply Kd.N_drewN|apply Kd.N_drew));exact HO_468003.out) hb)
          have n9_:=Aside0.mk (bb_ BK448.out hb)
          have n10_:=Aside0.mk (bb_ BK463.out hb)
          have n11_:=Aside0.mk (bb_ BK467.out hb)
          have n12_:=Aside0.mk (below_step (bl_ HB.out) hb)
          clear HO_33
          clear HO_464000
          clear HO_464001
          clear HO_464002
          clear HO_464003
          clear HO_468000
          clear HO_468001
          clear HO_468002
          clear HO_468003
          clear BK448
          clear BK463
          clear BK467
          clear HB
          have HO_33:=n0_
          have HO_464000:=n1_
          have HO_464001:=n2_
          have HO_464002:=n3_
          have HO_464003:=n4_
          have HO_468000:=n5_
          have HO_468001:=n6_
          have HO_468002:=n7_
          have HO_468003:=n8_
          have BK448:=n9_
          have BK463:=n10_
          have BK467:=n11_
          have HB:=n12_
          clear n0_ n1_ n2_ n3_ n4_ n5_ n6_ n7_ n8_ n9_ n10_ n11_ n12_
          (try clear hb)
          (try clear hb2)
          (try clear hk)
          (try clear hi)
          refine hK.out _ _ ⟨zc_ BK463.out 0,zc_ BK463.out 1,zc_ BK463.out 2,zc_ BK463.out 3,zc_ BK467.out 0,zc_ BK467.out 1,zc_ BK467.out 2,zc_ BK467.out 3⟩ (fun hHeld=>?_)
          clear hK K
          refine norm_ (a':=?_) ?_ ?_
          rotate_left
          ·show Act.put _ (some 56) _=_
           simp only [Act.put,List.setIfInBounds_toArray,List.set_cons_zero,List.set_cons_succ,i64_w,i32_w]
           rfl
          refine pur_ 5 57 (flg 19 63) rfl rfl (any_of HT_.out (by kernel_rfl)) (fun _ _ _ h=>h) ?_
          refine pur_ 6 58 (flg 19 127) rfl rfl (any_of HT_.out (by kernel_rfl)) (fun _ _ _ h=>h) ?_
          refine tak_ 7 59 (flg 19 255) rfl rfl (take_ofW HT_.out HW_.out (by kernel_rfl)) (fun _ _ _ h=>h) hHeld ?_
          refine tak_ 8 60 (flg 19 511) rfl rfl (take_ofW HT_.out HW_.out (by kernel_rfl)) (fun _ _ _ h=>h) hHeld ?_
          refine one_ (i:=9) (N:=some 61) (flg 19 1023) rfl rfl (one_of HT_.out (by kernel_rfl)) (by decide) (fun K hK=>?_)
          refine goes_ Tryd.func28 (by kernel_rfl) rfl #[.agg #[.slice Ao22 t451.length co22,.slice Ao25 t454.length co25,.slice Ao26 t457.length co26,.slice Ao27 t460.length co27],.agg #[.slice Ao22 t451.length co22,.slice Ao25 t454.length co25,.slice Ao26 t457.length co26,.slice Ao27 t460.length co27]] (by rfl) rfl rfl ar_ ?_
          with_reducible refine (tree_Same.calls k2 _ _ t451 _ _ t454 _ _ t457 _ _ t460 _ _ t451 _ _ t454 _ _ t457 _ _ t460 true _ ?side1 ?side2 ?side3 ?side4 ?side5 ?side6 ?side7 ?side8 ?side9 ?side10 ?side11 ?side12 ?side13 ?side14 ?side15 ?side16 A62.out).mono ?_
          (case side1=>repeat (first|exact (Kd.N_reads' HO_464000.out).2.2|(with_reducible refine Kd.C_alloc ?_ _)|(with_reducible refine Kd.C_drewN ?_ _)|(with_reducible refine Kd.C_drew ?_)))
          (case side2=>exact (Kd.N_reads' HO_464000.out).2.1)
          (case side3=>repeat (first|exact (Kd.R_reads' HO_464001.out).2.2|(with_reducible refine Kd.C_alloc ?_ _)|(with_reducible refine Kd.C_drewN ?_ _)|(with_reducible refine Kd.C_drew ?_)))
          (case side4=>exact (Kd.R_reads' HO_464001.out).2.1)
          (case side5=>repeat (first|exact (Kd.N_reads' HO_464002.out).2.2|(with_reducible refine Kd.C_alloc ?_ _)|(with_reducible refine Kd.C_drewN ?_ _)|(with_reducible refine Kd.C_drew ?_)))
          (case side6=>exact (Kd.N_reads' HO_464002.out).2.1)
          (case side7=>repeat (first|exact (Kd.N_reads' HO_464003.out).2.2|(with_reducible refine Kd.C_alloc ?_ _)|(with_reducible refine Kd.C_drewN ?_ _)|(with_reducible refine Kd.C_drew ?_)))
          (case side8=>exact (Kd.N_reads' HO_464003.out).2.1)
          (case side9=>repeat (first|exact (Kd.N_reads' HO_464000.out).2.2|(with_reducible refine Kd.C_alloc ?_ _)|(with_reducible refine Kd.C_drewN ?_ _)|(with_reducible refine Kd.C_drew ?_)))
          (case side10=>exact (Kd.N_reads' HO_464000.out).2.1)
          (case side11=>repeat (first|exact (Kd.R_reads' HO_464001.out).2.2|(with_reducible refine Kd.C_alloc ?_ _)|(with_reducible refine Kd.C_drewN ?_ _)|(with_reducible refine Kd.C_drew ?_)))
          (case side12=>exact (Kd.R_reads' HO_464001.out).2.1)
          (case side13=>repeat (first|exact (Kd.N_reads' HO_464002.out).2.2|(with_reducible refine Kd.C_alloc ?_ _)|(with_reducible refine Kd.C_drewN ?_ _)|(with_reducible refine Kd.C_drew ?_)))
          (case side14=>exact (Kd.N_reads' HO_464002.out).2.1)
          (case side15=>repeat (first|exact (Kd.N_reads' HO_464003.out).2.2|(with_reducible refine Kd.C_alloc ?_ _)|(with_reducible refine Kd.C_drewN ?_ _)|(with_reducible refine Kd.C_drew ?_)))
          (case side16=>exact (Kd.N_reads' HO_464003.out).2.1)
          rintro e w70 ⟨rfl,hb⟩
          refine ⟨_,rfl,?_⟩
          have n0_:=Aside0.mk (Kd.N_below (by (with_reducible repeat (first|apply Kd.N_alloc|apply Kd.N_drewN|apply Kd.N_drew));exact HO_33.out) hb)
          have n1_:=Aside0.mk (Kd.N_below (by (with_reducible repeat (first|apply Kd.N_alloc|apply Kd.N_drewN|apply Kd.N_drew));exact HO_464000.out) hb)
          have n2_:=Aside0.mk (Kd.R_below (by (with_reducible repeat (first|apply Kd.R_alloc|apply Kd.R_drewN|apply Kd.R_drew));exact HO_464001.out) hb)
          have n3_:=Aside0.mk (Kd.N_below (by (with_reducible repeat (first|apply Kd.N_alloc|apply Kd.N_drewN|apply Kd.N_drew));exact HO_464002.out) hb)
          have n4_:=Aside0.mk (Kd.N_below (by (with_reducible repeat (first|apply Kd.N_alloc|apply Kd.N_drewN|apply Kd.N_drew));exact HO_464003.out) hb)
          have n5_:=Aside0.mk (Kd.N_below (by (with_reducible repeat (first|apply Kd.N_alloc|apply Kd.N_drewN|apply Kd.N_drew));exact HO_468000.out) hb)
          have n6_:=Aside0.mk (Kd.R_below (by (with_reducible repeat (first|apply Kd.R_alloc|apply Kd.R_drewN|apply Kd.R_drew));exact HO_468001.out) hb)
          have n7_:=Aside0.mk (Kd.N_below (by (with_reducible repeat (first|apply Kd.N_alloc|apply Kd.N_drewN|apply Kd.N_drew));exact HO_468002.out) hb)
          have n8_:=Aside0.mk (Kd.N_below (by (with_reducible repeat (first|apply Kd.N_alloc|apply Kd.N_drewN|apply Kd.N_drew));exact HO_468003.out) hb)
          have n9_:=Aside0.mk (bb_ BK448.out hb)
          have n10_:=Aside0.mk (bb_ BK463.out hb)
          have n11_:=Aside0.mk (bb_ BK467.out hb)
          have n12_:=Aside0.mk (below_step (bl_ HB.out) hb)
          clear HO_33
          clear HO_464000
          clear HO_464001
          clear HO_464002
          clear HO_464003
          clear HO_468000
          clear HO_468001
          clear HO_468002
          clear HO_468003
          clear BK448
          clear BK463
          clear BK467
          clear HB
          have HO_33:=n0_
          have HO_464000:=n1_
          have HO_464001:=n2_
          have HO_464002:=n3_
          have HO_464003:=n4_
          have HO_468000:=n5_
          have HO_468001:=n6_
          have HO_468002:=n7_
          have HO_468003:=n8_
          have BK448:=n9_
          have BK463:=n10_
          have BK467:=n11_
          have HB:=n12_
          clear n0_ n1_ n2_ n3_ n4_ n5_ n6_ n7_ n8_ n9_ n10_ n11_ n12_
          (try clear hb)
          (try clear hb2)
          (try clear hk)
          (try clear hi)
          refine hK.out _ _ ⟨zc_ BK463.out 0,zc_ BK463.out 1,zc_ BK463.out 2,zc_ BK463.out 3,zc_ BK467.out 0,zc_ BK467.out 1,zc_ BK467.out 2,zc_ BK467.out 3⟩ (fun hHeld=>?_)
          clear hK K
          refine norm_ (a':=?_) ?_ ?_
          rotate_left
          ·show Act.put _ (some 61) _=_
           simp only [Act.put,List.setIfInBounds_toArray,List.set_cons_zero,List.set_cons_succ,i64_w,i32_w]
           rfl
          refine pur_ 10 62 (flg 19 2047) rfl rfl (any_of HT_.out (by kernel_rfl)) (fun _ _ _ h=>h) ?_
          refine pur_ 11 63 (flg 19 4095) rfl rfl (any_of HT_.out (by kernel_rfl)) (fun _ _ _ h=>h) ?_
          refine tak_ 12 64 (flg 19 8191) rfl rfl (take_ofW HT_.out HW_.out (by kernel_rfl)) (fun _ _ _ h=>h) hHeld ?_
          refine tak_ 14 66 (flg 19 24575) rfl rfl (take_ofW HT_.out HW_.out (by kernel_rfl)) (fun _ _ _ h=>h) hHeld ?_
          refine one_ (i:=13) (N:=some 65) (flg 19 32767) rfl rfl (one_of HT_.out (by kernel_rfl)) (by decide) (fun K hK=>?_)
          refine goes_ Tryd.func22 (by kernel_rfl) rfl #[.agg #[.slice Ao22 t451.length co22,.slice Ao25 t454.length co25,.slice Ao26 t457.length co26,.slice Ao27 t460.length co27]] (by rfl) rfl rfl ar_ ?_
          with_reducible refine (tree_Print.calls _ _ t451 _ _ t454 _ _ t457 _ _ t460 t479 _ ?side1 ?side2 ?side3 ?side4 ?side5 ?side6 ?side7 ?side8 ?side9 A64.out).mono ?_
          (case side1=>exact hT.later (bl_ HB.out))
          (case side2=>repeat (first|exact (Kd.N_reads' HO_464000.out).2.2|(with_reducible refine Kd.C_alloc ?_ _)|(with_reducible refine Kd.C_drewN ?_ _)|(with_reducible refine Kd.C_drew ?_)))
          (case side3=>exact (Kd.N_reads' HO_464000.out).2.1)
          (case side4=>repeat (first|exact (Kd.R_reads' HO_464001.out).2.2|(with_reducible refine Kd.C_alloc ?_ _)|(with_reducible refine Kd.C_drewN ?_ _)|(with_reducible refine Kd.C_drew ?_)))
          (case side5=>exact (Kd.R_reads' HO_464001.out).2.1)
          (case side6=>repeat (first|exact (Kd.N_reads' HO_464002.out).2.2|(with_reducible refine Kd.C_alloc ?_ _)|(with_reducible refine Kd.C_drewN ?_ _)|(with_reducible refine Kd.C_drew ?_)))
          (case side7=>exact (Kd.N_reads' HO_464002.out).2.1)
          (case side8=>repeat (first|exact (Kd.N_reads' HO_464003.out).2.2|(with_reducible refine Kd.C_alloc ?_ _)|(with_reducible refine Kd.C_drewN ?_ _)|(with_reducible refine Kd.C_drew ?_)))
          (case side9=>exact (Kd.N_reads' HO_464003.out).2.1)
          rintro e w71 ⟨rfl,hb⟩
          refine ⟨_,rfl,?_⟩
          have n0_:=Aside0.mk (Kd.N_below (by (with_reducible repeat (first|apply Kd.N_alloc|apply Kd.N_drewN|apply Kd.N_drew));exact HO_33.out) hb)
          have n1_:=Aside0.mk (Kd.N_below (by (with_reducible repeat (first|apply Kd.N_alloc|apply Kd.N_drewN|apply Kd.N_drew));exact HO_464000.out) hb)
          have n2_:=Aside0.mk (Kd.R_below (by (with_reducible repeat (first|apply Kd.R_alloc|apply Kd.R_drewN|apply Kd.R_drew));exact HO_464001.out) hb)
          have n3_:=Aside0.mk (Kd.N_below (by (with_reducible repeat (first|apply Kd.N_alloc|apply Kd.N_drewN|apply Kd.N_drew));exact HO_464002.out) hb)
          have n4_:=Aside0.mk (Kd.N_below (by (with_reducible repeat (first|apply Kd.N_alloc|apply Kd.N_drewN|apply Kd.N_drew));exact HO_464003.out) hb)
          have n5_:=Aside0.mk (Kd.N_below (by (with_reducible repeat (first|apply Kd.N_alloc|apply Kd.N_drewN|apply Kd.N_drew));exact HO_468000.out) hb)
          have n6_:=Aside0.mk (Kd.R_below (by (with_reducible repeat (first|apply Kd.R_alloc|apply Kd.R_drewN|apply Kd.R_drew));exact HO_468001.out) hb)
          have n7_:=Aside0.mk (Kd.N_below (by (with_reducible repeat (first|apply Kd.N_alloc|apply Kd.N_drewN|apply Kd.N_drew));exact HO_468002.out) hb)
          have n8_:=Aside0.mk (Kd.N_below (by (with_reducible repeat (first|apply Kd.N_alloc|apply Kd.N_drewN|apply Kd.N_drew));exact HO_468003.out) hb)
          have n9_:=Aside0.mk (bb_ BK448.out hb)
          have n10_:=Aside0.mk (bb_ BK463.out hb)
          have n11_:=Aside0.mk (bb_ BK467.out hb)
          have n12_:=Aside0.mk (below_step (bl_ HB.out) hb)
          clear HO_33
          clear HO_464000
          clear HO_464001
          clear HO_464002
          clear HO_464003
          clear HO_468000
          clear HO_468001
          clear HO_468002
          clear HO_468003
          clear BK448
          clear BK463
          clear BK467
          clear HB
          have HO_33:=n0_
          have HO_464000:=n1_
          have HO_464001:=n2_
          have HO_464002:=n3_
          have HO_464003:=n4_
          have HO_468000:=n5_
          have HO_468001:=n6_
          have HO_468002:=n7_
          have HO_468003:=n8_
          have BK448:=n9_
          have BK463:=n10_
          have BK467:=n11_
          have HB:=n12_
          clear n0_ n1_ n2_ n3_ n4_ n5_ n6_ n7_ n8_ n9_ n10_ n11_ n12_
          (try clear hb)
          (try clear hb2)
          (try clear hk)
          (try clear hi)
          refine hK.out _ _ ⟨zc_ BK463.out 0,zc_ BK463.out 1,zc_ BK463.out 2,zc_ BK463.out 3,zc_ BK467.out 0,zc_ BK467.out 1,zc_ BK467.out 2,zc_ BK467.out 3⟩ (fun hHeld=>?_)
          clear hK K
          refine norm_ (a':=?_) ?_ ?_
          rotate_left
          ·show Act.put _ (some 65) _=_
           simp only [Act.put,List.setIfInBounds_toArray,List.set_cons_zero,List.set_cons_succ,i64_w,i32_w]
           rfl
          refine one_ (i:=15) (N:=some 67) (flg 19 65535) rfl rfl (one_of HT_.out (by kernel_rfl)) (by decide) (fun K hK=>?_)
          refine goes_ Tryd.func22 (by kernel_rfl) rfl #[.agg #[.slice Ao22 t451.length co22,.slice Ao25 t454.length co25,.slice Ao68 x468002_2.length co68,.slice Ao34 t464.length co34]] (by rfl) rfl rfl ar_ ?_
          with_reducible refine (tree_Print.calls _ _ t451 _ _ t454 _ _ x468002_2 _ _ t464 t480 _ ?side1 ?side2 ?side3 ?side4 ?side5 ?side6 ?side7 ?side8 ?side9 A65.out).mono ?_
          (case side1=>exact hT.later (bl_ HB.out))
          (case side2=>repeat (first|exact (Kd.N_reads' HO_468000.out).2.2|(with_reducible refine Kd.C_alloc ?_ _)|(with_reducible refine Kd.C_drewN ?_ _)|(with_reducible refine Kd.C_drew ?_)))
          (case side3=>exact (Kd.N_reads' HO_468000.out).2.1)
          (case side4=>repeat (first|exact (Kd.R_reads' HO_468001.out).2.2|(with_reducible refine Kd.C_alloc ?_ _)|(with_reducible refine Kd.C_drewN ?_ _)|(with_reducible refine Kd.C_drew ?_)))
          (case side5=>exact (Kd.R_reads' HO_468001.out).2.1)
          (case side6=>repeat (first|exact (Kd.N_reads' HO_468002.out).2.2|(with_reducible refine Kd.C_alloc ?_ _)|(with_reducible refine Kd.C_drewN ?_ _)|(with_reducible refine Kd.C_drew ?_)))
          (case side7=>exact (Kd.N_reads' HO_468002.out).2.1)
          (case side8=>repeat (first|exact (Kd.N_reads' HO_468003.out).2.2|(with_reducible refine Kd.C_alloc ?_ _)|(with_reducible refine Kd.C_drewN ?_ _)|(with_reducible refine Kd.C_drew ?_)))
          (case side9=>exact (Kd.N_reads' HO_468003.out).2.1)
          rintro e w72 ⟨rfl,hb⟩
          refine ⟨_,rfl,?_⟩
          have n0_:=Aside0.mk (Kd.N_below (by (with_reducible repeat (first|apply Kd.N_alloc|apply Kd.N_drewN|apply Kd.N_drew));exact HO_33.out) hb)
          have n1_:=Aside0.mk (Kd.N_below (by (with_reducible repeat (first|apply Kd.N_alloc|apply Kd.N_drewN|apply Kd.N_drew));exact HO_464000.out) hb)
          have n2_:=Aside0.mk (Kd.R_below (by (with_reducible repeat (first|apply Kd.R_alloc|apply Kd.R_drewN|apply Kd.R_drew));exact HO_464001.out) hb)
          have n3_:=Aside0.mk (Kd.N_below (by (with_reducible repeat (first|apply Kd.N_alloc|apply Kd.N_drewN|apply Kd.N_drew));exact HO_464002.out) hb)
          have n4_:=Aside0.mk (Kd.N_below (by (with_reducible repeat (first|apply Kd.N_alloc|apply Kd.N_drewN|apply Kd.N_drew));exact HO_464003.out) hb)
          have n5_:=Aside0.mk (Kd.N_below (by (with_reducible repeat (first|apply Kd.N_alloc|apply Kd.N_drewN|apply Kd.N_drew));exact HO_468000.out) hb)
          have n6_:=Aside0.mk (Kd.R_below (by (with_reducible repeat (first|apply Kd.R_alloc|apply Kd.R_drewN|apply Kd.R_drew));exact HO_468001.out) hb)
          have n7_:=Aside0.mk (Kd.N_below (by (with_reducible repeat (first|apply Kd.N_alloc|apply Kd.N_drewN|apply Kd.N_drew));exact HO_468002.out) hb)
          have n8_:=Aside0.mk (Kd.N_below (by (with_reducible repeat (first|apply Kd.N_alloc|apply Kd.N_drewN|apply Kd.N_drew));exact HO_468003.out) hb)
          have n9_:=Aside0.mk (bb_ BK448.out hb)
          have n10_:=Aside0.mk (bb_ BK463.out hb)
          have n11_:=Aside0.mk (bb_ BK467.out hb)
          have n12_:=Aside0.mk (below_step (bl_ HB.out) hb)
          clear HO_33
          clear HO_464000
          clear HO_464001
          clear HO_464002
          clear HO_464003
          clear HO_468000
          clear HO_468001
          clear HO_468002
          clear HO_468003
          clear BK448
          clear BK463
          clear BK467
          clear HB
          have HO_33:=n0_
          have HO_464000:=n1_
          have HO_464001:=n2_
          have HO_464002:=n3_
          have HO_464003:=n4_
          have HO_468000:=n5_
          have HO_468001:=n6_
          have HO_468002:=n7_
          have HO_468003:=n8_
          have BK448:=n9_
          have BK463:=n10_
          have BK467:=n11_
          have HB:=n12_
          clear n0_ n1_ n2_ n3_ n4_ n5_ n6_ n7_ n8_ n9_ n10_ n11_ n12_
          (try clear hb)
          (try clear hb2)
          (try clear hk)
          (try clear hi)
          refine hK.out _ _ ⟨zc_ BK463.out 0,zc_ BK463.out 1,zc_ BK463.out 2,zc_ BK463.out 3,zc_ BK467.out 0,zc_ BK467.out 1,zc_ BK467.out 2,zc_ BK467.out 3⟩ (fun hHeld=>?_)
          clear hK K
          refine norm_ (a':=?_) ?_ ?_
          rotate_left
          ·show Act.put _ (some 67) _=_
           simp only [Act.put,List.setIfInBounds_toArray,List.set_cons_zero,List.set_cons_succ,i64_w,i32_w]
           rfl
          refine pur_ 16 68 (flg 19 131071) rfl rfl (any_of HT_.out (by kernel_rfl)) (fun _ _ _ h=>h) ?_
          refine pur_ 17 69 (flg 19 262143) rfl rfl (any_of HT_.out (by kernel_rfl)) (fun _ _ _ h=>h) ?_
          refine pur_ 18 4 (flg 19 524287) rfl rfl (any_of HT_.out (by kernel_rfl)) (fun _ _ _ h=>h) ?_
          refine done_ (done_of HT_.out (by kernel_rfl)) ?_
          try go_wp2
          go_ret
          exact ⟨rt_,bl_ HB.out⟩
         ·replace c63:=Bool.eq_false_iff.mpr c63
          subst c63
          have H1:(some false)=some r:=by rw [if_neg (show ¬ (false=true) by decide)] at H;exact H
          clear H
          have H:=H1
          clear H1
          obtain rfl:=Option.some.inj H
          try go_wp2
          have n0_:=Aside0.mk (Kd.N_drew HO_33.out)
          have n1_:=Aside0.mk (Kd.N_drew HO_464000.out)
          have n2_:=Aside0.mk (Kd.R_drew HO_464001.out)
          have n3_:=Aside0.mk (Kd.N_drew HO_464002.out)
          have n4_:=Aside0.mk (Kd.N_drew HO_464003.out)
          have n5_:=Aside0.mk (Kd.N_drew HO_468000.out)
          have n6_:=Aside0.mk (Kd.R_drew HO_468001.out)
          have n7_:=Aside0.mk (Kd.N_drew HO_468002.out)
          have n8_:=Aside0.mk (Kd.N_drew HO_468003.out)
          have n9_:=Aside0.mk (blk_drew BK448.out)
          have n10_:=Aside0.mk (blk_drew BK463.out)
          have n11_:=Aside0.mk (blk_drew BK467.out)
          have n12_:=Aside0.mk (below_drew1 HB.out)
          clear HO_33
          clear HO_464000
          clear HO_464001
          clear HO_464002
          clear HO_464003
          clear HO_468000
          clear HO_468001
          clear HO_468002
          clear HO_468003
          clear BK448
          clear BK463
          clear BK467
          clear HB
          have HO_33:=n0_
          have HO_464000:=n1_
          have HO_464001:=n2_
          have HO_464002:=n3_
          have HO_464003:=n4_
          have HO_468000:=n5_
          have HO_468001:=n6_
          have HO_468002:=n7_
          have HO_468003:=n8_
          have BK448:=n9_
          have BK463:=n10_
          have BK467:=n11_
          have HB:=n12_
          clear n0_ n1_ n2_ n3_ n4_ n5_ n6_ n7_ n8_ n9_ n10_ n11_ n12_
          refine start_ (n:=19) (S:=fun w'=>w'.cell? ⟨gb463,0,none⟩=some (.slice Ao22 t451.length co22)∧w'.cell? ⟨gb463,1,none⟩=some (.slice Ao25 t454.length co25)∧w'.cell? ⟨gb463,2,none⟩=some (.slice Ao26 t457.length co26)∧w'.cell? ⟨gb463,3,none⟩=some (.slice Ao27 t460.length co27)∧w'.cell? ⟨gb467,0,none⟩=some (.slice Ao22 t451.length co22)∧w'.cell? ⟨gb467,1,none⟩=some (.slice Ao25 t454.length co25)∧w'.cell? ⟨gb467,2,none⟩=some (u468002)∧w'.cell? ⟨gb467,3,none⟩=some (.slice Ao34 t464.length co34)) (ds:=[]) (flg 19 0) (by kernel_rfl) rfl (by kernel_rfl) ⟨zc_ BK463.out 0,zc_ BK463.out 1,zc_ BK463.out 2,zc_ BK463.out 3,zc_ BK467.out 0,zc_ BK467.out 1,zc_ BK467.out 2,zc_ BK467.out 3⟩ (fun hHeld=>?_);refine with_tabW helmsmanlaw12_TreePlaces.tab10 helmsmanlaw12_TreePlaces.bits10 (fun HT_ HW_=>?_)
          generalize wr.drew=w73 at HO_33 HO_464000 HO_464001 HO_464002 HO_464003 HO_468000 HO_468001 HO_468002 HO_468003 BK448 BK463 BK467 HB hHeld ⊢
          refine one_ (i:=0) (N:=some 52) (flg 19 1) rfl rfl (one_of HT_.out (by kernel_rfl)) (by decide) (fun K hK=>?_)
          refine goes_ Tryd.func10 (by kernel_rfl) rfl #[] (by rfl) rfl rfl ar_ ?_
          with_reducible refine (helmsmanlaw12_alive.calls  true _ ?side1 A58.out).mono ?_
          (case side1=>exact hT.later (bl_ HB.out))
          rintro e w74 ⟨rfl,hb⟩
          refine ⟨_,rfl,?_⟩
          have n0_:=Aside0.mk (Kd.N_below (by (with_reducible repeat (first|apply Kd.N_alloc|apply Kd.N_drewN|apply Kd.N_drew));exact HO_33.out) hb)
          have n1_:=Aside0.mk (Kd.N_below (by (with_reducible repeat (first|apply Kd.N_alloc|apply Kd.N_drewN|apply Kd.N_drew));exact HO_464000.out) hb)
          have n2_:=Aside0.mk (Kd.R_below (by (with_reducible repeat (first|apply Kd.R_alloc|apply Kd.R_drewN|apply Kd.R_drew));exact HO_464001.out) hb)
          have n3_:=Aside0.mk (Kd.N_below (by (with_reducible repeat (first|apply Kd.N_alloc|apply Kd.N_drewN|apply Kd.N_drew));exact HO_464002.out) hb)
          have n4_:=Aside0.mk (Kd.N_below (by (with_reducible repeat (first|apply Kd.N_alloc|apply Kd.N_drewN|apply Kd.N_drew));exact HO_464003.out) hb)
          have n5_:=Aside0.mk (Kd.N_below (by (with_reducible repeat (first|apply Kd.N_alloc|apply Kd.N_drewN|apply Kd.N_drew));exact HO_468000.out) hb)
          have n6_:=Aside0.mk (Kd.R_below (by (with_reducible repeat (first|apply Kd.R_alloc|apply Kd.R_drewN|apply Kd.R_drew));exact HO_468001.out) hb)
          have n7_:=Aside0.mk (Kd.N_below (by (with_reducible repeat (first|apply Kd.N_alloc|apply Kd.N_drewN|apply Kd.N_drew));exact HO_468002.out) hb)
          have n8_:=Aside0.mk (Kd.N_below (by (with_reducible repeat (first|apply Kd.N_alloc|apply Kd.N_drewN|apply Kd.N_drew));exact HO_468003.out) hb)
          have n9_:=Aside0.mk (bb_ BK448.out hb)
          have n10_:=Aside0.mk (bb_ BK463.out hb)
          have n11_:=Aside0.mk (bb_ BK467.out hb)
          have n12_:=Aside0.mk (below_step (bl_ HB.out) hb)
          clear HO_33
          clear HO_464000
          clear HO_464001
          clear HO_464002
          clear HO_464003
          clear HO_468000
          clear HO_468001
          clear HO_468002
          clear HO_468003
          clear BK448
          clear BK463
          clear BK467
          clear HB
          have HO_33:=n0_
          have HO_464000:=n1_
          have HO_464001:=n2_
          have HO_464002:=n3_
          have HO_464003:=n4_
          have HO_468000:=n5_
          have HO_468001:=n6_
          have HO_468002:=n7_
          have HO_468003:=n8_
          have BK448:=n9_
          have BK463:=n10_
          have BK467:=n11_
          have HB:=n12_
          clear n0_ n1_ n2_ n3_ n4_ n5_ n6_ n7_ n8_ n9_ n10_ n11_ n12_
          (try clear hb)
          (try clear hb2)
          (try clear hk)
          (try clear hi)
          obtain ⟨Ao75,co75,eo75⟩:=Kd.N_slice HO_468002.out
          (first|subst eo75|(injection eo75 with f1_ f2_ f3_;have f4_:=f1_.symm;have f5_:=f3_.symm;clear f1_ f2_ f3_;subst f4_;subst f5_))
          refine hK.out _ _ ⟨zc_ BK463.out 0,zc_ BK463.out 1,zc_ BK463.out 2,zc_ BK463.out 3,zc_ BK467.out 0,zc_ BK467.out 1,zc_ BK467.out 2,zc_ BK467.out 3⟩ (fun hHeld=>?_)
          clear hK K
          refine norm_ (a':=?_) ?_ ?_
          rotate_left
          ·show Act.put _ (some 52) _=_
           simp only [Act.put,List.setIfInBounds_toArray,List.set_cons_zero,List.set_cons_succ,i64_w,i32_w]
           rfl
          refine pur_ 1 53 (flg 19 3) rfl rfl (any_of HT_.out (by kernel_rfl)) (fun _ _ _ h=>h) ?_
          refine tak_ 2 54 (flg 19 7) rfl rfl (take_ofW HT_.out HW_.out (by kernel_rfl)) (fun _ _ _ h=>h) hHeld ?_
          refine tak_ 3 55 (flg 19 15) rfl rfl (take_ofW HT_.out HW_.out (by kernel_rfl)) (fun _ _ _ h=>h) hHeld ?_
          refine one_ (i:=4) (N:=some 56) (flg 19 31) rfl rfl (one_of HT_.out (by kernel_rfl)) (by decide) (fun K hK=>?_)
          refine goes_ Tryd.func28 (by kernel_rfl) rfl #[.agg #[.slice Ao22 t451.length co22,.slice Ao25 t454.length co25,.slice Ao26 t457.length co26,.slice Ao27 t460.length co27],.agg #[.slice Ao22 t451.length co22,.slice Ao25 t454.length co25,.slice Ao75 x468002_2.length co75,.slice Ao34 t464.length co34]] (by rfl) rfl rfl ar_ ?_
          with_reducible refine (tree_Same.calls k2 _ _ t451 _ _ t454 _ _ t457 _ _ t460 _ _ t451 _ _ t454 _ _ x468002_2 _ _ t464 true _ ?side1 ?side2 ?side3 ?side4 ?side5 ?side6 ?side7 ?side8 ?side9 ?side10 ?side11 ?side12 ?side13 ?side14 ?side15 ?side16 A60.out).mono ?_
          (case side1=>repeat (first|exact (Kd.N_reads' HO_464000.out).2.2|(with_reducible refine Kd.C_alloc ?_ _)|(with_reducible refine Kd.C_drewN ?_ _)|(with_reducible refine Kd.C_drew ?_)))
          (case side2=>exact (Kd.N_reads' HO_464000.out).2.1)
          (case side3=>repeat (first|exact (Kd.R_reads' HO_464001.out).2.2|(with_reducible refine Kd.C_alloc ?_ _)|(with_reducible refine Kd.C_drewN ?_ _)|(with_reducible refine Kd.C_drew ?_)))
          (case side4=>exact (Kd.R_reads' HO_464001.out).2.1)
          (case side5=>repeat (first|exact (Kd.N_reads' HO_464002.out).2.2|(with_reducible refine Kd.C_alloc ?_ _)|(with_reducible refine Kd.C_drewN ?_ _)|(with_reducible refine Kd.C_drew ?_)))
          (case side6=>exact (Kd.N_reads' HO_464002.out).2.1)
          (case side7=>repeat (first|exact (Kd.N_reads' HO_464003.out).2.2|(with_reducible refine Kd.C_alloc ?_ _)|(with_reducible refine Kd.C_drewN ?_ _)|(with_reducible refine Kd.C_drew ?_)))
          (case side8=>exact (Kd.N_reads' HO_464003.out).2.1)
          (case side9=>repeat (first|exact (Kd.N_reads' HO_468000.out).2.2|(with_reducible refine Kd.C_alloc ?_ _)|(with_reducible refine Kd.C_drewN ?_ _)|(with_reducible refine Kd.C_drew ?_)))
          (case side10=>exact (Kd.N_reads' HO_468000.out).2.1)
          (case side11=>repeat (first|exact (Kd.R_reads' HO_468001.out).2.2|(with_reducible refine Kd.C_alloc ?_ _)|(with_reducible refine Kd.C_drewN ?_ _)|(with_reducible refine Kd.C_drew ?_)))
          (case side12=>exact (Kd.R_reads' HO_468001.out).2.1)
          (case side13=>repeat (first|exact (Kd.N_reads' HO_468002.out).2.2|(with_reducible refine Kd.C_alloc ?_ _)|(with_reducible refine Kd.C_drewN ?_ _)|(with_reducible refine Kd.C_drew ?_)))
          (case side14=>exact (Kd.N_reads' HO_468002.out).2.1)
          (case side15=>repeat (first|exact (Kd.N_reads' HO_468003.out).2.2|(with_reducible refine Kd.C_alloc ?_ _)|(with_reducible refine Kd.C_drewN ?_ _)|(with_reducible refine Kd.C_drew ?_)))
          (case side16=>exact (Kd.N_reads' HO_468003.out).2.1)
          rintro e w76 ⟨rfl,hb⟩
          refine ⟨_,rfl,?_⟩
          have n0_:=Aside0.mk (Kd.N_below (by (with_reducible repeat (first|apply Kd.N_alloc|apply Kd.N_drewN|apply Kd.N_drew));exact HO_33.out) hb)
          have n1_:=Aside0.mk (Kd.N_below (by (with_reducible repeat (first|apply Kd.N_alloc|apply Kd.N_drewN|apply Kd.N_drew));exact HO_464000.out) hb)
          have n2_:=Aside0.mk (Kd.R_below (by (with_reducible repeat (first|apply Kd.R_alloc|apply Kd.R_drewN|apply Kd.R_drew));exact HO_464001.out) hb)
          have n3_:=Aside0.mk (Kd.N_below (by (with_reducible repeat (first|apply Kd.N_alloc|apply Kd.N_drewN|apply Kd.N_drew));exact HO_464002.out) hb)
          have n4_:=Aside0.mk (Kd.N_below (by (with_reducible repeat (first|apply Kd.N_alloc|apply Kd.N_drewN|apply Kd.N_drew));exact HO_464003.out) hb)
          have n5_:=Aside0.mk (Kd.N_below (by (with_reducible repeat (first|apply Kd.N_alloc|apply Kd.N_drewN|apply Kd.N_drew));exact HO_468000.out) hb)
          have n6_:=Aside0.mk (Kd.R_below (by (with_reducible repeat (first|apply Kd.R_alloc|apply Kd.R_drewN|apply Kd.R_drew));exact HO_468001.out) hb)
          have n7_:=Aside0.mk (Kd.N_below (by (with_reducible repeat (first|apply Kd.N_alloc|apply Kd.N_drewN|apply Kd.N_drew));exact HO_468002.out) hb)
          have n8_:=Aside0.mk (Kd.N_below (by (with_reducible repeat (first|apply Kd.N_alloc|apply Kd.N_drewN|apply Kd.N_drew));exact HO_468003.out) hb)
          have n9_:=Aside0.mk (bb_ BK448.out hb)
          have n10_:=Aside0.mk (bb_ BK463.out hb)
          have n11_:=Aside0.mk (bb_ BK467.out hb)
          have n12_:=Aside0.mk (below_step (bl_ HB.out) hb)
          clear HO_33
          clear HO_464000
          clear HO_464001
          clear HO_464002
          clear HO_464003
          clear HO_468000
          clear HO_468001
          clear HO_468002
          clear HO_468003
          clear BK448
          clear BK463
          clear BK467
          clear HB
          have HO_33:=n0_
          have HO_464000:=n1_
          have HO_464001:=n2_
          have HO_464002:=n3_
          have HO_464003:=n4_
          have HO_468000:=n5_
          have HO_468001:=n6_
          have HO_468002:=n7_
          have HO_468003:=n8_
          have BK448:=n9_
          have BK463:=n10_
          have BK467:=n11_
          have HB:=n12_
          clear n0_ n1_ n2_ n3_ n4_ n5_ n6_ n7_ n8_ n9_ n10_ n11_ n12_
          (try clear hb)
          (try clear hb2)
          (try clear hk)
          (try clear hi)
          refine hK.out _ _ ⟨zc_ BK463.out 0,zc_ BK463.out 1,zc_ BK463.out 2,zc_ BK463.out 3,zc_ BK467.out 0,zc_ BK467.out 1,zc_ BK467.out 2,zc_ BK467.out 3⟩ (fun hHeld=>?_)
          clear hK K
          refine norm_ (a':=?_) ?_ ?_
          rotate_left
          ·show Act.put _ (some 56) _=_
           simp only [Act.put,List.setIfInBounds_toArray,List.set_cons_zero,List.set_cons_succ,i64_w,i32_w]
           rfl
          refine pur_ 5 57 (flg 19 63) rfl rfl (any_of HT_.out (by kernel_rfl)) (fun _ _ _ h=>h) ?_
          refine pur_ 6 58 (flg 19 127) rfl rfl (any_of HT_.out (by kernel_rfl)) (fun _ _ _ h=>h) ?_
          refine tak_ 7 59 (flg 19 255) rfl rfl (take_ofW HT_.out HW_.out (by kernel_rfl)) (fun _ _ _ h=>h) hHeld ?_
          refine tak_ 8 60 (flg 19 511) rfl rfl (take_ofW HT_.out HW_.out (by kernel_rfl)) (fun _ _ _ h=>h) hHeld ?_
          refine one_ (i:=9) (N:=some 61) (flg 19 1023) rfl rfl (one_of HT_.out (by kernel_rfl)) (by decide) (fun K hK=>?_)
          refine goes_ Tryd.func28 (by kernel_rfl) rfl #[.agg #[.slice Ao22 t451.length co22,.slice Ao25 t454.length co25,.slice Ao26 t457.length co26,.slice Ao27 t460.length co27],.agg #[.slice Ao22 t451.length co22,.slice Ao25 t454.length co25,.slice Ao26 t457.length co26,.slice Ao27 t460.length co27]] (by rfl) rfl rfl ar_ ?_
          with_reducible refine (tree_Same.calls k2 _ _ t451 _ _ t454 _ _ t457 _ _ t460 _ _ t451 _ _ t454 _ _ t457 _ _ t460 false _ ?side1 ?side2 ?side3 ?side4 ?side5 ?side6 ?side7 ?side8 ?side9 ?side10 ?side11 ?side12 ?side13 ?side14 ?side15 ?side16 A62.out).mono ?_
          (case side1=>repeat (first|exact (Kd.N_reads' HO_464000.out).2.2|(with_reducible refine Kd.C_alloc ?_ _)|(with_reducible refine Kd.C_drewN ?_ _)|(with_reducible refine Kd.C_drew ?_)))
          (case side2=>exact (Kd.N_reads' HO_464000.out).2.1)
          (case side3=>repeat (first|exact (Kd.R_reads' HO_464001.out).2.2|(with_reducible refine Kd.C_alloc ?_ _)|(with_reducible refine Kd.C_drewN ?_ _)|(with_reducible refine Kd.C_drew ?_)))
          (case side4=>exact (Kd.R_reads' HO_464001.out).2.1)
          (case side5=>repeat (first|exact (Kd.N_reads' HO_464002.out).2.2|(with_reducible refine Kd.C_alloc ?_ _)|(with_reducible refine Kd.C_drewN ?_ _)|(with_reducible refine Kd.C_drew ?_)))
          (case side6=>exact (Kd.N_reads' HO_464002.out).2.1)
          (case side7=>repeat (first|exact (Kd.N_reads' HO_464003.out).2.2|(with_reducible refine Kd.C_alloc ?_ _)|(with_reducible refine Kd.C_drewN ?_ _)|(with_reducible refine Kd.C_drew ?_)))
          (case side8=>exact (Kd.N_reads' HO_464003.out).2.1)
          (case side9=>repeat (first|exact (Kd.N_reads' HO_464000.out).2.2|(with_reducible refine Kd.C_alloc ?_ _)|(with_reducible refine Kd.C_drewN ?_ _)|(with_reducible refine Kd.C_drew ?_)))
          (case side10=>exact (Kd.N_reads' HO_464000.out).2.1)
          (case side11=>repeat (first|exact (Kd.R_reads' HO_464001.out).2.2|(with_reducible refine Kd.C_alloc ?_ _)|(with_reducible refine Kd.C_drewN ?_ _)|(with_reducible refine Kd.C_drew ?_)))
          (case side12=>exact (Kd.R_reads' HO_464001.out).2.1)
          (case side13=>repeat (first|exact (Kd.N_reads' HO_464002.out).2.2|(with_reducible refine Kd.C_alloc ?_ _)|(with_reducible refine Kd.C_drewN ?_ _)|(with_reducible refine Kd.C_drew ?_)))
          (case side14=>exact (Kd.N_reads' HO_464002.out).2.1)
          (case side15=>repeat (first|exact (Kd.N_reads' HO_464003.out).2.2|(with_reducible refine Kd.C_alloc ?_ _)|(with_reducible refine Kd.C_drewN ?_ _)|(with_reducible refine Kd.C_drew ?_)))
          (case side16=>exact (Kd.N_reads' HO_464003.out).2.1)
          rintro e w77 ⟨rfl,hb⟩
          refine ⟨_,rfl,?_⟩
          have n0_:=Aside0.mk (Kd.N_below (by (with_reducible repeat (first|apply Kd.N_alloc|apply Kd.N_drewN|apply Kd.N_drew));exact HO_33.out) hb)
          have n1_:=Aside0.mk (Kd.N_below (by (with_reducible repeat (first|apply Kd.N_alloc|apply Kd.N_drewN|apply Kd.N_drew));exact HO_464000.out) hb)
          have n2_:=Aside0.mk (Kd.R_below (by (with_reducible repeat (first|apply Kd.R_alloc|apply Kd.R_drewN|apply Kd.R_drew));exact HO_464001.out) hb)
          have n3_:=Aside0.mk (Kd.N_below (by (with_reducible repeat (first|apply Kd.N_alloc|apply Kd.N_drewN|apply Kd.N_drew));exact HO_464002.out) hb)
          have n4_:=Aside0.mk (Kd.N_below (by (with_reducible repeat (first|apply Kd.N_alloc|apply Kd.N_drewN|apply Kd.N_drew));exact HO_464003.out) hb)
          have n5_:=Aside0.mk (Kd.N_below (by (with_reducible repeat (first|apply Kd.N_alloc|apply Kd.N_drewN|apply Kd.N_drew));exact HO_468000.out) hb)
          have n6_:=Aside0.mk (Kd.R_below (by (with_reducible repeat (first|apply Kd.R_alloc|apply Kd.R_drewN|apply Kd.R_drew));exact HO_468001.out) hb)
          have n7_:=Aside0.mk (Kd.N_below (by (with_reducible repeat (first|apply Kd.N_alloc|apply Kd.N_drewN|apply Kd.N_drew));exact HO_468002.out) hb)
          have n8_:=Aside0.mk (Kd.N_below (by (with_reducible repeat (first|apply Kd.N_alloc|apply Kd.N_drewN|apply Kd.N_drew));exact HO_468003.out) hb)
          have n9_:=Aside0.mk (bb_ BK448.out hb)
          have n10_:=Aside0.mk (bb_ BK463.out hb)
          have n11_:=Aside0.mk (bb_ BK467.out hb)
          have n12_:=Aside0.mk (below_step (bl_ HB.out) hb)
          clear HO_33
          clear HO_464000
          clear HO_464001
          clear HO_464002
          clear HO_464003
          clear HO_468000
          clear HO_468001
          clear HO_468002
          clear HO_468003
          clear BK448
          clear BK463
          clear BK467
          clear HB
          have HO_33:=n0_
          have HO_464000:=n1_
          have HO_464001:=n2_
          have HO_464002:=n3_
          have HO_464003:=n4_
          have HO_468000:=n5_
          have HO_468001:=n6_
          have HO_468002:=n7_
          have HO_468003:=n8_
          have BK448:=n9_
          have BK463:=n10_
          have BK467:=n11_
          have HB:=n12_
          clear n0_ n1_ n2_ n3_ n4_ n5_ n6_ n7_ n8_ n9_ n10_ n11_ n12_
          (try clear hb)
          (try clear hb2)
          (try clear hk)
          (try clear hi)
          refine hK.out _ _ ⟨zc_ BK463.out 0,zc_ BK463.out 1,zc_ BK463.out 2,zc_ BK463.out 3,zc_ BK467.out 0,zc_ BK467.out 1,zc_ BK467.out 2,zc_ BK467.out 3⟩ (fun hHeld=>?_)
          clear hK K
          refine norm_ (a':=?_) ?_ ?_
          rotate_left
          ·show Act.put _ (some 61) _=_
           simp only [Act.put,List.setIfInBounds_toArray,List.set_cons_zero,List.set_cons_succ,i64_w,i32_w]
           rfl
          refine pur_ 10 62 (flg 19 2047) rfl rfl (any_of HT_.out (by kernel_rfl)) (fun _ _ _ h=>h) ?_
          refine pur_ 11 63 (flg 19 4095) rfl rfl (any_of HT_.out (by kernel_rfl)) (fun _ _ _ h=>h) ?_
          refine skp_ 12 64 (flg 19 8191) rfl rfl (any_of HT_.out (by kernel_rfl)) (fun _ _ _ h=>h) ?_
          refine skp_ 13 65 (flg 19 16383) rfl rfl (any_of HT_.out (by kernel_rfl)) (fun _ _ _ h=>h) ?_
          refine skp_ 14 66 (flg 19 32767) rfl rfl (any_of HT_.out (by kernel_rfl)) (fun _ _ _ h=>h) ?_
          refine skp_ 15 67 (flg 19 65535) rfl rfl (any_of HT_.out (by kernel_rfl)) (fun _ _ _ h=>h) ?_
          refine skp_ 16 68 (flg 19 131071) rfl rfl (any_of HT_.out (by kernel_rfl)) (fun _ _ _ h=>h) ?_
          refine pur_ 17 69 (flg 19 262143) rfl rfl (any_of HT_.out (by kernel_rfl)) (fun _ _ _ h=>h) ?_
          refine pur_ 18 4 (flg 19 524287) rfl rfl (any_of HT_.out (by kernel_rfl)) (fun _ _ _ h=>h) ?_
          refine done_ (done_of HT_.out (by kernel_rfl)) ?_
          try go_wp2
          go_ret
          exact ⟨rt_,bl_ HB.out⟩
        ·replace c61:=Bool.eq_false_iff.mpr c61
         subst c61
         have H1:(some false)=some r:=by rw [if_neg (show ¬ (false=true) by decide)] at H;exact H
         clear H
         have H:=H1
         clear H1
         obtain rfl:=Option.some.inj H
         try go_wp2
         have n0_:=Aside0.mk (Kd.N_drew HO_33.out)
         have n1_:=Aside0.mk (Kd.N_drew HO_464000.out)
         have n2_:=Aside0.mk (Kd.R_drew HO_464001.out)
         have n3_:=Aside0.mk (Kd.N_drew HO_464002.out)
         have n4_:=Aside0.mk (Kd.N_drew HO_464003.out)
         have n5_:=Aside0.mk (Kd.N_drew HO_468000.out)
         have n6_:=Aside0.mk (Kd.R_drew HO_468001.out)
         have n7_:=Aside0.mk (Kd.N_drew HO_468002.out)
         have n8_:=Aside0.mk (Kd.N_drew HO_468003.out)
         have n9_:=Aside0.mk (blk_drew BK448.out)
         have n10_:=Aside0.mk (blk_drew BK463.out)
         have n11_:=Aside0.mk (blk_drew BK467.out)
         have n12_:=Aside0.mk (below_drew1 HB.out)
         clear HO_33
         clear HO_464000
         clear HO_464001
         clear HO_464002
         clear HO_464003
         clear HO_468000
         clear HO_468001
         clear HO_468002
         clear HO_468003
         clear BK448
         clear BK463
         clear BK467
         clear HB
         have HO_33:=n0_
         have HO_464000:=n1_
         have HO_464001:=n2_
         have HO_464002:=n3_
         have HO_464003:=n4_
         have HO_468000:=n5_
         have HO_468001:=n6_
         have HO_468002:=n7_
         have HO_468003:=n8_
         have BK448:=n9_
         have BK463:=n10_
         have BK467:=n11_
         have HB:=n12_
         clear n0_ n1_ n2_ n3_ n4_ n5_ n6_ n7_ n8_ n9_ n10_ n11_ n12_
         refine start_ (n:=19) (S:=fun w'=>w'.cell? ⟨gb463,0,none⟩=some (.slice Ao22 t451.length co22)∧w'.cell? ⟨gb463,1,none⟩=some (.slice Ao25 t454.length co25)∧w'.cell? ⟨gb463,2,none⟩=some (.slice Ao26 t457.length co26)∧w'.cell? ⟨gb463,3,none⟩=some (.slice Ao27 t460.length co27)∧w'.cell? ⟨gb467,0,none⟩=some (.slice Ao22 t451.length co22)∧w'.cell? ⟨gb467,1,none⟩=some (.slice Ao25 t454.length co25)∧w'.cell? ⟨gb467,2,none⟩=some (u468002)∧w'.cell? ⟨gb467,3,none⟩=some (.slice Ao34 t464.length co34)) (ds:=[]) (flg 19 0) (by kernel_rfl) rfl (by kernel_rfl) ⟨zc_ BK463.out 0,zc_ BK463.out 1,zc_ BK463.out 2,zc_ BK463.out 3,zc_ BK467.out 0,zc_ BK467.out 1,zc_ BK467.out 2,zc_ BK467.out 3⟩ (fun hHeld=>?_);refine with_tabW helmsmanlaw12_TreePlaces.tab10 helmsmanlaw12_TreePlaces.bits10 (fun HT_ HW_=>?_)
         generalize wr.drew=w78 at HO_33 HO_464000 HO_464001 HO_464002 HO_464003 HO_468000 HO_468001 HO_468002 HO_468003 BK448 BK463 BK467 HB hHeld ⊢
         refine one_ (i:=0) (N:=some 52) (flg 19 1) rfl rfl (one_of HT_.out (by kernel_rfl)) (by decide) (fun K hK=>?_)
         refine goes_ Tryd.func10 (by kernel_rfl) rfl #[] (by rfl) rfl rfl ar_ ?_
         with_reducible refine (helmsmanlaw12_alive.calls  true _ ?side1 A58.out).mono ?_
         (case side1=>exact hT.later (bl_ HB.out))
         rintro e w79 ⟨rfl,hb⟩
         refine ⟨_,rfl,?_⟩
         have n0_:=Aside0.mk (Kd.N_below (by (with_reducible repeat (first|apply Kd.N_alloc|apply Kd.N_drewN|apply Kd.N_drew));exact HO_33.out) hb)
         have n1_:=Aside0.mk (Kd.N_below (by (with_reducible repeat (first|apply Kd.N_alloc|apply Kd.N_drewN|apply Kd.N_drew));exact HO_464000.out) hb)
         have n2_:=Aside0.mk (Kd.R_below (by (with_reducible repeat (first|apply Kd.R_alloc|apply Kd.R_drewN|apply Kd.R_drew));exact HO_464001.out) hb)
         have n3_:=Aside0.mk (Kd.N_below (by (with_reducible repeat (first|apply Kd.N_alloc|apply Kd.N_drewN|apply Kd.N_drew));exact HO_464002.out) hb)
         have n4_:=Aside0.mk (Kd.N_below (by (with_reducible repeat (first|apply Kd.N_alloc|apply Kd.N_drewN|apply Kd.N_drew));exact HO_464003.out) hb)
         have n5_:=Aside0.mk (Kd.N_below (by (with_reducible repeat (first|apply Kd.N_alloc|apply Kd.N_drewN|apply Kd.N_drew));exact HO_468000.out) hb)
         have n6_:=Aside0.mk (Kd.R_below (by (with_reducible repeat (first|apply Kd.R_alloc|apply Kd.R_drewN|apply Kd.R_drew));exact HO_468001.out) hb)
         have n7_:=Aside0.mk (Kd.N_below (by (with_reducible repeat (first|apply Kd.N_alloc|apply Kd.N_drewN|apply Kd.N_drew));exact HO_468002.out) hb)
         have n8_:=Aside0.mk (Kd.N_below (by (with_reducible repeat (first|apply Kd.N_alloc|apply Kd.N_drewN|apply Kd.N_drew));exact HO_468003.out) hb)
         have n9_:=Aside0.mk (bb_ BK448.out hb)
         have n10_:=Aside0.mk (bb_ BK463.out hb)
         have n11_:=Aside0.mk (bb_ BK467.out hb)
         have n12_:=Aside0.mk (below_step (bl_ HB.out) hb)
         clear HO_33
         clear HO_464000
         clear HO_464001
         clear HO_464002
         clear HO_464003
         clear HO_468000
         clear HO_468001
         clear HO_468002
         clear HO_468003
         clear BK448
         clear BK463
         clear BK467
         clear HB
         have HO_33:=n0_
         have HO_464000:=n1_
         have HO_464001:=n2_
         have HO_464002:=n3_
         have HO_464003:=n4_
         have HO_468000:=n5_
         have HO_468001:=n6_
         have HO_468002:=n7_
         have HO_468003:=n8_
         have BK448:=n9_
         have BK463:=n10_
         have BK467:=n11_
         have HB:=n12_
         clear n0_ n1_ n2_ n3_ n4_ n5_ n6_ n7_ n8_ n9_ n10_ n11_ n12_
         (try clear hb)
         (try clear hb2)
         (try clear hk)
         (try clear hi)
         obtain ⟨Ao80,co80,eo80⟩:=Kd.N_slice HO_468002.out
         (first|subst eo80|(injection eo80 with f1_ f2_ f3_;have f4_:=f1_.symm;have f5_:=f3_.symm;clear f1_ f2_ f3_;subst f4_;subst f5_))
         refine hK.out _ _ ⟨zc_ BK463.out 0,zc_ BK463.out 1,zc_ BK463.out 2,zc_ BK463.out 3,zc_ BK467.out 0,zc_ BK467.out 1,zc_ BK467.out 2,zc_ BK467.out 3⟩ (fun hHeld=>?_)
         clear hK K
         refine norm_ (a':=?_) ?_ ?_
         rotate_left
         ·show Act.put _ (some 52) _=_
          simp only [Act.put,List.setIfInBounds_toArray,List.set_cons_zero,List.set_cons_succ,i64_w,i32_w]
          rfl
         refine pur_ 1 53 (flg 19 3) rfl rfl (any_of HT_.out (by kernel_rfl)) (fun _ _ _ h=>h) ?_
         refine tak_ 2 54 (flg 19 7) rfl rfl (take_ofW HT_.out HW_.out (by kernel_rfl)) (fun _ _ _ h=>h) hHeld ?_
         refine tak_ 3 55 (flg 19 15) rfl rfl (take_ofW HT_.out HW_.out (by kernel_rfl)) (fun _ _ _ h=>h) hHeld ?_
         refine one_ (i:=4) (N:=some 56) (flg 19 31) rfl rfl (one_of HT_.out (by kernel_rfl)) (by decide) (fun K hK=>?_)
         refine goes_ Tryd.func28 (by kernel_rfl) rfl #[.agg #[.slice Ao22 t451.length co22,.slice Ao25 t454.length co25,.slice Ao26 t457.length co26,.slice Ao27 t460.length co27],.agg #[.slice Ao22 t451.length co22,.slice Ao25 t454.length co25,.slice Ao80 x468002_2.length co80,.slice Ao34 t464.length co34]] (by rfl) rfl rfl ar_ ?_
         with_reducible refine (tree_Same.calls k2 _ _ t451 _ _ t454 _ _ t457 _ _ t460 _ _ t451 _ _ t454 _ _ x468002_2 _ _ t464 false _ ?side1 ?side2 ?side3 ?side4 ?side5 ?side6 ?side7 ?side8 ?side9 ?side10 ?side11 ?side12 ?side13 ?side14 ?side15 ?side16 A60.out).mono ?_
         (case side1=>repeat (first|exact (Kd.N_reads' HO_464000.out).2.2|(with_reducible refine Kd.C_alloc ?_ _)|(with_reducible refine Kd.C_drewN ?_ _)|(with_reducible refine Kd.C_drew ?_)))
         (case side2=>exact (Kd.N_reads' HO_464000.out).2.1)
         (case side3=>repeat (first|exact (Kd.R_reads' HO_464001.out).2.2|(with_reducible refine Kd.C_alloc ?_ _)|(with_reducible refine Kd.C_drewN ?_ _)|(with_reducible refine Kd.C_drew ?_)))
         (case side4=>exact (Kd.R_reads' HO_464001.out).2.1)
         (case side5=>repeat (first|exact (Kd.N_reads' HO_464002.out).2.2|(with_reducible refine Kd.C_alloc ?_ _)|(with_reducible refine Kd.C_drewN ?_ _)|(with_reducible refine Kd.C_drew ?_)))
         (case side6=>exact (Kd.N_reads' HO_464002.out).2.1)
         (case side7=>repeat (first|exact (Kd.N_reads' HO_464003.out).2.2|(with_reducible refine Kd.C_alloc ?_ _)|(with_reducible refine Kd.C_drewN ?_ _)|(with_reducible refine Kd.C_drew ?_)))
         (case side8=>exact (Kd.N_reads' HO_464003.out).2.1)
         (case side9=>repeat (first|exact (Kd.N_reads' HO_468000.out).2.2|(with_reducible refine Kd.C_alloc ?_ _)|(with_reducible refine Kd.C_drewN ?_ _)|(with_reducible refine Kd.C_drew ?_)))
         (case side10=>exact (Kd.N_reads' HO_468000.out).2.1)
         (case side11=>repeat (first|exact (Kd.R_reads' HO_468001.out).2.2|(with_reducible refine Kd.C_alloc ?_ _)|(with_reducible refine Kd.C_drewN ?_ _)|(with_reducible refine Kd.C_drew ?_)))
         (case side12=>exact (Kd.R_reads' HO_468001.out).2.1)
         (case side13=>repeat (first|exact (Kd.N_reads' HO_468002.out).2.2|(with_reducible refine Kd.C_alloc ?_ _)|(with_reducible refine Kd.C_drewN ?_ _)|(with_reducible refine Kd.C_drew ?_)))
         (case side14=>exact (Kd.N_reads' HO_468002.out).2.1)
         (case side15=>repeat (first|exact (Kd.N_reads' HO_468003.out).2.2|(with_reducible refine Kd.C_alloc ?_ _)|(with_reducible refine Kd.C_drewN ?_ _)|(with_reducible refine Kd.C_drew ?_)))
         (case side16=>exact (Kd.N_reads' HO_468003.out).2.1)
         rintro e w81 ⟨rfl,hb⟩
         refine ⟨_,rfl,?_⟩
         have n0_:=Aside0.mk (Kd.N_below (by (with_reducible repeat (first|apply Kd.N_alloc|apply Kd.N_drewN|apply Kd.N_drew));exact HO_33.out) hb)
         have n1_:=Aside0.mk (Kd.N_below (by (with_reducible repeat (first|apply Kd.N_alloc|apply Kd.N_drewN|apply Kd.N_drew));exact HO_464000.out) hb)
         have n2_:=Aside0.mk (Kd.R_below (by (with_reducible repeat (first|apply Kd.R_alloc|apply Kd.R_drewN|apply Kd.R_drew));exact HO_464001.out) hb)
         have n3_:=Aside0.mk (Kd.N_below (by (with_reducible repeat (first|apply Kd.N_alloc|apply Kd.N_drewN|apply Kd.N_drew));exact HO_464002.out) hb)
         have n4_:=Aside0.mk (Kd.N_below (by (with_reducible repeat (first|apply Kd.N_alloc|apply Kd.N_drewN|apply Kd.N_drew));exact HO_464003.out) hb)
         have n5_:=Aside0.mk (Kd.N_below (by (with_reducible repeat (first|apply Kd.N_alloc|apply Kd.N_drewN|apply Kd.N_drew));exact HO_468000.out) hb)
         have n6_:=Aside0.mk (Kd.R_below (by (with_reducible repeat (first|apply Kd.R_alloc|apply Kd.R_drewN|apply Kd.R_drew));exact HO_468001.out) hb)
         have n7_:=Aside0.mk (Kd.N_below (by (with_reducible repeat (first|apply Kd.N_alloc|apply Kd.N_drewN|apply Kd.N_drew));exact HO_468002.out) hb)
         have n8_:=Aside0.mk (Kd.N_below (by (with_reducible repeat (first|apply Kd.N_alloc|apply Kd.N_drewN|apply Kd.N_drew));exact HO_468003.out) hb)
         have n9_:=Aside0.mk (bb_ BK448.out hb)
         have n10_:=Aside0.mk (bb_ BK463.out hb)
         have n11_:=Aside0.mk (bb_ BK467.out hb)
         have n12_:=Aside0.mk (below_step (bl_ HB.out) hb)
         clear HO_33
         clear HO_464000
         clear HO_464001
         clear HO_464002
         clear HO_464003
         clear HO_468000
         clear HO_468001
         clear HO_468002
         clear HO_468003
         clear BK448
         clear BK463
         clear BK467
         clear HB
         have HO_33:=n0_
         have HO_464000:=n1_
         have HO_464001:=n2_
         have HO_464002:=n3_
         have HO_464003:=n4_
         have HO_468000:=n5_
         have HO_468001:=n6_
         have HO_468002:=n7_
         have HO_468003:=n8_
         have BK448:=n9_
         have BK463:=n10_
         have BK467:=n11_
         have HB:=n12_
         clear n0_ n1_ n2_ n3_ n4_ n5_ n6_ n7_ n8_ n9_ n10_ n11_ n12_
         (try clear hb)
         (try clear hb2)
         (try clear hk)
         (try clear hi)
         refine hK.out _ _ ⟨zc_ BK463.out 0,zc_ BK463.out 1,zc_ BK463.out 2,zc_ BK463.out 3,zc_ BK467.out 0,zc_ BK467.out 1,zc_ BK467.out 2,zc_ BK467.out 3⟩ (fun hHeld=>?_)
         clear hK K
         refine norm_ (a':=?_) ?_ ?_
         rotate_left
         ·show Act.put _ (some 56) _=_
          simp only [Act.put,List.setIfInBounds_toArray,List.set_cons_zero,List.set_cons_succ,i64_w,i32_w]
          rfl
         refine pur_ 5 57 (flg 19 63) rfl rfl (any_of HT_.out (by kernel_rfl)) (fun _ _ _ h=>h) ?_
         refine pur_ 6 58 (flg 19 127) rfl rfl (any_of HT_.out (by kernel_rfl)) (fun _ _ _ h=>h) ?_
         refine skp_ 7 59 (flg 19 255) rfl rfl (any_of HT_.out (by kernel_rfl)) (fun _ _ _ h=>h) ?_
         refine skp_ 8 60 (flg 19 511) rfl rfl (any_of HT_.out (by kernel_rfl)) (fun _ _ _ h=>h) ?_
         refine skp_ 9 61 (flg 19 1023) rfl rfl (any_of HT_.out (by kernel_rfl)) (fun _ _ _ h=>h) ?_
         refine pur_ 10 62 (flg 19 2047) rfl rfl (any_of HT_.out (by kernel_rfl)) (fun _ _ _ h=>h) ?_
         refine pur_ 11 63 (flg 19 4095) rfl rfl (any_of HT_.out (by kernel_rfl)) (fun _ _ _ h=>h) ?_
         refine skp_ 12 64 (flg 19 8191) rfl rfl (any_of HT_.out (by kernel_rfl)) (fun _ _ _ h=>h) ?_
         refine skp_ 13 65 (flg 19 16383) rfl rfl (any_of HT_.out (by kernel_rfl)) (fun _ _ _ h=>h) ?_
         refine skp_ 14 66 (flg 19 32767) rfl rfl (any_of HT_.out (by kernel_rfl)) (fun _ _ _ h=>h) ?_
         refine skp_ 15 67 (flg 19 65535) rfl rfl (any_of HT_.out (by kernel_rfl)) (fun _ _ _ h=>h) ?_
         refine skp_ 16 68 (flg 19 131071) rfl rfl (any_of HT_.out (by kernel_rfl)) (fun _ _ _ h=>h) ?_
         refine pur_ 17 69 (flg 19 262143) rfl rfl (any_of HT_.out (by kernel_rfl)) (fun _ _ _ h=>h) ?_
         refine pur_ 18 4 (flg 19 524287) rfl rfl (any_of HT_.out (by kernel_rfl)) (fun _ _ _ h=>h) ?_
         refine done_ (done_of HT_.out (by kernel_rfl)) ?_
         try go_wp2
         go_ret
         exact ⟨rt_,bl_ HB.out⟩
       ·replace c59:=Bool.eq_false_iff.mpr c59
        subst c59
        have H1:(some false)=some r:=by rw [if_neg (show ¬ (false=true) by decide)] at H;exact H
        clear H
        have H:=H1
        clear H1
        obtain rfl:=Option.some.inj H
        try go_wp2
        have n0_:=Aside0.mk (Kd.N_drew HO_33.out)
        have n1_:=Aside0.mk (Kd.N_drew HO_464000.out)
        have n2_:=Aside0.mk (Kd.R_drew HO_464001.out)
        have n3_:=Aside0.mk (Kd.N_drew HO_464002.out)
        have n4_:=Aside0.mk (Kd.N_drew HO_464003.out)
        have n5_:=Aside0.mk (Kd.N_drew HO_468000.out)
        have n6_:=Aside0.mk (Kd.R_drew HO_468001.out)
        have n7_:=Aside0.mk (Kd.N_drew HO_468002.out)
        have n8_:=Aside0.mk (Kd.N_drew HO_468003.out)
        have n9_:=Aside0.mk (blk_drew BK448.out)
        have n10_:=Aside0.mk (blk_drew BK463.out)
        have n11_:=Aside0.mk (blk_drew BK467.out)
        have n12_:=Aside0.mk (below_drew1 HB.out)
        clear HO_33
        clear HO_464000
        clear HO_464001
        clear HO_464002
        clear HO_464003
        clear HO_468000
        clear HO_468001
        clear HO_468002
        clear HO_468003
        clear BK448
        clear BK463
        clear BK467
        clear HB
        have HO_33:=n0_
        have HO_464000:=n1_
        have HO_464001:=n2_
        have HO_464002:=n3_
        have HO_464003:=n4_
        have HO_468000:=n5_
        have HO_468001:=n6_
        have HO_468002:=n7_
        have HO_468003:=n8_
        have BK448:=n9_
        have BK463:=n10_
        have BK467:=n11_
        have HB:=n12_
        clear n0_ n1_ n2_ n3_ n4_ n5_ n6_ n7_ n8_ n9_ n10_ n11_ n12_
        refine start_ (n:=19) (S:=fun w'=>True) (ds:=[]) (flg 19 0) (by kernel_rfl) rfl (by kernel_rfl) trivial (fun hHeld=>?_);refine with_tabW helmsmanlaw12_TreePlaces.tab10 helmsmanlaw12_TreePlaces.bits10 (fun HT_ HW_=>?_)
        generalize wr.drew=w82 at HO_33 HO_464000 HO_464001 HO_464002 HO_464003 HO_468000 HO_468001 HO_468002 HO_468003 BK448 BK463 BK467 HB hHeld ⊢
        refine one_ (i:=0) (N:=some 52) (flg 19 1) rfl rfl (one_of HT_.out (by kernel_rfl)) (by decide) (fun K hK=>?_)
        refine goes_ Tryd.func10 (by kernel_rfl) rfl #[] (by rfl) rfl rfl ar_ ?_
        with_reducible refine (helmsmanlaw12_alive.calls  false _ ?side1 A58.out).mono ?_
        (case side1=>exact hT.later (bl_ HB.out))
        rintro e w83 ⟨rfl,hb⟩
        refine ⟨_,rfl,?_⟩
        have n0_:=Aside0.mk (Kd.N_below (by (with_reducible repeat (first|apply Kd.N_alloc|apply Kd.N_drewN|apply Kd.N_drew));exact HO_33.out) hb)
        have n1_:=Aside0.mk (Kd.N_below (by (with_reducible repeat (first|apply Kd.N_alloc|apply Kd.N_drewN|apply Kd.N_drew));exact HO_464000.out) hb)
        have n2_:=Aside0.mk (Kd.R_below (by (with_reducible repeat (first|apply Kd.R_alloc|apply Kd.R_drewN|apply Kd.R_drew));exact HO_464001.out) hb)
        have n3_:=Aside0.mk (Kd.N_below (by (with_reducible repeat (first|apply Kd.N_alloc|apply Kd.N_drewN|apply Kd.N_drew));exact HO_464002.out) hb)
        have n4_:=Aside0.mk (Kd.N_below (by (with_reducible repeat (first|apply Kd.N_alloc|apply Kd.N_drewN|apply Kd.N_drew));exact HO_464003.out) hb)
        have n5_:=Aside0.mk (Kd.N_below (by (with_reducible repeat (first|apply Kd.N_alloc|apply Kd.N_drewN|apply Kd.N_drew));exact HO_468000.out) hb)
        have n6_:=Aside0.mk (Kd.R_below (by (with_reducible repeat (first|apply Kd.R_alloc|apply Kd.R_drewN|apply Kd.R_drew));exact HO_468001.out) hb)
        have n7_:=Aside0.mk (Kd.N_below (by (with_reducible repeat (first|apply Kd.N_alloc|apply Kd.N_drewN|apply Kd.N_drew));exact HO_468002.out) hb)
        have n8_:=Aside0.mk (Kd.N_below (by (with_reducible repeat (first|apply Kd.N_alloc|apply Kd.N_drewN|apply Kd.N_drew));exact HO_468003.out) hb)
        have n9_:=Aside0.mk (bb_ BK448.out hb)
        have n10_:=Aside0.mk (bb_ BK463.out hb)
        have n11_:=Aside0.mk (bb_ BK467.out hb)
        have n12_:=Aside0.mk (below_step (bl_ HB.out) hb)
        clear HO_33
        clear HO_464000
        clear HO_464001
        clear HO_464002
        clear HO_464003
        clear HO_468000
        clear HO_468001
        clear HO_468002
        clear HO_468003
        clear BK448
        clear BK463
        clear BK467
        clear HB
        have HO_33:=n0_
        have HO_464000:=n1_
        have HO_464001:=n2_
        have HO_464002:=n3_
        have HO_464003:=n4_
        have HO_468000:=n5_
        have HO_468001:=n6_
        have HO_468002:=n7_
        have HO_468003:=n8_
        have BK448:=n9_
        have BK463:=n10_
        have BK467:=n11_
        have HB:=n12_
        clear n0_ n1_ n2_ n3_ n4_ n5_ n6_ n7_ n8_ n9_ n10_ n11_ n12_
        (try clear hb)
        (try clear hb2)
        (try clear hk)
        (try clear hi)
        refine hK.out _ _ trivial (fun hHeld=>?_)
        clear hK K
        refine norm_ (a':=?_) ?_ ?_
        rotate_left
        ·show Act.put _ (some 52) _=_
         simp only [Act.put,List.setIfInBounds_toArray,List.set_cons_zero,List.set_cons_succ,i64_w,i32_w]
         rfl
        refine pur_ 1 53 (flg 19 3) rfl rfl (any_of HT_.out (by kernel_rfl)) (fun _ _ _ h=>h) ?_
        refine skp_ 2 54 (flg 19 7) rfl rfl (any_of HT_.out (by kernel_rfl)) (fun _ _ _ h=>h) ?_
        refine skp_ 3 55 (flg 19 15) rfl rfl (any_of HT_.out (by kernel_rfl)) (fun _ _ _ h=>h) ?_
        refine skp_ 4 56 (flg 19 31) rfl rfl (any_of HT_.out (by kernel_rfl)) (fun _ _ _ h=>h) ?_
        refine pur_ 5 57 (flg 19 63) rfl rfl (any_of HT_.out (by kernel_rfl)) (fun _ _ _ h=>h) ?_
        refine pur_ 6 58 (flg 19 127) rfl rfl (any_of HT_.out (by kernel_rfl)) (fun _ _ _ h=>h) ?_
        refine skp_ 7 59 (flg 19 255) rfl rfl (any_of HT_.out (by kernel_rfl)) (fun _ _ _ h=>h) ?_
        refine skp_ 8 60 (flg 19 511) rfl rfl (any_of HT_.out (by kernel_rfl)) (fun _ _ _ h=>h) ?_
        refine skp_ 9 61 (flg 19 1023) rfl rfl (any_of HT_.out (by kernel_rfl)) (fun _ _ _ h=>h) ?_
        refine pur_ 10 62 (flg 19 2047) rfl rfl (any_of HT_.out (by kernel_rfl)) (fun _ _ _ h=>h) ?_
        refine pur_ 11 63 (flg 19 4095) rfl rfl (any_of HT_.out (by kernel_rfl)) (fun _ _ _ h=>h) ?_
        refine skp_ 12 64 (flg 19 8191) rfl rfl (any_of HT_.out (by kernel_rfl)) (fun _ _ _ h=>h) ?_
        refine skp_ 13 65 (flg 19 16383) rfl rfl (any_of HT_.out (by kernel_rfl)) (fun _ _ _ h=>h) ?_
        refine skp_ 14 66 (flg 19 32767) rfl rfl (any_of HT_.out (by kernel_rfl)) (fun _ _ _ h=>h) ?_
        refine skp_ 15 67 (flg 19 65535) rfl rfl (any_of HT_.out (by kernel_rfl)) (fun _ _ _ h=>h) ?_
        refine skp_ 16 68 (flg 19 131071) rfl rfl (any_of HT_.out (by kernel_rfl)) (fun _ _ _ h=>h) ?_
        refine pur_ 17 69 (flg 19 262143) rfl rfl (any_of HT_.out (by kernel_rfl)) (fun _ _ _ h=>h) ?_
        refine pur_ 18 4 (flg 19 524287) rfl rfl (any_of HT_.out (by kernel_rfl)) (fun _ _ _ h=>h) ?_
        refine done_ (done_of HT_.out (by kernel_rfl)) ?_
        try go_wp2
        go_ret
        exact ⟨rt_,bl_ HB.out⟩
end Go.Proofs.YtnnbbeloifhofaaDoor.P
end
section
namespace Go.Proofs.YtnnbbeloifhofaaDoor.P
open Go Go.RowKit Go.Proofs
open Go.Proofs.YtnnbbeloifhofaaDoorW.PrintWords Go.Proofs.YtnnbbeloifhofaaDoorW.PrintLast Go.Proofs.YtnnbbeloifhofaaDoorW.PrintMore
set_option linter.unusedVariables false
def movP (d:Int) (x:RP):RP:=⟨x.f0,movSs d x.f1⟩
mutual
theorem okE_mov (d:Int) : ∀ x:RE,okE x→okE (movE d x)
  | ⟨a,b,n,l,t⟩,h=>by rw [movE,okE];rw [okE] at h;exact ⟨h.1,okEs_mov d l h.2⟩
theorem okEs_mov (d:Int) : ∀ l:List RE,okEs l→okEs (movEs d l)
  | [],_=>trivial
  | x :: xs,h=>⟨okE_mov d x h.1,okEs_mov d xs h.2⟩
end
mutual
theorem okS_mov (d:Int) : ∀ x:RS,okS x→okS (movS d x)
  | ⟨a,b,e,l,m,t⟩,h=>by rw [movS,okS];rw [okS] at h;exact ⟨okEs_mov d e h.1,okSs_mov d l h.2.1,okSs_mov d m h.2.2⟩
theorem okSs_mov (d:Int) : ∀ l:List RS,okSs l→okSs (movSs d l)
  | [],_=>trivial
  | x :: xs,h=>⟨okS_mov d x h.1,okSs_mov d xs h.2⟩
end
mutual
theorem bulkE_mov (d:Int) : ∀ x:RE,bulkE (movE d x)=bulkE x
  | ⟨a,b,n,l,t⟩=>by rw [movE,bulkE,bulkE,bulkEs_mov d l]
theorem bulkEs_mov (d:Int) : ∀ l:List RE,bulkEs (movEs d l)=bulkEs l
  | []=>rfl
  | x :: xs=>by rw [movEs,bulkEs,bulkEs,bulkE_mov d x,bulkEs_mov d xs]
end
mutual
theorem bulkS_mov (d:Int) : ∀ x:RS,bulkS (movS d x)=bulkS x
  | ⟨a,b,e,l,m,t⟩=>by rw [movS,bulkS,bulkS,bulkEs_mov d e,bulkSs_mov d l,bulkSs_mov d m]
theorem bulkSs_mov (d:Int) : ∀ l:List RS,bulkSs (movSs d l)=bulkSs l
  | []=>rfl
  | x :: xs=>by rw [movSs,bulkSs,bulkSs,bulkS_mov d x,bulkSs_mov d xs]
end
theorem bulkPr_mov (d:Int) (l:List RP):((l.map (movP d)).map bulkPr).sum=(l.map bulkPr).sum:=by
  induction l with
  | nil=>rfl
  | cons x xs ih=>
    rw [List.map_cons,List.map_cons,List.sum_cons,List.map_cons,List.sum_cons,ih]
    unfold bulkPr movP
    simp only [bulkSs_mov]
section
variable (e:List REn) (v:List RV) (p:List RP) (m:List RS) (d:Int)
theorem strs_refl (l:List ByteArray):all2 (fun a b=>decide (a=b)) l l=true:=all2_refl (fun x _=>by simp)
theorem ens_refl:all2 sameEn e e=true:=all2_refl (fun x _=>by unfold sameEn;rw [strs_refl];simp)
theorem vars_refl:all2 sameV v v=true:=all2_refl (fun x _=>by unfold sameV;simp)
theorem sameP_mov:sameP e v p m e v (p.map (movP d)) (movSs d m)=true:=by
  unfold sameP
  rw [ens_refl,vars_refl,sameSs_mov,all2_self (f:=movP d) (fun x _=>by unfold samePr movP;rw [sameSs_mov];simp)]
  rfl
theorem sameP_refl:sameP e v p m e v p m=true:=by
  unfold sameP
  rw [ens_refl,vars_refl,sameSs_refl,all2_refl (fun x _=>by unfold samePr;rw [sameSs_refl];simp)]
  rfl
theorem procsB_mov : ∀ l:List RP,procsB (l.map (movP d))=procsB l
  | []=>rfl
  | x :: xs=>by
    rw [List.map_cons,procsB,procsB,procsB_mov xs]
    unfold procB movP
    rw [same_stmts (sameSs_mov d x.f1)]
theorem printB_mov (ens:List ES) (vs:List VS):printB ens vs (p.map (movP d)) (movSs d m)=printB ens vs p m:=by
  unfold printB mainB
  rw [procsB_mov,same_stmts (sameSs_mov d m)]
theorem places_l0 (h:Small e v p m) (ho:okP v p m) (hb:bulkP e v p m≤2097152) : ∀ (xs pre:List RP) (n:Int) (acc:List TP),p=pre++xs→n=((pre++xs).length:Int)→acc=convPs (pre.map (movP d))→
    Ev (fun k=>helmsmanlaw12_TreePlaces.l0 k d (convPs p) n pre.length (e.map convEn) (v.map convV) (convPs p) (convSs m) (e.map convEn) (v.map convV) acc (convSs (movSs d m))) true:=by
  intro xs
  induction xs with
  | nil=>
    intro pre n acc hp hn ha
    rw [List.append_nil] at hp hn
    subst hn ha
    refine Ev.step (fun k=>helmsmanlaw12_TreePlaces.l0.eq_2 _ _ _ _ _ _ _ _ _ _ _ _ k) (Ev.no (Int.lt_irrefl _) (alive_now (Ev.yes rfl ?_)))
    have s1:=Same_ev e v p m h e v (p.map (movP d)) (movSs d m)
    have s2:=Same_ev e v p m h e v p m
    rw [sameP_mov] at s1
    rw [sameP_refl] at s2
    rw [← hp]
    refine Ev.bind s1 (Ev.yes rfl (Ev.bind s2 (Ev.yes rfl ?_)))
    have o1:=printOk_small e v p m ho hb
    have o2:=printOk_small e v (p.map (movP d)) (movSs d m) ⟨ho.1,fun x hx=>by
      obtain ⟨y,hy,rfl⟩:=List.mem_map.1 hx
      exact okSs_mov d _ (ho.2.1 y hy),okSs_mov d m ho.2.2⟩ (by unfold bulkP at hb ⊢;rw [bulkPr_mov,bulkSs_mov];exact hb)
    refine Ev.then (tree_Print.some _ _ _ _ o1) (Ev.then (tree_Print.some _ _ _ _ o2) ?_)
    rw [printB_mov,show ((strOf (printB (e.map convEn) (v.map convV) p m)).toList == (strOf (printB (e.map convEn) (v.map convV) p m)).toList)=true from beq_self_eq_true _]
    exact Ev.now _
  | cons x xs ih=>
    intro pre n acc hp hn ha
    have hl:=h.pr
    have hbx:=h.bo x (by rw [hp];simp)
    rw [hp] at hl
    subst hn
    refine Ev.step (fun k=>helmsmanlaw12_TreePlaces.l0.eq_2 _ _ _ _ _ _ _ _ _ _ _ _ k) (Ev.yes (mid_lt pre x xs) (Ev.yes (by omega) (Ev.yes (by rw [convPs_len,hp];exact mid_lt pre x xs) ?_)))
    rw [show rd_T66 (convPs p) (pre.length:Int)=convP x by
      rw [hp,convPs,List.map_append,List.map_cons]
      have:=rdTP (pre.map convP) (convP x) (xs.map convP)
      rw [List.length_map] at this;exact this]
    refine Ev.bind (movSs_ev d x.f1 hbx) (Ev.yes (by rw [ha,convPs_len,List.length_map];rw [List.length_append] at hl;omega) ?_)
    rw [next_len pre x xs (by omega)]
    have:=ih (pre++[x]) ((pre++x :: xs).length:Int) (acc++[convP (movP d x)]) (by rw [← snoc];exact hp) (by rw [← snoc]) (by rw [ha,List.map_append,convPs,convPs,List.map_append];rfl)
    exact this
theorem TreePlaces_ev (ho:okP v p m) (hb:bulkP e v p m≤2097152):Ev (fun k=>helmsmanlaw12_TreePlaces.f k e v p m d) true:=by
  have h:=small_of e v p m (by omega)
  have yes:Ev (fun k=>helmsmanlaw12_TreePlaces.j0 k d true e v p m) true:=Ev.step (fun k=>helmsmanlaw12_TreePlaces.j0.eq_2 _ _ _ _ _ _ k) (Ev.yes rfl (alive_now (Ev.now _)))
  unfold helmsmanlaw12_TreePlaces.f
  refine Ev.bind (Sized_ev e v p m h (by omega)) ?_
  by_cases g1:(szP p m:Int) > 300
  · exact Ev.yes g1 yes
  refine Ev.no g1 ?_
  by_cases g2:d < -1000
  · exact Ev.yes g2 yes
  refine Ev.no g2 ?_
  by_cases g3:d > 1000
  · rw [decide_eq_true g3];exact yes
  rw [decide_eq_false g3]
  refine Ev.step (fun k=>helmsmanlaw12_TreePlaces.j0.eq_2 _ _ _ _ _ _ k) (Ev.no (by simp) (Ev.bind (Prog_ev e v p m h) (Ev.bind (movSs_ev d m h.ma) ?_)))
  refine places_l0 e v p m d h ho hb p [] _ [] rfl ?_ rfl
  rw [List.nil_append,convPs_len]
end
end Go.Proofs.YtnnbbeloifhofaaDoor.P
end
section
namespace Go.Proofs.YtnnbbeloifhofaaDoor.treePlacesUpto
open Go.ChangeShapes Go.WideShapes Go.ChangeAt Go.RowKit
open Go.ChangeMaps (open_string shut_string)
set_option linter.unusedVariables false
theorem reads (os:Os) {H:Type} (enc:TypeId × Value→H) : ∃ places,DataW.whole enc Tryd.prog ((laidWorld os).forCall (fun _ _=>0) ⟨#[],#[.agg #[.slice none 0 0,.slice none 0 0,.slice none 0 0,.slice none 0 0],.int .i64 0],[]⟩).memory Tryd.f6.params.toList Rows.treePlacesSpec.vars false (#[.agg #[.slice none 0 0,.slice none 0 0,.slice none 0 0,.slice none 0 0],.int .i64 0]:Array Value).toList 8=some ([.agg [.nil,.nil,.nil,.nil],.lit (.int .i64 0)],[],places):=
  ⟨[],by kernel_rfl⟩
set_option maxRecDepth 100000 in
theorem lifted (os:Os) (started:os.Started) (H:Type) (enc:TypeId × Value→H) (F:Stop.Interp) :
    ReturnsInHanded {} Tryd.checked os 6 .any ((Rows.OpenSpec.upto Rows.treePlacesSpec).preRow enc Tryd.prog Tryd.f6 Rows.treePlacesUptoRow.domain false Rows.treePlacesUptoRow.laid) (((Rows.OpenSpec.upto Rows.treePlacesSpec).at F).post enc Tryd.prog Tryd.f6 false true false false):=by
  obtain ⟨places,hx⟩:=reads os enc
  refine returnsInHanded_of_row (C:=Tryd.checked) (s:=(Rows.OpenSpec.upto Rows.treePlacesSpec)) own started (by kernel_rfl) Tryd.func6
    (witness_row_atRef (enc:=enc) (C:=Tryd.checked) false (laidWorld os) #[.agg #[.slice none 0 0,.slice none 0 0,.slice none 0 0,.slice none 0 0],.int .i64 0] rfl (by kernel_rfl) (by kernel_rfl) (by kernel_rfl)
      (OpenSpec.preRow_of_cond 8 hx (by kernel_rfl) (fun k hk=>by cases hk;kernel_rfl) (by kernel_rfl) (laid_met os _))) ?_
  intro W base args ds gs before hval0 hW _ hcond hsz0 hL _ _
  have hval : ∀ (j:Nat) t v,Tryd.f6.params[j]?=some t→args[j]?=some v→Value.okWide Tryd.prog W .any base t v:=hval0
  have hW':=hW
  obtain ⟨p,q,hA0,hV,rfl,hfz,hnd⟩:=hW
  have hA:DataW.TrodAll enc Tryd.prog W 0 (fun _=>true) true Tryd.f6.params.toList args.toList ds p:=hA0
  rw [Tryd.params6] at hA hval
  obtain ⟨v0,vs0,d0,ds0,p0,q0,hargs,rfl,rfl,h0,r0⟩:=trodAll_cons hA
  obtain ⟨v1,vs1,d1,ds1,p1,q1,rfl,rfl,rfl,h1,r1⟩:=trodAll_cons r0
  obtain ⟨rfl,rfl,rfl⟩:=trodAll_nil r1
  obtain rfl:args=#[v0,v1]:=by cases args;simp_all
  obtain ⟨rfl,rfl⟩:=trodVars_none hV
  have lt0 : ∀ x ∈ p0,x.block < W.heap.size:=by obtain ⟨m,hm⟩:=h0;exact DataW.trod_lt m _ _ _ hm
  have lt1 : ∀ x ∈ p1,x.block < W.heap.size:=by obtain ⟨m,hm⟩:=h1;exact DataW.trod_lt m _ _ _ hm
  have hr0:=h0
  obtain ⟨m0,hm0⟩:=hr0
  have hT:P.TabT W:=tabs hL
  obtain ⟨cs0,rfl,_⟩:=okWide_struct Tryd.underlying43 (hval 0 43 v0 rfl rfl)
  obtain ⟨E0,V0,P0,M0,A0_0,A0_1,A0_2,A0_3,c0_0,c0_1,c0_2,c0_3,hcs0,g0_0,l0_0,g0_1,l0_1,g0_2,l0_2,g0_3,l0_3,B0,O0⟩:=P.readProg m0 _ _ hm0
  replace hcs0:cs0.toList=[.slice A0_0 E0.length c0_0,.slice A0_1 V0.length c0_1,.slice A0_2 P0.length c0_2,.slice A0_3 M0.length c0_3]:=hcs0
  obtain rfl:cs0=#[.slice A0_0 E0.length c0_0,.slice A0_1 V0.length c0_1,.slice A0_2 P0.length c0_2,.slice A0_3 M0.length c0_3]:=by cases cs0;simp_all
  replace B0:_≤Rows.uptoBulk d0:=B0
  obtain ⟨I1,rfl,rfl,rfl,w1⟩:=open_int Tryd.underlying3 (hval 1 3 v1 rfl rfl) h1
  have hB:Rows.uptoBulkAll [d0,.lit (.int .i64 I1)]≤1048576:=of_decide_eq_true (hcond _ rfl)
  simp only [Rows.uptoBulkAll] at hB
  obtain ⟨k,hk⟩:=(P.TreePlaces_ev E0 V0 P0 M0 I1 O0 (by omega)).rounds
  refine (P.helmsmanlaw12_TreePlaces.calls k A0_0 c0_0 E0 A0_1 c0_1 V0 A0_2 c0_2 P0 A0_3 c0_3 M0 I1 true W hT g0_0 l0_0 g0_1 l0_1 g0_2 l0_2 g0_3 l0_3 hk).mono fun e W' ⟨he,bel⟩=>?_
  subst he
  exact ⟨_,rfl,_,_,_,[],_,[],hW',trodAll_mk1 (shut_bool Tryd.underlying4 _),(trodAll_cons_mk (Below.trod laidOut (by kernel_rfl) (of_decide_eq_true (by kernel_rfl)) h0 bel lt0) (trodAll_cons_mk (shut_int Tryd.underlying3 w1) trodAll_mk0)),rfl,bel.frame _,fun h=>by cases h⟩
theorem said:Rows.TreePlacesUptoSaid:=
  OpenClaim.holds_of_cond 6 Tryd.f6 rfl rfl rfl rfl rfl rfl rfl ⟨rfl,rfl,rfl,rfl,rfl⟩ rfl rfl rfl rfl rfl (by kernel_rfl) Tryd.func6 (by kernel_rfl)
    (of_decide_eq_true (by kernel_rfl)) (by unfold Func.isWrapper;first|(rw [if_pos (by decide +kernel)];kernel_rfl)|(rw [if_neg (by decide +kernel)];exact ⟨rfl,rfl⟩))
    (fun os started H enc _ F=>by rw [OpenClaim.pre_eq_preRow];exact lifted os started H enc F)
theorem plain (f:FuncId) (fn:Func) (hf:Tryd.pinned.checked.prog.funcNamed Rows.treePlacesUptoRow.func=some f) (hfn:Tryd.pinned.checked.prog.funcs[f]?=some fn) :
    false=Tryd.pinned.checked.prog.looks []∧∀ (j:Nat) t,fn.params[j]?=some t→Tryd.pinned.checked.prog.wantsStandIn t=false:=by
  obtain rfl:f=6:=Option.some.inj ((show Tryd.prog.funcNamed Rows.treePlacesUptoRow.func=some 6 by kernel_rfl).symm.trans hf) |>.symm
  obtain rfl:fn=Tryd.f6:=(Option.some.inj (Tryd.func6.symm.trans hfn)).symm
  refine ⟨by kernel_rfl,fun j t ht=>?_⟩
  rw [Tryd.params6] at ht
  have ht2:=Array.mem_of_getElem? ht
  have ht3:t=43∨t=3:=by simpa using ht2
  rcases ht3 with rfl|rfl
  · exact (show Tryd.prog.wantsStandIn 43=false by kernel_rfl)
  · exact (show Tryd.prog.wantsStandIn 3=false by kernel_rfl)
end Go.Proofs.YtnnbbeloifhofaaDoor.treePlacesUpto
namespace Go.Proofs.YtnnbbeloifhofaaDoor
theorem treePlacesUpto_holds:Rows.TreePlacesUptoCardSaid:=
  Claim7.holds_tied_plain_at .later [] _ _ _ _ treePlacesUpto.said (fun _ h=>by cases h) (by kernel_rfl) (fun _ h=>by cases h) treePlacesUpto_row_tie rfl ⟨rfl,rfl⟩ (by kernel_rfl) rfl treePlacesUpto.plain (by kernel_rfl)
#print axioms treePlacesUpto_holds
end Go.Proofs.YtnnbbeloifhofaaDoor
end
