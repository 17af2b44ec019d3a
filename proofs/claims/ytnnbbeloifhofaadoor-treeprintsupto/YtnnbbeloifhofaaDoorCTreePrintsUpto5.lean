/- TreePrints: for all programs (what is read of bulk at most 1048576) that have what they must, the lines, how deep, and how great, are what the document says. The second form: no other condition. -/
import Derived.Test.YtnnbbeloifhofaaDoorCTreePrintsUpto0
import Derived.Test.YtnnbbeloifhofaaDoorCTreePrintsUpto4
import Derived.Test.YtnnbbeloifhofaaDoorCTreePrintsUpto2
import Derived.Test.YtnnbbeloifhofaaDoorCTreePrintsUpto3
import Derived.Test.YtnnbbeloifhofaaDoorCTreePrintsUpto1
import Derived.Test.YtnnbbeloifhofaaDoorCards
import Derived.Test.YtnnbbeloifhofaaDoorTie
import Derived.WalkKit
import Derived.ProofKit
import Derived.OpenShut
import Derived.ShutString
import Derived.ChangeOld
import Derived.Below
import Derived.SizedLaws
section
namespace Go.Proofs.YtnnbbeloifhofaaDoor.P
open Go.RowKit Go.Proofs.YtnnbbeloifhofaaDoorW.PrintWords Go.Proofs.YtnnbbeloifhofaaDoorW.PrintLast Go.Proofs.YtnnbbeloifhofaaDoorW.PrintMore
attribute [local go_sem] max2_int min2_int max_two min_two max_three min_three max_four min_four
set_option linter.unusedVariables false
set_option linter.unusedSimpArgs false
mutual
def helmsmanlaw12_TreePrints.j0:Nat→Bool→List (S72)→List (S56)→List (S69)→List (S29)→Option (Bool)
 | 0,_,_,_,_,_=>none
 | k+1,x26,x297000,x297001,x297002,x297003=>if x26=true then ((helmsmanlaw12_alive.f).bind fun t298=>(some t298)) else ((helmsmanlaw12_Prog.f k x297000 x297001 x297002 x297003).bind fun bt299=>((tree_Depth.f k bt299.2.2.2).bind fun t312=>((helmsmanref12_Depth.f k x297003).bind fun t313=>(if t312=t313 then ((tree_Sized.f k bt299.1 bt299.2.1 bt299.2.2.1 bt299.2.2.2).bind fun t314=>((helmsmanref12_Sized.f k x297000 x297001 x297002 x297003).bind fun t315=>(helmsmanlaw12_TreePrints.j1 k (t314 != t315) x297000 x297001 x297002 x297003 bt299.1 bt299.2.1 bt299.2.2.1 bt299.2.2.2))) else (helmsmanlaw12_TreePrints.j1 k true x297000 x297001 x297002 x297003 bt299.1 bt299.2.1 bt299.2.2.1 bt299.2.2.2)))))
def helmsmanlaw12_TreePrints.j1:Nat→Bool→List (S72)→List (S56)→List (S69)→List (S29)→List (S79)→List (S80)→List (S66)→List (S76)→Option (Bool)
 | 0,_,_,_,_,_,_,_,_,_=>none
 | k+1,x43,x297000,x297001,x297002,x297003,x312000,x312001,x312002,x312003=>if x43=true then (some false) else ((helmsmanref12_WholeProg.f k x297000 x297001 x297002 x297003).bind fun t316=>(if t316=true then (helmsmanlaw12_TreePrints.l0 k x297001 (x297001.length:Int) 0 x297000 x297001 x297002 x297003 x312000 x312001 x312002 x312003) else ((helmsmanlaw12_alive.f).bind fun t317=>(some t317))))
def helmsmanlaw12_TreePrints.l0:Nat→List (S56)→Int→Int→List (S72)→List (S56)→List (S69)→List (S29)→List (S79)→List (S80)→List (S66)→List (S76)→Option (Bool)
 | 0,_,_,_,_,_,_,_,_,_,_,_=>none
 | k+1,x49,x50,x51,x297000,x297001,x297002,x297003,x312000,x312001,x312002,x312003=>if x51 < x50 then (if 0≤x51 then (if x51 < (x49.length:Int) then (if ((rd_T56 x49 x51).f2) < 0 then ((helmsmanlaw12_alive.f).bind fun t320=>(some t320)) else (helmsmanlaw12_TreePrints.l0 k x49 x50 (wrap64 (x51+1)) x297000 x297001 x297002 x297003 x312000 x312001 x312002 x312003)) else (none)) else (none)) else ((helmsmanlaw12_alive.f).bind fun t321=>(if t321=true then ((tree_Print.f x312000 x312001 x312002 x312003).bind fun t322=>((helmsmanref12_Print.f k x297000 x297001 x297002 x297003).bind fun t323=>(some (t322.toList == t323.toList)))) else (some false)))
end
def helmsmanlaw12_TreePrints.f (k:Nat) (l0_0:List (S72)) (l0_1:List (S56)) (l0_2:List (S69)) (l0_3:List (S29)):Option (Bool):=(helmsmanref12_Sized.f k l0_0 l0_1 l0_2 l0_3).bind fun t297=>(if t297 > 300 then (helmsmanlaw12_TreePrints.j0 k true l0_0 l0_1 l0_2 l0_3) else (if (l0_0.length:Int) > 20 then (helmsmanlaw12_TreePrints.j0 k true l0_0 l0_1 l0_2 l0_3) else (if (l0_1.length:Int) > 20 then (helmsmanlaw12_TreePrints.j0 k true l0_0 l0_1 l0_2 l0_3) else (helmsmanlaw12_TreePrints.j0 k (decide ((l0_2.length:Int) > 20)) l0_0 l0_1 l0_2 l0_3))))
def helmsmanlaw12_TreePrints.T4:Bool × List (List Nat × List Nat):=(true,[([],[]),([0],[0]),([1],[1]),([],[]),([3],[3]),([4,2],[4]),([2,5],[2,5]),([6,5],[6]),([7],[7]),([8,7,7],[7,8]),([7],[7]),([10,9,7],[7,10]),([9,11,7],[7,9,11]),([7,12],[7,12])])
def helmsmanlaw12_TreePrints.B4:List Nat:=[0,1,3,0,8,31,63,127,255,511,255,2047,4095,8191]
theorem helmsmanlaw12_TreePrints.tab4:rtab .any (opsOf Tryd.f4 4)=helmsmanlaw12_TreePrints.T4:=by kernel_rfl
theorem helmsmanlaw12_TreePrints.bits4:waitsOk helmsmanlaw12_TreePrints.T4.2 helmsmanlaw12_TreePrints.B4=true:=by kernel_rfl
def helmsmanlaw12_TreePrints.T14:Bool × List (List Nat × List Nat):=(true,[([],[]),([0,0],[0]),([1],[1]),([2,1,1],[1,2]),([1],[1]),([4,3,1],[1,4]),([3,5,1],[1,3,5]),([1,6],[1,6]),([7,5,0,1,2,3,4,5,6,7],[7])])
def helmsmanlaw12_TreePrints.B14:List Nat:=[0,1,3,7,3,31,63,127,255]
theorem helmsmanlaw12_TreePrints.tab14:rtab .any (opsOf Tryd.f4 14)=helmsmanlaw12_TreePrints.T14:=by kernel_rfl
theorem helmsmanlaw12_TreePrints.bits14:waitsOk helmsmanlaw12_TreePrints.T14.2 helmsmanlaw12_TreePrints.B14=true:=by kernel_rfl
set_option maxHeartbeats 8000000 in
set_option maxRecDepth 100000 in
theorem helmsmanlaw12_TreePrints.calls (k:Nat) (A0_0:Option Addr) (c0_0:Nat) (l0_0:List (S72)) (A0_1:Option Addr) (c0_1:Nat) (l0_1:List (S56)) (A0_2:Option Addr) (c0_2:Nat) (l0_2:List (S69)) (A0_3:Option Addr) (c0_3:Nat) (l0_3:List (S29)) (r:Bool) (w:World) (hT:TabT w) (hr0_0:Kd.C k72 w A0_0 l0_0.length l0_0) (hc0_0:l0_0.length≤c0_0) (hr0_1:Kd.C k56 w A0_1 l0_1.length l0_1) (hc0_1:l0_1.length≤c0_1) (hr0_2:Kd.C k69 w A0_2 l0_2.length l0_2) (hc0_2:l0_2.length≤c0_2) (hr0_3:Kd.C k29 w A0_3 l0_3.length l0_3) (hc0_3:l0_3.length≤c0_3) (h:helmsmanlaw12_TreePrints.f k l0_0 l0_1 l0_2 l0_3=some r) :
  Calls Tryd.prog 4 #[.agg #[.slice A0_0 l0_0.length c0_0,.slice A0_1 l0_1.length c0_1,.slice A0_2 l0_2.length c0_2,.slice A0_3 l0_3.length c0_3]] w fun e w'=>e=.returned (.bool r)∧Below w.heap.size w w':=by
 have hu43:=Tryd.underlying43
 have hu50:=Tryd.underlying50
 have hu56:=Tryd.underlying56
 have HR0_0:=Aside0.mk hr0_0
 have HC0_0:=Aside0.mk hc0_0
 clear hr0_0 hc0_0
 have HR0_1:=Aside0.mk hr0_1
 have HC0_1:=Aside0.mk hc0_1
 clear hr0_1 hc0_1
 have HR0_2:=Aside0.mk hr0_2
 have HC0_2:=Aside0.mk hc0_2
 clear hr0_2 hc0_2
 have HR0_3:=Aside0.mk hr0_3
 have HC0_3:=Aside0.mk hc0_3
 clear hr0_3 hc0_3
 have HB:=Aside0.mk (Below.refl w.heap.size w)
 have H:((helmsmanref12_Sized.f k l0_0 l0_1 l0_2 l0_3).bind fun t297=>(if t297 > 300 then (helmsmanlaw12_TreePrints.j0 k true l0_0 l0_1 l0_2 l0_3) else (if (l0_0.length:Int) > 20 then (helmsmanlaw12_TreePrints.j0 k true l0_0 l0_1 l0_2 l0_3) else (if (l0_1.length:Int) > 20 then (helmsmanlaw12_TreePrints.j0 k true l0_0 l0_1 l0_2 l0_3) else (helmsmanlaw12_TreePrints.j0 k (decide ((l0_2.length:Int) > 20)) l0_0 l0_1 l0_2 l0_3)))))=some r:=h
 clear h
 have HC2:=Aside0.mk H
 clear H
 go_enter Tryd.func4,Tryd.ntmps4
 go_upto_region 1 with (first|((with_reducible refine gate_dst (N:=1) rfl ?_);(try (refine gate_guard (by rfl) ?_;dsimp only));refine bx_ (N:=1) (cs:=#[.slice A0_0 l0_0.length c0_0,.slice A0_1 l0_1.length c0_1,.slice A0_2 l0_2.length c0_2,.slice A0_3 l0_3.length c0_3]) (t:=43) ?_;intro gb296 hg w3 hbox hb;have BK296:=Aside0.mk (hbox);have GW296:=Aside0.mk ((gs_ hg (bl_ HB.out):w.heap.size≤gb296));have GE296:=Aside0.mk ((gs_ hg (bl_ HB.out):w.heap.size≤gb296));replace HB:=Aside0.mk (below_step (bl_ HB.out) hb);clear hb hbox hg))
 (try simp only [Act.put,List.setIfInBounds_toArray,List.set_cons_zero,List.set_cons_succ])
 go_cut [26] (fun v26 wc=>∃ (kq:Nat) (x26_1:Bool),v26=.bool x26_1∧Aside0 (helmsmanlaw12_TreePrints.j0 kq x26_1 l0_0 l0_1 l0_2 l0_3=some r)∧Aside0 (kq≤k)∧Aside0 (wc.heap[gb296]?=some (.cells #[(.slice A0_0 l0_0.length c0_0),(.slice A0_1 l0_1.length c0_1),(.slice A0_2 l0_2.length c0_2),(.slice A0_3 l0_3.length c0_3)] 43 (0,0)))∧Aside0 (Below w.heap.size w wc))
 case first=>
  have H:=HC2.out
  clear HC2
  revert H
  refine bd_ fun t297 A4 H=>?_
  by_cases c5:t297 > 300
  ·rw [if_pos c5] at H
   have c5b0:=decide_eq_true (show _ < _ from c5)
   clear c5
   (first|rw [c5b0]|(simp only [i64_w,i32_w];rw [c5b0])|skip)
   have H':=Aside0.mk H
   clear H
   obtain ⟨hcz6_0,hcz6_1,hcz6_2,hcz6_3,hfz6_0,hfz6_1,hfz6_2,hfz6_3⟩:=zf4_ BK296.out
   go_wp2_with (first|((with_reducible refine gate_callee (f:=16) rfl ?_);refine goesL_ (some 7) rfl rfl Tryd.func16 (by kernel_rfl) rfl #[.agg #[.slice A0_0 l0_0.length c0_0,.slice A0_1 l0_1.length c0_1,.slice A0_2 l0_2.length c0_2,.slice A0_3 l0_3.length c0_3]] rfl ar_ ?_;(with_reducible refine (helmsmanref12_Sized.calls k _ _ l0_0 _ _ l0_1 _ _ l0_2 _ _ l0_3 t297 _ ?side1 ?side2 ?side3 ?side4 ?side5 ?side6 ?side7 ?side8 A4.out).mono ?_);(case side1=>exact kc_ HR0_0.out HB.out);(case side2=>exact HC0_0.out);(case side3=>exact kc_ HR0_1.out HB.out);(case side4=>exact HC0_1.out);(case side5=>exact kc_ HR0_2.out HB.out);(case side6=>exact HC0_2.out);(case side7=>exact kc_ HR0_3.out HB.out);(case side8=>exact HC0_3.out);rintro e w7 ⟨rfl,hb⟩;refine ⟨_,rfl,?_⟩;replace BK296:=Aside0.mk (bb_ BK296.out hb);replace HB:=Aside0.mk (below_step (bl_ HB.out) hb)))
   go_meet
   case rel=>exact ⟨_,(true),rf_,H',⟨by first|omega|exact Nat.le_refl _⟩,⟨kb_ BK296.out⟩,⟨bl_ HB.out⟩⟩
  ·rw [if_neg c5] at H
   have c5b0:=decide_eq_false (show ¬ _ < _ from c5)
   clear c5
   (first|rw [c5b0]|(simp only [i64_w,i32_w];rw [c5b0])|skip)
   by_cases c8:(l0_0.length:Int) > 20
   ·rw [if_pos c8] at H
    have c8b0:=decide_eq_true (show _ < _ from c8)
    have c8b1:decide (20 < l0_0.length)=true:=decide_eq_true (by omega)
    clear c8
    have H':=Aside0.mk H
    clear H
    obtain ⟨hcz9_0,hcz9_1,hcz9_2,hcz9_3,hfz9_0,hfz9_1,hfz9_2,hfz9_3⟩:=zf4_ BK296.out
    go_wp2_with (first|((with_reducible refine gate_callee (f:=16) rfl ?_);refine goesL_ (some 7) rfl rfl Tryd.func16 (by kernel_rfl) rfl #[.agg #[.slice A0_0 l0_0.length c0_0,.slice A0_1 l0_1.length c0_1,.slice A0_2 l0_2.length c0_2,.slice A0_3 l0_3.length c0_3]] rfl ar_ ?_;(with_reducible refine (helmsmanref12_Sized.calls k _ _ l0_0 _ _ l0_1 _ _ l0_2 _ _ l0_3 t297 _ ?side1 ?side2 ?side3 ?side4 ?side5 ?side6 ?side7 ?side8 A4.out).mono ?_);(case side1=>exact kc_ HR0_0.out HB.out);(case side2=>exact HC0_0.out);(case side3=>exact kc_ HR0_1.out HB.out);(case side4=>exact HC0_1.out);(case side5=>exact kc_ HR0_2.out HB.out);(case side6=>exact HC0_2.out);(case side7=>exact kc_ HR0_3.out HB.out);(case side8=>exact HC0_3.out);rintro e w10 ⟨rfl,hb⟩;refine ⟨_,rfl,?_⟩;replace BK296:=Aside0.mk (bb_ BK296.out hb);replace HB:=Aside0.mk (below_step (bl_ HB.out) hb);obtain ⟨hcz11_0,hcz11_1,hcz11_2,hcz11_3,hfz11_0,hfz11_1,hfz11_2,hfz11_3⟩:=zf4_ BK296.out))
    go_meet
    case rel=>exact ⟨_,(true),rf_,H',⟨by first|omega|exact Nat.le_refl _⟩,⟨kb_ BK296.out⟩,⟨bl_ HB.out⟩⟩
   ·rw [if_neg c8] at H
    have c8b0:=decide_eq_false (show ¬ _ < _ from c8)
    have c8b1:decide (20 < l0_0.length)=false:=decide_eq_false (by omega)
    clear c8
    by_cases c12:(l0_1.length:Int) > 20
    ·rw [if_pos c12] at H
     have c12b0:=decide_eq_true (show _ < _ from c12)
     have c12b1:decide (20 < l0_1.length)=true:=decide_eq_true (by omega)
     clear c12
     have H':=Aside0.mk H
     clear H
     obtain ⟨hcz13_0,hcz13_1,hcz13_2,hcz13_3,hfz13_0,hfz13_1,hfz13_2,hfz13_3⟩:=zf4_ BK296.out
     go_wp2_with (first|((with_reducible refine gate_callee (f:=16) rfl ?_);refine goesL_ (some 7) rfl rfl Tryd.func16 (by kernel_rfl) rfl #[.agg #[.slice A0_0 l0_0.length c0_0,.slice A0_1 l0_1.length c0_1,.slice A0_2 l0_2.length c0_2,.slice A0_3 l0_3.length c0_3]] rfl ar_ ?_;(with_reducible refine (helmsmanref12_Sized.calls k _ _ l0_0 _ _ l0_1 _ _ l0_2 _ _ l0_3 t297 _ ?side1 ?side2 ?side3 ?side4 ?side5 ?side6 ?side7 ?side8 A4.out).mono ?_);(case side1=>exact kc_ HR0_0.out HB.out);(case side2=>exact HC0_0.out);(case side3=>exact kc_ HR0_1.out HB.out);(case side4=>exact HC0_1.out);(case side5=>exact kc_ HR0_2.out HB.out);(case side6=>exact HC0_2.out);(case side7=>exact kc_ HR0_3.out HB.out);(case side8=>exact HC0_3.out);rintro e w14 ⟨rfl,hb⟩;refine ⟨_,rfl,?_⟩;replace BK296:=Aside0.mk (bb_ BK296.out hb);replace HB:=Aside0.mk (below_step (bl_ HB.out) hb);obtain ⟨hcz15_0,hcz15_1,hcz15_2,hcz15_3,hfz15_0,hfz15_1,hfz15_2,hfz15_3⟩:=zf4_ BK296.out))
     go_meet
     case rel=>exact ⟨_,(true),rf_,H',⟨by first|omega|exact Nat.le_refl _⟩,⟨kb_ BK296.out⟩,⟨bl_ HB.out⟩⟩
    ·rw [if_neg c12] at H
     have c12b0:=decide_eq_false (show ¬ _ < _ from c12)
     have c12b1:decide (20 < l0_1.length)=false:=decide_eq_false (by omega)
     clear c12
     have H':=Aside0.mk H
     clear H
     obtain ⟨hcz16_0,hcz16_1,hcz16_2,hcz16_3,hfz16_0,hfz16_1,hfz16_2,hfz16_3⟩:=zf4_ BK296.out
     go_wp2_with (first|((with_reducible refine gate_callee (f:=16) rfl ?_);refine goesL_ (some 7) rfl rfl Tryd.func16 (by kernel_rfl) rfl #[.agg #[.slice A0_0 l0_0.length c0_0,.slice A0_1 l0_1.length c0_1,.slice A0_2 l0_2.length c0_2,.slice A0_3 l0_3.length c0_3]] rfl ar_ ?_;(with_reducible refine (helmsmanref12_Sized.calls k _ _ l0_0 _ _ l0_1 _ _ l0_2 _ _ l0_3 t297 _ ?side1 ?side2 ?side3 ?side4 ?side5 ?side6 ?side7 ?side8 A4.out).mono ?_);(case side1=>exact kc_ HR0_0.out HB.out);(case side2=>exact HC0_0.out);(case side3=>exact kc_ HR0_1.out HB.out);(case side4=>exact HC0_1.out);(case side5=>exact kc_ HR0_2.out HB.out);(case side6=>exact HC0_2.out);(case side7=>exact kc_ HR0_3.out HB.out);(case side8=>exact HC0_3.out);rintro e w17 ⟨rfl,hb⟩;refine ⟨_,rfl,?_⟩;replace BK296:=Aside0.mk (bb_ BK296.out hb);replace HB:=Aside0.mk (below_step (bl_ HB.out) hb);obtain ⟨hcz18_0,hcz18_1,hcz18_2,hcz18_3,hfz18_0,hfz18_1,hfz18_2,hfz18_3⟩:=zf4_ BK296.out))
     go_meet
     case rel=>exact ⟨_,(decide ((l0_2.length:Int) > 20)),rf_,H',⟨by first|omega|exact Nat.le_refl _⟩,⟨kb_ BK296.out⟩,⟨bl_ HB.out⟩⟩
 case rest=>
  clear HC2
  obtain ⟨kq,x26_1,rfl,HA,HJ1,BK296,HB⟩:=hcut
  cases kq with
  | zero=>exact absurd HA.out (by simp [helmsmanlaw12_TreePrints.j0])
  | succ kj1=>
   have H:=HA.out
   clear HA
   simp only [helmsmanlaw12_TreePrints.j0] at H
   by_cases c19:x26_1=true
   ·subst c19
    replace H:=ip_ H
    revert H
    refine bd_ fun t298 A20 H=>?_
    obtain rfl:=Option.some.inj H
    go_wp2_with (first|((with_reducible refine gate_callee (f:=10) rfl ?_);refine goesL_ (some 27) rfl rfl Tryd.func10 (by kernel_rfl) rfl #[] rfl ar_ ?_;(with_reducible refine (helmsmanlaw12_alive.calls  t298 _ ?side1 A20.out).mono ?_);(case side1=>exact hT.later (bl_ HB.out));rintro e w21 ⟨rfl,hb⟩;refine ⟨_,rfl,?_⟩;replace BK296:=Aside0.mk (bb_ BK296.out hb);replace HB:=Aside0.mk (below_step (bl_ HB.out) hb)))
    go_ret
    exact ⟨rt_,bl_ HB.out⟩
   ·replace c19:=Bool.eq_false_iff.mpr c19
    subst c19
    replace H:=in_ H
    replace H:=Option.bind_eq_some_iff.mp H
    obtain ⟨⟨t299,t302,t305,t308⟩,A220,H⟩:=H
    replace H:((tree_Depth.f kj1 t308).bind fun t312=>((helmsmanref12_Depth.f kj1 l0_3).bind fun t313=>(if t312=t313 then ((tree_Sized.f kj1 t299 t302 t305 t308).bind fun t314=>((helmsmanref12_Sized.f kj1 l0_0 l0_1 l0_2 l0_3).bind fun t315=>(helmsmanlaw12_TreePrints.j1 kj1 (t314 != t315) l0_0 l0_1 l0_2 l0_3 t299 t302 t305 t308))) else (helmsmanlaw12_TreePrints.j1 kj1 true l0_0 l0_1 l0_2 l0_3 t299 t302 t305 t308))))=some r:=H
    have A22:=Aside0.mk A220
    clear A220
    have HC23:=Aside0.mk H
    clear H
    obtain ⟨hcz24_0,hcz24_1,hcz24_2,hcz24_3,hfz24_0,hfz24_1,hfz24_2,hfz24_3⟩:=zf4_ BK296.out
    go_upto_region 4 with (first|((with_reducible refine gate_callee (f:=17) rfl ?_);refine goesL_ (some 29) rfl rfl Tryd.func17 (by kernel_rfl) rfl #[.agg #[.slice A0_0 l0_0.length c0_0,.slice A0_1 l0_1.length c0_1,.slice A0_2 l0_2.length c0_2,.slice A0_3 l0_3.length c0_3]] rfl ar_ ?_;(with_reducible refine (helmsmanlaw12_Prog.calls kj1 (fun k_=>k_ < w.heap.size) _ _ l0_0 _ _ l0_1 _ _ l0_2 _ _ l0_3 t299 t302 t305 t308 _ ?side1 ?side2 ?side3 ?side4 ?side5 ?side6 ?side7 A22.out).mono ?_);(case side1=>exact Kd.V_mk HC0_0.out (Kd.F_below (Kd.C_F k72_heap HR0_0.out) (bl_ HB.out)));(case side2=>exact kc_ HR0_1.out HB.out);(case side3=>exact HC0_1.out);(case side4=>exact kc_ HR0_2.out HB.out);(case side5=>exact HC0_2.out);(case side6=>exact kc_ HR0_3.out HB.out);(case side7=>exact HC0_3.out);rintro e w25 ⟨v300,v303,v306,v309,rfl,ho0,ho1,ho2,ho3,hb⟩;refine ⟨_,rfl,?_⟩;have n0_:=Aside0.mk (Kd.N_lower (Kd.N_mono (ok':=fun k_=>some k_≠(v303:Value).ownBlock∧some k_≠(v306:Value).ownBlock∧some k_≠(v309:Value).ownBlock∧k_≠gb296) ho0 (fun k_ hk_=>⟨hk_.2.1,hk_.2.2.1,hk_.2.2.2,Or.elim hk_.1 (fun hs_=>fun e_=>Nat.not_le.2 hs_ (by rw [e_];exact GW296.out)) (fun hn_=>(Kd.freshB (g:=gb296) (o:=.cells #[.slice A0_0 l0_0.length c0_0,.slice A0_1 l0_1.length c0_1,.slice A0_2 l0_2.length c0_2,.slice A0_3 l0_3.length c0_3] 43 (0,0)) (kb_ BK296.out) k_ hn_))⟩)) (below_size (bl_ HB.out)));have n1_:=Aside0.mk (Kd.R_lower (Kd.R_mono (ok':=fun k_=>True) ho1 (fun _ hk_=>trivial)) (below_size (bl_ HB.out)));have n2_:=Aside0.mk (Kd.N_lower (Kd.N_mono (ok':=fun k_=>some k_≠(v300:Value).ownBlock∧some k_≠(v303:Value).ownBlock∧some k_≠(v309:Value).ownBlock∧k_≠gb296) ho2 (fun k_ hk_=>⟨hk_.2.1,hk_.2.2.1,hk_.2.2.2,Or.elim hk_.1 (fun hs_=>fun e_=>Nat.not_le.2 hs_ (by rw [e_];exact GW296.out)) (fun hn_=>(Kd.freshB (g:=gb296) (o:=.cells #[.slice A0_0 l0_0.length c0_0,.slice A0_1 l0_1.length c0_1,.slice A0_2 l0_2.length c0_2,.slice A0_3 l0_3.length c0_3] 43 (0,0)) (kb_ BK296.out) k_ hn_))⟩)) (below_size (bl_ HB.out)));have n3_:=Aside0.mk (Kd.N_lower (Kd.N_mono (ok':=fun k_=>some k_≠(v300:Value).ownBlock∧some k_≠(v303:Value).ownBlock∧some k_≠(v306:Value).ownBlock∧k_≠gb296) ho3 (fun k_ hk_=>⟨hk_.2.1,hk_.2.2.1,hk_.2.2.2,Or.elim hk_.1 (fun hs_=>fun e_=>Nat.not_le.2 hs_ (by rw [e_];exact GW296.out)) (fun hn_=>(Kd.freshB (g:=gb296) (o:=.cells #[.slice A0_0 l0_0.length c0_0,.slice A0_1 l0_1.length c0_1,.slice A0_2 l0_2.length c0_2,.slice A0_3 l0_3.length c0_3] 43 (0,0)) (kb_ BK296.out) k_ hn_))⟩)) (below_size (bl_ HB.out)));have n4_:=Aside0.mk (bb_ BK296.out hb);have n5_:=Aside0.mk (below_step (bl_ HB.out) hb);clear BK296;clear HB;have HO301:=n0_;have HO304:=n1_;have HO307:=n2_;have HO310:=n3_;have BK296:=n4_;have HB:=n5_;clear n0_ n1_ n2_ n3_ n4_ n5_;(try clear ho0);(try clear ho1);(try clear ho2);(try clear ho3))|((with_reducible refine gate_dst (N:=3) rfl ?_);(try (refine gate_guard (by rfl) ?_;dsimp only));refine bx_ (N:=3) (cs:=#[.slice none 0 0,.slice none 0 0,.slice none 0 0,.slice none 0 0]) (t:=50) ?_;intro gb311 hg w26 hbox hb;have n0_:=Aside0.mk (Kd.N_below (Kd.N_elderB (by (with_reducible repeat (first|apply Kd.N_alloc|apply Kd.N_drewN|apply Kd.N_drew));exact HO301.out) gb311 (Nat.le_of_eq hg.symm)) hb);have n1_:=Aside0.mk (Kd.R_below (by (with_reducible repeat (first|apply Kd.R_alloc|apply Kd.R_drewN|apply Kd.R_drew));exact HO304.out) hb);have n2_:=Aside0.mk (Kd.N_below (Kd.N_elderB (by (with_reducible repeat (first|apply Kd.N_alloc|apply Kd.N_drewN|apply Kd.N_drew));exact HO307.out) gb311 (Nat.le_of_eq hg.symm)) hb);have n3_:=Aside0.mk (Kd.N_below (Kd.N_elderB (by (with_reducible repeat (first|apply Kd.N_alloc|apply Kd.N_drewN|apply Kd.N_drew));exact HO310.out) gb311 (Nat.le_of_eq hg.symm)) hb);have n4_:=Aside0.mk (bb_ BK296.out hb);have n5_:=Aside0.mk (below_step (bl_ HB.out) hb);have n6_:=Aside0.mk (hbox);have n7_:=Aside0.mk ((gs_ hg (bl_ HB.out):w.heap.size≤gb311));have n8_:=Aside0.mk ((gs_ hg (bl_ HB.out):w.heap.size≤gb311));have n9_:=Aside0.mk ((nl_ hg BK296.out:gb296≠gb311));have n10_:=Aside0.mk ((nr_ hg BK296.out:gb311≠gb296));clear HO301;clear HO304;clear HO307;clear HO310;clear BK296;clear HB;have HO301:=n0_;have HO304:=n1_;have HO307:=n2_;have HO310:=n3_;have BK296:=n4_;have HB:=n5_;have BK311:=n6_;have GW311:=n7_;have GE311:=n8_;have NB296_311:=n9_;have NB311_296:=n10_;clear n0_ n1_ n2_ n3_ n4_ n5_ n6_ n7_ n8_ n9_ n10_;clear hb hbox hg;obtain ⟨Ao27,co27,eo27⟩:=Kd.N_slice HO301.out;subst eo27;have hnb28:=NB311_296.out;have hnc28:=NB296_311.out;obtain ⟨hcz29_0,hcz29_1,hcz29_2,hcz29_3,hfz29_0,hfz29_1,hfz29_2,hfz29_3⟩:=zf4_ BK311.out;obtain ⟨Ao30,co30,eo30⟩:=Kd.R_slice HO304.out;subst eo30;obtain ⟨Ao31,co31,eo31⟩:=Kd.N_slice HO307.out;subst eo31;obtain ⟨Ao32,co32,eo32⟩:=Kd.N_slice HO310.out;subst eo32))
    (try simp only [Act.put,List.setIfInBounds_toArray,List.set_cons_zero,List.set_cons_succ])
    go_cut [43] (fun v43 wc=>∃ (kq:Nat) (x43_22:Bool),v43=.bool x43_22∧Aside0 (helmsmanlaw12_TreePrints.j1 kq x43_22 l0_0 l0_1 l0_2 l0_3 t299 t302 t305 t308=some r)∧Aside0 (kq≤kj1)∧Aside0 (Kd.N k79 79 wc w.heap.size (fun k_=>some k_≠((.slice Ao30 t302.length co30):Value).ownBlock∧some k_≠((.slice Ao31 t305.length co31):Value).ownBlock∧some k_≠((.slice Ao32 t308.length co32):Value).ownBlock∧k_≠gb296∧k_≠gb311) (.slice Ao27 t299.length co27) t299)∧Aside0 (Kd.R k80 80 wc w.heap.size (fun _=>True) (.slice Ao30 t302.length co30) t302)∧Aside0 (Kd.N k66 66 wc w.heap.size (fun k_=>some k_≠((.slice Ao27 t299.length co27):Value).ownBlock∧some k_≠((.slice Ao30 t302.length co30):Value).ownBlock∧some k_≠((.slice Ao32 t308.length co32):Value).ownBlock∧k_≠gb296∧k_≠gb311) (.slice Ao31 t305.length co31) t305)∧Aside0 (Kd.N k76 76 wc w.heap.size (fun k_=>some k_≠((.slice Ao27 t299.length co27):Value).ownBlock∧some k_≠((.slice Ao30 t302.length co30):Value).ownBlock∧some k_≠((.slice Ao31 t305.length co31):Value).ownBlock∧k_≠gb296∧k_≠gb311) (.slice Ao32 t308.length co32) t308)∧Aside0 (wc.heap[gb296]?=some (.cells #[(.slice A0_0 l0_0.length c0_0),(.slice A0_1 l0_1.length c0_1),(.slice A0_2 l0_2.length c0_2),(.slice A0_3 l0_3.length c0_3)] 43 (0,0)))∧Aside0 (wc.heap[gb311]?=some (.cells #[(.slice Ao27 t299.length co27),(.slice Ao30 t302.length co30),(.slice Ao31 t305.length co31),(.slice Ao32 t308.length co32)] 50 (0,0)))∧Aside0 (Below w.heap.size w wc))
    case first=>
     have H:=HC23.out
     clear HC23
     revert H
     refine bd_ fun t312 A33 H=>?_
     revert H
     refine bd_ fun t313 A34 H=>?_
     by_cases c35:t312=t313
     ·rw [if_pos c35] at H
      have c35b0:(t312 == t313)=true:=beq_iff_eq.mpr c35
      have c35b1:(t312 != t313)=false:=bne_eq_false_iff_eq.mpr c35
      clear c35
      (first|rw [c35b0]|(simp only [i64_w,i32_w];rw [c35b0])|skip)
      revert H
      refine bd_ fun t314 A36 H=>?_
      revert H
      refine bd_ fun t315 A37 H=>?_
      have H':=Aside0.mk H
      clear H
      try go_wp2
      have n0_:Aside0 (Kd.N k79 79 ((((w26.setCell ⟨gb311,0,none⟩ (.slice Ao27 t299.length co27)).setCell ⟨gb311,1,none⟩ (.slice Ao30 t302.length co30)).setCell ⟨gb311,2,none⟩ (.slice Ao31 t305.length co31)).setCell ⟨gb311,3,none⟩ (.slice Ao32 t308.length co32)) w.heap.size (fun k_=>some k_≠(.slice Ao30 t302.length co30:Value).ownBlock∧some k_≠(.slice Ao31 t305.length co31:Value).ownBlock∧some k_≠(.slice Ao32 t308.length co32:Value).ownBlock∧k_≠gb296∧k_≠gb311) (.slice Ao27 t299.length co27) t299):=⟨by (with_reducible repeat (first|apply Kd.N_alloc|apply Kd.N_drewN|apply Kd.N_drew));exact Kd.N_mono (Kd.N_far (p:=⟨gb311,3,none⟩) (Kd.N_far (p:=⟨gb311,2,none⟩) (Kd.N_far (p:=⟨gb311,1,none⟩) (Kd.N_far (p:=⟨gb311,0,none⟩) (Kd.N_mono HO301.out (fun k_ hk=>(⟨hk,hk.2⟩:_∧k_≠gb311))) (fun _ hk=>hk.2) (.slice Ao27 t299.length co27)) (fun _ hk=>hk.2) (.slice Ao30 t302.length co30)) (fun _ hk=>hk.2) (.slice Ao31 t305.length co31)) (fun _ hk=>hk.2) (.slice Ao32 t308.length co32)) (fun _ hk=>⟨hk.1.1.1,⟨hk.1.1.2.1,⟨hk.1.1.2.2.1,⟨hk.1.1.2.2.2,hk.1.2⟩⟩⟩⟩)⟩
      have n1_:Aside0 (Kd.R k80 80 ((((w26.setCell ⟨gb311,0,none⟩ (.slice Ao27 t299.length co27)).setCell ⟨gb311,1,none⟩ (.slice Ao30 t302.length co30)).setCell ⟨gb311,2,none⟩ (.slice Ao31 t305.length co31)).setCell ⟨gb311,3,none⟩ (.slice Ao32 t308.length co32)) w.heap.size (fun _=>True) (.slice Ao30 t302.length co30) t302):=⟨by (with_reducible repeat (first|apply Kd.R_alloc|apply Kd.R_drewN|apply Kd.R_drew));exact Kd.R_mono (Kd.R_far (p:=⟨gb311,3,none⟩) (Kd.R_far (p:=⟨gb311,2,none⟩) (Kd.R_far (p:=⟨gb311,1,none⟩) (Kd.R_far (p:=⟨gb311,0,none⟩) (Kd.R_types HO304.out BK311.out (by decide)) (fun _ hk=>hk.2) (.slice Ao27 t299.length co27)) (fun _ hk=>hk.2) (.slice Ao30 t302.length co30)) (fun _ hk=>hk.2) (.slice Ao31 t305.length co31)) (fun _ hk=>hk.2) (.slice Ao32 t308.length co32)) (fun _ hk=>trivial)⟩
      have n2_:Aside0 (Kd.N k66 66 ((((w26.setCell ⟨gb311,0,none⟩ (.slice Ao27 t299.length co27)).setCell ⟨gb311,1,none⟩ (.slice Ao30 t302.length co30)).setCell ⟨gb311,2,none⟩ (.slice Ao31 t305.length co31)).setCell ⟨gb311,3,none⟩ (.slice Ao32 t308.length co32)) w.heap.size (fun k_=>some k_≠(.slice Ao27 t299.length co27:Value).ownBlock∧some k_≠(.slice Ao30 t302.length co30:Value).ownBlock∧some k_≠(.slice Ao32 t308.length co32:Value).ownBlock∧k_≠gb296∧k_≠gb311) (.slice Ao31 t305.length co31) t305):=⟨by (with_reducible repeat (first|apply Kd.N_alloc|apply Kd.N_drewN|apply Kd.N_drew));exact Kd.N_mono (Kd.N_far (p:=⟨gb311,3,none⟩) (Kd.N_far (p:=⟨gb311,2,none⟩) (Kd.N_far (p:=⟨gb311,1,none⟩) (Kd.N_far (p:=⟨gb311,0,none⟩) (Kd.N_mono HO307.out (fun k_ hk=>(⟨hk,hk.2⟩:_∧k_≠gb311))) (fun _ hk=>hk.2) (.slice Ao27 t299.length co27)) (fun _ hk=>hk.2) (.slice Ao30 t302.length co30)) (fun _ hk=>hk.2) (.slice Ao31 t305.length co31)) (fun _ hk=>hk.2) (.slice Ao32 t308.length co32)) (fun _ hk=>⟨hk.1.1.1,⟨hk.1.1.2.1,⟨hk.1.1.2.2.1,⟨hk.1.1.2.2.2,hk.1.2⟩⟩⟩⟩)⟩
      have n3_:Aside0 (Kd.N k76 76 ((((w26.setCell ⟨gb311,0,none⟩ (.slice Ao27 t299.length co27)).setCell ⟨gb311,1,none⟩ (.slice Ao30 t302.length co30)).setCell ⟨gb311,2,none⟩ (.slice Ao31 t305.length co31)).setCell ⟨gb311,3,none⟩ (.slice Ao32 t308.length co32)) w.heap.size (fun k_=>some k_≠(.slice Ao27 t299.length co27:Value).ownBlock∧some k_≠(.slice Ao30 t302.length co30:Value).ownBlock∧some k_≠(.slice Ao31 t305.length co31:Value).ownBlock∧k_≠gb296∧k_≠gb311) (.slice Ao32 t308.length co32) t308):=⟨by (with_reducible repeat (first|apply Kd.N_alloc|apply Kd.N_drewN|apply Kd.N_drew));exact Kd.N_mono (Kd.N_far (p:=⟨gb311,3,none⟩) (Kd.N_far (p:=⟨gb311,2,none⟩) (Kd.N_far (p:=⟨gb311,1,none⟩) (Kd.N_far (p:=⟨gb311,0,none⟩) (Kd.N_mono HO310.out (fun k_ hk=>(⟨hk,hk.2⟩:_∧k_≠gb311))) (fun _ hk=>hk.2) (.slice Ao27 t299.length co27)) (fun _ hk=>hk.2) (.slice Ao30 t302.length co30)) (fun _ hk=>hk.2) (.slice Ao31 t305.length co31)) (fun _ hk=>hk.2) (.slice Ao32 t308.length co32)) (fun _ hk=>⟨hk.1.1.1,⟨hk.1.1.2.1,⟨hk.1.1.2.2.1,⟨hk.1.1.2.2.2,hk.1.2⟩⟩⟩⟩)⟩
      have n4_:Aside0 (((((w26.setCell ⟨gb311,0,none⟩ (.slice Ao27 t299.length co27)).setCell ⟨gb311,1,none⟩ (.slice Ao30 t302.length co30)).setCell ⟨gb311,2,none⟩ (.slice Ao31 t305.length co31)).setCell ⟨gb311,3,none⟩ (.slice Ao32 t308.length co32)).heap[gb296]?=some (.cells #[.slice A0_0 l0_0.length c0_0,.slice A0_1 l0_1.length c0_1,.slice A0_2 l0_2.length c0_2,.slice A0_3 l0_3.length c0_3] 43 (0,0))):=⟨kbc_ BK296.out⟩
      have n5_:Aside0 (((((w26.setCell ⟨gb311,0,none⟩ (.slice Ao27 t299.length co27)).setCell ⟨gb311,1,none⟩ (.slice Ao30 t302.length co30)).setCell ⟨gb311,2,none⟩ (.slice Ao31 t305.length co31)).setCell ⟨gb311,3,none⟩ (.slice Ao32 t308.length co32)).heap[gb311]?=some (.cells #[.slice Ao27 t299.length co27,.slice Ao30 t302.length co30,.slice Ao31 t305.length co31,.slice Ao32 t308.length co32] 50 (0,0))):=⟨kbc_ BK311.out⟩
      have n6_:Aside0 (Below w.heap.size w ((((w26.setCell ⟨gb311,0,none⟩ (.slice Ao27 t299.length co27)).setCell ⟨gb311,1,none⟩ (.slice Ao30 t302.length co30)).setCell ⟨gb311,2,none⟩ (.slice Ao31 t305.length co31)).setCell ⟨gb311,3,none⟩ (.slice Ao32 t308.length co32))):=⟨bl_ HB.out⟩
      (try clear HO301)
      (try clear HO304)
      (try clear HO307)
      (try clear HO310)
      (try clear BK296)
      (try clear BK311)
      (try clear HB)
      generalize ((((w26.setCell ⟨gb311,0,none⟩ (.slice Ao27 t299.length co27)).setCell ⟨gb311,1,none⟩ (.slice Ao30 t302.length co30)).setCell ⟨gb311,2,none⟩ (.slice Ao31 t305.length co31)).setCell ⟨gb311,3,none⟩ (.slice Ao32 t308.length co32))=w38 at n0_ n1_ n2_ n3_ n4_ n5_ n6_ ⊢
      have HO301:=n0_
      have HO304:=n1_
      have HO307:=n2_
      have HO310:=n3_
      have BK296:=n4_
      have BK311:=n5_
      have HB:=n6_
      clear n0_ n1_ n2_ n3_ n4_ n5_ n6_
      replace HO301:=Aside0.mk (Kd.N_drew HO301.out)
      replace HO304:=Aside0.mk (Kd.R_drew HO304.out)
      replace HO307:=Aside0.mk (Kd.N_drew HO307.out)
      replace HO310:=Aside0.mk (Kd.N_drew HO310.out)
      replace BK296:=Aside0.mk (blk_drew BK296.out)
      replace BK311:=Aside0.mk (blk_drew BK311.out)
      replace HB:=Aside0.mk (below_drew1 HB.out)
      refine start_ (n:=14) (S:=fun w'=>w'.cell? ⟨gb311,0,none⟩=some (.slice Ao27 t299.length co27)∧w'.cell? ⟨gb311,1,none⟩=some (.slice Ao30 t302.length co30)∧w'.cell? ⟨gb311,2,none⟩=some (.slice Ao31 t305.length co31)∧w'.cell? ⟨gb311,3,none⟩=some (.slice Ao32 t308.length co32)∧w'.cell? ⟨gb296,0,none⟩=some (.slice A0_0 l0_0.length c0_0)∧w'.cell? ⟨gb296,1,none⟩=some (.slice A0_1 l0_1.length c0_1)∧w'.cell? ⟨gb296,2,none⟩=some (.slice A0_2 l0_2.length c0_2)∧w'.cell? ⟨gb296,3,none⟩=some (.slice A0_3 l0_3.length c0_3)) (ds:=[]) (flg 14 0) (by kernel_rfl) rfl (by kernel_rfl) ⟨zc_ BK311.out 0,zc_ BK311.out 1,zc_ BK311.out 2,zc_ BK311.out 3,zc_ BK296.out 0,zc_ BK296.out 1,zc_ BK296.out 2,zc_ BK296.out 3⟩ (fun hHeld=>?_);refine with_tabW helmsmanlaw12_TreePrints.tab4 helmsmanlaw12_TreePrints.bits4 (fun HT_ HW_=>?_)
      generalize w38.drew=w39 at HO301 HO304 HO307 HO310 BK296 BK311 HB hHeld ⊢
      refine pu_ 0 30 (flg 14 1) ?_
      refine pu_ 3 33 (flg 14 9) ?_
      refine ta_ 1 31 (flg 14 11) hHeld ?_
      refine ta_ 4 34 (flg 14 27) hHeld ?_
      refine one_ (i:=2) (N:=some 32) (flg 14 31) rfl rfl (one_of HT_.out (by kernel_rfl)) (by decide) (fun K hK=>?_)
      refine goes_ Tryd.func18 (by kernel_rfl) rfl #[.slice Ao32 t308.length co32] (by rfl) rfl rfl ar_ ?_
      with_reducible refine (tree_Depth.calls kj1 _ _ t308 t312 _ ?side1 ?side2 A33.out).mono ?_
      (case side1=>repeat (first|exact (Kd.N_reads' HO310.out).2.2|(with_reducible refine Kd.C_alloc ?_ _)|(with_reducible refine Kd.C_drewN ?_ _)|(with_reducible refine Kd.C_drew ?_)))
      (case side2=>exact (Kd.N_reads' HO310.out).2.1)
      rintro e w40 ⟨rfl,hb⟩
      refine ⟨_,rfl,?_⟩
      replace HO301:=Aside0.mk (Kd.N_below (by (with_reducible repeat (first|apply Kd.N_alloc|apply Kd.N_drewN|apply Kd.N_drew));exact HO301.out) hb)
      replace HO304:=Aside0.mk (Kd.R_below (by (with_reducible repeat (first|apply Kd.R_alloc|apply Kd.R_drewN|apply Kd.R_drew));exact HO304.out) hb)
      replace HO307:=Aside0.mk (Kd.N_below (by (with_reducible repeat (first|apply Kd.N_alloc|apply Kd.N_drewN|apply Kd.N_drew));exact HO307.out) hb)
      replace HO310:=Aside0.mk (Kd.N_below (by (with_reducible repeat (first|apply Kd.N_alloc|apply Kd.N_drewN|apply Kd.N_drew));exact HO310.out) hb)
      replace BK296:=Aside0.mk (bb_ BK296.out hb)
      replace BK311:=Aside0.mk (bb_ BK311.out hb)
      replace HB:=Aside0.mk (below_step (bl_ HB.out) hb)
      refine ko_ hK (fun hHeld=>?_)
      clear hK K
      refine nm_ ?_
      refine one_ (i:=5) (N:=some 35) (flg 14 63) rfl rfl (one_of HT_.out (by kernel_rfl)) (by decide) (fun K hK=>?_)
      refine goes_ Tryd.func19 (by kernel_rfl) rfl #[.slice A0_3 l0_3.length c0_3] (by rfl) rfl rfl ar_ ?_
      with_reducible refine (helmsmanref12_Depth.calls kj1 _ _ l0_3 t313 _ ?side1 ?side2 A34.out).mono ?_
      (case side1=>exact kc_ HR0_3.out HB.out)
      (case side2=>exact HC0_3.out)
      rintro e w' ⟨rfl,⟨nd,rfl⟩⟩
      refine ⟨_,rfl,?_⟩
      refine hK.out _ _ ⟨zc_ BK311.out 0,zc_ BK311.out 1,zc_ BK311.out 2,zc_ BK311.out 3,zc_ BK296.out 0,zc_ BK296.out 1,zc_ BK296.out 2,zc_ BK296.out 3⟩ (fun hHeld=>?_)
      clear hK K
      refine nm_ ?_
      refine pu_ 6 36 (flg 14 127) ?_
      refine pu_ 7 37 (flg 14 255) ?_
      refine ta_ 8 38 (flg 14 511) hHeld ?_
      refine ta_ 10 40 (flg 14 1535) hHeld ?_
      refine one_ (i:=9) (N:=some 39) (flg 14 2047) rfl rfl (one_of HT_.out (by kernel_rfl)) (by decide) (fun K hK=>?_)
      refine goes_ Tryd.func20 (by kernel_rfl) rfl #[.agg #[.slice Ao27 t299.length co27,.slice Ao30 t302.length co30,.slice Ao31 t305.length co31,.slice Ao32 t308.length co32]] (by rfl) rfl rfl ar_ ?_
      with_reducible refine (tree_Sized.calls kj1 _ _ t299 _ _ t302 _ _ t305 _ _ t308 t314 _ ?side1 ?side2 ?side3 ?side4 ?side5 ?side6 ?side7 ?side8 A36.out).mono ?_
      (case side1=>repeat (first|exact (Kd.N_reads' HO301.out).2.2|(with_reducible refine Kd.C_alloc ?_ _)|(with_reducible refine Kd.C_drewN ?_ _)|(with_reducible refine Kd.C_drew ?_)))
      (case side2=>exact (Kd.N_reads' HO301.out).2.1)
      (case side3=>repeat (first|exact (Kd.R_reads' HO304.out).2.2|(with_reducible refine Kd.C_alloc ?_ _)|(with_reducible refine Kd.C_drewN ?_ _)|(with_reducible refine Kd.C_drew ?_)))
      (case side4=>exact (Kd.R_reads' HO304.out).2.1)
      (case side5=>repeat (first|exact (Kd.N_reads' HO307.out).2.2|(with_reducible refine Kd.C_alloc ?_ _)|(with_reducible refine Kd.C_drewN ?_ _)|(with_reducible refine Kd.C_drew ?_)))
      (case side6=>exact (Kd.N_reads' HO307.out).2.1)
      (case side7=>repeat (first|exact (Kd.N_reads' HO310.out).2.2|(with_reducible refine Kd.C_alloc ?_ _)|(with_reducible refine Kd.C_drewN ?_ _)|(with_reducible refine Kd.C_drew ?_)))
      (case side8=>exact (Kd.N_reads' HO310.out).2.1)
      rintro e w41 ⟨rfl,hb⟩
      refine ⟨_,rfl,?_⟩
      replace HO301:=Aside0.mk (Kd.N_below (by (with_reducible repeat (first|apply Kd.N_alloc|apply Kd.N_drewN|apply Kd.N_drew));exact HO301.out) hb)
      replace HO304:=Aside0.mk (Kd.R_below (by (with_reducible repeat (first|apply Kd.R_alloc|apply Kd.R_drewN|apply Kd.R_drew));exact HO304.out) hb)
      replace HO307:=Aside0.mk (Kd.N_below (by (with_reducible repeat (first|apply Kd.N_alloc|apply Kd.N_drewN|apply Kd.N_drew));exact HO307.out) hb)
      replace HO310:=Aside0.mk (Kd.N_below (by (with_reducible repeat (first|apply Kd.N_alloc|apply Kd.N_drewN|apply Kd.N_drew));exact HO310.out) hb)
      replace BK296:=Aside0.mk (bb_ BK296.out hb)
      replace BK311:=Aside0.mk (bb_ BK311.out hb)
      replace HB:=Aside0.mk (below_step (bl_ HB.out) hb)
      refine ko_ hK (fun hHeld=>?_)
      clear hK K
      refine nm_ ?_
      refine one_ (i:=11) (N:=some 41) (flg 14 4095) rfl rfl (one_of HT_.out (by kernel_rfl)) (by decide) (fun K hK=>?_)
      refine goes_ Tryd.func16 (by kernel_rfl) rfl #[.agg #[.slice A0_0 l0_0.length c0_0,.slice A0_1 l0_1.length c0_1,.slice A0_2 l0_2.length c0_2,.slice A0_3 l0_3.length c0_3]] (by rfl) rfl rfl ar_ ?_
      with_reducible refine (helmsmanref12_Sized.calls kj1 _ _ l0_0 _ _ l0_1 _ _ l0_2 _ _ l0_3 t315 _ ?side1 ?side2 ?side3 ?side4 ?side5 ?side6 ?side7 ?side8 A37.out).mono ?_
      (case side1=>exact kc_ HR0_0.out HB.out)
      (case side2=>exact HC0_0.out)
      (case side3=>exact kc_ HR0_1.out HB.out)
      (case side4=>exact HC0_1.out)
      (case side5=>exact kc_ HR0_2.out HB.out)
      (case side6=>exact HC0_2.out)
      (case side7=>exact kc_ HR0_3.out HB.out)
      (case side8=>exact HC0_3.out)
      rintro e w42 ⟨rfl,hb⟩
      refine ⟨_,rfl,?_⟩
      replace HO301:=Aside0.mk (Kd.N_below (by (with_reducible repeat (first|apply Kd.N_alloc|apply Kd.N_drewN|apply Kd.N_drew));exact HO301.out) hb)
      replace HO304:=Aside0.mk (Kd.R_below (by (with_reducible repeat (first|apply Kd.R_alloc|apply Kd.R_drewN|apply Kd.R_drew));exact HO304.out) hb)
      replace HO307:=Aside0.mk (Kd.N_below (by (with_reducible repeat (first|apply Kd.N_alloc|apply Kd.N_drewN|apply Kd.N_drew));exact HO307.out) hb)
      replace HO310:=Aside0.mk (Kd.N_below (by (with_reducible repeat (first|apply Kd.N_alloc|apply Kd.N_drewN|apply Kd.N_drew));exact HO310.out) hb)
      replace BK296:=Aside0.mk (bb_ BK296.out hb)
      replace BK311:=Aside0.mk (bb_ BK311.out hb)
      replace HB:=Aside0.mk (below_step (bl_ HB.out) hb)
      refine ko_ hK (fun hHeld=>?_)
      clear hK K
      refine nm_ ?_
      refine pu_ 12 42 (flg 14 8191) ?_
      refine pu_ 13 43 (flg 14 16383) ?_
      refine done_ (done_of HT_.out (by kernel_rfl)) ?_
      try go_wp2
      go_meet
      case rel=>exact ⟨_,((t314 != t315)),rf_,H',⟨by have:=HJ1.out;first|omega|exact Nat.le_refl _⟩,⟨by (with_reducible repeat (first|apply Kd.N_alloc|apply Kd.N_drewN|apply Kd.N_drew));exact HO301.out⟩,⟨by (with_reducible repeat (first|apply Kd.R_alloc|apply Kd.R_drewN|apply Kd.R_drew));exact HO304.out⟩,⟨by (with_reducible repeat (first|apply Kd.N_alloc|apply Kd.N_drewN|apply Kd.N_drew));exact HO307.out⟩,⟨by (with_reducible repeat (first|apply Kd.N_alloc|apply Kd.N_drewN|apply Kd.N_drew));exact HO310.out⟩,⟨kb_ BK296.out⟩,⟨kb_ BK311.out⟩,⟨bl_ HB.out⟩⟩
     ·rw [if_neg c35] at H
      have c35b0:(t312 == t313)=false:=beq_eq_false_iff_ne.mpr c35
      have c35b1:(t312 != t313)=true:=bne_iff_ne.mpr c35
      (first|rw [c35b0]|(simp only [i64_w,i32_w];rw [c35b0])|skip)
      have H':=Aside0.mk H
      clear H
      try go_wp2
      have n0_:Aside0 (Kd.N k79 79 ((((w26.setCell ⟨gb311,0,none⟩ (.slice Ao27 t299.length co27)).setCell ⟨gb311,1,none⟩ (.slice Ao30 t302.length co30)).setCell ⟨gb311,2,none⟩ (.slice Ao31 t305.length co31)).setCell ⟨gb311,3,none⟩ (.slice Ao32 t308.length co32)) w.heap.size (fun k_=>some k_≠(.slice Ao30 t302.length co30:Value).ownBlock∧some k_≠(.slice Ao31 t305.length co31:Value).ownBlock∧some k_≠(.slice Ao32 t308.length co32:Value).ownBlock∧k_≠gb296∧k_≠gb311) (.slice Ao27 t299.length co27) t299):=⟨by (with_reducible repeat (first|apply Kd.N_alloc|apply Kd.N_drewN|apply Kd.N_drew));exact Kd.N_mono (Kd.N_far (p:=⟨gb311,3,none⟩) (Kd.N_far (p:=⟨gb311,2,none⟩) (Kd.N_far (p:=⟨gb311,1,none⟩) (Kd.N_far (p:=⟨gb311,0,none⟩) (Kd.N_mono HO301.out (fun k_ hk=>(⟨hk,hk.2⟩:_∧k_≠gb311))) (fun _ hk=>hk.2) (.slice Ao27 t299.length co27)) (fun _ hk=>hk.2) (.slice Ao30 t302.length co30)) (fun _ hk=>hk.2) (.slice Ao31 t305.length co31)) (fun _ hk=>hk.2) (.slice Ao32 t308.length co32)) (fun _ hk=>⟨hk.1.1.1,⟨hk.1.1.2.1,⟨hk.1.1.2.2.1,⟨hk.1.1.2.2.2,hk.1.2⟩⟩⟩⟩)⟩
      have n1_:Aside0 (Kd.R k80 80 ((((w26.setCell ⟨gb311,0,none⟩ (.slice Ao27 t299.length co27)).setCell ⟨gb311,1,none⟩ (.slice Ao30 t302.length co30)).setCell ⟨gb311,2,none⟩ (.slice Ao31 t305.length co31)).setCell ⟨gb311,3,none⟩ (.slice Ao32 t308.length co32)) w.heap.size (fun _=>True) (.slice Ao30 t302.length co30) t302):=⟨by (with_reducible repeat (first|apply Kd.R_alloc|apply Kd.R_drewN|apply Kd.R_drew));exact Kd.R_mono (Kd.R_far (p:=⟨gb311,3,none⟩) (Kd.R_far (p:=⟨gb311,2,none⟩) (Kd.R_far (p:=⟨gb311,1,none⟩) (Kd.R_far (p:=⟨gb311,0,none⟩) (Kd.R_types HO304.out BK311.out (by decide)) (fun _ hk=>hk.2) (.slice Ao27 t299.length co27)) (fun _ hk=>hk.2) (.slice Ao30 t302.length co30)) (fun _ hk=>hk.2) (.slice Ao31 t305.length co31)) (fun _ hk=>hk.2) (.slice Ao32 t308.length co32)) (fun _ hk=>trivial)⟩
      have n2_:Aside0 (Kd.N k66 66 ((((w26.setCell ⟨gb311,0,none⟩ (.slice Ao27 t299.length co27)).setCell ⟨gb311,1,none⟩ (.slice Ao30 t302.length co30)).setCell ⟨gb311,2,none⟩ (.slice Ao31 t305.length co31)).setCell ⟨gb311,3,none⟩ (.slice Ao32 t308.length co32)) w.heap.size (fun k_=>some k_≠(.slice Ao27 t299.length co27:Value).ownBlock∧some k_≠(.slice Ao30 t302.length co30:Value).ownBlock∧some k_≠(.slice Ao32 t308.length co32:Value).ownBlock∧k_≠gb296∧k_≠gb311) (.slice Ao31 t305.length co31) t305):=⟨by (with_reducible repeat (first|apply Kd.N_alloc|apply Kd.N_drewN|apply Kd.N_drew));exact Kd.N_mono (Kd.N_far (p:=⟨gb311,3,none⟩) (Kd.N_far (p:=⟨gb311,2,none⟩) (Kd.N_far (p:=⟨gb311,1,none⟩) (Kd.N_far (p:=⟨gb311,0,none⟩) (Kd.N_mono HO307.out (fun k_ hk=>(⟨hk,hk.2⟩:_∧k_≠gb311))) (fun _ hk=>hk.2) (.slice Ao27 t299.length co27)) (fun _ hk=>hk.2) (.slice Ao30 t302.length co30)) (fun _ hk=>hk.2) (.slice Ao31 t305.length co31)) (fun _ hk=>hk.2) (.slice Ao32 t308.length co32)) (fun _ hk=>⟨hk.1.1.1,⟨hk.1.1.2.1,⟨hk.1.1.2.2.1,⟨hk.1.1.2.2.2,hk.1.2⟩⟩⟩⟩)⟩
      have n3_:Aside0 (Kd.N k76 76 ((((w26.setCell ⟨gb311,0,none⟩ (.slice Ao27 t299.length co27)).setCell ⟨gb311,1,none⟩ (.slice Ao30 t302.length co30)).setCell ⟨gb311,2,none⟩ (.slice Ao31 t305.length co31)).setCell ⟨gb311,3,none⟩ (.slice Ao32 t308.length co32)) w.heap.size (fun k_=>some k_≠(.slice Ao27 t299.length co27:Value).ownBlock∧some k_≠(.slice Ao30 t302.length co30:Value).ownBlock∧some k_≠(.slice Ao31 t305.length co31:Value).ownBlock∧k_≠gb296∧k_≠gb311) (.slice Ao32 t308.length co32) t308):=⟨by (with_reducible repeat (first|apply Kd.N_alloc|apply Kd.N_drewN|apply Kd.N_drew));exact Kd.N_mono (Kd.N_far (p:=⟨gb311,3,none⟩) (Kd.N_far (p:=⟨gb311,2,none⟩) (Kd.N_far (p:=⟨gb311,1,none⟩) (Kd.N_far (p:=⟨gb311,0,none⟩) (Kd.N_mono HO310.out (fun k_ hk=>(⟨hk,hk.2⟩:_∧k_≠gb311))) (fun _ hk=>hk.2) (.slice Ao27 t299.length co27)) (fun _ hk=>hk.2) (.slice Ao30 t302.length co30)) (fun _ hk=>hk.2) (.slice Ao31 t305.length co31)) (fun _ hk=>hk.2) (.slice Ao32 t308.length co32)) (fun _ hk=>⟨hk.1.1.1,⟨hk.1.1.2.1,⟨hk.1.1.2.2.1,⟨hk.1.1.2.2.2,hk.1.2⟩⟩⟩⟩)⟩
      have n4_:Aside0 (((((w26.setCell ⟨gb311,0,none⟩ (.slice Ao27 t299.length co27)).setCell ⟨gb311,1,none⟩ (.slice Ao30 t302.length co30)).setCell ⟨gb311,2,none⟩ (.slice Ao31 t305.length co31)).setCell ⟨gb311,3,none⟩ (.slice Ao32 t308.length co32)).heap[gb296]?=some (.cells #[.slice A0_0 l0_0.length c0_0,.slice A0_1 l0_1.length c0_1,.slice A0_2 l0_2.length c0_2,.slice A0_3 l0_3.length c0_3] 43 (0,0))):=⟨kbc_ BK296.out⟩
      have n5_:Aside0 (((((w26.setCell ⟨gb311,0,none⟩ (.slice Ao27 t299.length co27)).setCell ⟨gb311,1,none⟩ (.slice Ao30 t302.length co30)).setCell ⟨gb311,2,none⟩ (.slice Ao31 t305.length co31)).setCell ⟨gb311,3,none⟩ (.slice Ao32 t308.length co32)).heap[gb311]?=some (.cells #[.slice Ao27 t299.length co27,.slice Ao30 t302.length co30,.slice Ao31 t305.length co31,.slice Ao32 t308.length co32] 50 (0,0))):=⟨kbc_ BK311.out⟩
      have n6_:Aside0 (Below w.heap.size w ((((w26.setCell ⟨gb311,0,none⟩ (.slice Ao27 t299.length co27)).setCell ⟨gb311,1,none⟩ (.slice Ao30 t302.length co30)).setCell ⟨gb311,2,none⟩ (.slice Ao31 t305.length co31)).setCell ⟨gb311,3,none⟩ (.slice Ao32 t308.length co32))):=⟨bl_ HB.out⟩
      (try clear HO301)
      (try clear HO304)
      (try clear HO307)
      (try clear HO310)
      (try clear BK296)
      (try clear BK311)
      (try clear HB)
      generalize ((((w26.setCell ⟨gb311,0,none⟩ (.slice Ao27 t299.length co27)).setCell ⟨gb311,1,none⟩ (.slice Ao30 t302.length co30)).setCell ⟨gb311,2,none⟩ (.slice Ao31 t305.length co31)).setCell ⟨gb311,3,none⟩ (.slice Ao32 t308.length co32))=w43 at n0_ n1_ n2_ n3_ n4_ n5_ n6_ ⊢
      have HO301:=n0_
      have HO304:=n1_
      have HO307:=n2_
      have HO310:=n3_
      have BK296:=n4_
      have BK311:=n5_
      have HB:=n6_
      clear n0_ n1_ n2_ n3_ n4_ n5_ n6_
      replace HO301:=Aside0.mk (Kd.N_drew HO301.out)
      replace HO304:=Aside0.mk (Kd.R_drew HO304.out)
      replace HO307:=Aside0.mk (Kd.N_drew HO307.out)
      replace HO310:=Aside0.mk (Kd.N_drew HO310.out)
      replace BK296:=Aside0.mk (blk_drew BK296.out)
      replace BK311:=Aside0.mk (blk_drew BK311.out)
      replace HB:=Aside0.mk (below_drew1 HB.out)
      refine start_ (n:=14) (S:=fun w'=>w'.cell? ⟨gb311,0,none⟩=some (.slice Ao27 t299.length co27)∧w'.cell? ⟨gb311,1,none⟩=some (.slice Ao30 t302.length co30)∧w'.cell? ⟨gb311,2,none⟩=some (.slice Ao31 t305.length co31)∧w'.cell? ⟨gb311,3,none⟩=some (.slice Ao32 t308.length co32)∧w'.cell? ⟨gb296,0,none⟩=some (.slice A0_0 l0_0.length c0_0)∧w'.cell? ⟨gb296,1,none⟩=some (.slice A0_1 l0_1.length c0_1)∧w'.cell? ⟨gb296,2,none⟩=some (.slice A0_2 l0_2.length c0_2)∧w'.cell? ⟨gb296,3,none⟩=some (.slice A0_3 l0_3.length c0_3)) (ds:=[]) (flg 14 0) (by kernel_rfl) rfl (by kernel_rfl) ⟨zc_ BK311.out 0,zc_ BK311.out 1,zc_ BK311.out 2,zc_ BK311.out 3,zc_ BK296.out 0,zc_ BK296.out 1,zc_ BK296.out 2,zc_ BK296.out 3⟩ (fun hHeld=>?_);refine with_tabW helmsmanlaw12_TreePrints.tab4 helmsmanlaw12_TreePrints.bits4 (fun HT_ HW_=>?_)
      generalize w43.drew=w44 at HO301 HO304 HO307 HO310 BK296 BK311 HB hHeld ⊢
      refine pu_ 0 30 (flg 14 1) ?_
      refine pu_ 3 33 (flg 14 9) ?_
      refine ta_ 1 31 (flg 14 11) hHeld ?_
      refine ta_ 4 34 (flg 14 27) hHeld ?_
      refine one_ (i:=2) (N:=some 32) (flg 14 31) rfl rfl (one_of HT_.out (by kernel_rfl)) (by decide) (fun K hK=>?_)
      refine goes_ Tryd.func18 (by kernel_rfl) rfl #[.slice Ao32 t308.length co32] (by rfl) rfl rfl ar_ ?_
      with_reducible refine (tree_Depth.calls kj1 _ _ t308 t312 _ ?side1 ?side2 A33.out).mono ?_
      (case side1=>repeat (first|exact (Kd.N_reads' HO310.out).2.2|(with_reducible refine Kd.C_alloc ?_ _)|(with_reducible refine Kd.C_drewN ?_ _)|(with_reducible refine Kd.C_drew ?_)))
      (case side2=>exact (Kd.N_reads' HO310.out).2.1)
      rintro e w45 ⟨rfl,hb⟩
      refine ⟨_,rfl,?_⟩
      replace HO301:=Aside0.mk (Kd.N_below (by (with_reducible repeat (first|apply Kd.N_alloc|apply Kd.N_drewN|apply Kd.N_drew));exact HO301.out) hb)
      replace HO304:=Aside0.mk (Kd.R_below (by (with_reducible repeat (first|apply Kd.R_alloc|apply Kd.R_drewN|apply Kd.R_drew));exact HO304.out) hb)
      replace HO307:=Aside0.mk (Kd.N_below (by (with_reducible repeat (first|apply Kd.N_alloc|apply Kd.N_drewN|apply Kd.N_drew));exact HO307.out) hb)
      replace HO310:=Aside0.mk (Kd.N_below (by (with_reducible repeat (first|apply Kd.N_alloc|apply Kd.N_drewN|apply Kd.N_drew));exact HO310.out) hb)
      replace BK296:=Aside0.mk (bb_ BK296.out hb)
      replace BK311:=Aside0.mk (bb_ BK311.out hb)
      replace HB:=Aside0.mk (below_step (bl_ HB.out) hb)
      refine ko_ hK (fun hHeld=>?_)
      clear hK K
      refine nm_ ?_
      refine one_ (i:=5) (N:=some 35) (flg 14 63) rfl rfl (one_of HT_.out (by kernel_rfl)) (by decide) (fun K hK=>?_)
      refine goes_ Tryd.func19 (by kernel_rfl) rfl #[.slice A0_3 l0_3.length c0_3] (by rfl) rfl rfl ar_ ?_
      with_reducible refine (helmsmanref12_Depth.calls kj1 _ _ l0_3 t313 _ ?side1 ?side2 A34.out).mono ?_
      (case side1=>exact kc_ HR0_3.out HB.out)
      (case side2=>exact HC0_3.out)
      rintro e w' ⟨rfl,⟨nd,rfl⟩⟩
      refine ⟨_,rfl,?_⟩
      refine hK.out _ _ ⟨zc_ BK311.out 0,zc_ BK311.out 1,zc_ BK311.out 2,zc_ BK311.out 3,zc_ BK296.out 0,zc_ BK296.out 1,zc_ BK296.out 2,zc_ BK296.out 3⟩ (fun hHeld=>?_)
      clear hK K
      refine nm_ ?_
      refine pu_ 6 36 (flg 14 127) ?_
      refine pu_ 7 37 (flg 14 255) ?_
      refine sk_ 8 38 (flg 14 511) ?_
      refine sk_ 9 39 (flg 14 1023) ?_
      refine sk_ 10 40 (flg 14 2047) ?_
      refine sk_ 11 41 (flg 14 4095) ?_
      refine sk_ 12 42 (flg 14 8191) ?_
      refine pu_ 13 43 (flg 14 16383) ?_
      refine done_ (done_of HT_.out (by kernel_rfl)) ?_
      try go_wp2
      go_meet
      case rel=>exact ⟨_,(true),rf_,H',⟨by have:=HJ1.out;first|omega|exact Nat.le_refl _⟩,⟨by (with_reducible repeat (first|apply Kd.N_alloc|apply Kd.N_drewN|apply Kd.N_drew));exact HO301.out⟩,⟨by (with_reducible repeat (first|apply Kd.R_alloc|apply Kd.R_drewN|apply Kd.R_drew));exact HO304.out⟩,⟨by (with_reducible repeat (first|apply Kd.N_alloc|apply Kd.N_drewN|apply Kd.N_drew));exact HO307.out⟩,⟨by (with_reducible repeat (first|apply Kd.N_alloc|apply Kd.N_drewN|apply Kd.N_drew));exact HO310.out⟩,⟨kb_ BK296.out⟩,⟨kb_ BK311.out⟩,⟨bl_ HB.out⟩⟩
    case rest=>
     clear HC23
     obtain ⟨kq,x43_22,rfl,HA,HJ22,HO_312000,HO_312001,HO_312002,HO_312003,BK296,BK311,HB⟩:=hcut
     cases kq with
     | zero=>exact absurd HA.out (by simp [helmsmanlaw12_TreePrints.j1])
     | succ kj22=>
      have H:=HA.out
      clear HA
      simp only [helmsmanlaw12_TreePrints.j1] at H
      by_cases c46:x43_22=true
      ·subst c46
       replace H:=ip_ H
       obtain rfl:=Option.some.inj H
       go_wp2
       go_ret
       exact ⟨rt_,bl_ HB.out⟩
      ·replace c46:=Bool.eq_false_iff.mpr c46
       subst c46
       replace H:=in_ H
       revert H
       refine bd_ fun t316 A47 H=>?_
       by_cases c48:t316=true
       ·subst c48
        replace H:=ip_ H
        have H':=Aside0.mk H
        clear H
        have hnb49:=NB296_311.out
        have hnc49:=NB311_296.out
        obtain ⟨hcz50_0,hcz50_1,hcz50_2,hcz50_3,hfz50_0,hfz50_1,hfz50_2,hfz50_3⟩:=zf4_ BK296.out
        go_wp2_with (first|((with_reducible refine gate_callee (f:=21) rfl ?_);refine goesL_ (some 45) rfl rfl Tryd.func21 (by kernel_rfl) rfl #[.agg #[.slice A0_0 l0_0.length c0_0,.slice A0_1 l0_1.length c0_1,.slice A0_2 l0_2.length c0_2,.slice A0_3 l0_3.length c0_3]] rfl ar_ ?_;(with_reducible refine (helmsmanref12_WholeProg.calls kj22 _ _ l0_0 _ _ l0_1 _ _ l0_2 _ _ l0_3 true _ ?side1 ?side2 ?side3 ?side4 ?side5 ?side6 ?side7 ?side8 A47.out).mono ?_);(case side1=>exact kc_ HR0_0.out HB.out);(case side2=>exact HC0_0.out);(case side3=>exact kc_ HR0_1.out HB.out);(case side4=>exact HC0_1.out);(case side5=>exact kc_ HR0_2.out HB.out);(case side6=>exact HC0_2.out);(case side7=>exact kc_ HR0_3.out HB.out);(case side8=>exact HC0_3.out);rintro e w51 ⟨rfl,hb⟩;refine ⟨_,rfl,?_⟩;have n0_:=Aside0.mk (Kd.N_below (by (with_reducible repeat (first|apply Kd.N_alloc|apply Kd.N_drewN|apply Kd.N_drew));exact HO_312000.out) hb);have n1_:=Aside0.mk (Kd.R_below (by (with_reducible repeat (first|apply Kd.R_alloc|apply Kd.R_drewN|apply Kd.R_drew));exact HO_312001.out) hb);have n2_:=Aside0.mk (Kd.N_below (by (with_reducible repeat (first|apply Kd.N_alloc|apply Kd.N_drewN|apply Kd.N_drew));exact HO_312002.out) hb);have n3_:=Aside0.mk (Kd.N_below (by (with_reducible repeat (first|apply Kd.N_alloc|apply Kd.N_drewN|apply Kd.N_drew));exact HO_312003.out) hb);have n4_:=Aside0.mk (bb_ BK296.out hb);have n5_:=Aside0.mk (bb_ BK311.out hb);have n6_:=Aside0.mk (below_step (bl_ HB.out) hb);clear HO_312000;clear HO_312001;clear HO_312002;clear HO_312003;clear BK296;clear BK311;clear HB;have HO_312000:=n0_;have HO_312001:=n1_;have HO_312002:=n2_;have HO_312003:=n3_;have BK296:=n4_;have BK311:=n5_;have HB:=n6_;clear n0_ n1_ n2_ n3_ n4_ n5_ n6_;obtain ⟨hcz52_0,hcz52_1,hcz52_2,hcz52_3,hfz52_0,hfz52_1,hfz52_2,hfz52_3⟩:=zf4_ BK296.out))
        (try simp only [Act.put,List.setIfInBounds_toArray,List.set_cons_succ,List.set_cons_zero])
        go_loopg [51] kj22 (fun kq v51 w'=>∃ (x51_3:Int),v51=.int .i64 x51_3∧Aside0 (helmsmanlaw12_TreePrints.l0 kq l0_1 (l0_1.length:Int) x51_3 l0_0 l0_1 l0_2 l0_3 t299 t302 t305 t308=some r)∧Aside0 (kq≤kj22)∧Aside0 (Kd.N k79 79 w' w.heap.size (fun k_=>some k_≠((.slice Ao30 t302.length co30):Value).ownBlock∧some k_≠((.slice Ao31 t305.length co31):Value).ownBlock∧some k_≠((.slice Ao32 t308.length co32):Value).ownBlock∧k_≠gb296∧k_≠gb311) (.slice Ao27 t299.length co27) t299)∧Aside0 (Kd.R k80 80 w' w.heap.size (fun _=>True) (.slice Ao30 t302.length co30) t302)∧Aside0 (Kd.N k66 66 w' w.heap.size (fun k_=>some k_≠((.slice Ao27 t299.length co27):Value).ownBlock∧some k_≠((.slice Ao30 t302.length co30):Value).ownBlock∧some k_≠((.slice Ao32 t308.length co32):Value).ownBlock∧k_≠gb296∧k_≠gb311) (.slice Ao31 t305.length co31) t305)∧Aside0 (Kd.N k76 76 w' w.heap.size (fun k_=>some k_≠((.slice Ao27 t299.length co27):Value).ownBlock∧some k_≠((.slice Ao30 t302.length co30):Value).ownBlock∧some k_≠((.slice Ao31 t305.length co31):Value).ownBlock∧k_≠gb296∧k_≠gb311) (.slice Ao32 t308.length co32) t308)∧Aside0 (w'.heap[gb296]?=some (.cells #[(.slice A0_0 l0_0.length c0_0),(.slice A0_1 l0_1.length c0_1),(.slice A0_2 l0_2.length c0_2),(.slice A0_3 l0_3.length c0_3)] 43 (0,0)))∧Aside0 (w'.heap[gb311]?=some (.cells #[(.slice Ao27 t299.length co27),(.slice Ao30 t302.length co30),(.slice Ao31 t305.length co31),(.slice Ao32 t308.length co32)] 50 (0,0)))∧Aside0 (Below w.heap.size w w'))
        case atStart=>exact ⟨(0),rf_,H',⟨Nat.le_refl _⟩,⟨by (with_reducible repeat (first|apply Kd.N_alloc|apply Kd.N_drewN|apply Kd.N_drew));exact HO_312000.out⟩,⟨by (with_reducible repeat (first|apply Kd.R_alloc|apply Kd.R_drewN|apply Kd.R_drew));exact HO_312001.out⟩,⟨by (with_reducible repeat (first|apply Kd.N_alloc|apply Kd.N_drewN|apply Kd.N_drew));exact HO_312002.out⟩,⟨by (with_reducible repeat (first|apply Kd.N_alloc|apply Kd.N_drewN|apply Kd.N_drew));exact HO_312003.out⟩,⟨kb_ BK296.out⟩,⟨kb_ BK311.out⟩,⟨bl_ HB.out⟩⟩
        case round=>
         clear H'
         obtain ⟨x51_3,rfl,HA,HK3,HO_312000,HO_312001,HO_312002,HO_312003,BK296,BK311,HB⟩:=hrel
         cases gk with
         | zero=>exact absurd HA.out (by simp [helmsmanlaw12_TreePrints.l0])
         | succ k3=>
          have H:=HA.out
          clear HA
          simp only [helmsmanlaw12_TreePrints.l0] at H
          by_cases c53:x51_3 < (l0_1.length:Int)
          ·rw [if_pos c53] at H
           have c53b0:=decide_eq_true c53
           clear c53
           revert H
           refine gd_ fun c54 H=>?_
           have c54b0:=decide_eq_true c54
           clear c54
           revert H
           refine gd_ fun c55 H=>?_
           have c55b0:=decide_eq_true c55
           clear c55
           by_cases c56:((rd_T56 l0_1 x51_3).f2) < 0
           ·rw [if_pos c56] at H
            have c56b0:=decide_eq_true c56
            clear c56
            revert H
            refine bd_ fun t320 A57 H=>?_
            obtain rfl:=Option.some.inj H
            have p318:0≤(x51_3:Int):=of_decide_eq_true as_
            have q318:x51_3 < (l0_1.length:Int):=of_decide_eq_true as_
            obtain ⟨ad318,e318,hx318_0,hx318_1,hx318_2⟩:=at_T56 HR0_1.out x51_3 p318 q318
            cases e318
            replace hx318_0:=(cb_ HB.out hx318_0:_)
            replace hx318_1:=(cb_ HB.out hx318_1:_)
            replace hx318_2:=(cb_ HB.out hx318_2:_)
            replace p318:=eq_true p318
            replace q318:=eq_true q318
            go_wp2_with (first|((with_reducible refine gate_dst (N:=5) rfl ?_);(try (refine gate_guard (by rfl) ?_;dsimp only));refine bx_ (N:=5) (cs:=#[.string (⟨#[]⟩:ByteArray),.string (⟨#[]⟩:ByteArray),.int .i64 0]) (t:=56) ?_;intro gb319 hg w58 hbox hb;have n0_:=Aside0.mk (Kd.N_below (Kd.N_elderB (by (with_reducible repeat (first|apply Kd.N_alloc|apply Kd.N_drewN|apply Kd.N_drew));exact HO_312000.out) gb319 (Nat.le_of_eq hg.symm)) hb);have n1_:=Aside0.mk (Kd.R_below (by (with_reducible repeat (first|apply Kd.R_alloc|apply Kd.R_drewN|apply Kd.R_drew));exact HO_312001.out) hb);have n2_:=Aside0.mk (Kd.N_below (Kd.N_elderB (by (with_reducible repeat (first|apply Kd.N_alloc|apply Kd.N_drewN|apply Kd.N_drew));exact HO_312002.out) gb319 (Nat.le_of_eq hg.symm)) hb);have n3_:=Aside0.mk (Kd.N_below (Kd.N_elderB (by (with_reducible repeat (first|apply Kd.N_alloc|apply Kd.N_drewN|apply Kd.N_drew));exact HO_312003.out) gb319 (Nat.le_of_eq hg.symm)) hb);have n4_:=Aside0.mk (bb_ BK296.out hb);have n5_:=Aside0.mk (bb_ BK311.out hb);have n6_:=Aside0.mk (below_step (bl_ HB.out) hb);have n7_:=Aside0.mk (hbox);have n8_:=Aside0.mk ((gs_ hg (bl_ HB.out):w.heap.size≤gb319));have n9_:=Aside0.mk ((gs_ hg (bl_ HB.out):w.heap.size≤gb319));have n10_:=Aside0.mk ((nl_ hg BK296.out:gb296≠gb319));have n11_:=Aside0.mk ((nr_ hg BK296.out:gb319≠gb296));have n12_:=Aside0.mk ((nl_ hg BK311.out:gb311≠gb319));have n13_:=Aside0.mk ((nr_ hg BK311.out:gb319≠gb311));clear HO_312000;clear HO_312001;clear HO_312002;clear HO_312003;clear BK296;clear BK311;clear HB;have HO_312000:=n0_;have HO_312001:=n1_;have HO_312002:=n2_;have HO_312003:=n3_;have BK296:=n4_;have BK311:=n5_;have HB:=n6_;have BK319:=n7_;have GW319:=n8_;have GE319:=n9_;have NB296_319:=n10_;have NB319_296:=n11_;have NB311_319:=n12_;have NB319_311:=n13_;clear n0_ n1_ n2_ n3_ n4_ n5_ n6_ n7_ n8_ n9_ n10_ n11_ n12_ n13_;clear hb hbox hg;have hnb59:=NB319_296.out;have hnc59:=NB296_319.out;have hnb60:=NB319_311.out;have hnc60:=NB311_319.out;obtain ⟨hcz61_0,hcz61_1,hcz61_2,hfz61_0,hfz61_1,hfz61_2⟩:=zf3_ BK319.out)|((with_reducible refine gate_callee (f:=10) rfl ?_);refine goesL_ (some 58) rfl rfl Tryd.func10 (by kernel_rfl) rfl #[] rfl ar_ ?_;(with_reducible refine (helmsmanlaw12_alive.calls  t320 _ ?side1 A57.out).mono ?_);(case side1=>exact hT.later (bl_ HB.out));rintro e w62 ⟨rfl,hb⟩;refine ⟨_,rfl,?_⟩;have n0_:=Aside0.mk (Kd.N_below (by (with_reducible repeat (first|apply Kd.N_alloc|apply Kd.N_drewN|apply Kd.N_drew));exact (Kd.N_mono (Kd.N_far (p:=⟨gb319,2,none⟩) (Kd.N_far (p:=⟨gb319,1,none⟩) (Kd.N_far (p:=⟨gb319,0,none⟩) (Kd.N_mono HO_312000.out (fun k_ hk=>(⟨hk,hk.2⟩:_∧k_≠gb319))) (fun _ hk=>hk.2) (.string ((rd_T56 l0_1 x51_3).f0))) (fun _ hk=>hk.2) (.string ((rd_T56 l0_1 x51_3).f1))) (fun _ hk=>hk.2) (.int .i64 ((rd_T56 l0_1 x51_3).f2))) (fun _ h_=>h_.1))) hb);have n1_:=Aside0.mk (Kd.R_below (by (with_reducible repeat (first|apply Kd.R_alloc|apply Kd.R_drewN|apply Kd.R_drew));exact (Kd.R_mono (Kd.R_far (p:=⟨gb319,2,none⟩) (Kd.R_far (p:=⟨gb319,1,none⟩) (Kd.R_far (p:=⟨gb319,0,none⟩) (Kd.R_types HO_312001.out BK319.out (by decide)) (fun _ hk=>hk.2) (.string ((rd_T56 l0_1 x51_3).f0))) (fun _ hk=>hk.2) (.string ((rd_T56 l0_1 x51_3).f1))) (fun _ hk=>hk.2) (.int .i64 ((rd_T56 l0_1 x51_3).f2))) (fun _ h_=>h_.1))) hb);have n2_:=Aside0.mk (Kd.N_below (by (with_reducible repeat (first|apply Kd.N_alloc|apply Kd.N_drewN|apply Kd.N_drew));exact (Kd.N_mono (Kd.N_far (p:=⟨gb319,2,none⟩) (Kd.N_far (p:=⟨gb319,1,none⟩) (Kd.N_far (p:=⟨gb319,0,none⟩) (Kd.N_mono HO_312002.out (fun k_ hk=>(⟨hk,hk.2⟩:_∧k_≠gb319))) (fun _ hk=>hk.2) (.string ((rd_T56 l0_1 x51_3).f0))) (fun _ hk=>hk.2) (.string ((rd_T56 l0_1 x51_3).f1))) (fun _ hk=>hk.2) (.int .i64 ((rd_T56 l0_1 x51_3).f2))) (fun _ h_=>h_.1))) hb);have n3_:=Aside0.mk (Kd.N_below (by (with_reducible repeat (first|apply Kd.N_alloc|apply Kd.N_drewN|apply Kd.N_drew));exact (Kd.N_mono (Kd.N_far (p:=⟨gb319,2,none⟩) (Kd.N_far (p:=⟨gb319,1,none⟩) (Kd.N_far (p:=⟨gb319,0,none⟩) (Kd.N_mono HO_312003.out (fun k_ hk=>(⟨hk,hk.2⟩:_∧k_≠gb319))) (fun _ hk=>hk.2) (.string ((rd_T56 l0_1 x51_3).f0))) (fun _ hk=>hk.2) (.string ((rd_T56 l0_1 x51_3).f1))) (fun _ hk=>hk.2) (.int .i64 ((rd_T56 l0_1 x51_3).f2))) (fun _ h_=>h_.1))) hb);have n4_:=Aside0.mk (blk_below (g:=gb296) (o:=.cells #[.slice A0_0 l0_0.length c0_0,.slice (some ad318) l0_1.length c0_1,.slice A0_2 l0_2.length c0_2,.slice A0_3 l0_3.length c0_3] 43 (0,0)) (kbc_ BK296.out) hb);have n5_:=Aside0.mk (blk_below (g:=gb311) (o:=.cells #[.slice Ao27 t299.length co27,.slice Ao30 t302.length co30,.slice Ao31 t305.length co31,.slice Ao32 t308.length co32] 50 (0,0)) (kbc_ BK311.out) hb);have n6_:=Aside0.mk (blk_below (g:=gb319) (o:=.cells #[.string ((rd_T56 l0_1 x51_3).f0),.string ((rd_T56 l0_1 x51_3).f1),.int .i64 ((rd_T56 l0_1 x51_3).f2)] 56 (0,0)) (kbc_ BK319.out) hb);have n7_:=Aside0.mk (below_step (bl_ HB.out) hb);clear HO_312000;clear HO_312001;clear HO_312002;clear HO_312003;clear BK296;clear BK311;clear BK319;clear HB;have HO_312000:=n0_;have HO_312001:=n1_;have HO_312002:=n2_;have HO_312003:=n3_;have BK296:=n4_;have BK311:=n5_;have BK319:=n6_;have HB:=n7_;clear n0_ n1_ n2_ n3_ n4_ n5_ n6_ n7_))
            go_ret
            exact ⟨rt_,bl_ HB.out⟩
           ·rw [if_neg c56] at H
            have c56b0:=decide_eq_false c56
            clear c56
            have H':=Aside0.mk H
            clear H
            have p318:0≤(x51_3:Int):=of_decide_eq_true as_
            have q318:x51_3 < (l0_1.length:Int):=of_decide_eq_true as_
            obtain ⟨ad318,e318,hx318_0,hx318_1,hx318_2⟩:=at_T56 HR0_1.out x51_3 p318 q318
            cases e318
            replace hx318_0:=(cb_ HB.out hx318_0:_)
            replace hx318_1:=(cb_ HB.out hx318_1:_)
            replace hx318_2:=(cb_ HB.out hx318_2:_)
            replace p318:=eq_true p318
            replace q318:=eq_true q318
            go_wp2_with (first|((with_reducible refine gate_dst (N:=5) rfl ?_);(try (refine gate_guard (by rfl) ?_;dsimp only));refine bx_ (N:=5) (cs:=#[.string (⟨#[]⟩:ByteArray),.string (⟨#[]⟩:ByteArray),.int .i64 0]) (t:=56) ?_;intro gb319 hg w63 hbox hb;have n0_:=Aside0.mk (Kd.N_below (Kd.N_elderB (by (with_reducible repeat (first|apply Kd.N_alloc|apply Kd.N_drewN|apply Kd.N_drew));exact HO_312000.out) gb319 (Nat.le_of_eq hg.symm)) hb);have n1_:=Aside0.mk (Kd.R_below (by (with_reducible repeat (first|apply Kd.R_alloc|apply Kd.R_drewN|apply Kd.R_drew));exact HO_312001.out) hb);have n2_:=Aside0.mk (Kd.N_below (Kd.N_elderB (by (with_reducible repeat (first|apply Kd.N_alloc|apply Kd.N_drewN|apply Kd.N_drew));exact HO_312002.out) gb319 (Nat.le_of_eq hg.symm)) hb);have n3_:=Aside0.mk (Kd.N_below (Kd.N_elderB (by (with_reducible repeat (first|apply Kd.N_alloc|apply Kd.N_drewN|apply Kd.N_drew));exact HO_312003.out) gb319 (Nat.le_of_eq hg.symm)) hb);have n4_:=Aside0.mk (bb_ BK296.out hb);have n5_:=Aside0.mk (bb_ BK311.out hb);have n6_:=Aside0.mk (below_step (bl_ HB.out) hb);have n7_:=Aside0.mk (hbox);have n8_:=Aside0.mk ((gs_ hg (bl_ HB.out):w.heap.size≤gb319));have n9_:=Aside0.mk ((gs_ hg (bl_ HB.out):w.heap.size≤gb319));have n10_:=Aside0.mk ((nl_ hg BK296.out:gb296≠gb319));have n11_:=Aside0.mk ((nr_ hg BK296.out:gb319≠gb296));have n12_:=Aside0.mk ((nl_ hg BK311.out:gb311≠gb319));have n13_:=Aside0.mk ((nr_ hg BK311.out:gb319≠gb311));clear HO_312000;clear HO_312001;clear HO_312002;clear HO_312003;clear BK296;clear BK311;clear HB;have HO_312000:=n0_;have HO_312001:=n1_;have HO_312002:=n2_;have HO_312003:=n3_;have BK296:=n4_;have BK311:=n5_;have HB:=n6_;have BK319:=n7_;have GW319:=n8_;have GE319:=n9_;have NB296_319:=n10_;have NB319_296:=n11_;have NB311_319:=n12_;have NB319_311:=n13_;clear n0_ n1_ n2_ n3_ n4_ n5_ n6_ n7_ n8_ n9_ n10_ n11_ n12_ n13_;clear hb hbox hg;have hnb64:=NB319_296.out;have hnc64:=NB296_319.out;have hnb65:=NB319_311.out;have hnc65:=NB311_319.out;obtain ⟨hcz66_0,hcz66_1,hcz66_2,hfz66_0,hfz66_1,hfz66_2⟩:=zf3_ BK319.out))
            go_roundg k3
            case measure=>have:=HJ1.out;have:=HJ22.out;have:=HK3.out;omega
            case rel=>exact ⟨(wrap64 (x51_3+1)),rf_,H',⟨by have:=HJ1.out;have:=HJ22.out;have:=HK3.out;omega⟩,⟨by (with_reducible repeat (first|apply Kd.N_alloc|apply Kd.N_drewN|apply Kd.N_drew));exact Kd.N_mono (Kd.N_far (p:=⟨gb319,2,none⟩) (Kd.N_far (p:=⟨gb319,1,none⟩) (Kd.N_far (p:=⟨gb319,0,none⟩) (Kd.N_mono HO_312000.out (fun k_ hk=>(⟨hk,hk.2⟩:_∧k_≠gb319))) (fun _ hk=>hk.2) (.string ((rd_T56 l0_1 x51_3).f0))) (fun _ hk=>hk.2) (.string ((rd_T56 l0_1 x51_3).f1))) (fun _ hk=>hk.2) (.int .i64 ((rd_T56 l0_1 x51_3).f2))) (fun _ hk=>⟨hk.1.1.1,⟨hk.1.1.2.1,⟨hk.1.1.2.2.1,⟨hk.1.1.2.2.2.1,hk.1.1.2.2.2.2⟩⟩⟩⟩)⟩,⟨by (with_reducible repeat (first|apply Kd.R_alloc|apply Kd.R_drewN|apply Kd.R_drew));exact Kd.R_mono (Kd.R_far (p:=⟨gb319,2,none⟩) (Kd.R_far (p:=⟨gb319,1,none⟩) (Kd.R_far (p:=⟨gb319,0,none⟩) (Kd.R_types HO_312001.out BK319.out (by decide)) (fun _ hk=>hk.2) (.string ((rd_T56 l0_1 x51_3).f0))) (fun _ hk=>hk.2) (.string ((rd_T56 l0_1 x51_3).f1))) (fun _ hk=>hk.2) (.int .i64 ((rd_T56 l0_1 x51_3).f2))) (fun _ hk=>trivial)⟩,⟨by (with_reducible repeat (first|apply Kd.N_alloc|apply Kd.N_drewN|apply Kd.N_drew));exact Kd.N_mono (Kd.N_far (p:=⟨gb319,2,none⟩) (Kd.N_far (p:=⟨gb319,1,none⟩) (Kd.N_far (p:=⟨gb319,0,none⟩) (Kd.N_mono HO_312002.out (fun k_ hk=>(⟨hk,hk.2⟩:_∧k_≠gb319))) (fun _ hk=>hk.2) (.string ((rd_T56 l0_1 x51_3).f0))) (fun _ hk=>hk.2) (.string ((rd_T56 l0_1 x51_3).f1))) (fun _ hk=>hk.2) (.int .i64 ((rd_T56 l0_1 x51_3).f2))) (fun _ hk=>⟨hk.1.1.1,⟨hk.1.1.2.1,⟨hk.1.1.2.2.1,⟨hk.1.1.2.2.2.1,hk.1.1.2.2.2.2⟩⟩⟩⟩)⟩,⟨by (with_reducible repeat (first|apply Kd.N_alloc|apply Kd.N_drewN|apply Kd.N_drew));exact Kd.N_mono (Kd.N_far (p:=⟨gb319,2,none⟩) (Kd.N_far (p:=⟨gb319,1,none⟩) (Kd.N_far (p:=⟨gb319,0,none⟩) (Kd.N_mono HO_312003.out (fun k_ hk=>(⟨hk,hk.2⟩:_∧k_≠gb319))) (fun _ hk=>hk.2) (.string ((rd_T56 l0_1 x51_3).f0))) (fun _ hk=>hk.2) (.string ((rd_T56 l0_1 x51_3).f1))) (fun _ hk=>hk.2) (.int .i64 ((rd_T56 l0_1 x51_3).f2))) (fun _ hk=>⟨hk.1.1.1,⟨hk.1.1.2.1,⟨hk.1.1.2.2.1,⟨hk.1.1.2.2.2.1,hk.1.1.2.2.2.2⟩⟩⟩⟩)⟩,⟨kbc_ BK296.out⟩,⟨kbc_ BK311.out⟩,⟨bl_ HB.out⟩⟩
          ·rw [if_neg c53] at H
           have c53b0:=decide_eq_false c53
           clear c53
           revert H
           refine bd_ fun t321 A67 H=>?_
           by_cases c68:t321=true
           ·subst c68
            replace H:=ip_ H
            revert H
            refine bd_ fun t322 A69 H=>?_
            revert H
            refine bd_ fun t323 A70 H=>?_
            obtain rfl:=Option.some.inj H
            try go_wp2
            replace HO_312000:=Aside0.mk (Kd.N_drew HO_312000.out)
            replace HO_312001:=Aside0.mk (Kd.R_drew HO_312001.out)
            replace HO_312002:=Aside0.mk (Kd.N_drew HO_312002.out)
            replace HO_312003:=Aside0.mk (Kd.N_drew HO_312003.out)
            replace BK296:=Aside0.mk (blk_drew BK296.out)
            replace BK311:=Aside0.mk (blk_drew BK311.out)
            replace HB:=Aside0.mk (below_drew1 HB.out)
            refine start_ (n:=9) (S:=fun w'=>w'.cell? ⟨gb311,0,none⟩=some (.slice Ao27 t299.length co27)∧w'.cell? ⟨gb311,1,none⟩=some (.slice Ao30 t302.length co30)∧w'.cell? ⟨gb311,2,none⟩=some (.slice Ao31 t305.length co31)∧w'.cell? ⟨gb311,3,none⟩=some (.slice Ao32 t308.length co32)∧w'.cell? ⟨gb296,0,none⟩=some (.slice A0_0 l0_0.length c0_0)∧w'.cell? ⟨gb296,1,none⟩=some (.slice A0_1 l0_1.length c0_1)∧w'.cell? ⟨gb296,2,none⟩=some (.slice A0_2 l0_2.length c0_2)∧w'.cell? ⟨gb296,3,none⟩=some (.slice A0_3 l0_3.length c0_3)) (ds:=[]) (flg 9 0) (by kernel_rfl) rfl (by kernel_rfl) ⟨zc_ BK311.out 0,zc_ BK311.out 1,zc_ BK311.out 2,zc_ BK311.out 3,zc_ BK296.out 0,zc_ BK296.out 1,zc_ BK296.out 2,zc_ BK296.out 3⟩ (fun hHeld=>?_);refine with_tabW helmsmanlaw12_TreePrints.tab14 helmsmanlaw12_TreePrints.bits14 (fun HT_ HW_=>?_)
            generalize wr.drew=w71 at HO_312000 HO_312001 HO_312002 HO_312003 BK296 BK311 HB hHeld ⊢
            refine one_ (i:=0) (N:=some 60) (flg 9 1) rfl rfl (one_of HT_.out (by kernel_rfl)) (by decide) (fun K hK=>?_)
            refine goes_ Tryd.func10 (by kernel_rfl) rfl #[] (by rfl) rfl rfl ar_ ?_
            with_reducible refine (helmsmanlaw12_alive.calls  true _ ?side1 A67.out).mono ?_
            (case side1=>exact hT.later (bl_ HB.out))
            rintro e w72 ⟨rfl,hb⟩
            refine ⟨_,rfl,?_⟩
            replace HO_312000:=Aside0.mk (Kd.N_below (by (with_reducible repeat (first|apply Kd.N_alloc|apply Kd.N_drewN|apply Kd.N_drew));exact HO_312000.out) hb)
            replace HO_312001:=Aside0.mk (Kd.R_below (by (with_reducible repeat (first|apply Kd.R_alloc|apply Kd.R_drewN|apply Kd.R_drew));exact HO_312001.out) hb)
            replace HO_312002:=Aside0.mk (Kd.N_below (by (with_reducible repeat (first|apply Kd.N_alloc|apply Kd.N_drewN|apply Kd.N_drew));exact HO_312002.out) hb)
            replace HO_312003:=Aside0.mk (Kd.N_below (by (with_reducible repeat (first|apply Kd.N_alloc|apply Kd.N_drewN|apply Kd.N_drew));exact HO_312003.out) hb)
            replace BK296:=Aside0.mk (bb_ BK296.out hb)
            replace BK311:=Aside0.mk (bb_ BK311.out hb)
            replace HB:=Aside0.mk (below_step (bl_ HB.out) hb)
            refine ko_ hK (fun hHeld=>?_)
            clear hK K
            refine nm_ ?_
            refine pu_ 1 61 (flg 9 3) ?_
            refine ta_ 2 62 (flg 9 7) hHeld ?_
            refine ta_ 4 64 (flg 9 23) hHeld ?_
            refine one_ (i:=3) (N:=some 63) (flg 9 31) rfl rfl (one_of HT_.out (by kernel_rfl)) (by decide) (fun K hK=>?_)
            refine goes_ Tryd.func22 (by kernel_rfl) rfl #[.agg #[.slice Ao27 t299.length co27,.slice Ao30 t302.length co30,.slice Ao31 t305.length co31,.slice Ao32 t308.length co32]] (by rfl) rfl rfl ar_ ?_
            with_reducible refine (tree_Print.calls _ _ t299 _ _ t302 _ _ t305 _ _ t308 t322 _ ?side1 ?side2 ?side3 ?side4 ?side5 ?side6 ?side7 ?side8 ?side9 A69.out).mono ?_
            (case side1=>exact hT.later (bl_ HB.out))
            (case side2=>repeat (first|exact (Kd.N_reads' HO_312000.out).2.2|(with_reducible refine Kd.C_alloc ?_ _)|(with_reducible refine Kd.C_drewN ?_ _)|(with_reducible refine Kd.C_drew ?_)))
            (case side3=>exact (Kd.N_reads' HO_312000.out).2.1)
            (case side4=>repeat (first|exact (Kd.R_reads' HO_312001.out).2.2|(with_reducible refine Kd.C_alloc ?_ _)|(with_reducible refine Kd.C_drewN ?_ _)|(with_reducible refine Kd.C_drew ?_)))
            (case side5=>exact (Kd.R_reads' HO_312001.out).2.1)
            (case side6=>repeat (first|exact (Kd.N_reads' HO_312002.out).2.2|(with_reducible refine Kd.C_alloc ?_ _)|(with_reducible refine Kd.C_drewN ?_ _)|(with_reducible refine Kd.C_drew ?_)))
            (case side7=>exact (Kd.N_reads' HO_312002.out).2.1)
            (case side8=>repeat (first|exact (Kd.N_reads' HO_312003.out).2.2|(with_reducible refine Kd.C_alloc ?_ _)|(with_reducible refine Kd.C_drewN ?_ _)|(with_reducible refine Kd.C_drew ?_)))
            (case side9=>exact (Kd.N_reads' HO_312003.out).2.1)
            rintro e w73 ⟨rfl,hb⟩
            refine ⟨_,rfl,?_⟩
            replace HO_312000:=Aside0.mk (Kd.N_below (by (with_reducible repeat (first|apply Kd.N_alloc|apply Kd.N_drewN|apply Kd.N_drew));exact HO_312000.out) hb)
            replace HO_312001:=Aside0.mk (Kd.R_below (by (with_reducible repeat (first|apply Kd.R_alloc|apply Kd.R_drewN|apply Kd.R_drew));exact HO_312001.out) hb)
            replace HO_312002:=Aside0.mk (Kd.N_below (by (with_reducible repeat (first|apply Kd.N_alloc|apply Kd.N_drewN|apply Kd.N_drew));exact HO_312002.out) hb)
            replace HO_312003:=Aside0.mk (Kd.N_below (by (with_reducible repeat (first|apply Kd.N_alloc|apply Kd.N_drewN|apply Kd.N_drew));exact HO_312003.out) hb)
            replace BK296:=Aside0.mk (bb_ BK296.out hb)
            replace BK311:=Aside0.mk (bb_ BK311.out hb)
            replace HB:=Aside0.mk (below_step (bl_ HB.out) hb)
            refine ko_ hK (fun hHeld=>?_)
            clear hK K
            refine nm_ ?_
            refine one_ (i:=5) (N:=some 65) (flg 9 63) rfl rfl (one_of HT_.out (by kernel_rfl)) (by decide) (fun K hK=>?_)
            refine goes_ Tryd.func23 (by kernel_rfl) rfl #[.agg #[.slice A0_0 l0_0.length c0_0,.slice A0_1 l0_1.length c0_1,.slice A0_2 l0_2.length c0_2,.slice A0_3 l0_3.length c0_3]] (by rfl) rfl rfl ar_ ?_
            with_reducible refine (helmsmanref12_Print.calls k3 _ _ l0_0 _ _ l0_1 _ _ l0_2 _ _ l0_3 t323 _ ?side1 ?side2 ?side3 ?side4 ?side5 ?side6 ?side7 ?side8 A70.out).mono ?_
            (case side1=>exact kc_ HR0_0.out HB.out)
            (case side2=>exact HC0_0.out)
            (case side3=>exact kc_ HR0_1.out HB.out)
            (case side4=>exact HC0_1.out)
            (case side5=>exact kc_ HR0_2.out HB.out)
            (case side6=>exact HC0_2.out)
            (case side7=>exact kc_ HR0_3.out HB.out)
            (case side8=>exact HC0_3.out)
            rintro e w74 ⟨rfl,hb⟩
            refine ⟨_,rfl,?_⟩
            replace HO_312000:=Aside0.mk (Kd.N_below (by (with_reducible repeat (first|apply Kd.N_alloc|apply Kd.N_drewN|apply Kd.N_drew));exact HO_312000.out) hb)
            replace HO_312001:=Aside0.mk (Kd.R_below (by (with_reducible repeat (first|apply Kd.R_alloc|apply Kd.R_drewN|apply Kd.R_drew));exact HO_312001.out) hb)
            replace HO_312002:=Aside0.mk (Kd.N_below (by (with_reducible repeat (first|apply Kd.N_alloc|apply Kd.N_drewN|apply Kd.N_drew));exact HO_312002.out) hb)
            replace HO_312003:=Aside0.mk (Kd.N_below (by (with_reducible repeat (first|apply Kd.N_alloc|apply Kd.N_drewN|apply Kd.N_drew));exact HO_312003.out) hb)
            replace BK296:=Aside0.mk (bb_ BK296.out hb)
            replace BK311:=Aside0.mk (bb_ BK311.out hb)
            replace HB:=Aside0.mk (below_step (bl_ HB.out) hb)
            refine ko_ hK (fun hHeld=>?_)
            clear hK K
            refine nm_ ?_
            refine pu_ 6 66 (flg 9 127) ?_
            refine pu_ 7 67 (flg 9 255) ?_
            refine pu_ 8 2 (flg 9 511) ?_
            refine done_ (done_of HT_.out (by kernel_rfl)) ?_
            try go_wp2
            go_ret
            exact ⟨rt_,bl_ HB.out⟩
           ·replace c68:=Bool.eq_false_iff.mpr c68
            subst c68
            replace H:=in_ H
            obtain rfl:=Option.some.inj H
            try go_wp2
            replace HO_312000:=Aside0.mk (Kd.N_drew HO_312000.out)
            replace HO_312001:=Aside0.mk (Kd.R_drew HO_312001.out)
            replace HO_312002:=Aside0.mk (Kd.N_drew HO_312002.out)
            replace HO_312003:=Aside0.mk (Kd.N_drew HO_312003.out)
            replace BK296:=Aside0.mk (blk_drew BK296.out)
            replace BK311:=Aside0.mk (blk_drew BK311.out)
            replace HB:=Aside0.mk (below_drew1 HB.out)
            refine start_ (n:=9) (S:=fun w'=>True) (ds:=[]) (flg 9 0) (by kernel_rfl) rfl (by kernel_rfl) trivial (fun hHeld=>?_);refine with_tabW helmsmanlaw12_TreePrints.tab14 helmsmanlaw12_TreePrints.bits14 (fun HT_ HW_=>?_)
            generalize wr.drew=w75 at HO_312000 HO_312001 HO_312002 HO_312003 BK296 BK311 HB hHeld ⊢
            refine one_ (i:=0) (N:=some 60) (flg 9 1) rfl rfl (one_of HT_.out (by kernel_rfl)) (by decide) (fun K hK=>?_)
            refine goes_ Tryd.func10 (by kernel_rfl) rfl #[] (by rfl) rfl rfl ar_ ?_
            with_reducible refine (helmsmanlaw12_alive.calls  false _ ?side1 A67.out).mono ?_
            (case side1=>exact hT.later (bl_ HB.out))
            rintro e w76 ⟨rfl,hb⟩
            refine ⟨_,rfl,?_⟩
            replace HO_312000:=Aside0.mk (Kd.N_below (by (with_reducible repeat (first|apply Kd.N_alloc|apply Kd.N_drewN|apply Kd.N_drew));exact HO_312000.out) hb)
            replace HO_312001:=Aside0.mk (Kd.R_below (by (with_reducible repeat (first|apply Kd.R_alloc|apply Kd.R_drewN|apply Kd.R_drew));exact HO_312001.out) hb)
            replace HO_312002:=Aside0.mk (Kd.N_below (by (with_reducible repeat (first|apply Kd.N_alloc|apply Kd.N_drewN|apply Kd.N_drew));exact HO_312002.out) hb)
            replace HO_312003:=Aside0.mk (Kd.N_below (by (with_reducible repeat (first|apply Kd.N_alloc|apply Kd.N_drewN|apply Kd.N_drew));exact HO_312003.out) hb)
            replace BK296:=Aside0.mk (bb_ BK296.out hb)
            replace BK311:=Aside0.mk (bb_ BK311.out hb)
            replace HB:=Aside0.mk (below_step (bl_ HB.out) hb)
            refine hK.out _ _ trivial (fun hHeld=>?_)
            clear hK K
            refine nm_ ?_
            refine pu_ 1 61 (flg 9 3) ?_
            refine sk_ 2 62 (flg 9 7) ?_
            refine sk_ 3 63 (flg 9 15) ?_
            refine sk_ 4 64 (flg 9 31) ?_
            refine sk_ 5 65 (flg 9 63) ?_
            refine sk_ 6 66 (flg 9 127) ?_
            refine pu_ 7 67 (flg 9 255) ?_
            refine pu_ 8 2 (flg 9 511) ?_
            refine done_ (done_of HT_.out (by kernel_rfl)) ?_
            try go_wp2
            go_ret
            exact ⟨rt_,bl_ HB.out⟩
       ·replace c48:=Bool.eq_false_iff.mpr c48
        subst c48
        replace H:=in_ H
        revert H
        refine bd_ fun t317 A77 H=>?_
        obtain rfl:=Option.some.inj H
        have hnb78:=NB296_311.out
        have hnc78:=NB311_296.out
        obtain ⟨hcz79_0,hcz79_1,hcz79_2,hcz79_3,hfz79_0,hfz79_1,hfz79_2,hfz79_3⟩:=zf4_ BK296.out
        go_wp2_with (first|((with_reducible refine gate_callee (f:=21) rfl ?_);refine goesL_ (some 45) rfl rfl Tryd.func21 (by kernel_rfl) rfl #[.agg #[.slice A0_0 l0_0.length c0_0,.slice A0_1 l0_1.length c0_1,.slice A0_2 l0_2.length c0_2,.slice A0_3 l0_3.length c0_3]] rfl ar_ ?_;(with_reducible refine (helmsmanref12_WholeProg.calls kj22 _ _ l0_0 _ _ l0_1 _ _ l0_2 _ _ l0_3 false _ ?side1 ?side2 ?side3 ?side4 ?side5 ?side6 ?side7 ?side8 A47.out).mono ?_);(case side1=>exact kc_ HR0_0.out HB.out);(case side2=>exact HC0_0.out);(case side3=>exact kc_ HR0_1.out HB.out);(case side4=>exact HC0_1.out);(case side5=>exact kc_ HR0_2.out HB.out);(case side6=>exact HC0_2.out);(case side7=>exact kc_ HR0_3.out HB.out);(case side8=>exact HC0_3.out);rintro e w80 ⟨rfl,hb⟩;refine ⟨_,rfl,?_⟩;have n0_:=Aside0.mk (Kd.N_below (by (with_reducible repeat (first|apply Kd.N_alloc|apply Kd.N_drewN|apply Kd.N_drew));exact HO_312000.out) hb);have n1_:=Aside0.mk (Kd.R_below (by (with_reducible repeat (first|apply Kd.R_alloc|apply Kd.R_drewN|apply Kd.R_drew));exact HO_312001.out) hb);have n2_:=Aside0.mk (Kd.N_below (by (with_reducible repeat (first|apply Kd.N_alloc|apply Kd.N_drewN|apply Kd.N_drew));exact HO_312002.out) hb);have n3_:=Aside0.mk (Kd.N_below (by (with_reducible repeat (first|apply Kd.N_alloc|apply Kd.N_drewN|apply Kd.N_drew));exact HO_312003.out) hb);have n4_:=Aside0.mk (bb_ BK296.out hb);have n5_:=Aside0.mk (bb_ BK311.out hb);have n6_:=Aside0.mk (below_step (bl_ HB.out) hb);clear HO_312000;clear HO_312001;clear HO_312002;clear HO_312003;clear BK296;clear BK311;clear HB;have HO_312000:=n0_;have HO_312001:=n1_;have HO_312002:=n2_;have HO_312003:=n3_;have BK296:=n4_;have BK311:=n5_;have HB:=n6_;clear n0_ n1_ n2_ n3_ n4_ n5_ n6_)|((with_reducible refine gate_callee (f:=10) rfl ?_);refine goesL_ (some 47) rfl rfl Tryd.func10 (by kernel_rfl) rfl #[] rfl ar_ ?_;(with_reducible refine (helmsmanlaw12_alive.calls  t317 _ ?side1 A77.out).mono ?_);(case side1=>exact hT.later (bl_ HB.out));rintro e w81 ⟨rfl,hb⟩;refine ⟨_,rfl,?_⟩;have n0_:=Aside0.mk (Kd.N_below (by (with_reducible repeat (first|apply Kd.N_alloc|apply Kd.N_drewN|apply Kd.N_drew));exact HO_312000.out) hb);have n1_:=Aside0.mk (Kd.R_below (by (with_reducible repeat (first|apply Kd.R_alloc|apply Kd.R_drewN|apply Kd.R_drew));exact HO_312001.out) hb);have n2_:=Aside0.mk (Kd.N_below (by (with_reducible repeat (first|apply Kd.N_alloc|apply Kd.N_drewN|apply Kd.N_drew));exact HO_312002.out) hb);have n3_:=Aside0.mk (Kd.N_below (by (with_reducible repeat (first|apply Kd.N_alloc|apply Kd.N_drewN|apply Kd.N_drew));exact HO_312003.out) hb);have n4_:=Aside0.mk (bb_ BK296.out hb);have n5_:=Aside0.mk (bb_ BK311.out hb);have n6_:=Aside0.mk (below_step (bl_ HB.out) hb);clear HO_312000;clear HO_312001;clear HO_312002;clear HO_312003;clear BK296;clear BK311;clear HB;have HO_312000:=n0_;have HO_312001:=n1_;have HO_312002:=n2_;have HO_312003:=n3_;have BK296:=n4_;have BK311:=n5_;have HB:=n6_;clear n0_ n1_ n2_ n3_ n4_ n5_ n6_))
        go_ret
        exact ⟨rt_,bl_ HB.out⟩
end Go.Proofs.YtnnbbeloifhofaaDoor.P
end
section
namespace Go.Proofs.YtnnbbeloifhofaaDoor.P
open Go Go.RowKit Go.Proofs
open Go.Proofs.YtnnbbeloifhofaaDoorW.PrintWords Go.Proofs.YtnnbbeloifhofaaDoorW.PrintLast Go.Proofs.YtnnbbeloifhofaaDoorW.PrintMore
set_option linter.unusedVariables false
set_option linter.unusedSimpArgs false
def tailB:List ByteArray→List UInt8
  | []=>[]
  | y :: ys=>[44,32]++y.data.toList++tailB ys
theorem join_tail (x:ByteArray) : ∀ xs:List ByteArray,joinF (x :: xs) (lit [44,32])=x.data.toList++tailB xs:=by
  intro xs
  induction xs generalizing x with
  | nil=>show Lib.join [x.data.toList] _=_;rw [join_one,tailB,List.append_nil]
  | cons y ys ih=>
    have:=ih y
    show Lib.join (x.data.toList :: y.data.toList :: ys.map (·.data.toList)) (lit [44,32]).data.toList=_
    rw [join_cons,show Lib.join (y.data.toList :: ys.map (·.data.toList)) (lit [44,32]).data.toList=y.data.toList++tailB ys from this,tailB,lit_data]
    simp
theorem enum_nil (n:ByteArray):strOf (enumB ⟨n,[]⟩)=(⟨#[101,110,117,109,32]⟩:ByteArray)++n++(⟨#[32,123,32]⟩:ByteArray)++(⟨#[32,125,10]⟩:ByteArray):=by
  unfold enumB
  apply bytes_ext
  simp [app_list,strOf_list,lineB,joinE_cons,joinE_nil,lit_data,Lib.repeatL,joinF,Lib.join]
theorem enum_cons (n x:ByteArray) (xs:List ByteArray):strOf (enumB ⟨n,x :: xs⟩)=(⟨#[101,110,117,109,32]⟩:ByteArray)++n++(⟨#[32,123,32]⟩:ByteArray)++x++strOf (tailB xs)++(⟨#[32,125,10]⟩:ByteArray):=by
  unfold enumB
  apply bytes_ext
  simp [app_list,strOf_list,lineB,joinE_cons,joinE_nil,lit_data,Lib.repeatL,join_tail]
theorem var_some (a b:ByteArray) (n:Int) (h:n > 0):strOf (varB ⟨a,b,n⟩)=(⟨#[118,97,114,32]⟩:ByteArray)++a++(⟨#[58,32]⟩:ByteArray)++b++(⟨#[91]⟩:ByteArray)++itoaB n++(⟨#[93]⟩:ByteArray)++(⟨#[59,10]⟩:ByteArray):=by
  unfold varB manyT
  rw [if_pos h]
  apply bytes_ext
  simp [app_list,strOf_list,lineB,joinE_cons,joinE_nil,lit_data,Lib.repeatL]
theorem var_none (a b:ByteArray) (n:Int) (h : ¬ n > 0):strOf (varB ⟨a,b,n⟩)=(⟨#[118,97,114,32]⟩:ByteArray)++a++(⟨#[58,32]⟩:ByteArray)++b++(⟨#[59,10]⟩:ByteArray):=by
  unfold varB manyT
  rw [if_neg h]
  apply bytes_ext
  simp [app_list,strOf_list,lineB,joinE_cons,joinE_nil,lit_data,Lib.repeatL]
theorem proc_str (x:RP):strOf (procB x)=(⟨#[112,114,111,99,32]⟩:ByteArray)++x.f0++(⟨#[32,123,10]⟩:ByteArray)++strOf (stmtsB x.f1 ((1:Nat):Int))++(⟨#[125,10]⟩:ByteArray):=by
  unfold procB
  apply bytes_ext
  simp [app_list,strOf_list,lineB,joinE_cons,joinE_nil,lit_data,Lib.repeatL]
theorem main_str (m:List RS):strOf (mainB m)=(⟨#[109,97,105,110,32,123,10]⟩:ByteArray)++strOf (stmtsB m ((1:Nat):Int))++(⟨#[125,10]⟩:ByteArray):=by
  unfold mainB
  apply bytes_ext
  simp [app_list,strOf_list,lineB,joinE_cons,joinE_nil,lit_data,Lib.repeatL]
theorem ind_one:indB 1=(⟨#[32,32]⟩:ByteArray):=rfl
section
variable (e:List REn) (v:List RV) (p:List RP) (m:List RS)
theorem rPrint_l3 (hw:wholeP p m=true) (hp : ∀ x ∈ p,okSs x.f1∧bulkSs x.f1≤2097152) (hm:okSs m) (hmb:bulkSs m≤2097152) : ∀ (xs pre:List RP) (acc:ByteArray),pre++xs=p→p.length < 1099511627776→acc.size+(procsB xs).length+(mainB m).length≤140737488355328→
    Ev (fun k=>helmsmanref12_Print.l3 k acc pre.length e v p m) (acc++strOf (procsB xs++mainB m)):=by
  unfold wholeP at hw
  rw [Bool.and_eq_true,List.all_eq_true] at hw
  intro xs
  induction xs with
  | nil=>
    intro pre acc hp' hl hz
    have e1:=main_str m
    have hs:=hz
    rw [← strOf_size (mainB m),main_str] at hs
    simp only [ByteArray.size_append,strOf_size,size_lit,List.length_cons,List.length_nil,Nat.zero_add,Nat.reduceAdd] at hs
    have hpl:pre.length=p.length:=by rw [← hp',List.append_nil]
    refine Ev.step (fun k=>helmsmanref12_Print.l3.eq_2 _ _ _ _ _ _ k) (Ev.no (by omega) (Ev.yes (by first|omega|(simp only [ByteArray.size_append,strOf_size,size_lit,List.length_cons,List.length_nil,Nat.zero_add,Nat.reduceAdd];omega)) ?_))
    have hb:=block_ev m 1 hw.2 hm (by omega) hmb
    rw [ind_one] at hb
    refine Ev.bind hb (Ev.yes (by first|omega|(simp only [ByteArray.size_append,strOf_size,size_lit,List.length_cons,List.length_nil,Nat.zero_add,Nat.reduceAdd];omega)) (Ev.yes (by first|omega|(simp only [ByteArray.size_append,strOf_size,size_lit,List.length_cons,List.length_nil,Nat.zero_add,Nat.reduceAdd];omega)) ?_))
    rw [procsB,List.nil_append,main_str]
    simp only [← ByteArray.append_assoc]
    exact Ev.now _
  | cons x xs ih=>
    intro pre acc hp' hl hz
    have hx:x ∈ p:=by rw [← hp'];simp
    rw [procsB,List.length_append] at hz
    have hr:=ih (pre++[x]) (acc++strOf (procB x)) (by rw [← hp'];simp) hl (by rw [ByteArray.size_append,strOf_size];omega)
    have hn:=next_len pre x xs (by rw [hp'];omega)
    rw [← hn,ByteArray.append_assoc,← strOf_append,← List.append_assoc,← procsB] at hr
    have hs:=hz
    rw [← strOf_size (procB x),proc_str] at hs
    simp only [ByteArray.size_append,strOf_size,size_lit,List.length_cons,List.length_nil,Nat.zero_add,Nat.reduceAdd] at hs
    have hlt:=mid_lt pre x xs
    rw [hp'] at hlt
    refine Ev.step (fun k=>helmsmanref12_Print.l3.eq_2 _ _ _ _ _ _ k) (Ev.yes hlt (Ev.yes (by first|omega|(simp only [ByteArray.size_append,strOf_size,size_lit,List.length_cons,List.length_nil,Nat.zero_add,Nat.reduceAdd];omega)) (Ev.yes (by omega) ?_)))
    have hrd:=rdP pre x xs
    rw [hp'] at hrd
    rw [hrd]
    have hb:=block_ev x.f1 1 (hw.1 x hx) (hp x hx).1 (by have:=(hp x hx).2;omega) (hp x hx).2
    rw [ind_one] at hb
    refine Ev.yes (by first|omega|(simp only [ByteArray.size_append,strOf_size,size_lit,List.length_cons,List.length_nil,Nat.zero_add,Nat.reduceAdd];omega)) (Ev.yes (by first|omega|(simp only [ByteArray.size_append,strOf_size,size_lit,List.length_cons,List.length_nil,Nat.zero_add,Nat.reduceAdd];omega)) (Ev.bind hb (Ev.yes (by first|omega|(simp only [ByteArray.size_append,strOf_size,size_lit,List.length_cons,List.length_nil,Nat.zero_add,Nat.reduceAdd];omega)) (Ev.yes (by first|omega|(simp only [ByteArray.size_append,strOf_size,size_lit,List.length_cons,List.length_nil,Nat.zero_add,Nat.reduceAdd];omega)) ?_))))
    rw [proc_str] at hr
    simp only [← ByteArray.append_assoc] at hr
    exact hr
theorem rPrint_l2 (g3 : ∀ acc:ByteArray,acc.size+(procsB p).length+(mainB m).length≤140737488355328→Ev (fun k=>helmsmanref12_Print.l3 k acc 0 e v p m) (acc++strOf (procsB p++mainB m))) (hv : ∀ x ∈ v,okI x.f2) : ∀ (xs pre:List RV) (acc:ByteArray),pre++xs=v→v.length < 1099511627776→acc.size+(varsB (xs.map convV)).length+(procsB p).length+(mainB m).length≤140737488355328→
    Ev (fun k=>helmsmanref12_Print.l2 k acc pre.length e v p m) (acc++strOf (varsB (xs.map convV)++(procsB p++mainB m))):=by
  intro xs
  induction xs with
  | nil=>
    intro pre acc hp' hl hz
    have hpl:pre.length=v.length:=by rw [← hp',List.append_nil]
    rw [List.map_nil,varsB,List.length_nil] at hz
    refine Ev.step (fun k=>helmsmanref12_Print.l2.eq_2 _ _ _ _ _ _ k) (Ev.no (by omega) ?_)
    rw [List.map_nil,varsB,List.nil_append]
    exact g3 acc (by omega)
  | cons x xs ih=>
    intro pre acc hp' hl hz
    have hx:x ∈ v:=by rw [← hp'];simp
    rw [List.map_cons,varsB,List.length_append] at hz
    have hr:=ih (pre++[x]) (acc++strOf (varB (convV x))) (by rw [← hp'];simp) hl (by rw [ByteArray.size_append,strOf_size];omega)
    have hn:=next_len pre x xs (by rw [hp'];omega)
    rw [← hn,ByteArray.append_assoc,← strOf_append,← List.append_assoc,← varsB,← List.map_cons] at hr
    have hlt:=mid_lt pre x xs
    rw [hp'] at hlt
    have hrd:=rdV pre x xs
    rw [hp'] at hrd
    have hs:=hz
    rw [← strOf_size (varB (convV x))] at hs
    have hi:=hv x hx
    unfold okI at hi
    by_cases c:x.f2 > 0
    · rw [show convV x=⟨x.f0,x.f1,x.f2⟩ from rfl,var_some _ _ _ c] at hs
      rw [show strOf (varB (convV x))=_ from var_some x.f0 x.f1 x.f2 c] at hr
      simp only [ByteArray.size_append,strOf_size,size_lit,List.length_cons,List.length_nil,Nat.zero_add,Nat.reduceAdd] at hs
      simp only [← ByteArray.append_assoc] at hr
      refine Ev.step (fun k=>helmsmanref12_Print.l2.eq_2 _ _ _ _ _ _ k) (Ev.yes hlt (Ev.yes (by first|omega|(simp only [ByteArray.size_append,strOf_size,size_lit,List.length_cons,List.length_nil,Nat.zero_add,Nat.reduceAdd];omega)) (Ev.yes (by omega) ?_)))
      rw [hrd]
      refine Ev.yes (by first|omega|(simp only [ByteArray.size_append,strOf_size,size_lit,List.length_cons,List.length_nil,Nat.zero_add,Nat.reduceAdd];omega)) (Ev.yes (by first|omega|(simp only [ByteArray.size_append,strOf_size,size_lit,List.length_cons,List.length_nil,Nat.zero_add,Nat.reduceAdd];omega)) (Ev.yes (by first|omega|(simp only [ByteArray.size_append,strOf_size,size_lit,List.length_cons,List.length_nil,Nat.zero_add,Nat.reduceAdd];omega)) (Ev.yes c (Ev.yes (by first|omega|(simp only [ByteArray.size_append,strOf_size,size_lit,List.length_cons,List.length_nil,Nat.zero_add,Nat.reduceAdd];omega)) (Ev.bind (Digits_ev x.f2 (by omega) (by omega)) (Ev.yes (by first|omega|(simp only [ByteArray.size_append,strOf_size,size_lit,List.length_cons,List.length_nil,Nat.zero_add,Nat.reduceAdd];omega)) (Ev.yes (by first|omega|(simp only [ByteArray.size_append,strOf_size,size_lit,List.length_cons,List.length_nil,Nat.zero_add,Nat.reduceAdd];omega)) (Ev.yes (by first|omega|(simp only [ByteArray.size_append,strOf_size,size_lit,List.length_cons,List.length_nil,Nat.zero_add,Nat.reduceAdd];omega)) hr))))))))
    · rw [show convV x=⟨x.f0,x.f1,x.f2⟩ from rfl,var_none _ _ _ c] at hs
      rw [show strOf (varB (convV x))=_ from var_none x.f0 x.f1 x.f2 c] at hr
      simp only [ByteArray.size_append,strOf_size,size_lit,List.length_cons,List.length_nil,Nat.zero_add,Nat.reduceAdd] at hs
      simp only [← ByteArray.append_assoc] at hr
      refine Ev.step (fun k=>helmsmanref12_Print.l2.eq_2 _ _ _ _ _ _ k) (Ev.yes hlt (Ev.yes (by first|omega|(simp only [ByteArray.size_append,strOf_size,size_lit,List.length_cons,List.length_nil,Nat.zero_add,Nat.reduceAdd];omega)) (Ev.yes (by omega) ?_)))
      rw [hrd]
      refine Ev.yes (by first|omega|(simp only [ByteArray.size_append,strOf_size,size_lit,List.length_cons,List.length_nil,Nat.zero_add,Nat.reduceAdd];omega)) (Ev.yes (by first|omega|(simp only [ByteArray.size_append,strOf_size,size_lit,List.length_cons,List.length_nil,Nat.zero_add,Nat.reduceAdd];omega)) (Ev.yes (by first|omega|(simp only [ByteArray.size_append,strOf_size,size_lit,List.length_cons,List.length_nil,Nat.zero_add,Nat.reduceAdd];omega)) (Ev.no c (Ev.yes (by first|omega|(simp only [ByteArray.size_append,strOf_size,size_lit,List.length_cons,List.length_nil,Nat.zero_add,Nat.reduceAdd];omega)) hr))))
theorem rPrint_l1 (i:Int) (x:REn) (h0:0≤i) (hi:i < (e.length:Int)) (hrd:rd_T72 e i=x) (r:ByteArray) : ∀ (xs pre:List ByteArray) (acc:ByteArray),pre++xs=x.f1→x.f1.length < 1099511627776→0 < pre.length→acc.size+(tailB xs).length+3≤140737488355328→
    Ev (fun k=>helmsmanref12_Print.l0 k (acc++strOf (tailB xs)++(⟨#[32,125,10]⟩:ByteArray)) (wrap64 (i+1)) e v p m) r→Ev (fun k=>helmsmanref12_Print.l1 k acc i pre.length e v p m) r:=by
  intro xs
  induction xs with
  | nil=>
    intro pre acc hp' hl hpos hz hr
    have hpl:pre.length=x.f1.length:=by rw [← hp',List.append_nil]
    refine Ev.step (fun k=>helmsmanref12_Print.l1.eq_2 _ _ _ _ _ _ _ k) (Ev.yes h0 (Ev.yes hi ?_))
    rw [hrd]
    rw [tailB,List.length_nil] at hz
    rw [tailB,show acc++strOf []=acc from bytes_ext (by rw [app_list];exact List.append_nil _)] at hr
    exact Ev.no (by omega) (Ev.yes (by first|omega|(simp only [ByteArray.size_append,strOf_size,size_lit,List.length_cons,List.length_nil,Nat.zero_add,Nat.reduceAdd];omega)) hr)
  | cons y ys ih=>
    intro pre acc hp' hl hpos hz hr
    have hlt:=mid_lt pre y ys
    rw [hp'] at hlt
    refine Ev.step (fun k=>helmsmanref12_Print.l1.eq_2 _ _ _ _ _ _ _ k) (Ev.yes h0 (Ev.yes hi ?_))
    rw [hrd]
    have hrd2:rdOf ByteArray.empty x.f1 (pre.length:Int)=y:=by
      have:=getD_mid pre y ys ByteArray.empty
      rw [hp'] at this
      exact this
    have hty:(tailB (y :: ys)).length=2+y.size+(tailB ys).length:=by
      rw [tailB,List.length_append,List.length_append,Array.length_toList];rfl
    rw [hrd2]
    rw [hty] at hz
    have hn:=next_len pre y ys (by rw [hp'];omega)
    rw [hn]
    refine Ev.yes hlt (Ev.yes (by omega) (Ev.yes (by first|omega|(simp only [ByteArray.size_append,strOf_size,size_lit,List.length_cons,List.length_nil,Nat.zero_add,Nat.reduceAdd];omega)) (Ev.yes (by omega) (Ev.yes (by first|omega|(simp only [ByteArray.size_append,strOf_size,size_lit,List.length_cons,List.length_nil,Nat.zero_add,Nat.reduceAdd];omega)) ?_))))
    refine ih (pre++[y]) _ (by rw [← hp'];simp) hl (by simp) (by first|omega|(simp only [ByteArray.size_append,strOf_size,size_lit,List.length_cons,List.length_nil,Nat.zero_add,Nat.reduceAdd];omega)) ?_
    rw [show acc++(⟨#[44,32]⟩:ByteArray)++y++strOf (tailB ys)=acc++strOf (tailB (y :: ys)) by
      apply bytes_ext
      rw [tailB]
      simp [app_list,strOf_list]]
    exact hr
theorem rPrint_l0 (g2 : ∀ acc:ByteArray,acc.size+(varsB (v.map convV)).length+(procsB p).length+(mainB m).length≤140737488355328→Ev (fun k=>helmsmanref12_Print.l2 k acc 0 e v p m) (acc++strOf (varsB (v.map convV)++(procsB p++mainB m)))) (he : ∀ x ∈ e,x.f1.length < 1099511627776) : ∀ (xs pre:List REn) (acc:ByteArray),pre++xs=e→e.length < 1099511627776→acc.size+(enumsB (xs.map convEn)).length+(varsB (v.map convV)).length+(procsB p).length+(mainB m).length≤140737488355328→
    Ev (fun k=>helmsmanref12_Print.l0 k acc pre.length e v p m) (acc++strOf (enumsB (xs.map convEn)++(varsB (v.map convV)++(procsB p++mainB m)))):=by
  intro xs
  induction xs with
  | nil=>
    intro pre acc hp' hl hz
    have hpl:pre.length=e.length:=by rw [← hp',List.append_nil]
    rw [List.map_nil,enumsB,List.length_nil] at hz
    refine Ev.step (fun k=>helmsmanref12_Print.l0.eq_2 _ _ _ _ _ _ k) (Ev.no (by omega) ?_)
    rw [List.map_nil,enumsB,List.nil_append]
    exact g2 acc (by omega)
  | cons x xs ih=>
    intro pre acc hp' hl hz
    have hx:x ∈ e:=by rw [← hp'];simp
    rw [List.map_cons,enumsB,List.length_append] at hz
    have hr:=ih (pre++[x]) (acc++strOf (enumB (convEn x))) (by rw [← hp'];simp) hl (by rw [ByteArray.size_append,strOf_size];omega)
    have hn:=next_len pre x xs (by rw [hp'];omega)
    rw [← hn,ByteArray.append_assoc,← strOf_append,← List.append_assoc,← enumsB,← List.map_cons] at hr
    have hlt:=mid_lt pre x xs
    rw [hp'] at hlt
    have hrd:=rdEn pre x xs
    rw [hp'] at hrd
    have hs:=hz
    rw [← strOf_size (enumB (convEn x))] at hs
    have hxl:=he x hx
    cases hf:x.f1 with
    | nil=>
      rw [show convEn x=⟨x.f0,[]⟩ by rw [← hf];rfl,enum_nil] at hs hr
      simp only [ByteArray.size_append,strOf_size,size_lit,List.length_cons,List.length_nil,Nat.zero_add,Nat.reduceAdd] at hs
      simp only [← ByteArray.append_assoc] at hr
      refine Ev.step (fun k=>helmsmanref12_Print.l0.eq_2 _ _ _ _ _ _ k) (Ev.yes hlt (Ev.yes (by first|omega|(simp only [ByteArray.size_append,strOf_size,size_lit,List.length_cons,List.length_nil,Nat.zero_add,Nat.reduceAdd];omega)) (Ev.yes (by omega) ?_)))
      rw [hrd]
      refine Ev.yes (by first|omega|(simp only [ByteArray.size_append,strOf_size,size_lit,List.length_cons,List.length_nil,Nat.zero_add,Nat.reduceAdd];omega)) (Ev.yes (by first|omega|(simp only [ByteArray.size_append,strOf_size,size_lit,List.length_cons,List.length_nil,Nat.zero_add,Nat.reduceAdd];omega)) (Ev.step (fun k=>helmsmanref12_Print.l1.eq_2 _ _ _ _ _ _ _ k) (Ev.yes (by omega) (Ev.yes hlt ?_))))
      rw [hrd,hf]
      exact Ev.no (by simp) (Ev.yes (by first|omega|(simp only [ByteArray.size_append,strOf_size,size_lit,List.length_cons,List.length_nil,Nat.zero_add,Nat.reduceAdd];omega)) hr)
    | cons y ys=>
      rw [show convEn x=⟨x.f0,y :: ys⟩ by rw [← hf];rfl,enum_cons] at hs hr
      simp only [ByteArray.size_append,strOf_size,size_lit,List.length_cons,List.length_nil,Nat.zero_add,Nat.reduceAdd] at hs
      simp only [← ByteArray.append_assoc] at hr
      refine Ev.step (fun k=>helmsmanref12_Print.l0.eq_2 _ _ _ _ _ _ k) (Ev.yes hlt (Ev.yes (by first|omega|(simp only [ByteArray.size_append,strOf_size,size_lit,List.length_cons,List.length_nil,Nat.zero_add,Nat.reduceAdd];omega)) (Ev.yes (by omega) ?_)))
      rw [hrd]
      refine Ev.yes (by first|omega|(simp only [ByteArray.size_append,strOf_size,size_lit,List.length_cons,List.length_nil,Nat.zero_add,Nat.reduceAdd];omega)) (Ev.yes (by first|omega|(simp only [ByteArray.size_append,strOf_size,size_lit,List.length_cons,List.length_nil,Nat.zero_add,Nat.reduceAdd];omega)) (Ev.step (fun k=>helmsmanref12_Print.l1.eq_2 _ _ _ _ _ _ _ k) (Ev.yes (by omega) (Ev.yes hlt ?_))))
      rw [hrd]
      have hgo:=rPrint_l1 e v p m (pre.length:Int) x (by omega) hlt hrd _ ys [y] _ (by rw [hf];rfl) hxl (by simp) (by first|omega|(simp only [ByteArray.size_append,strOf_size,size_lit,List.length_cons,List.length_nil,Nat.zero_add,Nat.reduceAdd];omega)) hr
      refine Ev.yes (by rw [hf];simp) (Ev.no (by omega) (Ev.yes (by omega) ?_))
      rw [show rdOf ByteArray.empty x.f1 0=y by rw [hf];rfl]
      rw [show wrap64 (0+1)=(([y].length:Nat):Int) by rw [wrap64_small (by omega) (by omega)];rfl]
      exact Ev.yes (by first|omega|(simp only [ByteArray.size_append,strOf_size,size_lit,List.length_cons,List.length_nil,Nat.zero_add,Nat.reduceAdd];omega)) hgo
theorem rPrint_ev (ho:okP v p m) (hw:wholeP p m=true) (hb:bulkP e v p m≤2097152):Ev (fun k=>helmsmanref12_Print.f k e v p m) (strOf (printB (e.map convEn) (v.map convV) p m)):=by
  have ok:=printOk_small e v p m ho hb
  have sm:=small_of e v p m (by omega)
  obtain ⟨hv,hp,hm⟩:=ho
  have hlen:=ok.hlen
  unfold printB at hlen ⊢
  simp only [List.length_append] at hlen
  have hb':=hb
  unfold bulkP at hb'
  have hbp : ∀ x ∈ p,okSs x.f1∧bulkSs x.f1≤2097152:=fun x hx=>⟨hp x hx,by
    have:=mem_sum bulkPr hx
    have e1:bulkPr x=x.f0.size+bulkSs x.f1+1:=rfl
    omega⟩
  have g3:=fun acc h=>rPrint_l3 e v p m hw hbp hm (by omega) p [] acc rfl sm.pr h
  have g2:=fun acc h=>rPrint_l2 e v p m g3 hv v [] acc rfl sm.va h
  have g0:=rPrint_l0 e v p m g2 sm.el e [] ⟨#[]⟩ rfl sm.en (by rw [show (⟨#[]⟩:ByteArray).size=0 from rfl];omega)
  rw [show ∀ b:ByteArray,(⟨#[]⟩:ByteArray)++b=b from fun b=>bytes_ext (by rw [app_list];rfl)] at g0
  rw [List.append_assoc,List.append_assoc]
  exact g0
theorem Prints_l0 (ho:okP v p m) (hw:wholeP p m=true) (hb:bulkP e v p m≤2097152) : ∀ (xs pre:List RV),pre++xs=v→Ev (fun k=>helmsmanlaw12_TreePrints.l0 k v (v.length:Int) pre.length e v p m (e.map convEn) (v.map convV) (convPs p) (convSs m)) true:=by
  have sm:=small_of e v p m (by omega)
  intro xs
  induction xs with
  | nil=>
    intro pre hp'
    have hpl:pre.length=v.length:=by rw [← hp',List.append_nil]
    refine Ev.step (fun k=>helmsmanlaw12_TreePrints.l0.eq_2 _ _ _ _ _ _ _ _ _ _ _ k) (Ev.no (by omega) (alive_now (Ev.yes rfl (Ev.then (tree_Print.some _ _ _ _ (printOk_small e v p m ho hb)) (Ev.bind (rPrint_ev e v p m ho hw hb) ?_)))))
    rw [show ((strOf (printB (e.map convEn) (v.map convV) p m)).toList == (strOf (printB (e.map convEn) (v.map convV) p m)).toList)=true from beq_self_eq_true _]
    exact Ev.now _
  | cons x xs ih=>
    intro pre hp'
    have hlt:=mid_lt pre x xs
    rw [hp'] at hlt
    have hl:=sm.va
    have hn:=next_len pre x xs (by rw [hp'];omega)
    have hr:=ih (pre++[x]) (by rw [← hp'];simp)
    refine Ev.step (fun k=>helmsmanlaw12_TreePrints.l0.eq_2 _ _ _ _ _ _ _ _ _ _ _ k) (Ev.yes hlt (Ev.yes (by omega) (Ev.yes hlt ?_)))
    by_cases c:(rd_T56 v (pre.length:Int)).f2 < 0
    · exact Ev.yes c (alive_now (Ev.now _))
    · refine Ev.no c ?_
      rw [hn];exact hr
theorem TreePrints_ev (ho:okP v p m) (hb:bulkP e v p m≤2097152):Ev (fun k=>helmsmanlaw12_TreePrints.f k e v p m) true:=by
  have sm:=small_of e v p m (by omega)
  have yes:Ev (fun k=>helmsmanlaw12_TreePrints.j0 k true e v p m) true:=Ev.step (fun k=>helmsmanlaw12_TreePrints.j0.eq_2 _ _ _ _ _ k) (Ev.yes rfl (alive_now (Ev.now _)))
  unfold helmsmanlaw12_TreePrints.f
  refine Ev.bind (Sized_ev e v p m sm (by omega)) ?_
  by_cases g1:(szP p m:Int) > 300
  · exact Ev.yes g1 yes
  refine Ev.no g1 ?_
  by_cases g2:(e.length:Int) > 20
  · exact Ev.yes g2 yes
  refine Ev.no g2 ?_
  by_cases g3:(v.length:Int) > 20
  · exact Ev.yes g3 yes
  refine Ev.no g3 ?_
  by_cases g4:(p.length:Int) > 20
  · rw [decide_eq_true g4];exact yes
  rw [decide_eq_false g4]
  refine Ev.step (fun k=>helmsmanlaw12_TreePrints.j0.eq_2 _ _ _ _ _ k) (Ev.no (by simp) (Ev.bind (Prog_ev e v p m sm) (Ev.bind (tDepth_ev m (by have:=sm.ma;omega)) (Ev.bind (Depth_ev m (by have:=sm.ma;omega)) (Ev.yes rfl (Ev.bind (tSized_ev _ _ e v p m sm (by omega)) (Ev.bind (Sized_ev e v p m sm (by omega)) ?_)))))))
  rw [show ((szP p m:Int) != (szP p m:Int))=false from bne_self_eq_false _]
  refine Ev.step (fun k=>helmsmanlaw12_TreePrints.j1.eq_2 _ _ _ _ _ _ _ _ _ k) (Ev.no (by simp) (Ev.bind (WholeP_ev e v p m sm) ?_))
  cases hw:wholeP p m with
  | false=>exact Ev.no (by simp) (alive_now (Ev.now _))
  | true=>exact Ev.yes rfl (Prints_l0 e v p m ho hw hb v [] rfl)
end
end Go.Proofs.YtnnbbeloifhofaaDoor.P
end
section
namespace Go.Proofs.YtnnbbeloifhofaaDoor.treePrintsUpto
open Go.ChangeShapes Go.WideShapes Go.ChangeAt Go.RowKit
open Go.ChangeMaps (open_string shut_string)
set_option linter.unusedVariables false
theorem reads (os:Os) {H:Type} (enc:TypeId × Value→H) : ∃ places,DataW.whole enc Tryd.prog ((laidWorld os).forCall (fun _ _=>0) ⟨#[],#[.agg #[.slice none 0 0,.slice none 0 0,.slice none 0 0,.slice none 0 0]],[]⟩).memory Tryd.f4.params.toList Rows.treePrintsSpec.vars false (#[.agg #[.slice none 0 0,.slice none 0 0,.slice none 0 0,.slice none 0 0]]:Array Value).toList 8=some ([.agg [.nil,.nil,.nil,.nil]],[],places):=
  ⟨[],by kernel_rfl⟩
set_option maxRecDepth 100000 in
theorem lifted (os:Os) (started:os.Started) (H:Type) (enc:TypeId × Value→H) (F:Stop.Interp) :
    ReturnsInHanded {} Tryd.checked os 4 .any ((Rows.OpenSpec.upto Rows.treePrintsSpec).preRow enc Tryd.prog Tryd.f4 Rows.treePrintsUptoRow.domain false Rows.treePrintsUptoRow.laid) (((Rows.OpenSpec.upto Rows.treePrintsSpec).at F).post enc Tryd.prog Tryd.f4 false true false false):=by
  obtain ⟨places,hx⟩:=reads os enc
  refine returnsInHanded_of_row (C:=Tryd.checked) (s:=(Rows.OpenSpec.upto Rows.treePrintsSpec)) own started (by kernel_rfl) Tryd.func4
    (witness_row_atRef (enc:=enc) (C:=Tryd.checked) false (laidWorld os) #[.agg #[.slice none 0 0,.slice none 0 0,.slice none 0 0,.slice none 0 0]] rfl (by kernel_rfl) (by kernel_rfl) (by kernel_rfl)
      (OpenSpec.preRow_of_cond 8 hx (by kernel_rfl) (fun k hk=>by cases hk;kernel_rfl) (by kernel_rfl) (laid_met os _))) ?_
  intro W base args ds gs before hval0 hW _ hcond hsz0 hL _ _
  have hval : ∀ (j:Nat) t v,Tryd.f4.params[j]?=some t→args[j]?=some v→Value.okWide Tryd.prog W .any base t v:=hval0
  have hW':=hW
  obtain ⟨p,q,hA0,hV,rfl,hfz,hnd⟩:=hW
  have hA:DataW.TrodAll enc Tryd.prog W 0 (fun _=>true) true Tryd.f4.params.toList args.toList ds p:=hA0
  rw [Tryd.params4] at hA hval
  obtain ⟨v0,vs0,d0,ds0,p0,q0,hargs,rfl,rfl,h0,r0⟩:=trodAll_cons hA
  obtain ⟨rfl,rfl,rfl⟩:=trodAll_nil r0
  obtain rfl:args=#[v0]:=by cases args;simp_all
  obtain ⟨rfl,rfl⟩:=trodVars_none hV
  have lt0 : ∀ x ∈ p0,x.block < W.heap.size:=by obtain ⟨m,hm⟩:=h0;exact DataW.trod_lt m _ _ _ hm
  have hr0:=h0
  obtain ⟨m0,hm0⟩:=hr0
  have hT:P.TabT W:=tabs hL
  obtain ⟨cs0,rfl,_⟩:=okWide_struct Tryd.underlying43 (hval 0 43 v0 rfl rfl)
  obtain ⟨E0,V0,P0,M0,A0_0,A0_1,A0_2,A0_3,c0_0,c0_1,c0_2,c0_3,hcs0,g0_0,l0_0,g0_1,l0_1,g0_2,l0_2,g0_3,l0_3,B0,O0⟩:=P.readProg m0 _ _ hm0
  replace hcs0:cs0.toList=[.slice A0_0 E0.length c0_0,.slice A0_1 V0.length c0_1,.slice A0_2 P0.length c0_2,.slice A0_3 M0.length c0_3]:=hcs0
  obtain rfl:cs0=#[.slice A0_0 E0.length c0_0,.slice A0_1 V0.length c0_1,.slice A0_2 P0.length c0_2,.slice A0_3 M0.length c0_3]:=by cases cs0;simp_all
  replace B0:_≤Rows.uptoBulk d0:=B0
  have hB:Rows.uptoBulkAll [d0]≤1048576:=of_decide_eq_true (hcond _ rfl)
  simp only [Rows.uptoBulkAll] at hB
  obtain ⟨k,hk⟩:=(P.TreePrints_ev E0 V0 P0 M0 O0 (by omega)).rounds
  refine (P.helmsmanlaw12_TreePrints.calls k A0_0 c0_0 E0 A0_1 c0_1 V0 A0_2 c0_2 P0 A0_3 c0_3 M0 true W hT g0_0 l0_0 g0_1 l0_1 g0_2 l0_2 g0_3 l0_3 hk).mono fun e W' ⟨he,bel⟩=>?_
  subst he
  exact ⟨_,rfl,_,_,_,[],_,[],hW',trodAll_mk1 (shut_bool Tryd.underlying4 _),(trodAll_cons_mk (Below.trod laidOut (by kernel_rfl) (of_decide_eq_true (by kernel_rfl)) h0 bel lt0) trodAll_mk0),rfl,bel.frame _,fun h=>by cases h⟩
theorem said:Rows.TreePrintsUptoSaid:=
  OpenClaim.holds_of_cond 4 Tryd.f4 rfl rfl rfl rfl rfl rfl rfl ⟨rfl,rfl,rfl,rfl,rfl⟩ rfl rfl rfl rfl rfl (by kernel_rfl) Tryd.func4 (by kernel_rfl)
    (of_decide_eq_true (by kernel_rfl)) (by unfold Func.isWrapper;first|(rw [if_pos (by decide +kernel)];kernel_rfl)|(rw [if_neg (by decide +kernel)];exact ⟨rfl,rfl⟩))
    (fun os started H enc _ F=>by rw [OpenClaim.pre_eq_preRow];exact lifted os started H enc F)
theorem plain (f:FuncId) (fn:Func) (hf:Tryd.pinned.checked.prog.funcNamed Rows.treePrintsUptoRow.func=some f) (hfn:Tryd.pinned.checked.prog.funcs[f]?=some fn) :
    false=Tryd.pinned.checked.prog.looks []∧∀ (j:Nat) t,fn.params[j]?=some t→Tryd.pinned.checked.prog.wantsStandIn t=false:=by
  obtain rfl:f=4:=Option.some.inj ((show Tryd.prog.funcNamed Rows.treePrintsUptoRow.func=some 4 by kernel_rfl).symm.trans hf) |>.symm
  obtain rfl:fn=Tryd.f4:=(Option.some.inj (Tryd.func4.symm.trans hfn)).symm
  refine ⟨by kernel_rfl,fun j t ht=>?_⟩
  rw [Tryd.params4] at ht
  have ht2:=Array.mem_of_getElem? ht
  have ht3:t=43:=by simpa using ht2
  obtain rfl:=ht3
  exact (show Tryd.prog.wantsStandIn 43=false by kernel_rfl)
end Go.Proofs.YtnnbbeloifhofaaDoor.treePrintsUpto
namespace Go.Proofs.YtnnbbeloifhofaaDoor
theorem treePrintsUpto_holds:Rows.TreePrintsUptoCardSaid:=
  Claim7.holds_tied_plain_at .later [] _ _ _ _ treePrintsUpto.said (fun _ h=>by cases h) (by kernel_rfl) (fun _ h=>by cases h) treePrintsUpto_row_tie rfl ⟨rfl,rfl⟩ (by kernel_rfl) rfl treePrintsUpto.plain (by kernel_rfl)
#print axioms treePrintsUpto_holds
end Go.Proofs.YtnnbbeloifhofaaDoor
end
