/- TreeSame: for all rows of statements (what is read of bulk at most 1048576), whether they, and two expressions, are the same is what the document says; what is the same is printed alike. The second form: no other condition. -/
import Derived.Test.YtnnbbeloifhofaaDoorCTreeSameUpto0
import Derived.Test.YtnnbbeloifhofaaDoorCTreeSameUpto3
import Derived.Test.YtnnbbeloifhofaaDoorCTreeSameUpto2
import Derived.Test.YtnnbbeloifhofaaDoorCTreeSameUpto1
import Derived.Test.YtnnbbeloifhofaaDoorCards
import Derived.Test.YtnnbbeloifhofaaDoorTie
import Derived.WalkKit
import Derived.ProofKit
import Derived.OpenShut
import Derived.ShutString
import Derived.ChangeOld
import Derived.Below
import Derived.SizedLaws
section
namespace Go.Proofs.YtnnbbeloifhofaaDoor.P
open Go.RowKit Go.Proofs.YtnnbbeloifhofaaDoorW.PrintWords Go.Proofs.YtnnbbeloifhofaaDoorW.PrintLast Go.Proofs.YtnnbbeloifhofaaDoorW.PrintMore
attribute [local go_sem] max2_int min2_int max_two min_two max_three min_three max_four min_four
set_option linter.unusedVariables false
set_option linter.unusedSimpArgs false
mutual
def helmsmanlaw12_TreeSame.j0:Nat→List (S29)→List (S29)→Bool→Option (Bool)
 | 0,_,_,_=>none
 | k+1,x0,x1,x15=>if x15=true then ((helmsmanlaw12_alive.f).bind fun t384=>(some t384)) else ((helmsmanlaw12_Stmts.f k x0).bind fun t385=>((helmsmanlaw12_Stmts.f k x1).bind fun t388=>((helmsmanref12_SameStmts.f k x0 x1).bind fun t393=>(if (x0.length:Int) > 0 then (if (x1.length:Int) > 0 then (if 0 < (x0.length:Int) then (if (((rd_T29 x0 0).f2).length:Int) > 0 then (if 0 < (x1.length:Int) then (if (((rd_T29 x1 0).f2).length:Int) > 0 then (if 0 < (((rd_T29 x0 0).f2).length:Int) then ((helmsmanlaw12_Expr.f k ((rd_T24 ((rd_T29 x0 0).f2) 0).f0) ((rd_T24 ((rd_T29 x0 0).f2) 0).f1) ((rd_T24 ((rd_T29 x0 0).f2) 0).f2) ((rd_T24 ((rd_T29 x0 0).f2) 0).f3) ((rd_T24 ((rd_T29 x0 0).f2) 0).f4)).bind fun bt398=>(if 0 < (((rd_T29 x1 0).f2).length:Int) then ((helmsmanlaw12_Expr.f k ((rd_T24 ((rd_T29 x1 0).f2) 0).f0) ((rd_T24 ((rd_T29 x1 0).f2) 0).f1) ((rd_T24 ((rd_T29 x1 0).f2) 0).f2) ((rd_T24 ((rd_T29 x1 0).f2) 0).f3) ((rd_T24 ((rd_T29 x1 0).f2) 0).f4)).bind fun bt407=>((tree_SameExpr.f k bt398.1 bt398.2.1 bt398.2.2.1 bt398.2.2.2.1 bt398.2.2.2.2 bt407.1 bt407.2.1 bt407.2.2.1 bt407.2.2.2.1 bt407.2.2.2.2).bind fun t414=>((helmsmanref12_SameExpr.f k ((rd_T24 ((rd_T29 x0 0).f2) 0).f0) ((rd_T24 ((rd_T29 x0 0).f2) 0).f1) ((rd_T24 ((rd_T29 x0 0).f2) 0).f2) ((rd_T24 ((rd_T29 x0 0).f2) 0).f3) ((rd_T24 ((rd_T29 x0 0).f2) 0).f4) ((rd_T24 ((rd_T29 x1 0).f2) 0).f0) ((rd_T24 ((rd_T29 x1 0).f2) 0).f1) ((rd_T24 ((rd_T29 x1 0).f2) 0).f2) ((rd_T24 ((rd_T29 x1 0).f2) 0).f3) ((rd_T24 ((rd_T29 x1 0).f2) 0).f4)).bind fun t419=>(helmsmanlaw12_TreeSame.j1 k t393 (t414 != t419) t385 t388)))) else (none))) else (none)) else (helmsmanlaw12_TreeSame.j1 k t393 false t385 t388)) else (none)) else (helmsmanlaw12_TreeSame.j1 k t393 false t385 t388)) else (none)) else (helmsmanlaw12_TreeSame.j1 k t393 false t385 t388)) else (helmsmanlaw12_TreeSame.j1 k t393 false t385 t388)))))
def helmsmanlaw12_TreeSame.j1:Nat→Bool→Bool→List (S76)→List (S76)→Option (Bool)
 | 0,_,_,_,_=>none
 | k+1,x7,x80,x392003,x393003=>if x80=true then (some false) else ((helmsmanlaw12_alive.f).bind fun t420=>(if t420=true then ((tree_Same.f k ([]:List (S79)) ([]:List (S80)) ([]:List (S66)) x392003 ([]:List (S79)) ([]:List (S80)) ([]:List (S66)) x393003).bind fun t421=>(if (t421 == x7)=true then (if x7=true then ((tree_Print.f ([]:List (S79)) ([]:List (S80)) ([]:List (S66)) x392003).bind fun t422=>((tree_Print.f ([]:List (S79)) ([]:List (S80)) ([]:List (S66)) x393003).bind fun t423=>(some (t422.toList == t423.toList)))) else (some true)) else (some false))) else (some false)))
end
def helmsmanlaw12_TreeSame.f (k:Nat) (l0:List (S29)) (l1:List (S29)):Option (Bool):=(helmsmanref12_Size.f k l0).bind fun t382=>(if t382 > 300 then (helmsmanlaw12_TreeSame.j0 k l0 l1 true) else ((helmsmanref12_Size.f k l1).bind fun t383=>(helmsmanlaw12_TreeSame.j0 k l0 l1 (decide (t383 > 300)))))
def helmsmanlaw12_TreeSame.T5:Bool × List (List Nat × List Nat):=(true,[([],[]),([0],[0]),([1],[1]),([2],[2]),([3],[3]),([4,3],[3,4]),([5,3],[3,5]),([3,6],[3,6]),([7,3],[7]),([8],[8]),([9,8],[8,9]),([10,8],[8,10]),([11,8],[8,11]),([12,8],[8,12]),([13,8],[8,13]),([8,14],[8,14]),([15,8],[15]),([16],[16]),([17,16],[16,17]),([18,16],[16,18]),([19,16],[16,19]),([20,16],[16,20]),([21,16],[16,21]),([16,22],[16,22]),([23,16],[23]),([24],[24]),([25,24],[24,25]),([26,24],[24,26]),([27,24],[24,27]),([28,24],[24,28]),([29,24],[24,29]),([30,24,24],[24,30]),([24],[24]),([32,24],[24,32]),([33,24],[24,33]),([34,24],[24,34]),([35,24],[24,35]),([36,24],[24,36]),([37,31,24],[24,37]),([31,38,38,24],[24,31,38]),([24],[24]),([40,24],[24,40]),([41,24],[24,41]),([42,24],[24,42]),([43,24],[24,43]),([44,24],[24,44]),([24],[24]),([46,24],[24,46]),([47,24],[24,47]),([48,24],[24,48]),([49,24],[24,49]),([50,24],[24,50]),([45,51,39,24],[24,45,51]),([39,52,24],[24,39,52]),([24,53],[24,53])])
def helmsmanlaw12_TreeSame.B5:List Nat:=[0,1,3,7,15,31,63,127,255,511,1023,2047,4095,8191,16383,32767,65535,131071,262143,524287,1048575,2097151,4194303,8388607,16777215,33554431,67108863,134217727,268435455,536870911,1073741823,2147483647,33554431,4328521727,12918456319,30098325503,64458063871,133177540607,274877906943,549755813887,33554431,1099545182207,3298568437759,7696614948863,16492707971071,34084894015487,33554431,70368777732095,211106266087423,492581242798079,1055531196219391,2181431103062015,4503599627370495,9007199254740991,18014398509481983]
theorem helmsmanlaw12_TreeSame.tab5:rtab .any (opsOf Tryd.f5 5)=helmsmanlaw12_TreeSame.T5:=by kernel_rfl
theorem helmsmanlaw12_TreeSame.bits5:waitsOk helmsmanlaw12_TreeSame.T5.2 helmsmanlaw12_TreeSame.B5=true:=by kernel_rfl
def helmsmanlaw12_TreeSame.T7:Bool × List (List Nat × List Nat):=(true,[([],[]),([0,0],[0]),([1],[1]),([1],[1]),([2,3,1,1],[1,2,3]),([1],[1]),([4,5,1],[1,4,5]),([1,6],[1,6]),([7,4],[7]),([8],[8]),([9,8],[8,9]),([10,8,8],[8,10]),([11],[11]),([12,11,11],[11,12]),([11],[11]),([14,13,11],[11,14]),([13,15,11],[11,13,15]),([11,16,8],[8,11,16]),([8,17],[8,17]),([18,15,0,1,2,3,4,5,6,7,8,9,10,11,12,13,14,15,16,17,18],[18])])
def helmsmanlaw12_TreeSame.B7:List Nat:=[0,1,3,3,15,3,63,127,255,511,1023,2047,4095,8191,4095,32767,65535,131071,262143,524287]
theorem helmsmanlaw12_TreeSame.tab7:rtab .any (opsOf Tryd.f5 7)=helmsmanlaw12_TreeSame.T7:=by kernel_rfl
theorem helmsmanlaw12_TreeSame.bits7:waitsOk helmsmanlaw12_TreeSame.T7.2 helmsmanlaw12_TreeSame.B7=true:=by kernel_rfl
set_option maxHeartbeats 8000000 in
set_option maxRecDepth 100000 in
theorem helmsmanlaw12_TreeSame.calls (k:Nat) (A0:Option Addr) (c0:Nat) (l0:List (S29)) (A1:Option Addr) (c1:Nat) (l1:List (S29)) (r:Bool) (w:World) (hT:TabT w) (hr0:Kd.C k29 w A0 l0.length l0) (hc0:l0.length≤c0) (hr1:Kd.C k29 w A1 l1.length l1) (hc1:l1.length≤c1) (h:helmsmanlaw12_TreeSame.f k l0 l1=some r) :
  Calls Tryd.prog 5 #[.slice A0 l0.length c0,.slice A1 l1.length c1] w fun e w'=>e=.returned (.bool r)∧Below w.heap.size w w':=by
 have hu50:=Tryd.underlying50
 have hu24:=Tryd.underlying24
 have HR0:=Aside0.mk hr0
 have HC0:=Aside0.mk hc0
 clear hr0 hc0
 have HR1:=Aside0.mk hr1
 have HC1:=Aside0.mk hc1
 clear hr1 hc1
 have HB:=Aside0.mk (Below.refl w.heap.size w)
 have H:((helmsmanref12_Size.f k l0).bind fun t382=>(if t382 > 300 then (helmsmanlaw12_TreeSame.j0 k l0 l1 true) else ((helmsmanref12_Size.f k l1).bind fun t383=>(helmsmanlaw12_TreeSame.j0 k l0 l1 (decide (t383 > 300))))))=some r:=h
 clear h
 have HC3:=Aside0.mk H
 clear H
 go_enter Tryd.func5,Tryd.ntmps5
 go_upto_region 1 with (fail)
 go_cut [15] (fun v15 wc=>∃ (kq:Nat) (x15_2:Bool),v15=.bool x15_2∧Aside0 (helmsmanlaw12_TreeSame.j0 kq l0 l1 x15_2=some r)∧Aside0 (kq≤k)∧Aside0 (Below w.heap.size w wc))
 case first=>
  have H:=HC3.out
  clear HC3
  replace H:=Option.bind_eq_some_iff.mp H
  obtain ⟨t382,A40,H⟩:=H
  replace H:(if t382 > 300 then (helmsmanlaw12_TreeSame.j0 k l0 l1 true) else ((helmsmanref12_Size.f k l1).bind fun t383=>(helmsmanlaw12_TreeSame.j0 k l0 l1 (decide (t383 > 300)))))=some r:=H
  have A4:=Aside0.mk A40
  clear A40
  by_cases c5:t382 > 300
  ·rw [if_pos c5] at H
   have c5b0:decide (300 < t382)=true:=decide_eq_true c5
   clear c5
   (first|rw [c5b0]|(simp only [i64_w,i32_w];rw [c5b0])|skip)
   have H':=Aside0.mk H
   clear H
   go_wp2_with (first|((with_reducible refine gate_callee (f:=9) rfl ?_);refine goesL_ (some 9) rfl rfl Tryd.func9 (by kernel_rfl) rfl #[.slice A0 l0.length c0] rfl ar_ ?_;(with_reducible refine (helmsmanref12_Size.calls k _ _ l0 t382 _ ?side1 ?side2 A4.out).mono ?_);(case side1=>exact kc_ HR0.out HB.out);(case side2=>exact HC0.out);rintro e w6 ⟨rfl,hb⟩;refine ⟨_,rfl,?_⟩;have n0_:=Aside0.mk (below_step (bl_ HB.out) hb);clear HB;have HB:=n0_;clear n0_;(try clear hb);(try clear hb2);(try clear hk);(try clear hi)))
   go_meet
   case rel=>exact ⟨_,(true),rf_,H',⟨by first|omega|exact Nat.le_refl _⟩,⟨bl_ HB.out⟩⟩
  ·rw [if_neg c5] at H
   have c5b0:decide (300 < t382)=false:=decide_eq_false c5
   clear c5
   (first|rw [c5b0]|(simp only [i64_w,i32_w];rw [c5b0])|skip)
   replace H:=Option.bind_eq_some_iff.mp H
   obtain ⟨t383,A70,H⟩:=H
   replace H:(helmsmanlaw12_TreeSame.j0 k l0 l1 (decide (t383 > 300)))=some r:=H
   have A7:=Aside0.mk A70
   clear A70
   have H':=Aside0.mk H
   clear H
   go_wp2_with (first|((with_reducible refine gate_callee (f:=9) rfl ?_);refine goesL_ (some 9) rfl rfl Tryd.func9 (by kernel_rfl) rfl #[.slice A0 l0.length c0] rfl ar_ ?_;(with_reducible refine (helmsmanref12_Size.calls k _ _ l0 t382 _ ?side1 ?side2 A4.out).mono ?_);(case side1=>exact kc_ HR0.out HB.out);(case side2=>exact HC0.out);rintro e w8 ⟨rfl,hb⟩;refine ⟨_,rfl,?_⟩;have n0_:=Aside0.mk (below_step (bl_ HB.out) hb);clear HB;have HB:=n0_;clear n0_;(try clear hb);(try clear hb2);(try clear hk);(try clear hi))|(go_at_call 9;(with_reducible refine (helmsmanref12_Size.calls k _ _ l1 t383 _ ?side1 ?side2 A7.out).mono ?_);(case side1=>exact kc_ HR1.out HB.out);(case side2=>exact HC1.out);rintro e w9 ⟨rfl,hb⟩;have n0_:=Aside0.mk (below_step (bl_ HB.out) hb);clear HB;have HB:=n0_;clear n0_;(try clear hb);(try clear hb2);(try clear hk);(try clear hi)))
   go_meet
   case rel=>exact ⟨_,(decide (t383 > 300)),rf_,H',⟨by first|omega|exact Nat.le_refl _⟩,⟨bl_ HB.out⟩⟩
 case rest=>
  clear HC3
  (try clear c1);(try clear p2);(try clear c5);(try clear c5b0);(try clear c9)
  obtain ⟨kq,x15_2,rfl,HA,HJ2,HB⟩:=hcut
  cases kq with
  | zero=>exact absurd HA.out (by simp [helmsmanlaw12_TreeSame.j0])
  | succ kj2=>
   have H:=HA.out
   clear HA
   simp only [helmsmanlaw12_TreeSame.j0] at H
   by_cases c10:x15_2=true
   ·subst c10
    have H1:((helmsmanlaw12_alive.f).bind fun t384=>(some t384))=some r:=by rw [if_pos rfl] at H;exact H
    clear H
    have H:=H1
    clear H1
    replace H:=Option.bind_eq_some_iff.mp H
    obtain ⟨t384,A110,H⟩:=H
    replace H:(some t384)=some r:=H
    have A11:=Aside0.mk A110
    clear A110
    obtain rfl:=Option.some.inj H
    go_wp2_with (first|((with_reducible refine gate_callee (f:=10) rfl ?_);refine goesL_ (some 16) rfl rfl Tryd.func10 (by kernel_rfl) rfl #[] rfl ar_ ?_;(with_reducible refine (helmsmanlaw12_alive.calls  t384 _ ?side1 A11.out).mono ?_);(case side1=>exact hT.later (bl_ HB.out));rintro e w12 ⟨rfl,hb⟩;refine ⟨_,rfl,?_⟩;have n0_:=Aside0.mk (below_step (bl_ HB.out) hb);clear HB;have HB:=n0_;clear n0_;(try clear hb);(try clear hb2);(try clear hk);(try clear hi)))
    go_ret
    exact ⟨rt_,bl_ HB.out⟩
   ·replace c10:=Bool.eq_false_iff.mpr c10
    subst c10
    have H1:((helmsmanlaw12_Stmts.f kj2 l0).bind fun t385=>((helmsmanlaw12_Stmts.f kj2 l1).bind fun t388=>((helmsmanref12_SameStmts.f kj2 l0 l1).bind fun t393=>(if (l0.length:Int) > 0 then (if (l1.length:Int) > 0 then (if 0 < (l0.length:Int) then (if (((rd_T29 l0 0).f2).length:Int) > 0 then (if 0 < (l1.length:Int) then (if (((rd_T29 l1 0).f2).length:Int) > 0 then (if 0 < (((rd_T29 l0 0).f2).length:Int) then ((helmsmanlaw12_Expr.f kj2 ((rd_T24 ((rd_T29 l0 0).f2) 0).f0) ((rd_T24 ((rd_T29 l0 0).f2) 0).f1) ((rd_T24 ((rd_T29 l0 0).f2) 0).f2) ((rd_T24 ((rd_T29 l0 0).f2) 0).f3) ((rd_T24 ((rd_T29 l0 0).f2) 0).f4)).bind fun bt398=>(if 0 < (((rd_T29 l1 0).f2).length:Int) then ((helmsmanlaw12_Expr.f kj2 ((rd_T24 ((rd_T29 l1 0).f2) 0).f0) ((rd_T24 ((rd_T29 l1 0).f2) 0).f1) ((rd_T24 ((rd_T29 l1 0).f2) 0).f2) ((rd_T24 ((rd_T29 l1 0).f2) 0).f3) ((rd_T24 ((rd_T29 l1 0).f2) 0).f4)).bind fun bt407=>((tree_SameExpr.f kj2 bt398.1 bt398.2.1 bt398.2.2.1 bt398.2.2.2.1 bt398.2.2.2.2 bt407.1 bt407.2.1 bt407.2.2.1 bt407.2.2.2.1 bt407.2.2.2.2).bind fun t414=>((helmsmanref12_SameExpr.f kj2 ((rd_T24 ((rd_T29 l0 0).f2) 0).f0) ((rd_T24 ((rd_T29 l0 0).f2) 0).f1) ((rd_T24 ((rd_T29 l0 0).f2) 0).f2) ((rd_T24 ((rd_T29 l0 0).f2) 0).f3) ((rd_T24 ((rd_T29 l0 0).f2) 0).f4) ((rd_T24 ((rd_T29 l1 0).f2) 0).f0) ((rd_T24 ((rd_T29 l1 0).f2) 0).f1) ((rd_T24 ((rd_T29 l1 0).f2) 0).f2) ((rd_T24 ((rd_T29 l1 0).f2) 0).f3) ((rd_T24 ((rd_T29 l1 0).f2) 0).f4)).bind fun t419=>(helmsmanlaw12_TreeSame.j1 kj2 t393 (t414 != t419) t385 t388)))) else (none))) else (none)) else (helmsmanlaw12_TreeSame.j1 kj2 t393 false t385 t388)) else (none)) else (helmsmanlaw12_TreeSame.j1 kj2 t393 false t385 t388)) else (none)) else (helmsmanlaw12_TreeSame.j1 kj2 t393 false t385 t388)) else (helmsmanlaw12_TreeSame.j1 kj2 t393 false t385 t388)))))=some r:=by rw [if_neg (show ¬ (false=true) by decide)] at H;exact H
    clear H
    have H:=H1
    clear H1
    replace H:=Option.bind_eq_some_iff.mp H
    obtain ⟨t385,A130,H⟩:=H
    replace H:((helmsmanlaw12_Stmts.f kj2 l1).bind fun t388=>((helmsmanref12_SameStmts.f kj2 l0 l1).bind fun t393=>(if (l0.length:Int) > 0 then (if (l1.length:Int) > 0 then (if 0 < (l0.length:Int) then (if (((rd_T29 l0 0).f2).length:Int) > 0 then (if 0 < (l1.length:Int) then (if (((rd_T29 l1 0).f2).length:Int) > 0 then (if 0 < (((rd_T29 l0 0).f2).length:Int) then ((helmsmanlaw12_Expr.f kj2 ((rd_T24 ((rd_T29 l0 0).f2) 0).f0) ((rd_T24 ((rd_T29 l0 0).f2) 0).f1) ((rd_T24 ((rd_T29 l0 0).f2) 0).f2) ((rd_T24 ((rd_T29 l0 0).f2) 0).f3) ((rd_T24 ((rd_T29 l0 0).f2) 0).f4)).bind fun bt398=>(if 0 < (((rd_T29 l1 0).f2).length:Int) then ((helmsmanlaw12_Expr.f kj2 ((rd_T24 ((rd_T29 l1 0).f2) 0).f0) ((rd_T24 ((rd_T29 l1 0).f2) 0).f1) ((rd_T24 ((rd_T29 l1 0).f2) 0).f2) ((rd_T24 ((rd_T29 l1 0).f2) 0).f3) ((rd_T24 ((rd_T29 l1 0).f2) 0).f4)).bind fun bt407=>((tree_SameExpr.f kj2 bt398.1 bt398.2.1 bt398.2.2.1 bt398.2.2.2.1 bt398.2.2.2.2 bt407.1 bt407.2.1 bt407.2.2.1 bt407.2.2.2.1 bt407.2.2.2.2).bind fun t414=>((helmsmanref12_SameExpr.f kj2 ((rd_T24 ((rd_T29 l0 0).f2) 0).f0) ((rd_T24 ((rd_T29 l0 0).f2) 0).f1) ((rd_T24 ((rd_T29 l0 0).f2) 0).f2) ((rd_T24 ((rd_T29 l0 0).f2) 0).f3) ((rd_T24 ((rd_T29 l0 0).f2) 0).f4) ((rd_T24 ((rd_T29 l1 0).f2) 0).f0) ((rd_T24 ((rd_T29 l1 0).f2) 0).f1) ((rd_T24 ((rd_T29 l1 0).f2) 0).f2) ((rd_T24 ((rd_T29 l1 0).f2) 0).f3) ((rd_T24 ((rd_T29 l1 0).f2) 0).f4)).bind fun t419=>(helmsmanlaw12_TreeSame.j1 kj2 t393 (t414 != t419) t385 t388)))) else (none))) else (none)) else (helmsmanlaw12_TreeSame.j1 kj2 t393 false t385 t388)) else (none)) else (helmsmanlaw12_TreeSame.j1 kj2 t393 false t385 t388)) else (none)) else (helmsmanlaw12_TreeSame.j1 kj2 t393 false t385 t388)) else (helmsmanlaw12_TreeSame.j1 kj2 t393 false t385 t388))))=some r:=H
    have A13:=Aside0.mk A130
    clear A130
    replace H:=Option.bind_eq_some_iff.mp H
    obtain ⟨t388,A140,H⟩:=H
    replace H:((helmsmanref12_SameStmts.f kj2 l0 l1).bind fun t393=>(if (l0.length:Int) > 0 then (if (l1.length:Int) > 0 then (if 0 < (l0.length:Int) then (if (((rd_T29 l0 0).f2).length:Int) > 0 then (if 0 < (l1.length:Int) then (if (((rd_T29 l1 0).f2).length:Int) > 0 then (if 0 < (((rd_T29 l0 0).f2).length:Int) then ((helmsmanlaw12_Expr.f kj2 ((rd_T24 ((rd_T29 l0 0).f2) 0).f0) ((rd_T24 ((rd_T29 l0 0).f2) 0).f1) ((rd_T24 ((rd_T29 l0 0).f2) 0).f2) ((rd_T24 ((rd_T29 l0 0).f2) 0).f3) ((rd_T24 ((rd_T29 l0 0).f2) 0).f4)).bind fun bt398=>(if 0 < (((rd_T29 l1 0).f2).length:Int) then ((helmsmanlaw12_Expr.f kj2 ((rd_T24 ((rd_T29 l1 0).f2) 0).f0) ((rd_T24 ((rd_T29 l1 0).f2) 0).f1) ((rd_T24 ((rd_T29 l1 0).f2) 0).f2) ((rd_T24 ((rd_T29 l1 0).f2) 0).f3) ((rd_T24 ((rd_T29 l1 0).f2) 0).f4)).bind fun bt407=>((tree_SameExpr.f kj2 bt398.1 bt398.2.1 bt398.2.2.1 bt398.2.2.2.1 bt398.2.2.2.2 bt407.1 bt407.2.1 bt407.2.2.1 bt407.2.2.2.1 bt407.2.2.2.2).bind fun t414=>((helmsmanref12_SameExpr.f kj2 ((rd_T24 ((rd_T29 l0 0).f2) 0).f0) ((rd_T24 ((rd_T29 l0 0).f2) 0).f1) ((rd_T24 ((rd_T29 l0 0).f2) 0).f2) ((rd_T24 ((rd_T29 l0 0).f2) 0).f3) ((rd_T24 ((rd_T29 l0 0).f2) 0).f4) ((rd_T24 ((rd_T29 l1 0).f2) 0).f0) ((rd_T24 ((rd_T29 l1 0).f2) 0).f1) ((rd_T24 ((rd_T29 l1 0).f2) 0).f2) ((rd_T24 ((rd_T29 l1 0).f2) 0).f3) ((rd_T24 ((rd_T29 l1 0).f2) 0).f4)).bind fun t419=>(helmsmanlaw12_TreeSame.j1 kj2 t393 (t414 != t419) t385 t388)))) else (none))) else (none)) else (helmsmanlaw12_TreeSame.j1 kj2 t393 false t385 t388)) else (none)) else (helmsmanlaw12_TreeSame.j1 kj2 t393 false t385 t388)) else (none)) else (helmsmanlaw12_TreeSame.j1 kj2 t393 false t385 t388)) else (helmsmanlaw12_TreeSame.j1 kj2 t393 false t385 t388)))=some r:=H
    have A14:=Aside0.mk A140
    clear A140
    replace H:=Option.bind_eq_some_iff.mp H
    obtain ⟨t393,A150,H⟩:=H
    replace H:(if (l0.length:Int) > 0 then (if (l1.length:Int) > 0 then (if 0 < (l0.length:Int) then (if (((rd_T29 l0 0).f2).length:Int) > 0 then (if 0 < (l1.length:Int) then (if (((rd_T29 l1 0).f2).length:Int) > 0 then (if 0 < (((rd_T29 l0 0).f2).length:Int) then ((helmsmanlaw12_Expr.f kj2 ((rd_T24 ((rd_T29 l0 0).f2) 0).f0) ((rd_T24 ((rd_T29 l0 0).f2) 0).f1) ((rd_T24 ((rd_T29 l0 0).f2) 0).f2) ((rd_T24 ((rd_T29 l0 0).f2) 0).f3) ((rd_T24 ((rd_T29 l0 0).f2) 0).f4)).bind fun bt398=>(if 0 < (((rd_T29 l1 0).f2).length:Int) then ((helmsmanlaw12_Expr.f kj2 ((rd_T24 ((rd_T29 l1 0).f2) 0).f0) ((rd_T24 ((rd_T29 l1 0).f2) 0).f1) ((rd_T24 ((rd_T29 l1 0).f2) 0).f2) ((rd_T24 ((rd_T29 l1 0).f2) 0).f3) ((rd_T24 ((rd_T29 l1 0).f2) 0).f4)).bind fun bt407=>((tree_SameExpr.f kj2 bt398.1 bt398.2.1 bt398.2.2.1 bt398.2.2.2.1 bt398.2.2.2.2 bt407.1 bt407.2.1 bt407.2.2.1 bt407.2.2.2.1 bt407.2.2.2.2).bind fun t414=>((helmsmanref12_SameExpr.f kj2 ((rd_T24 ((rd_T29 l0 0).f2) 0).f0) ((rd_T24 ((rd_T29 l0 0).f2) 0).f1) ((rd_T24 ((rd_T29 l0 0).f2) 0).f2) ((rd_T24 ((rd_T29 l0 0).f2) 0).f3) ((rd_T24 ((rd_T29 l0 0).f2) 0).f4) ((rd_T24 ((rd_T29 l1 0).f2) 0).f0) ((rd_T24 ((rd_T29 l1 0).f2) 0).f1) ((rd_T24 ((rd_T29 l1 0).f2) 0).f2) ((rd_T24 ((rd_T29 l1 0).f2) 0).f3) ((rd_T24 ((rd_T29 l1 0).f2) 0).f4)).bind fun t419=>(helmsmanlaw12_TreeSame.j1 kj2 t393 (t414 != t419) t385 t388)))) else (none))) else (none)) else (helmsmanlaw12_TreeSame.j1 kj2 t393 false t385 t388)) else (none)) else (helmsmanlaw12_TreeSame.j1 kj2 t393 false t385 t388)) else (none)) else (helmsmanlaw12_TreeSame.j1 kj2 t393 false t385 t388)) else (helmsmanlaw12_TreeSame.j1 kj2 t393 false t385 t388))=some r:=H
    have A15:=Aside0.mk A150
    clear A150
    have HC16:=Aside0.mk H
    clear H
    go_upto_region 5 with (first|((with_reducible refine gate_callee (f:=24) rfl ?_);refine goesL_ (some 18) rfl rfl Tryd.func24 (by kernel_rfl) rfl #[.slice A0 l0.length c0] rfl ar_ ?_;(with_reducible refine (helmsmanlaw12_Stmts.calls kj2 _ _ l0 t385 _ ?side1 ?side2 A13.out).mono ?_);(case side1=>exact kc_ HR0.out HB.out);(case side2=>exact HC0.out);rintro e w17 ⟨v386,rfl,ho0,hb⟩;refine ⟨_,rfl,?_⟩;have n0_:=Aside0.mk (Kd.R_lower ho0 (below_size (bl_ HB.out)));have n1_:=Aside0.mk (below_step (bl_ HB.out) hb);clear HB;have HO387:=n0_;have HB:=n1_;clear n0_ n1_;(try clear hb);(try clear hb2);(try clear hk);(try clear hi);(try clear ho0);obtain ⟨Ao18,co18,eo18⟩:=Kd.R_slice HO387.out;subst eo18)|((with_reducible refine gate_callee (f:=24) rfl ?_);refine goesL_ (some 21) rfl rfl Tryd.func24 (by kernel_rfl) rfl #[.slice A1 l1.length c1] rfl ar_ ?_;(with_reducible refine (helmsmanlaw12_Stmts.calls kj2 _ _ l1 t388 _ ?side1 ?side2 A14.out).mono ?_);(case side1=>exact kc_ HR1.out HB.out);(case side2=>exact HC1.out);rintro e w19 ⟨v389,rfl,ho0,hb⟩;refine ⟨_,rfl,?_⟩;have n0_:=Aside0.mk (Kd.R_elder' (by (with_reducible repeat (first|apply Kd.R_alloc|apply Kd.R_drewN|apply Kd.R_drew));exact HO387.out) (Kd.R_base ho0) hb);have n1_:=Aside0.mk (Kd.R_lower (Kd.R_new' ho0 (Kd.R_lt (by (with_reducible repeat (first|apply Kd.R_alloc|apply Kd.R_drewN|apply Kd.R_drew));exact HO387.out))) (below_size (bl_ HB.out)));have n2_:=Aside0.mk (below_step (bl_ HB.out) hb);clear HO387;clear HB;have HO387:=n0_;have HO390:=n1_;have HB:=n2_;clear n0_ n1_ n2_;(try clear hb);(try clear hb2);(try clear hk);(try clear hi);(try clear ho0);obtain ⟨Ao20,co20,eo20⟩:=Kd.R_slice HO390.out;subst eo20)|((with_reducible refine gate_dst (N:=5) rfl ?_);(try (refine gate_guard (by rfl) ?_;dsimp only));refine box_event ?hg (N:=5) ?hd (cs:=#[.slice none 0 0,.slice none 0 0,.slice none 0 0,.slice none 0 0]) (t:=50) ?hr ?_;(case hd=>rfl);(case hg=>rfl);(case hr=>first|(go_simp;done)|(go_simp;rfl));intro gb391 hg w21 hbox hb;have n0_:=Aside0.mk (Kd.R_below (by (with_reducible repeat (first|apply Kd.R_alloc|apply Kd.R_drewN|apply Kd.R_drew));exact HO387.out) hb);have n1_:=Aside0.mk (Kd.R_below (by (with_reducible repeat (first|apply Kd.R_alloc|apply Kd.R_drewN|apply Kd.R_drew));exact HO390.out) hb);have n2_:=Aside0.mk (below_step (bl_ HB.out) hb);have n3_:=Aside0.mk (hbox);have n4_:=Aside0.mk ((gs_ hg (bl_ HB.out):w.heap.size≤gb391));have n5_:=Aside0.mk ((gs_ hg (bl_ HB.out):w.heap.size≤gb391));clear HO387;clear HO390;clear HB;have HO387:=n0_;have HO390:=n1_;have HB:=n2_;have BK391:=n3_;have GW391:=n4_;have GE391:=n5_;clear n0_ n1_ n2_ n3_ n4_ n5_;clear hb hbox hg)|((with_reducible refine gate_dst (N:=6) rfl ?_);(try (refine gate_guard (by rfl) ?_;dsimp only));refine box_event ?hg (N:=6) ?hd (cs:=#[.slice none 0 0,.slice none 0 0,.slice none 0 0,.slice none 0 0]) (t:=50) ?hr ?_;(case hd=>rfl);(case hg=>rfl);(case hr=>first|(go_simp;done)|(go_simp;rfl));intro gb392 hg w22 hbox hb;have n0_:=Aside0.mk (Kd.R_below (by (with_reducible repeat (first|apply Kd.R_alloc|apply Kd.R_drewN|apply Kd.R_drew));exact HO387.out) hb);have n1_:=Aside0.mk (Kd.R_below (by (with_reducible repeat (first|apply Kd.R_alloc|apply Kd.R_drewN|apply Kd.R_drew));exact HO390.out) hb);have n2_:=Aside0.mk (bb_ BK391.out hb);have n3_:=Aside0.mk (below_step (bl_ HB.out) hb);have n4_:=Aside0.mk (hbox);have n5_:=Aside0.mk ((gs_ hg (bl_ HB.out):w.heap.size≤gb392));have n6_:=Aside0.mk ((gs_ hg (bl_ HB.out):w.heap.size≤gb392));have n7_:=Aside0.mk ((nl_ hg BK391.out:gb391≠gb392));have n8_:=Aside0.mk ((nr_ hg BK391.out:gb392≠gb391));clear HO387;clear HO390;clear BK391;clear HB;have HO387:=n0_;have HO390:=n1_;have BK391:=n2_;have HB:=n3_;have BK392:=n4_;have GW392:=n5_;have GE392:=n6_;have NB391_392:=n7_;have NB392_391:=n8_;clear n0_ n1_ n2_ n3_ n4_ n5_ n6_ n7_ n8_;clear hb hbox hg;have hnb23:=NB391_392.out;have hnc23:=NB392_391.out;have hcz24_0:w22.cell? ⟨gb391,0,none⟩=some (.slice none 0 0):=zc_ BK391.out 0;have hcz24_1:w22.cell? ⟨gb391,1,none⟩=some (.slice none 0 0):=zc_ BK391.out 1;have hcz24_2:w22.cell? ⟨gb391,2,none⟩=some (.slice none 0 0):=zc_ BK391.out 2;have hcz24_3:w22.cell? ⟨gb391,3,none⟩=some (.slice none 0 0):=zc_ BK391.out 3;have hfz24_0:=blk_frozen BK391.out 0;have hfz24_1:=blk_frozen BK391.out 1;have hfz24_2:=blk_frozen BK391.out 2;have hfz24_3:=blk_frozen BK391.out 3;have hcz25_0:w22.cell? ⟨gb392,0,none⟩=some (.slice none 0 0):=zc_ BK392.out 0;have hcz25_1:w22.cell? ⟨gb392,1,none⟩=some (.slice none 0 0):=zc_ BK392.out 1;have hcz25_2:w22.cell? ⟨gb392,2,none⟩=some (.slice none 0 0):=zc_ BK392.out 2;have hcz25_3:w22.cell? ⟨gb392,3,none⟩=some (.slice none 0 0):=zc_ BK392.out 3;have hfz25_0:=blk_frozen BK392.out 0;have hfz25_1:=blk_frozen BK392.out 1;have hfz25_2:=blk_frozen BK392.out 2;have hfz25_3:=blk_frozen BK392.out 3)|((with_reducible refine gate_callee (f:=25) rfl ?_);refine goesL_ (some 25) rfl rfl Tryd.func25 (by kernel_rfl) rfl #[.slice A0 l0.length c0,.slice A1 l1.length c1] rfl ar_ ?_;(with_reducible refine (helmsmanref12_SameStmts.calls kj2 _ _ l0 _ _ l1 t393 _ ?side1 ?side2 ?side3 ?side4 A15.out).mono ?_);(case side1=>exact Kd.C_below HR0.out (bl_ HB.out));(case side2=>exact HC0.out);(case side3=>exact Kd.C_below HR1.out (bl_ HB.out));(case side4=>exact HC1.out);rintro e w26 ⟨rfl,hb⟩;refine ⟨_,rfl,?_⟩;have n0_:=Aside0.mk (Kd.R_below (by (with_reducible repeat (first|apply Kd.R_alloc|apply Kd.R_drewN|apply Kd.R_drew));exact (Kd.R_mono (Kd.R_mono (Kd.R_far (p:=⟨gb392,3,none⟩) (Kd.R_far (p:=⟨gb392,2,none⟩) (Kd.R_far (p:=⟨gb392,1,none⟩) (Kd.R_far (p:=⟨gb392,0,none⟩) (Kd.R_far (p:=⟨gb391,3,none⟩) (Kd.R_far (p:=⟨gb391,2,none⟩) (Kd.R_far (p:=⟨gb391,1,none⟩) (Kd.R_far (p:=⟨gb391,0,none⟩) (Kd.R_types (Kd.R_types HO387.out BK391.out (by decide)) BK392.out (by decide)) (fun _ hk=>hk.1.2) (.slice none 0 0)) (fun _ hk=>hk.1.2) (.slice none 0 0)) (fun _ hk=>hk.1.2) (.slice none 0 0)) (fun _ hk=>hk.1.2) (.slice Ao18 t385.length co18)) (fun _ hk=>hk.2) (.slice none 0 0)) (fun _ hk=>hk.2) (.slice none 0 0)) (fun _ hk=>hk.2) (.slice none 0 0)) (fun _ hk=>hk.2) (.slice Ao20 t388.length co20)) (fun _ h_=>h_.1)) (fun _ h_=>h_.1))) hb);have n1_:=Aside0.mk (Kd.R_below (by (with_reducible repeat (first|apply Kd.R_alloc|apply Kd.R_drewN|apply Kd.R_drew));exact (Kd.R_mono (Kd.R_mono (Kd.R_far (p:=⟨gb392,3,none⟩) (Kd.R_far (p:=⟨gb392,2,none⟩) (Kd.R_far (p:=⟨gb392,1,none⟩) (Kd.R_far (p:=⟨gb392,0,none⟩) (Kd.R_far (p:=⟨gb391,3,none⟩) (Kd.R_far (p:=⟨gb391,2,none⟩) (Kd.R_far (p:=⟨gb391,1,none⟩) (Kd.R_far (p:=⟨gb391,0,none⟩) (Kd.R_types (Kd.R_types HO390.out BK391.out (by decide)) BK392.out (by decide)) (fun _ hk=>hk.1.2) (.slice none 0 0)) (fun _ hk=>hk.1.2) (.slice none 0 0)) (fun _ hk=>hk.1.2) (.slice none 0 0)) (fun _ hk=>hk.1.2) (.slice Ao18 t385.length co18)) (fun _ hk=>hk.2) (.slice none 0 0)) (fun _ hk=>hk.2) (.slice none 0 0)) (fun _ hk=>hk.2) (.slice none 0 0)) (fun _ hk=>hk.2) (.slice Ao20 t388.length co20)) (fun _ h_=>h_.1)) (fun _ h_=>h_.1))) hb);have n2_:=Aside0.mk (blk_below (g:=gb391) (o:=.cells #[.slice none 0 0,.slice none 0 0,.slice none 0 0,.slice Ao18 t385.length co18] 50 (0,0)) (by (with_reducible repeat (first|refine blk_drewN ?_ _|refine blk_drew ?_|refine blk_alloc ?_ _));refine blk_far ?_ NB391_392.out _;(with_reducible repeat (first|refine blk_drewN ?_ _|refine blk_drew ?_|refine blk_alloc ?_ _));refine blk_far ?_ NB391_392.out _;(with_reducible repeat (first|refine blk_drewN ?_ _|refine blk_drew ?_|refine blk_alloc ?_ _));refine blk_far ?_ NB391_392.out _;(with_reducible repeat (first|refine blk_drewN ?_ _|refine blk_drew ?_|refine blk_alloc ?_ _));refine blk_far ?_ NB391_392.out _;(with_reducible repeat (first|refine blk_drewN ?_ _|refine blk_drew ?_|refine blk_alloc ?_ _));refine blk_put (cs:=#[.slice none 0 0,.slice none 0 0,.slice none 0 0,.slice none 0 0]) ?_ 3 _ rfl;(with_reducible repeat (first|refine blk_drewN ?_ _|refine blk_drew ?_|refine blk_alloc ?_ _));refine blk_put (cs:=#[.slice none 0 0,.slice none 0 0,.slice none 0 0,.slice none 0 0]) ?_ 2 _ rfl;(with_reducible repeat (first|refine blk_drewN ?_ _|refine blk_drew ?_|refine blk_alloc ?_ _));refine blk_put (cs:=#[.slice none 0 0,.slice none 0 0,.slice none 0 0,.slice none 0 0]) ?_ 1 _ rfl;(with_reducible repeat (first|refine blk_drewN ?_ _|refine blk_drew ?_|refine blk_alloc ?_ _));refine blk_put (cs:=#[.slice none 0 0,.slice none 0 0,.slice none 0 0,.slice none 0 0]) ?_ 0 _ rfl;(with_reducible repeat (first|refine blk_drewN ?_ _|refine blk_drew ?_|refine blk_alloc ?_ _));exact BK391.out) hb);have n3_:=Aside0.mk (blk_below (g:=gb392) (o:=.cells #[.slice none 0 0,.slice none 0 0,.slice none 0 0,.slice Ao20 t388.length co20] 50 (0,0)) (by (with_reducible repeat (first|refine blk_drewN ?_ _|refine blk_drew ?_|refine blk_alloc ?_ _));refine blk_put (cs:=#[.slice none 0 0,.slice none 0 0,.slice none 0 0,.slice none 0 0]) ?_ 3 _ rfl;(with_reducible repeat (first|refine blk_drewN ?_ _|refine blk_drew ?_|refine blk_alloc ?_ _));refine blk_put (cs:=#[.slice none 0 0,.slice none 0 0,.slice none 0 0,.slice none 0 0]) ?_ 2 _ rfl;(with_reducible repeat (first|refine blk_drewN ?_ _|refine blk_drew ?_|refine blk_alloc ?_ _));refine blk_put (cs:=#[.slice none 0 0,.slice none 0 0,.slice none 0 0,.slice none 0 0]) ?_ 1 _ rfl;(with_reducible repeat (first|refine blk_drewN ?_ _|refine blk_drew ?_|refine blk_alloc ?_ _));refine blk_put (cs:=#[.slice none 0 0,.slice none 0 0,.slice none 0 0,.slice none 0 0]) ?_ 0 _ rfl;(with_reducible repeat (first|refine blk_drewN ?_ _|refine blk_drew ?_|refine blk_alloc ?_ _));refine blk_far ?_ NB392_391.out _;(with_reducible repeat (first|refine blk_drewN ?_ _|refine blk_drew ?_|refine blk_alloc ?_ _));refine blk_far ?_ NB392_391.out _;(with_reducible repeat (first|refine blk_drewN ?_ _|refine blk_drew ?_|refine blk_alloc ?_ _));refine blk_far ?_ NB392_391.out _;(with_reducible repeat (first|refine blk_drewN ?_ _|refine blk_drew ?_|refine blk_alloc ?_ _));refine blk_far ?_ NB392_391.out _;(with_reducible repeat (first|refine blk_drewN ?_ _|refine blk_drew ?_|refine blk_alloc ?_ _));exact BK392.out) hb);have n4_:=Aside0.mk (below_step (bl_ HB.out) hb);clear HO387;clear HO390;clear BK391;clear BK392;clear HB;have HO387:=n0_;have HO390:=n1_;have BK391:=n2_;have BK392:=n3_;have HB:=n4_;clear n0_ n1_ n2_ n3_ n4_;(try clear hb);(try clear hb2);(try clear hk);(try clear hi)))
    (try simp only [Act.put,List.setIfInBounds_toArray,List.set_cons_zero,List.set_cons_succ])
    go_cut [80] (fun v80 wc=>∃ (kq:Nat) (x80_15:Bool),v80=.bool x80_15∧Aside0 (helmsmanlaw12_TreeSame.j1 kq t393 x80_15 t385 t388=some r)∧Aside0 (kq≤kj2)∧Aside0 (Kd.R k76 76 wc w.heap.size (fun k_=>some k_≠((.slice Ao20 t388.length co20):Value).ownBlock) (.slice Ao18 t385.length co18) t385)∧Aside0 (Kd.R k76 76 wc w.heap.size (fun k_=>some k_≠((.slice Ao18 t385.length co18):Value).ownBlock) (.slice Ao20 t388.length co20) t388)∧Aside0 (wc.heap[gb391]?=some (.cells #[(.slice none 0 0),(.slice none 0 0),(.slice none 0 0),(.slice Ao18 t385.length co18)] 50 (0,0)))∧Aside0 (wc.heap[gb392]?=some (.cells #[(.slice none 0 0),(.slice none 0 0),(.slice none 0 0),(.slice Ao20 t388.length co20)] 50 (0,0)))∧Aside0 (Below w.heap.size w wc))
    case first=>
     have H:=HC16.out
     clear HC16
     by_cases c27:(l0.length:Int) > 0
     ·rw [if_pos c27] at H
      have c27b0:decide (0 < (l0.length:Int))=true:=decide_eq_true c27
      have c27b1:decide (0 < l0.length)=true:=decide_eq_true (by omega)
      clear c27
      (first|rw [c27b0]|(simp only [i64_w,i32_w];rw [c27b0])|skip)
      by_cases c28:(l1.length:Int) > 0
      ·rw [if_pos c28] at H
       have c28b0:decide (0 < (l1.length:Int))=true:=decide_eq_true c28
       have c28b1:decide (0 < l1.length)=true:=decide_eq_true (by omega)
       clear c28
       by_cases c29:0 < (l0.length:Int)
       ·rw [if_pos c29] at H
        have c29b0:decide (0 < (l0.length:Int))=true:=decide_eq_true c29
        have c29b1:decide (0 < l0.length)=true:=decide_eq_true (by omega)
        clear c29
        by_cases c30:(((rd_T29 l0 0).f2).length:Int) > 0
        ·rw [if_pos c30] at H
         have c30b0:decide (0 < (((rd_T29 l0 0).f2).length:Int))=true:=decide_eq_true c30
         have c30b1:decide (0 < ((rd_T29 l0 0).f2).length)=true:=decide_eq_true (by omega)
         clear c30
         by_cases c31:0 < (l1.length:Int)
         ·rw [if_pos c31] at H
          have c31b0:decide (0 < (l1.length:Int))=true:=decide_eq_true c31
          have c31b1:decide (0 < l1.length)=true:=decide_eq_true (by omega)
          clear c31
          by_cases c32:(((rd_T29 l1 0).f2).length:Int) > 0
          ·rw [if_pos c32] at H
           have c32b0:decide (0 < (((rd_T29 l1 0).f2).length:Int))=true:=decide_eq_true c32
           have c32b1:decide (0 < ((rd_T29 l1 0).f2).length)=true:=decide_eq_true (by omega)
           clear c32
           by_cases c33:0 < (((rd_T29 l0 0).f2).length:Int)
           ·rw [if_pos c33] at H
            have c33b0:decide (0 < (((rd_T29 l0 0).f2).length:Int))=true:=decide_eq_true c33
            have c33b1:decide (0 < ((rd_T29 l0 0).f2).length)=true:=decide_eq_true (by omega)
            clear c33
            replace H:=Option.bind_eq_some_iff.mp H
            obtain ⟨⟨t398,t399,t400,t401,t404⟩,A340,H⟩:=H
            replace H:(if 0 < (((rd_T29 l1 0).f2).length:Int) then ((helmsmanlaw12_Expr.f kj2 ((rd_T24 ((rd_T29 l1 0).f2) 0).f0) ((rd_T24 ((rd_T29 l1 0).f2) 0).f1) ((rd_T24 ((rd_T29 l1 0).f2) 0).f2) ((rd_T24 ((rd_T29 l1 0).f2) 0).f3) ((rd_T24 ((rd_T29 l1 0).f2) 0).f4)).bind fun bt407=>((tree_SameExpr.f kj2 t398 t399 t400 t401 t404 bt407.1 bt407.2.1 bt407.2.2.1 bt407.2.2.2.1 bt407.2.2.2.2).bind fun t414=>((helmsmanref12_SameExpr.f kj2 ((rd_T24 ((rd_T29 l0 0).f2) 0).f0) ((rd_T24 ((rd_T29 l0 0).f2) 0).f1) ((rd_T24 ((rd_T29 l0 0).f2) 0).f2) ((rd_T24 ((rd_T29 l0 0).f2) 0).f3) ((rd_T24 ((rd_T29 l0 0).f2) 0).f4) ((rd_T24 ((rd_T29 l1 0).f2) 0).f0) ((rd_T24 ((rd_T29 l1 0).f2) 0).f1) ((rd_T24 ((rd_T29 l1 0).f2) 0).f2) ((rd_T24 ((rd_T29 l1 0).f2) 0).f3) ((rd_T24 ((rd_T29 l1 0).f2) 0).f4)).bind fun t419=>(helmsmanlaw12_TreeSame.j1 kj2 t393 (t414 != t419) t385 t388)))) else (none))=some r:=H
            have A34:=Aside0.mk A340
            clear A340
            by_cases c35:0 < (((rd_T29 l1 0).f2).length:Int)
            ·rw [if_pos c35] at H
             have c35b0:decide (0 < (((rd_T29 l1 0).f2).length:Int))=true:=decide_eq_true c35
             have c35b1:decide (0 < ((rd_T29 l1 0).f2).length)=true:=decide_eq_true (by omega)
             clear c35
             replace H:=Option.bind_eq_some_iff.mp H
             obtain ⟨⟨t407,t408,t409,t410,t413⟩,A360,H⟩:=H
             replace H:((tree_SameExpr.f kj2 t398 t399 t400 t401 t404 t407 t408 t409 t410 t413).bind fun t414=>((helmsmanref12_SameExpr.f kj2 ((rd_T24 ((rd_T29 l0 0).f2) 0).f0) ((rd_T24 ((rd_T29 l0 0).f2) 0).f1) ((rd_T24 ((rd_T29 l0 0).f2) 0).f2) ((rd_T24 ((rd_T29 l0 0).f2) 0).f3) ((rd_T24 ((rd_T29 l0 0).f2) 0).f4) ((rd_T24 ((rd_T29 l1 0).f2) 0).f0) ((rd_T24 ((rd_T29 l1 0).f2) 0).f1) ((rd_T24 ((rd_T29 l1 0).f2) 0).f2) ((rd_T24 ((rd_T29 l1 0).f2) 0).f3) ((rd_T24 ((rd_T29 l1 0).f2) 0).f4)).bind fun t419=>(helmsmanlaw12_TreeSame.j1 kj2 t393 (t414 != t419) t385 t388)))=some r:=H
             have A36:=Aside0.mk A360
             clear A360
             replace H:=Option.bind_eq_some_iff.mp H
             obtain ⟨t414,A370,H⟩:=H
             replace H:((helmsmanref12_SameExpr.f kj2 ((rd_T24 ((rd_T29 l0 0).f2) 0).f0) ((rd_T24 ((rd_T29 l0 0).f2) 0).f1) ((rd_T24 ((rd_T29 l0 0).f2) 0).f2) ((rd_T24 ((rd_T29 l0 0).f2) 0).f3) ((rd_T24 ((rd_T29 l0 0).f2) 0).f4) ((rd_T24 ((rd_T29 l1 0).f2) 0).f0) ((rd_T24 ((rd_T29 l1 0).f2) 0).f1) ((rd_T24 ((rd_T29 l1 0).f2) 0).f2) ((rd_T24 ((rd_T29 l1 0).f2) 0).f3) ((rd_T24 ((rd_T29 l1 0).f2) 0).f4)).bind fun t419=>(helmsmanlaw12_TreeSame.j1 kj2 t393 (t414 != t419) t385 t388))=some r:=H
             have A37:=Aside0.mk A370
             clear A370
             replace H:=Option.bind_eq_some_iff.mp H
             obtain ⟨t419,A380,H⟩:=H
             replace H:(helmsmanlaw12_TreeSame.j1 kj2 t393 (t414 != t419) t385 t388)=some r:=H
             have A38:=Aside0.mk A380
             clear A380
             have H':=Aside0.mk H
             clear H
             try go_wp2
             have n0_:=Aside0.mk (Kd.R_drew HO387.out)
             have n1_:=Aside0.mk (Kd.R_drew HO390.out)
             have n2_:=Aside0.mk (blk_drew BK391.out)
             have n3_:=Aside0.mk (blk_drew BK392.out)
             have n4_:=Aside0.mk (below_drew1 HB.out)
             clear HO387
             clear HO390
             clear BK391
             clear BK392
             clear HB
             have HO387:=n0_
             have HO390:=n1_
             have BK391:=n2_
             have BK392:=n3_
             have HB:=n4_
             clear n0_ n1_ n2_ n3_ n4_
             have p394:0≤(0:Int):=(by omega)
             have q394:0 < (l0.length:Int):=of_decide_eq_true as_
             obtain ⟨ad394,A394_2,c394_2,A394_3,c394_3,A394_4,c394_4,e394,hx394_0,hx394_1,hx394_2,hx394_3,hx394_4,hx394_5,hl394_2,hi394_2,hl394_3,hi394_3,hl394_4,hi394_4⟩:=at_T29 HR0.out 0 p394 q394
             have hw394_5:=hx394_5
             (try rw [show ((0:Int)).toNat=0 from rfl] at hw394_5)
             (try rw [show 0 * 6=0 from rfl] at hw394_5)
             (try rw [Addr.add_zero'] at hw394_5)
             have hw394_4:=hx394_4
             (try rw [show ((0:Int)).toNat=0 from rfl] at hw394_4)
             (try rw [show 0 * 6=0 from rfl] at hw394_4)
             (try rw [Addr.add_zero'] at hw394_4)
             have hw394_3:=hx394_3
             (try rw [show ((0:Int)).toNat=0 from rfl] at hw394_3)
             (try rw [show 0 * 6=0 from rfl] at hw394_3)
             (try rw [Addr.add_zero'] at hw394_3)
             have hw394_2:=hx394_2
             (try rw [show ((0:Int)).toNat=0 from rfl] at hw394_2)
             (try rw [show 0 * 6=0 from rfl] at hw394_2)
             (try rw [Addr.add_zero'] at hw394_2)
             have hw394_1:=hx394_1
             (try rw [show ((0:Int)).toNat=0 from rfl] at hw394_1)
             (try rw [show 0 * 6=0 from rfl] at hw394_1)
             (try rw [Addr.add_zero'] at hw394_1)
             have hw394_0:=hx394_0
             (try rw [show ((0:Int)).toNat=0 from rfl] at hw394_0)
             (try rw [show 0 * 6=0 from rfl] at hw394_0)
             (try rw [Addr.add_zero'] at hw394_0)
             cases e394
             have qi394:(0 < l0.length)=True:=eq_true (by omega)
             (try rw [show ((0:Int)).toNat=0 from rfl] at hx394_0)
             (try rw [show 0 * 6=0 from rfl] at hx394_0)
             (try rw [Addr.add_zero'] at hx394_0)
             (try rw [show ((0:Int)).toNat=0 from rfl] at hx394_1)
             (try rw [show 0 * 6=0 from rfl] at hx394_1)
             (try rw [Addr.add_zero'] at hx394_1)
             (try rw [show ((0:Int)).toNat=0 from rfl] at hx394_2)
             (try rw [show 0 * 6=0 from rfl] at hx394_2)
             (try rw [Addr.add_zero'] at hx394_2)
             (try rw [show ((0:Int)).toNat=0 from rfl] at hx394_3)
             (try rw [show 0 * 6=0 from rfl] at hx394_3)
             (try rw [Addr.add_zero'] at hx394_3)
             (try rw [show ((0:Int)).toNat=0 from rfl] at hx394_4)
             (try rw [show 0 * 6=0 from rfl] at hx394_4)
             (try rw [Addr.add_zero'] at hx394_4)
             (try rw [show ((0:Int)).toNat=0 from rfl] at hx394_5)
             (try rw [show 0 * 6=0 from rfl] at hx394_5)
             (try rw [Addr.add_zero'] at hx394_5)
             replace hx394_0:=(cb_ HB.out hx394_0:_)
             replace hx394_1:=(cb_ HB.out hx394_1:_)
             replace hx394_2:=(cb_ HB.out hx394_2:_)
             replace hx394_3:=(cb_ HB.out hx394_3:_)
             replace hx394_4:=(cb_ HB.out hx394_4:_)
             replace hx394_5:=(cb_ HB.out hx394_5:_)
             have HR394_2:=Aside0.mk hi394_2
             have HC394_2:=Aside0.mk hl394_2
             clear hi394_2 hl394_2
             have HR394_3:=Aside0.mk hi394_3
             have HC394_3:=Aside0.mk hl394_3
             clear hi394_3 hl394_3
             have HR394_4:=Aside0.mk hi394_4
             have HC394_4:=Aside0.mk hl394_4
             clear hi394_4 hl394_4
             replace p394:=eq_true p394
             replace q394:=eq_true q394
             have p395:0≤(0:Int):=(by omega)
             have q395:0 < (l1.length:Int):=of_decide_eq_true as_
             obtain ⟨ad395,A395_2,c395_2,A395_3,c395_3,A395_4,c395_4,e395,hx395_0,hx395_1,hx395_2,hx395_3,hx395_4,hx395_5,hl395_2,hi395_2,hl395_3,hi395_3,hl395_4,hi395_4⟩:=at_T29 HR1.out 0 p395 q395
             have hw395_5:=hx395_5
             (try rw [show ((0:Int)).toNat=0 from rfl] at hw395_5)
             (try rw [show 0 * 6=0 from rfl] at hw395_5)
             (try rw [Addr.add_zero'] at hw395_5)
             have hw395_4:=hx395_4
             (try rw [show ((0:Int)).toNat=0 from rfl] at hw395_4)
             (try rw [show 0 * 6=0 from rfl] at hw395_4)
             (try rw [Addr.add_zero'] at hw395_4)
             have hw395_3:=hx395_3
             (try rw [show ((0:Int)).toNat=0 from rfl] at hw395_3)
             (try rw [show 0 * 6=0 from rfl] at hw395_3)
             (try rw [Addr.add_zero'] at hw395_3)
             have hw395_2:=hx395_2
             (try rw [show ((0:Int)).toNat=0 from rfl] at hw395_2)
             (try rw [show 0 * 6=0 from rfl] at hw395_2)
             (try rw [Addr.add_zero'] at hw395_2)
             have hw395_1:=hx395_1
             (try rw [show ((0:Int)).toNat=0 from rfl] at hw395_1)
             (try rw [show 0 * 6=0 from rfl] at hw395_1)
             (try rw [Addr.add_zero'] at hw395_1)
             have hw395_0:=hx395_0
             (try rw [show ((0:Int)).toNat=0 from rfl] at hw395_0)
             (try rw [show 0 * 6=0 from rfl] at hw395_0)
             (try rw [Addr.add_zero'] at hw395_0)
             cases e395
             have qi395:(0 < l1.length)=True:=eq_true (by omega)
             (try rw [show ((0:Int)).toNat=0 from rfl] at hx395_0)
             (try rw [show 0 * 6=0 from rfl] at hx395_0)
             (try rw [Addr.add_zero'] at hx395_0)
             (try rw [show ((0:Int)).toNat=0 from rfl] at hx395_1)
             (try rw [show 0 * 6=0 from rfl] at hx395_1)
             (try rw [Addr.add_zero'] at hx395_1)
             (try rw [show ((0:Int)).toNat=0 from rfl] at hx395_2)
             (try rw [show 0 * 6=0 from rfl] at hx395_2)
             (try rw [Addr.add_zero'] at hx395_2)
             (try rw [show ((0:Int)).toNat=0 from rfl] at hx395_3)
             (try rw [show 0 * 6=0 from rfl] at hx395_3)
             (try rw [Addr.add_zero'] at hx395_3)
             (try rw [show ((0:Int)).toNat=0 from rfl] at hx395_4)
             (try rw [show 0 * 6=0 from rfl] at hx395_4)
             (try rw [Addr.add_zero'] at hx395_4)
             (try rw [show ((0:Int)).toNat=0 from rfl] at hx395_5)
             (try rw [show 0 * 6=0 from rfl] at hx395_5)
             (try rw [Addr.add_zero'] at hx395_5)
             replace hx395_0:=(cb_ HB.out hx395_0:_)
             replace hx395_1:=(cb_ HB.out hx395_1:_)
             replace hx395_2:=(cb_ HB.out hx395_2:_)
             replace hx395_3:=(cb_ HB.out hx395_3:_)
             replace hx395_4:=(cb_ HB.out hx395_4:_)
             replace hx395_5:=(cb_ HB.out hx395_5:_)
             have HR395_2:=Aside0.mk hi395_2
             have HC395_2:=Aside0.mk hl395_2
             clear hi395_2 hl395_2
             have HR395_3:=Aside0.mk hi395_3
             have HC395_3:=Aside0.mk hl395_3
             clear hi395_3 hl395_3
             have HR395_4:=Aside0.mk hi395_4
             have HC395_4:=Aside0.mk hl395_4
             clear hi395_4 hl395_4
             replace p395:=eq_true p395
             replace q395:=eq_true q395
             have p396:0≤(0:Int):=(by omega)
             have q396:0 < (l0.length:Int):=of_decide_eq_true as_
             obtain ⟨ad396,A396_2,c396_2,A396_3,c396_3,A396_4,c396_4,e396,hx396_0,hx396_1,hx396_2,hx396_3,hx396_4,hx396_5,hl396_2,hi396_2,hl396_3,hi396_3,hl396_4,hi396_4⟩:=at_T29 HR0.out 0 p396 q396
             have hw396_5:=hx396_5
             (try rw [show ((0:Int)).toNat=0 from rfl] at hw396_5)
             (try rw [show 0 * 6=0 from rfl] at hw396_5)
             (try rw [Addr.add_zero'] at hw396_5)
             have hw396_4:=hx396_4
             (try rw [show ((0:Int)).toNat=0 from rfl] at hw396_4)
             (try rw [show 0 * 6=0 from rfl] at hw396_4)
             (try rw [Addr.add_zero'] at hw396_4)
             have hw396_3:=hx396_3
             (try rw [show ((0:Int)).toNat=0 from rfl] at hw396_3)
             (try rw [show 0 * 6=0 from rfl] at hw396_3)
             (try rw [Addr.add_zero'] at hw396_3)
             have hw396_2:=hx396_2
             (try rw [show ((0:Int)).toNat=0 from rfl] at hw396_2)
             (try rw [show 0 * 6=0 from rfl] at hw396_2)
             (try rw [Addr.add_zero'] at hw396_2)
             have hw396_1:=hx396_1
             (try rw [show ((0:Int)).toNat=0 from rfl] at hw396_1)
             (try rw [show 0 * 6=0 from rfl] at hw396_1)
             (try rw [Addr.add_zero'] at hw396_1)
             have hw396_0:=hx396_0
             (try rw [show ((0:Int)).toNat=0 from rfl] at hw396_0)
             (try rw [show 0 * 6=0 from rfl] at hw396_0)
             (try rw [Addr.add_zero'] at hw396_0)
             obtain rfl:ad394=ad396:=(by injection e396)
             have qi396:(0 < l0.length)=True:=eq_true (by omega)
             (try rw [show ((0:Int)).toNat=0 from rfl] at hx396_0)
             (try rw [show 0 * 6=0 from rfl] at hx396_0)
             (try rw [Addr.add_zero'] at hx396_0)
             (try rw [show ((0:Int)).toNat=0 from rfl] at hx396_1)
             (try rw [show 0 * 6=0 from rfl] at hx396_1)
             (try rw [Addr.add_zero'] at hx396_1)
             (try rw [show ((0:Int)).toNat=0 from rfl] at hx396_2)
             (try rw [show 0 * 6=0 from rfl] at hx396_2)
             (try rw [Addr.add_zero'] at hx396_2)
             (try rw [show ((0:Int)).toNat=0 from rfl] at hx396_3)
             (try rw [show 0 * 6=0 from rfl] at hx396_3)
             (try rw [Addr.add_zero'] at hx396_3)
             (try rw [show ((0:Int)).toNat=0 from rfl] at hx396_4)
             (try rw [show 0 * 6=0 from rfl] at hx396_4)
             (try rw [Addr.add_zero'] at hx396_4)
             (try rw [show ((0:Int)).toNat=0 from rfl] at hx396_5)
             (try rw [show 0 * 6=0 from rfl] at hx396_5)
             (try rw [Addr.add_zero'] at hx396_5)
             replace hx396_0:=(cb_ HB.out hx396_0:_)
             replace hx396_1:=(cb_ HB.out hx396_1:_)
             replace hx396_2:=(cb_ HB.out hx396_2:_)
             replace hx396_3:=(cb_ HB.out hx396_3:_)
             replace hx396_4:=(cb_ HB.out hx396_4:_)
             replace hx396_5:=(cb_ HB.out hx396_5:_)
             have HR396_2:=Aside0.mk hi396_2
             have HC396_2:=Aside0.mk hl396_2
             clear hi396_2 hl396_2
             have HR396_3:=Aside0.mk hi396_3
             have HC396_3:=Aside0.mk hl396_3
             clear hi396_3 hl396_3
             have HR396_4:=Aside0.mk hi396_4
             have HC396_4:=Aside0.mk hl396_4
             clear hi396_4 hl396_4
             replace p396:=eq_true p396
             replace q396:=eq_true q396
             have ea_:=Option.some.inj (hx394_2.symm.trans hx396_2)
             injection ea_ with ea_ en_ ec_
             subst ea_
             subst ec_
             clear en_
             have ea_:=Option.some.inj (hx394_3.symm.trans hx396_3)
             injection ea_ with ea_ en_ ec_
             subst ea_
             subst ec_
             clear en_
             have ea_:=Option.some.inj (hx394_4.symm.trans hx396_4)
             injection ea_ with ea_ en_ ec_
             subst ea_
             subst ec_
             clear en_
             have p397:0≤(0:Int):=(by omega)
             have q397:0 < (((rd_T29 l0 0).f2).length:Int):=of_decide_eq_true as_
             obtain ⟨ad397,A397_3,c397_3,e397,hx397_0,hx397_1,hx397_2,hx397_3,hx397_4,hl397_3,hi397_3⟩:=at_T24 HR396_2.out 0 p397 q397
             have hw397_4:=hx397_4
             (try rw [show ((0:Int)).toNat=0 from rfl] at hw397_4)
             (try rw [show 0 * 5=0 from rfl] at hw397_4)
             (try rw [Addr.add_zero'] at hw397_4)
             have hw397_3:=hx397_3
             (try rw [show ((0:Int)).toNat=0 from rfl] at hw397_3)
             (try rw [show 0 * 5=0 from rfl] at hw397_3)
             (try rw [Addr.add_zero'] at hw397_3)
             have hw397_2:=hx397_2
             (try rw [show ((0:Int)).toNat=0 from rfl] at hw397_2)
             (try rw [show 0 * 5=0 from rfl] at hw397_2)
             (try rw [Addr.add_zero'] at hw397_2)
             have hw397_1:=hx397_1
             (try rw [show ((0:Int)).toNat=0 from rfl] at hw397_1)
             (try rw [show 0 * 5=0 from rfl] at hw397_1)
             (try rw [Addr.add_zero'] at hw397_1)
             have hw397_0:=hx397_0
             (try rw [show ((0:Int)).toNat=0 from rfl] at hw397_0)
             (try rw [show 0 * 5=0 from rfl] at hw397_0)
             (try rw [Addr.add_zero'] at hw397_0)
             cases e397
             have qi397:(0 < ((rd_T29 l0 0).f2).length)=True:=eq_true (by omega)
             (try rw [show ((0:Int)).toNat=0 from rfl] at hx397_0)
             (try rw [show 0 * 5=0 from rfl] at hx397_0)
             (try rw [Addr.add_zero'] at hx397_0)
             (try rw [show ((0:Int)).toNat=0 from rfl] at hx397_1)
             (try rw [show 0 * 5=0 from rfl] at hx397_1)
             (try rw [Addr.add_zero'] at hx397_1)
             (try rw [show ((0:Int)).toNat=0 from rfl] at hx397_2)
             (try rw [show 0 * 5=0 from rfl] at hx397_2)
             (try rw [Addr.add_zero'] at hx397_2)
             (try rw [show ((0:Int)).toNat=0 from rfl] at hx397_3)
             (try rw [show 0 * 5=0 from rfl] at hx397_3)
             (try rw [Addr.add_zero'] at hx397_3)
             (try rw [show ((0:Int)).toNat=0 from rfl] at hx397_4)
             (try rw [show 0 * 5=0 from rfl] at hx397_4)
             (try rw [Addr.add_zero'] at hx397_4)
             replace hx397_0:=(cb_ HB.out hx397_0:_)
             replace hx397_1:=(cb_ HB.out hx397_1:_)
             replace hx397_2:=(cb_ HB.out hx397_2:_)
             replace hx397_3:=(cb_ HB.out hx397_3:_)
             replace hx397_4:=(cb_ HB.out hx397_4:_)
             have HR397_3:=Aside0.mk hi397_3
             have HC397_3:=Aside0.mk hl397_3
             clear hi397_3 hl397_3
             replace p397:=eq_true p397
             replace q397:=eq_true q397
             have p405:0≤(0:Int):=(by omega)
             have q405:0 < (l1.length:Int):=of_decide_eq_true as_
             obtain ⟨ad405,A405_2,c405_2,A405_3,c405_3,A405_4,c405_4,e405,hx405_0,hx405_1,hx405_2,hx405_3,hx405_4,hx405_5,hl405_2,hi405_2,hl405_3,hi405_3,hl405_4,hi405_4⟩:=at_T29 HR1.out 0 p405 q405
             have hw405_5:=hx405_5
             (try rw [show ((0:Int)).toNat=0 from rfl] at hw405_5)
             (try rw [show 0 * 6=0 from rfl] at hw405_5)
             (try rw [Addr.add_zero'] at hw405_5)
             have hw405_4:=hx405_4
             (try rw [show ((0:Int)).toNat=0 from rfl] at hw405_4)
             (try rw [show 0 * 6=0 from rfl] at hw405_4)
             (try rw [Addr.add_zero'] at hw405_4)
             have hw405_3:=hx405_3
             (try rw [show ((0:Int)).toNat=0 from rfl] at hw405_3)
             (try rw [show 0 * 6=0 from rfl] at hw405_3)
             (try rw [Addr.add_zero'] at hw405_3)
             have hw405_2:=hx405_2
             (try rw [show ((0:Int)).toNat=0 from rfl] at hw405_2)
             (try rw [show 0 * 6=0 from rfl] at hw405_2)
             (try rw [Addr.add_zero'] at hw405_2)
             have hw405_1:=hx405_1
             (try rw [show ((0:Int)).toNat=0 from rfl] at hw405_1)
             (try rw [show 0 * 6=0 from rfl] at hw405_1)
             (try rw [Addr.add_zero'] at hw405_1)
             have hw405_0:=hx405_0
             (try rw [show ((0:Int)).toNat=0 from rfl] at hw405_0)
             (try rw [show 0 * 6=0 from rfl] at hw405_0)
             (try rw [Addr.add_zero'] at hw405_0)
             obtain rfl:ad395=ad405:=(by injection e405)
             have qi405:(0 < l1.length)=True:=eq_true (by omega)
             (try rw [show ((0:Int)).toNat=0 from rfl] at hx405_0)
             (try rw [show 0 * 6=0 from rfl] at hx405_0)
             (try rw [Addr.add_zero'] at hx405_0)
             (try rw [show ((0:Int)).toNat=0 from rfl] at hx405_1)
             (try rw [show 0 * 6=0 from rfl] at hx405_1)
             (try rw [Addr.add_zero'] at hx405_1)
             (try rw [show ((0:Int)).toNat=0 from rfl] at hx405_2)
             (try rw [show 0 * 6=0 from rfl] at hx405_2)
             (try rw [Addr.add_zero'] at hx405_2)
             (try rw [show ((0:Int)).toNat=0 from rfl] at hx405_3)
             (try rw [show 0 * 6=0 from rfl] at hx405_3)
             (try rw [Addr.add_zero'] at hx405_3)
             (try rw [show ((0:Int)).toNat=0 from rfl] at hx405_4)
             (try rw [show 0 * 6=0 from rfl] at hx405_4)
             (try rw [Addr.add_zero'] at hx405_4)
             (try rw [show ((0:Int)).toNat=0 from rfl] at hx405_5)
             (try rw [show 0 * 6=0 from rfl] at hx405_5)
             (try rw [Addr.add_zero'] at hx405_5)
             replace hx405_0:=(cb_ HB.out hx405_0:_)
             replace hx405_1:=(cb_ HB.out hx405_1:_)
             replace hx405_2:=(cb_ HB.out hx405_2:_)
             replace hx405_3:=(cb_ HB.out hx405_3:_)
             replace hx405_4:=(cb_ HB.out hx405_4:_)
             replace hx405_5:=(cb_ HB.out hx405_5:_)
             have HR405_2:=Aside0.mk hi405_2
             have HC405_2:=Aside0.mk hl405_2
             clear hi405_2 hl405_2
             have HR405_3:=Aside0.mk hi405_3
             have HC405_3:=Aside0.mk hl405_3
             clear hi405_3 hl405_3
             have HR405_4:=Aside0.mk hi405_4
             have HC405_4:=Aside0.mk hl405_4
             clear hi405_4 hl405_4
             replace p405:=eq_true p405
             replace q405:=eq_true q405
             have ea_:=Option.some.inj (hx395_2.symm.trans hx405_2)
             injection ea_ with ea_ en_ ec_
             subst ea_
             subst ec_
             clear en_
             have ea_:=Option.some.inj (hx395_3.symm.trans hx405_3)
             injection ea_ with ea_ en_ ec_
             subst ea_
             subst ec_
             clear en_
             have ea_:=Option.some.inj (hx395_4.symm.trans hx405_4)
             injection ea_ with ea_ en_ ec_
             subst ea_
             subst ec_
             clear en_
             have p406:0≤(0:Int):=(by omega)
             have q406:0 < (((rd_T29 l1 0).f2).length:Int):=of_decide_eq_true as_
             obtain ⟨ad406,A406_3,c406_3,e406,hx406_0,hx406_1,hx406_2,hx406_3,hx406_4,hl406_3,hi406_3⟩:=at_T24 HR405_2.out 0 p406 q406
             have hw406_4:=hx406_4
             (try rw [show ((0:Int)).toNat=0 from rfl] at hw406_4)
             (try rw [show 0 * 5=0 from rfl] at hw406_4)
             (try rw [Addr.add_zero'] at hw406_4)
             have hw406_3:=hx406_3
             (try rw [show ((0:Int)).toNat=0 from rfl] at hw406_3)
             (try rw [show 0 * 5=0 from rfl] at hw406_3)
             (try rw [Addr.add_zero'] at hw406_3)
             have hw406_2:=hx406_2
             (try rw [show ((0:Int)).toNat=0 from rfl] at hw406_2)
             (try rw [show 0 * 5=0 from rfl] at hw406_2)
             (try rw [Addr.add_zero'] at hw406_2)
             have hw406_1:=hx406_1
             (try rw [show ((0:Int)).toNat=0 from rfl] at hw406_1)
             (try rw [show 0 * 5=0 from rfl] at hw406_1)
             (try rw [Addr.add_zero'] at hw406_1)
             have hw406_0:=hx406_0
             (try rw [show ((0:Int)).toNat=0 from rfl] at hw406_0)
             (try rw [show 0 * 5=0 from rfl] at hw406_0)
             (try rw [Addr.add_zero'] at hw406_0)
             cases e406
             have qi406:(0 < ((rd_T29 l1 0).f2).length)=True:=eq_true (by omega)
             (try rw [show ((0:Int)).toNat=0 from rfl] at hx406_0)
             (try rw [show 0 * 5=0 from rfl] at hx406_0)
             (try rw [Addr.add_zero'] at hx406_0)
             (try rw [show ((0:Int)).toNat=0 from rfl] at hx406_1)
             (try rw [show 0 * 5=0 from rfl] at hx406_1)
             (try rw [Addr.add_zero'] at hx406_1)
             (try rw [show ((0:Int)).toNat=0 from rfl] at hx406_2)
             (try rw [show 0 * 5=0 from rfl] at hx406_2)
             (try rw [Addr.add_zero'] at hx406_2)
             (try rw [show ((0:Int)).toNat=0 from rfl] at hx406_3)
             (try rw [show 0 * 5=0 from rfl] at hx406_3)
             (try rw [Addr.add_zero'] at hx406_3)
             (try rw [show ((0:Int)).toNat=0 from rfl] at hx406_4)
             (try rw [show 0 * 5=0 from rfl] at hx406_4)
             (try rw [Addr.add_zero'] at hx406_4)
             replace hx406_0:=(cb_ HB.out hx406_0:_)
             replace hx406_1:=(cb_ HB.out hx406_1:_)
             replace hx406_2:=(cb_ HB.out hx406_2:_)
             replace hx406_3:=(cb_ HB.out hx406_3:_)
             replace hx406_4:=(cb_ HB.out hx406_4:_)
             have HR406_3:=Aside0.mk hi406_3
             have HC406_3:=Aside0.mk hl406_3
             clear hi406_3 hl406_3
             replace p406:=eq_true p406
             replace q406:=eq_true q406
             have p415:0≤(0:Int):=(by omega)
             have q415:0 < (l0.length:Int):=of_decide_eq_true as_
             obtain ⟨ad415,A415_2,c415_2,A415_3,c415_3,A415_4,c415_4,e415,hx415_0,hx415_1,hx415_2,hx415_3,hx415_4,hx415_5,hl415_2,hi415_2,hl415_3,hi415_3,hl415_4,hi415_4⟩:=at_T29 HR0.out 0 p415 q415
             have hw415_5:=hx415_5
             (try rw [show ((0:Int)).toNat=0 from rfl] at hw415_5)
             (try rw [show 0 * 6=0 from rfl] at hw415_5)
             (try rw [Addr.add_zero'] at hw415_5)
             have hw415_4:=hx415_4
             (try rw [show ((0:Int)).toNat=0 from rfl] at hw415_4)
             (try rw [show 0 * 6=0 from rfl] at hw415_4)
             (try rw [Addr.add_zero'] at hw415_4)
             have hw415_3:=hx415_3
             (try rw [show ((0:Int)).toNat=0 from rfl] at hw415_3)
             (try rw [show 0 * 6=0 from rfl] at hw415_3)
             (try rw [Addr.add_zero'] at hw415_3)
             have hw415_2:=hx415_2
             (try rw [show ((0:Int)).toNat=0 from rfl] at hw415_2)
             (try rw [show 0 * 6=0 from rfl] at hw415_2)
             (try rw [Addr.add_zero'] at hw415_2)
             have hw415_1:=hx415_1
             (try rw [show ((0:Int)).toNat=0 from rfl] at hw415_1)
             (try rw [show 0 * 6=0 from rfl] at hw415_1)
             (try rw [Addr.add_zero'] at hw415_1)
             have hw415_0:=hx415_0
             (try rw [show ((0:Int)).toNat=0 from rfl] at hw415_0)
             (try rw [show 0 * 6=0 from rfl] at hw415_0)
             (try rw [Addr.add_zero'] at hw415_0)
             obtain rfl:ad394=ad415:=(by injection e415)
             have qi415:(0 < l0.length)=True:=eq_true (by omega)
             (try rw [show ((0:Int)).toNat=0 from rfl] at hx415_0)
             (try rw [show 0 * 6=0 from rfl] at hx415_0)
             (try rw [Addr.add_zero'] at hx415_0)
             (try rw [show ((0:Int)).toNat=0 from rfl] at hx415_1)
             (try rw [show 0 * 6=0 from rfl] at hx415_1)
             (try rw [Addr.add_zero'] at hx415_1)
             (try rw [show ((0:Int)).toNat=0 from rfl] at hx415_2)
             (try rw [show 0 * 6=0 from rfl] at hx415_2)
             (try rw [Addr.add_zero'] at hx415_2)
             (try rw [show ((0:Int)).toNat=0 from rfl] at hx415_3)
             (try rw [show 0 * 6=0 from rfl] at hx415_3)
             (try rw [Addr.add_zero'] at hx415_3)
             (try rw [show ((0:Int)).toNat=0 from rfl] at hx415_4)
             (try rw [show 0 * 6=0 from rfl] at hx415_4)
             (try rw [Addr.add_zero'] at hx415_4)
             (try rw [show ((0:Int)).toNat=0 from rfl] at hx415_5)
             (try rw [show 0 * 6=0 from rfl] at hx415_5)
             (try rw [Addr.add_zero'] at hx415_5)
             replace hx415_0:=(cb_ HB.out hx415_0:_)
             replace hx415_1:=(cb_ HB.out hx415_1:_)
             replace hx415_2:=(cb_ HB.out hx415_2:_)
             replace hx415_3:=(cb_ HB.out hx415_3:_)
             replace hx415_4:=(cb_ HB.out hx415_4:_)
             replace hx415_5:=(cb_ HB.out hx415_5:_)
             have HR415_2:=Aside0.mk hi415_2
             have HC415_2:=Aside0.mk hl415_2
             clear hi415_2 hl415_2
             have HR415_3:=Aside0.mk hi415_3
             have HC415_3:=Aside0.mk hl415_3
             clear hi415_3 hl415_3
             have HR415_4:=Aside0.mk hi415_4
             have HC415_4:=Aside0.mk hl415_4
             clear hi415_4 hl415_4
             replace p415:=eq_true p415
             replace q415:=eq_true q415
             have ea_:=Option.some.inj (hx394_2.symm.trans hx415_2)
             injection ea_ with ea_ en_ ec_
             subst ea_
             subst ec_
             clear en_
             have ea_:=Option.some.inj (hx394_3.symm.trans hx415_3)
             injection ea_ with ea_ en_ ec_
             subst ea_
             subst ec_
             clear en_
             have ea_:=Option.some.inj (hx394_4.symm.trans hx415_4)
             injection ea_ with ea_ en_ ec_
             subst ea_
             subst ec_
             clear en_
             have p416:0≤(0:Int):=(by omega)
             have q416:0 < (((rd_T29 l0 0).f2).length:Int):=of_decide_eq_true as_
             obtain ⟨ad416,A416_3,c416_3,e416,hx416_0,hx416_1,hx416_2,hx416_3,hx416_4,hl416_3,hi416_3⟩:=at_T24 HR415_2.out 0 p416 q416
             have hw416_4:=hx416_4
             (try rw [show ((0:Int)).toNat=0 from rfl] at hw416_4)
             (try rw [show 0 * 5=0 from rfl] at hw416_4)
             (try rw [Addr.add_zero'] at hw416_4)
             have hw416_3:=hx416_3
             (try rw [show ((0:Int)).toNat=0 from rfl] at hw416_3)
             (try rw [show 0 * 5=0 from rfl] at hw416_3)
             (try rw [Addr.add_zero'] at hw416_3)
             have hw416_2:=hx416_2
             (try rw [show ((0:Int)).toNat=0 from rfl] at hw416_2)
             (try rw [show 0 * 5=0 from rfl] at hw416_2)
             (try rw [Addr.add_zero'] at hw416_2)
             have hw416_1:=hx416_1
             (try rw [show ((0:Int)).toNat=0 from rfl] at hw416_1)
             (try rw [show 0 * 5=0 from rfl] at hw416_1)
             (try rw [Addr.add_zero'] at hw416_1)
             have hw416_0:=hx416_0
             (try rw [show ((0:Int)).toNat=0 from rfl] at hw416_0)
             (try rw [show 0 * 5=0 from rfl] at hw416_0)
             (try rw [Addr.add_zero'] at hw416_0)
             cases e416
             have qi416:(0 < ((rd_T29 l0 0).f2).length)=True:=eq_true (by omega)
             (try rw [show ((0:Int)).toNat=0 from rfl] at hx416_0)
             (try rw [show 0 * 5=0 from rfl] at hx416_0)
             (try rw [Addr.add_zero'] at hx416_0)
             (try rw [show ((0:Int)).toNat=0 from rfl] at hx416_1)
             (try rw [show 0 * 5=0 from rfl] at hx416_1)
             (try rw [Addr.add_zero'] at hx416_1)
             (try rw [show ((0:Int)).toNat=0 from rfl] at hx416_2)
             (try rw [show 0 * 5=0 from rfl] at hx416_2)
             (try rw [Addr.add_zero'] at hx416_2)
             (try rw [show ((0:Int)).toNat=0 from rfl] at hx416_3)
             (try rw [show 0 * 5=0 from rfl] at hx416_3)
             (try rw [Addr.add_zero'] at hx416_3)
             (try rw [show ((0:Int)).toNat=0 from rfl] at hx416_4)
             (try rw [show 0 * 5=0 from rfl] at hx416_4)
             (try rw [Addr.add_zero'] at hx416_4)
             replace hx416_0:=(cb_ HB.out hx416_0:_)
             replace hx416_1:=(cb_ HB.out hx416_1:_)
             replace hx416_2:=(cb_ HB.out hx416_2:_)
             replace hx416_3:=(cb_ HB.out hx416_3:_)
             replace hx416_4:=(cb_ HB.out hx416_4:_)
             have HR416_3:=Aside0.mk hi416_3
             have HC416_3:=Aside0.mk hl416_3
             clear hi416_3 hl416_3
             replace p416:=eq_true p416
             replace q416:=eq_true q416
             have p417:0≤(0:Int):=(by omega)
             have q417:0 < (l1.length:Int):=of_decide_eq_true as_
             obtain ⟨ad417,A417_2,c417_2,A417_3,c417_3,A417_4,c417_4,e417,hx417_0,hx417_1,hx417_2,hx417_3,hx417_4,hx417_5,hl417_2,hi417_2,hl417_3,hi417_3,hl417_4,hi417_4⟩:=at_T29 HR1.out 0 p417 q417
             have hw417_5:=hx417_5
             (try rw [show ((0:Int)).toNat=0 from rfl] at hw417_5)
             (try rw [show 0 * 6=0 from rfl] at hw417_5)
             (try rw [Addr.add_zero'] at hw417_5)
             have hw417_4:=hx417_4
             (try rw [show ((0:Int)).toNat=0 from rfl] at hw417_4)
             (try rw [show 0 * 6=0 from rfl] at hw417_4)
             (try rw [Addr.add_zero'] at hw417_4)
             have hw417_3:=hx417_3
             (try rw [show ((0:Int)).toNat=0 from rfl] at hw417_3)
             (try rw [show 0 * 6=0 from rfl] at hw417_3)
             (try rw [Addr.add_zero'] at hw417_3)
             have hw417_2:=hx417_2
             (try rw [show ((0:Int)).toNat=0 from rfl] at hw417_2)
             (try rw [show 0 * 6=0 from rfl] at hw417_2)
             (try rw [Addr.add_zero'] at hw417_2)
             have hw417_1:=hx417_1
             (try rw [show ((0:Int)).toNat=0 from rfl] at hw417_1)
             (try rw [show 0 * 6=0 from rfl] at hw417_1)
             (try rw [Addr.add_zero'] at hw417_1)
             have hw417_0:=hx417_0
             (try rw [show ((0:Int)).toNat=0 from rfl] at hw417_0)
             (try rw [show 0 * 6=0 from rfl] at hw417_0)
             (try rw [Addr.add_zero'] at hw417_0)
             obtain rfl:ad395=ad417:=(by injection e417)
             have qi417:(0 < l1.length)=True:=eq_true (by omega)
             (try rw [show ((0:Int)).toNat=0 from rfl] at hx417_0)
             (try rw [show 0 * 6=0 from rfl] at hx417_0)
             (try rw [Addr.add_zero'] at hx417_0)
             (try rw [show ((0:Int)).toNat=0 from rfl] at hx417_1)
             (try rw [show 0 * 6=0 from rfl] at hx417_1)
             (try rw [Addr.add_zero'] at hx417_1)
             (try rw [show ((0:Int)).toNat=0 from rfl] at hx417_2)
             (try rw [show 0 * 6=0 from rfl] at hx417_2)
             (try rw [Addr.add_zero'] at hx417_2)
             (try rw [show ((0:Int)).toNat=0 from rfl] at hx417_3)
             (try rw [show 0 * 6=0 from rfl] at hx417_3)
             (try rw [Addr.add_zero'] at hx417_3)
             (try rw [show ((0:Int)).toNat=0 from rfl] at hx417_4)
             (try rw [show 0 * 6=0 from rfl] at hx417_4)
             (try rw [Addr.add_zero'] at hx417_4)
             (try rw [show ((0:Int)).toNat=0 from rfl] at hx417_5)
             (try rw [show 0 * 6=0 from rfl] at hx417_5)
             (try rw [Addr.add_zero'] at hx417_5)
             replace hx417_0:=(cb_ HB.out hx417_0:_)
             replace hx417_1:=(cb_ HB.out hx417_1:_)
             replace hx417_2:=(cb_ HB.out hx417_2:_)
             replace hx417_3:=(cb_ HB.out hx417_3:_)
             replace hx417_4:=(cb_ HB.out hx417_4:_)
             replace hx417_5:=(cb_ HB.out hx417_5:_)
             have HR417_2:=Aside0.mk hi417_2
             have HC417_2:=Aside0.mk hl417_2
             clear hi417_2 hl417_2
             have HR417_3:=Aside0.mk hi417_3
             have HC417_3:=Aside0.mk hl417_3
             clear hi417_3 hl417_3
             have HR417_4:=Aside0.mk hi417_4
             have HC417_4:=Aside0.mk hl417_4
             clear hi417_4 hl417_4
             replace p417:=eq_true p417
             replace q417:=eq_true q417
             have ea_:=Option.some.inj (hx395_2.symm.trans hx417_2)
             injection ea_ with ea_ en_ ec_
             subst ea_
             subst ec_
             clear en_
             have ea_:=Option.some.inj (hx395_3.symm.trans hx417_3)
             injection ea_ with ea_ en_ ec_
             subst ea_
             subst ec_
             clear en_
             have ea_:=Option.some.inj (hx395_4.symm.trans hx417_4)
             injection ea_ with ea_ en_ ec_
             subst ea_
             subst ec_
             clear en_
             have p418:0≤(0:Int):=(by omega)
             have q418:0 < (((rd_T29 l1 0).f2).length:Int):=of_decide_eq_true as_
             obtain ⟨ad418,A418_3,c418_3,e418,hx418_0,hx418_1,hx418_2,hx418_3,hx418_4,hl418_3,hi418_3⟩:=at_T24 HR417_2.out 0 p418 q418
             have hw418_4:=hx418_4
             (try rw [show ((0:Int)).toNat=0 from rfl] at hw418_4)
             (try rw [show 0 * 5=0 from rfl] at hw418_4)
             (try rw [Addr.add_zero'] at hw418_4)
             have hw418_3:=hx418_3
             (try rw [show ((0:Int)).toNat=0 from rfl] at hw418_3)
             (try rw [show 0 * 5=0 from rfl] at hw418_3)
             (try rw [Addr.add_zero'] at hw418_3)
             have hw418_2:=hx418_2
             (try rw [show ((0:Int)).toNat=0 from rfl] at hw418_2)
             (try rw [show 0 * 5=0 from rfl] at hw418_2)
             (try rw [Addr.add_zero'] at hw418_2)
             have hw418_1:=hx418_1
             (try rw [show ((0:Int)).toNat=0 from rfl] at hw418_1)
             (try rw [show 0 * 5=0 from rfl] at hw418_1)
             (try rw [Addr.add_zero'] at hw418_1)
             have hw418_0:=hx418_0
             (try rw [show ((0:Int)).toNat=0 from rfl] at hw418_0)
             (try rw [show 0 * 5=0 from rfl] at hw418_0)
             (try rw [Addr.add_zero'] at hw418_0)
             cases e418
             have qi418:(0 < ((rd_T29 l1 0).f2).length)=True:=eq_true (by omega)
             (try rw [show ((0:Int)).toNat=0 from rfl] at hx418_0)
             (try rw [show 0 * 5=0 from rfl] at hx418_0)
             (try rw [Addr.add_zero'] at hx418_0)
             (try rw [show ((0:Int)).toNat=0 from rfl] at hx418_1)
             (try rw [show 0 * 5=0 from rfl] at hx418_1)
             (try rw [Addr.add_zero'] at hx418_1)
             (try rw [show ((0:Int)).toNat=0 from rfl] at hx418_2)
             (try rw [show 0 * 5=0 from rfl] at hx418_2)
             (try rw [Addr.add_zero'] at hx418_2)
             (try rw [show ((0:Int)).toNat=0 from rfl] at hx418_3)
             (try rw [show 0 * 5=0 from rfl] at hx418_3)
             (try rw [Addr.add_zero'] at hx418_3)
             (try rw [show ((0:Int)).toNat=0 from rfl] at hx418_4)
             (try rw [show 0 * 5=0 from rfl] at hx418_4)
             (try rw [Addr.add_zero'] at hx418_4)
             replace hx418_0:=(cb_ HB.out hx418_0:_)
             replace hx418_1:=(cb_ HB.out hx418_1:_)
             replace hx418_2:=(cb_ HB.out hx418_2:_)
             replace hx418_3:=(cb_ HB.out hx418_3:_)
             replace hx418_4:=(cb_ HB.out hx418_4:_)
             have HR418_3:=Aside0.mk hi418_3
             have HC418_3:=Aside0.mk hl418_3
             clear hi418_3 hl418_3
             replace p418:=eq_true p418
             replace q418:=eq_true q418
             as_aux_lemma=>
              refine start_ (n:=55) (S:=fun w'=>w'.cell? ad394=some (.string ((rd_T29 l0 0).f0))∧w'.cell? ⟨ad394.block,ad394.off+1,none⟩=some (.string ((rd_T29 l0 0).f1))∧w'.cell? ⟨ad394.block,ad394.off+2,none⟩=some (.slice (some ad397) ((rd_T29 l0 0).f2).length c394_2)∧w'.cell? ⟨ad394.block,ad394.off+3,none⟩=some (.slice A394_3 ((rd_T29 l0 0).f3).length c394_3)∧w'.cell? ⟨ad394.block,ad394.off+4,none⟩=some (.slice A394_4 ((rd_T29 l0 0).f4).length c394_4)∧w'.cell? ⟨ad394.block,ad394.off+5,none⟩=some (.int .i64 ((rd_T29 l0 0).f5))∧w'.cell? ad395=some (.string ((rd_T29 l1 0).f0))∧w'.cell? ⟨ad395.block,ad395.off+1,none⟩=some (.string ((rd_T29 l1 0).f1))∧w'.cell? ⟨ad395.block,ad395.off+2,none⟩=some (.slice (some ad406) ((rd_T29 l1 0).f2).length c395_2)∧w'.cell? ⟨ad395.block,ad395.off+3,none⟩=some (.slice A395_3 ((rd_T29 l1 0).f3).length c395_3)∧w'.cell? ⟨ad395.block,ad395.off+4,none⟩=some (.slice A395_4 ((rd_T29 l1 0).f4).length c395_4)∧w'.cell? ⟨ad395.block,ad395.off+5,none⟩=some (.int .i64 ((rd_T29 l1 0).f5))∧w'.cell? ad394=some (.string ((rd_T29 l0 0).f0))∧w'.cell? ⟨ad394.block,ad394.off+1,none⟩=some (.string ((rd_T29 l0 0).f1))∧w'.cell? ⟨ad394.block,ad394.off+2,none⟩=some (.slice (some ad397) ((rd_T29 l0 0).f2).length c394_2)∧w'.cell? ⟨ad394.block,ad394.off+3,none⟩=some (.slice A394_3 ((rd_T29 l0 0).f3).length c394_3)∧w'.cell? ⟨ad394.block,ad394.off+4,none⟩=some (.slice A394_4 ((rd_T29 l0 0).f4).length c394_4)∧w'.cell? ⟨ad394.block,ad394.off+5,none⟩=some (.int .i64 ((rd_T29 l0 0).f5))∧w'.cell? ad397=some (.string ((rd_T24 ((rd_T29 l0 0).f2) 0).f0))∧w'.cell? ⟨ad397.block,ad397.off+1,none⟩=some (.string ((rd_T24 ((rd_T29 l0 0).f2) 0).f1))∧w'.cell? ⟨ad397.block,ad397.off+2,none⟩=some (.int .i64 ((rd_T24 ((rd_T29 l0 0).f2) 0).f2))∧w'.cell? ⟨ad397.block,ad397.off+3,none⟩=some (.slice A397_3 ((rd_T24 ((rd_T29 l0 0).f2) 0).f3).length c397_3)∧w'.cell? ⟨ad397.block,ad397.off+4,none⟩=some (.int .i64 ((rd_T24 ((rd_T29 l0 0).f2) 0).f4))∧w'.cell? ad395=some (.string ((rd_T29 l1 0).f0))∧w'.cell? ⟨ad395.block,ad395.off+1,none⟩=some (.string ((rd_T29 l1 0).f1))∧w'.cell? ⟨ad395.block,ad395.off+2,none⟩=some (.slice (some ad406) ((rd_T29 l1 0).f2).length c395_2)∧w'.cell? ⟨ad395.block,ad395.off+3,none⟩=some (.slice A395_3 ((rd_T29 l1 0).f3).length c395_3)∧w'.cell? ⟨ad395.block,ad395.off+4,none⟩=some (.slice A395_4 ((rd_T29 l1 0).f4).length c395_4)∧w'.cell? ⟨ad395.block,ad395.off+5,none⟩=some (.int .i64 ((rd_T29 l1 0).f5))∧w'.cell? ad406=some (.string ((rd_T24 ((rd_T29 l1 0).f2) 0).f0))∧w'.cell? ⟨ad406.block,ad406.off+1,none⟩=some (.string ((rd_T24 ((rd_T29 l1 0).f2) 0).f1))∧w'.cell? ⟨ad406.block,ad406.off+2,none⟩=some (.int .i64 ((rd_T24 ((rd_T29 l1 0).f2) 0).f2))∧w'.cell? ⟨ad406.block,ad406.off+3,none⟩=some (.slice A406_3 ((rd_T24 ((rd_T29 l1 0).f2) 0).f3).length c406_3)∧w'.cell? ⟨ad406.block,ad406.off+4,none⟩=some (.int .i64 ((rd_T24 ((rd_T29 l1 0).f2) 0).f4))∧w'.cell? ad394=some (.string ((rd_T29 l0 0).f0))∧w'.cell? ⟨ad394.block,ad394.off+1,none⟩=some (.string ((rd_T29 l0 0).f1))∧w'.cell? ⟨ad394.block,ad394.off+2,none⟩=some (.slice (some ad397) ((rd_T29 l0 0).f2).length c394_2)∧w'.cell? ⟨ad394.block,ad394.off+3,none⟩=some (.slice A394_3 ((rd_T29 l0 0).f3).length c394_3)∧w'.cell? ⟨ad394.block,ad394.off+4,none⟩=some (.slice A394_4 ((rd_T29 l0 0).f4).length c394_4)∧w'.cell? ⟨ad394.block,ad394.off+5,none⟩=some (.int .i64 ((rd_T29 l0 0).f5))∧w'.cell? ad397=some (.string ((rd_T24 ((rd_T29 l0 0).f2) 0).f0))∧w'.cell? ⟨ad397.block,ad397.off+1,none⟩=some (.string ((rd_T24 ((rd_T29 l0 0).f2) 0).f1))∧w'.cell? ⟨ad397.block,ad397.off+2,none⟩=some (.int .i64 ((rd_T24 ((rd_T29 l0 0).f2) 0).f2))∧w'.cell? ⟨ad397.block,ad397.off+3,none⟩=some (.slice A397_3 ((rd_T24 ((rd_T29 l0 0).f2) 0).f3).length c397_3)∧w'.cell? ⟨ad397.block,ad397.off+4,none⟩=some (.int .i64 ((rd_T24 ((rd_T29 l0 0).f2) 0).f4))∧w'.cell? ad395=some (.string ((rd_T29 l1 0).f0))∧w'.cell? ⟨ad395.block,ad395.off+1,none⟩=some (.string ((rd_T29 l1 0).f1))∧w'.cell? ⟨ad395.block,ad395.off+2,none⟩=some (.slice (some ad406) ((rd_T29 l1 0).f2).length c395_2)∧w'.cell? ⟨ad395.block,ad395.off+3,none⟩=some (.slice A395_3 ((rd_T29 l1 0).f3).length c395_3)∧w'.cell? ⟨ad395.block,ad395.off+4,none⟩=some (.slice A395_4 ((rd_T29 l1 0).f4).length c395_4)∧w'.cell? ⟨ad395.block,ad395.off+5,none⟩=some (.int .i64 ((rd_T29 l1 0).f5))∧w'.cell? ad406=some (.string ((rd_T24 ((rd_T29 l1 0).f2) 0).f0))∧w'.cell? ⟨ad406.block,ad406.off+1,none⟩=some (.string ((rd_T24 ((rd_T29 l1 0).f2) 0).f1))∧w'.cell? ⟨ad406.block,ad406.off+2,none⟩=some (.int .i64 ((rd_T24 ((rd_T29 l1 0).f2) 0).f2))∧w'.cell? ⟨ad406.block,ad406.off+3,none⟩=some (.slice A406_3 ((rd_T24 ((rd_T29 l1 0).f2) 0).f3).length c406_3)∧w'.cell? ⟨ad406.block,ad406.off+4,none⟩=some (.int .i64 ((rd_T24 ((rd_T29 l1 0).f2) 0).f4))) (ds:=[]) (flg 55 0) (by kernel_rfl) rfl (by kernel_rfl) ⟨((cb_ HB.out hw394_0:_)),((cb_ HB.out hw394_1:_)),((cb_ HB.out hw394_2:_)),((cb_ HB.out hw394_3:_)),((cb_ HB.out hw394_4:_)),((cb_ HB.out hw394_5:_)),((cb_ HB.out hw395_0:_)),((cb_ HB.out hw395_1:_)),((cb_ HB.out hw395_2:_)),((cb_ HB.out hw395_3:_)),((cb_ HB.out hw395_4:_)),((cb_ HB.out hw395_5:_)),((cb_ HB.out hw396_0:_)),((cb_ HB.out hw396_1:_)),((cb_ HB.out hw396_2:_)),((cb_ HB.out hw396_3:_)),((cb_ HB.out hw396_4:_)),((cb_ HB.out hw396_5:_)),((cb_ HB.out hw397_0:_)),((cb_ HB.out hw397_1:_)),((cb_ HB.out hw397_2:_)),((cb_ HB.out hw397_3:_)),((cb_ HB.out hw397_4:_)),((cb_ HB.out hw405_0:_)),((cb_ HB.out hw405_1:_)),((cb_ HB.out hw405_2:_)),((cb_ HB.out hw405_3:_)),((cb_ HB.out hw405_4:_)),((cb_ HB.out hw405_5:_)),((cb_ HB.out hw406_0:_)),((cb_ HB.out hw406_1:_)),((cb_ HB.out hw406_2:_)),((cb_ HB.out hw406_3:_)),((cb_ HB.out hw406_4:_)),((cb_ HB.out hw415_0:_)),((cb_ HB.out hw415_1:_)),((cb_ HB.out hw415_2:_)),((cb_ HB.out hw415_3:_)),((cb_ HB.out hw415_4:_)),((cb_ HB.out hw415_5:_)),((cb_ HB.out hw397_0:_)),((cb_ HB.out hw397_1:_)),((cb_ HB.out hw397_2:_)),((cb_ HB.out hw397_3:_)),((cb_ HB.out hw397_4:_)),((cb_ HB.out hw417_0:_)),((cb_ HB.out hw417_1:_)),((cb_ HB.out hw417_2:_)),((cb_ HB.out hw417_3:_)),((cb_ HB.out hw417_4:_)),((cb_ HB.out hw417_5:_)),((cb_ HB.out hw406_0:_)),((cb_ HB.out hw406_1:_)),((cb_ HB.out hw406_2:_)),((cb_ HB.out hw406_3:_)),((cb_ HB.out hw406_4:_))⟩ (fun hHeld=>?_);refine with_tabW helmsmanlaw12_TreeSame.tab5 helmsmanlaw12_TreeSame.bits5 (fun HT_ HW_=>?_)
              generalize w26.drew=w39 at HO387 HO390 BK391 BK392 HB HR394_2 HR394_3 HR394_4 HR395_2 HR395_3 HR395_4 HR396_2 HR396_3 HR396_4 HR397_3 HR405_2 HR405_3 HR405_4 HR406_3 HR415_2 HR415_3 HR415_4 HR397_3 HR417_2 HR417_3 HR417_4 HR406_3 hx394_0 hx394_1 hx394_2 hx394_3 hx394_4 hx394_5 hx395_0 hx395_1 hx395_2 hx395_3 hx395_4 hx395_5 hx396_0 hx396_1 hx396_2 hx396_3 hx396_4 hx396_5 hx397_0 hx397_1 hx397_2 hx397_3 hx397_4 hx405_0 hx405_1 hx405_2 hx405_3 hx405_4 hx405_5 hx406_0 hx406_1 hx406_2 hx406_3 hx406_4 hx415_0 hx415_1 hx415_2 hx415_3 hx415_4 hx415_5 hx397_0 hx397_1 hx397_2 hx397_3 hx397_4 hx417_0 hx417_1 hx417_2 hx417_3 hx417_4 hx417_5 hx406_0 hx406_1 hx406_2 hx406_3 hx406_4 hHeld ⊢
              refine pur_ 0 26 (flg 55 1) rfl rfl (any_of HT_.out (by kernel_rfl)) (fun _ _ _ h=>h) ?_
              refine pur_ 1 27 (flg 55 3) rfl rfl (any_of HT_.out (by kernel_rfl)) (fun _ _ _ h=>h) ?_
              refine pur_ 2 28 (flg 55 7) rfl rfl (any_of HT_.out (by kernel_rfl)) (fun _ _ _ h=>h) ?_
              refine pur_ 3 29 (flg 55 15) rfl rfl (any_of HT_.out (by kernel_rfl)) (fun _ _ _ h=>h) ?_
              refine pur_ 4 30 (flg 55 31) rfl rfl (any_of HT_.out (by kernel_rfl)) (fun _ _ _ h=>h) ?_
              refine pur_ 5 31 (flg 55 63) rfl rfl (any_of HT_.out (by kernel_rfl)) (fun _ _ _ h=>h) ?_
              refine pur_ 6 32 (flg 55 127) rfl rfl (any_of HT_.out (by kernel_rfl)) (fun _ _ _ h=>h) ?_
              refine pur_ 7 33 (flg 55 255) rfl rfl (any_of HT_.out (by kernel_rfl)) (fun _ _ _ h=>h) ?_
              refine pur_ 8 34 (flg 55 511) rfl rfl (any_of HT_.out (by kernel_rfl)) (fun _ _ _ h=>h) ?_
              refine pur_ 9 35 (flg 55 1023) rfl rfl (any_of HT_.out (by kernel_rfl)) (fun _ _ _ h=>h) ?_
              refine pur_ 10 36 (flg 55 2047) rfl rfl (any_of HT_.out (by kernel_rfl)) (fun _ _ _ h=>h) ?_
              refine pur_ 11 37 (flg 55 4095) rfl rfl (any_of HT_.out (by kernel_rfl)) (fun _ _ _ h=>h) ?_
              refine tak_ 12 38 (flg 55 8191) rfl rfl (take_ofW HT_.out HW_.out (by kernel_rfl)) (fun _ _ _ h=>h) hHeld ?_
              refine pur_ 13 39 (flg 55 16383) rfl rfl (any_of HT_.out (by kernel_rfl)) (fun _ _ _ h=>h) ?_
              refine pur_ 14 40 (flg 55 32767) rfl rfl (any_of HT_.out (by kernel_rfl)) (fun _ _ _ h=>h) ?_
              refine pur_ 15 41 (flg 55 65535) rfl rfl (any_of HT_.out (by kernel_rfl)) (fun _ _ _ h=>h) ?_
              refine pur_ 16 42 (flg 55 131071) rfl rfl (any_of HT_.out (by kernel_rfl)) (fun _ _ _ h=>h) ?_
              refine pur_ 17 43 (flg 55 262143) rfl rfl (any_of HT_.out (by kernel_rfl)) (fun _ _ _ h=>h) ?_
              refine pur_ 18 44 (flg 55 524287) rfl rfl (any_of HT_.out (by kernel_rfl)) (fun _ _ _ h=>h) ?_
              refine pur_ 19 45 (flg 55 1048575) rfl rfl (any_of HT_.out (by kernel_rfl)) (fun _ _ _ h=>h) ?_
              refine tak_ 20 46 (flg 55 2097151) rfl rfl (take_ofW HT_.out HW_.out (by kernel_rfl)) (fun _ _ _ h=>h) hHeld ?_
              refine pur_ 21 47 (flg 55 4194303) rfl rfl (any_of HT_.out (by kernel_rfl)) (fun _ _ _ h=>h) ?_
              refine pur_ 22 48 (flg 55 8388607) rfl rfl (any_of HT_.out (by kernel_rfl)) (fun _ _ _ h=>h) ?_
              refine pur_ 23 49 (flg 55 16777215) rfl rfl (any_of HT_.out (by kernel_rfl)) (fun _ _ _ h=>h) ?_
              refine pur_ 24 50 (flg 55 33554431) rfl rfl (any_of HT_.out (by kernel_rfl)) (fun _ _ _ h=>h) ?_
              refine pur_ 25 51 (flg 55 67108863) rfl rfl (any_of HT_.out (by kernel_rfl)) (fun _ _ _ h=>h) ?_
              refine pur_ 26 52 (flg 55 134217727) rfl rfl (any_of HT_.out (by kernel_rfl)) (fun _ _ _ h=>h) ?_
              refine pur_ 27 53 (flg 55 268435455) rfl rfl (any_of HT_.out (by kernel_rfl)) (fun _ _ _ h=>h) ?_
              refine pur_ 32 58 (flg 55 4563402751) rfl rfl (any_of HT_.out (by kernel_rfl)) (fun _ _ _ h=>h) ?_
              refine pur_ 33 59 (flg 55 13153337343) rfl rfl (any_of HT_.out (by kernel_rfl)) (fun _ _ _ h=>h) ?_
              refine pur_ 34 60 (flg 55 30333206527) rfl rfl (any_of HT_.out (by kernel_rfl)) (fun _ _ _ h=>h) ?_
              refine pur_ 40 66 (flg 55 1129844834303) rfl rfl (any_of HT_.out (by kernel_rfl)) (fun _ _ _ h=>h) ?_
              refine pur_ 41 67 (flg 55 3328868089855) rfl rfl (any_of HT_.out (by kernel_rfl)) (fun _ _ _ h=>h) ?_
              refine pur_ 42 68 (flg 55 7726914600959) rfl rfl (any_of HT_.out (by kernel_rfl)) (fun _ _ _ h=>h) ?_
              refine pur_ 46 72 (flg 55 78095658778623) rfl rfl (any_of HT_.out (by kernel_rfl)) (fun _ _ _ h=>h) ?_
              refine pur_ 47 73 (flg 55 218833147133951) rfl rfl (any_of HT_.out (by kernel_rfl)) (fun _ _ _ h=>h) ?_
              refine pur_ 48 74 (flg 55 500308123844607) rfl rfl (any_of HT_.out (by kernel_rfl)) (fun _ _ _ h=>h) ?_
              refine tak_ 28 54 (flg 55 500308392280063) rfl rfl (take_ofW HT_.out HW_.out (by kernel_rfl)) (fun _ _ _ h=>h) hHeld ?_
              refine pur_ 29 55 (flg 55 500308929150975) rfl rfl (any_of HT_.out (by kernel_rfl)) (fun _ _ _ h=>h) ?_
              refine tak_ 30 56 (flg 55 500310002892799) rfl rfl (take_ofW HT_.out HW_.out (by kernel_rfl)) (fun _ _ _ h=>h) hHeld ?_
              refine tak_ 35 61 (flg 55 500344362631167) rfl rfl (take_ofW HT_.out HW_.out (by kernel_rfl)) (fun _ _ _ h=>h) hHeld ?_
              refine pur_ 36 62 (flg 55 500413082107903) rfl rfl (any_of HT_.out (by kernel_rfl)) (fun _ _ _ h=>h) ?_
              refine tak_ 37 63 (flg 55 500550521061375) rfl rfl (take_ofW HT_.out HW_.out (by kernel_rfl)) (fun _ _ _ h=>h) hHeld ?_
              refine tak_ 43 69 (flg 55 509346614083583) rfl rfl (take_ofW HT_.out HW_.out (by kernel_rfl)) (fun _ _ _ h=>h) hHeld ?_
              refine pur_ 44 70 (flg 55 526938800127999) rfl rfl (any_of HT_.out (by kernel_rfl)) (fun _ _ _ h=>h) ?_
              refine tak_ 45 71 (flg 55 562123172216831) rfl rfl (take_ofW HT_.out HW_.out (by kernel_rfl)) (fun _ _ _ h=>h) hHeld ?_
              refine tak_ 49 75 (flg 55 1125073125638143) rfl rfl (take_ofW HT_.out HW_.out (by kernel_rfl)) (fun _ _ _ h=>h) hHeld ?_
              refine pur_ 50 76 (flg 55 2250973032480767) rfl rfl (any_of HT_.out (by kernel_rfl)) (fun _ _ _ h=>h) ?_
              refine tak_ 51 77 (flg 55 4502772846166015) rfl rfl (take_ofW HT_.out HW_.out (by kernel_rfl)) (fun _ _ _ h=>h) hHeld ?_
              refine one_ (i:=31) (N:=some 57) (flg 55 4502774993649663) rfl rfl (one_of HT_.out (by kernel_rfl)) (by decide) (fun K hK=>?_)
              refine goes_ Tryd.func11 (by kernel_rfl) rfl #[.agg #[.string ((rd_T24 ((rd_T29 l0 0).f2) 0).f0),.string ((rd_T24 ((rd_T29 l0 0).f2) 0).f1),.int .i64 ((rd_T24 ((rd_T29 l0 0).f2) 0).f2),.slice A397_3 ((rd_T24 ((rd_T29 l0 0).f2) 0).f3).length c397_3,.int .i64 ((rd_T24 ((rd_T29 l0 0).f2) 0).f4)]] (by rfl) rfl rfl ar_ ?_
              with_reducible refine (helmsmanlaw12_Expr.calls kj2 ((rd_T24 ((rd_T29 l0 0).f2) 0).f0) ((rd_T24 ((rd_T29 l0 0).f2) 0).f1) ((rd_T24 ((rd_T29 l0 0).f2) 0).f2) _ _ ((rd_T24 ((rd_T29 l0 0).f2) 0).f3) ((rd_T24 ((rd_T29 l0 0).f2) 0).f4) t398 t399 t400 t401 t404 _ ?side1 ?side2 A34.out).mono ?_
              (case side1=>exact kc_ HR397_3.out HB.out)
              (case side2=>exact HC397_3.out)
              rintro e w40 ⟨v402,rfl,ho0,hb⟩
              refine ⟨_,rfl,?_⟩
              have n0_:=Aside0.mk (Kd.R_elder' (by (with_reducible repeat (first|apply Kd.R_alloc|apply Kd.R_drewN|apply Kd.R_drew));exact HO387.out) (Kd.R_base ho0) hb)
              have n1_:=Aside0.mk (Kd.R_elder' (by (with_reducible repeat (first|apply Kd.R_alloc|apply Kd.R_drewN|apply Kd.R_drew));exact HO390.out) (Kd.R_base ho0) hb)
              have n2_:=Aside0.mk (Kd.R_lower ho0 (below_size (bl_ HB.out)))
              have n3_:=Aside0.mk (bb_ BK391.out hb)
              have n4_:=Aside0.mk (bb_ BK392.out hb)
              have n5_:=Aside0.mk (below_step (bl_ HB.out) hb)
              clear HO387
              clear HO390
              clear BK391
              clear BK392
              clear HB
              have HO387:=n0_
              have HO390:=n1_
              have HO403:=n2_
              have BK391:=n3_
              have BK392:=n4_
              have HB:=n5_
              clear n0_ n1_ n2_ n3_ n4_ n5_
              (try clear hb)
              (try clear hb2)
              (try clear hk)
              (try clear hi)
              (try clear ho0)
              refine hK.out _ _ ⟨((cb_ HB.out hw394_0:_)),((cb_ HB.out hw394_1:_)),((cb_ HB.out hw394_2:_)),((cb_ HB.out hw394_3:_)),((cb_ HB.out hw394_4:_)),((cb_ HB.out hw394_5:_)),((cb_ HB.out hw395_0:_)),((cb_ HB.out hw395_1:_)),((cb_ HB.out hw395_2:_)),((cb_ HB.out hw395_3:_)),((cb_ HB.out hw395_4:_)),((cb_ HB.out hw395_5:_)),((cb_ HB.out hw396_0:_)),((cb_ HB.out hw396_1:_)),((cb_ HB.out hw396_2:_)),((cb_ HB.out hw396_3:_)),((cb_ HB.out hw396_4:_)),((cb_ HB.out hw396_5:_)),((cb_ HB.out hw397_0:_)),((cb_ HB.out hw397_1:_)),((cb_ HB.out hw397_2:_)),((cb_ HB.out hw397_3:_)),((cb_ HB.out hw397_4:_)),((cb_ HB.out hw405_0:_)),((cb_ HB.out hw405_1:_)),((cb_ HB.out hw405_2:_)),((cb_ HB.out hw405_3:_)),((cb_ HB.out hw405_4:_)),((cb_ HB.out hw405_5:_)),((cb_ HB.out hw406_0:_)),((cb_ HB.out hw406_1:_)),((cb_ HB.out hw406_2:_)),((cb_ HB.out hw406_3:_)),((cb_ HB.out hw406_4:_)),((cb_ HB.out hw415_0:_)),((cb_ HB.out hw415_1:_)),((cb_ HB.out hw415_2:_)),((cb_ HB.out hw415_3:_)),((cb_ HB.out hw415_4:_)),((cb_ HB.out hw415_5:_)),((cb_ HB.out hw397_0:_)),((cb_ HB.out hw397_1:_)),((cb_ HB.out hw397_2:_)),((cb_ HB.out hw397_3:_)),((cb_ HB.out hw397_4:_)),((cb_ HB.out hw417_0:_)),((cb_ HB.out hw417_1:_)),((cb_ HB.out hw417_2:_)),((cb_ HB.out hw417_3:_)),((cb_ HB.out hw417_4:_)),((cb_ HB.out hw417_5:_)),((cb_ HB.out hw406_0:_)),((cb_ HB.out hw406_1:_)),((cb_ HB.out hw406_2:_)),((cb_ HB.out hw406_3:_)),((cb_ HB.out hw406_4:_))⟩ (fun hHeld=>?_)
              clear hK K
              refine norm_ (a':=?_) ?_ ?_
              rotate_left
              ·show Act.put _ (some 57) _=_
               simp only [Act.put,List.setIfInBounds_toArray,List.set_cons_zero,List.set_cons_succ,i64_w,i32_w]
               rfl
              refine one_ (i:=38) (N:=some 64) (flg 55 4503049871556607) rfl rfl (one_of HT_.out (by kernel_rfl)) (by decide) (fun K hK=>?_)
              refine goes_ Tryd.func11 (by kernel_rfl) rfl #[.agg #[.string ((rd_T24 ((rd_T29 l1 0).f2) 0).f0),.string ((rd_T24 ((rd_T29 l1 0).f2) 0).f1),.int .i64 ((rd_T24 ((rd_T29 l1 0).f2) 0).f2),.slice A406_3 ((rd_T24 ((rd_T29 l1 0).f2) 0).f3).length c406_3,.int .i64 ((rd_T24 ((rd_T29 l1 0).f2) 0).f4)]] (by rfl) rfl rfl ar_ ?_
              with_reducible refine (helmsmanlaw12_Expr.calls kj2 ((rd_T24 ((rd_T29 l1 0).f2) 0).f0) ((rd_T24 ((rd_T29 l1 0).f2) 0).f1) ((rd_T24 ((rd_T29 l1 0).f2) 0).f2) _ _ ((rd_T24 ((rd_T29 l1 0).f2) 0).f3) ((rd_T24 ((rd_T29 l1 0).f2) 0).f4) t407 t408 t409 t410 t413 _ ?side1 ?side2 A36.out).mono ?_
              (case side1=>exact kc_ HR406_3.out HB.out)
              (case side2=>exact HC406_3.out)
              rintro e w41 ⟨v411,rfl,ho0,hb⟩
              refine ⟨_,rfl,?_⟩
              have n0_:=Aside0.mk (Kd.R_elder' (by (with_reducible repeat (first|apply Kd.R_alloc|apply Kd.R_drewN|apply Kd.R_drew));exact HO387.out) (Kd.R_base ho0) hb)
              have n1_:=Aside0.mk (Kd.R_elder' (by (with_reducible repeat (first|apply Kd.R_alloc|apply Kd.R_drewN|apply Kd.R_drew));exact HO390.out) (Kd.R_base ho0) hb)
              have n2_:=Aside0.mk (Kd.R_elder' (by (with_reducible repeat (first|apply Kd.R_alloc|apply Kd.R_drewN|apply Kd.R_drew));exact HO403.out) (Kd.R_base ho0) hb)
              have n3_:=Aside0.mk (Kd.R_lower (Kd.R_new' ho0 (Kd.R_lt (by (with_reducible repeat (first|apply Kd.R_alloc|apply Kd.R_drewN|apply Kd.R_drew));exact HO403.out))) (below_size (bl_ HB.out)))
              have n4_:=Aside0.mk (bb_ BK391.out hb)
              have n5_:=Aside0.mk (bb_ BK392.out hb)
              have n6_:=Aside0.mk (below_step (bl_ HB.out) hb)
              clear HO387
              clear HO390
              clear HO403
              clear BK391
              clear BK392
              clear HB
              have HO387:=n0_
              have HO390:=n1_
              have HO403:=n2_
              have HO412:=n3_
              have BK391:=n4_
              have BK392:=n5_
              have HB:=n6_
              clear n0_ n1_ n2_ n3_ n4_ n5_ n6_
              (try clear hb)
              (try clear hb2)
              (try clear hk)
              (try clear hi)
              (try clear ho0)
              obtain ⟨Ao42,co42,eo42⟩:=Kd.R_slice HO403.out
              (first|subst eo42|(injection eo42 with f1_ f2_ f3_;have f4_:=f1_.symm;have f5_:=f3_.symm;clear f1_ f2_ f3_;subst f4_;subst f5_))
              obtain ⟨Ao43,co43,eo43⟩:=Kd.R_slice HO412.out
              (first|subst eo43|(injection eo43 with f1_ f2_ f3_;have f4_:=f1_.symm;have f5_:=f3_.symm;clear f1_ f2_ f3_;subst f4_;subst f5_))
              refine hK.out _ _ ⟨((cb_ HB.out hw394_0:_)),((cb_ HB.out hw394_1:_)),((cb_ HB.out hw394_2:_)),((cb_ HB.out hw394_3:_)),((cb_ HB.out hw394_4:_)),((cb_ HB.out hw394_5:_)),((cb_ HB.out hw395_0:_)),((cb_ HB.out hw395_1:_)),((cb_ HB.out hw395_2:_)),((cb_ HB.out hw395_3:_)),((cb_ HB.out hw395_4:_)),((cb_ HB.out hw395_5:_)),((cb_ HB.out hw396_0:_)),((cb_ HB.out hw396_1:_)),((cb_ HB.out hw396_2:_)),((cb_ HB.out hw396_3:_)),((cb_ HB.out hw396_4:_)),((cb_ HB.out hw396_5:_)),((cb_ HB.out hw397_0:_)),((cb_ HB.out hw397_1:_)),((cb_ HB.out hw397_2:_)),((cb_ HB.out hw397_3:_)),((cb_ HB.out hw397_4:_)),((cb_ HB.out hw405_0:_)),((cb_ HB.out hw405_1:_)),((cb_ HB.out hw405_2:_)),((cb_ HB.out hw405_3:_)),((cb_ HB.out hw405_4:_)),((cb_ HB.out hw405_5:_)),((cb_ HB.out hw406_0:_)),((cb_ HB.out hw406_1:_)),((cb_ HB.out hw406_2:_)),((cb_ HB.out hw406_3:_)),((cb_ HB.out hw406_4:_)),((cb_ HB.out hw415_0:_)),((cb_ HB.out hw415_1:_)),((cb_ HB.out hw415_2:_)),((cb_ HB.out hw415_3:_)),((cb_ HB.out hw415_4:_)),((cb_ HB.out hw415_5:_)),((cb_ HB.out hw397_0:_)),((cb_ HB.out hw397_1:_)),((cb_ HB.out hw397_2:_)),((cb_ HB.out hw397_3:_)),((cb_ HB.out hw397_4:_)),((cb_ HB.out hw417_0:_)),((cb_ HB.out hw417_1:_)),((cb_ HB.out hw417_2:_)),((cb_ HB.out hw417_3:_)),((cb_ HB.out hw417_4:_)),((cb_ HB.out hw417_5:_)),((cb_ HB.out hw406_0:_)),((cb_ HB.out hw406_1:_)),((cb_ HB.out hw406_2:_)),((cb_ HB.out hw406_3:_)),((cb_ HB.out hw406_4:_))⟩ (fun hHeld=>?_)
              clear hK K
              refine norm_ (a':=?_) ?_ ?_
              rotate_left
              ·show Act.put _ (some 64) _=_
               simp only [Act.put,List.setIfInBounds_toArray,List.set_cons_zero,List.set_cons_succ,i64_w,i32_w]
               rfl
              refine one_ (i:=39) (N:=some 65) (flg 55 4503599627370495) rfl rfl (one_of HT_.out (by kernel_rfl)) (by decide) (fun K hK=>?_)
              refine goes_ Tryd.func26 (by kernel_rfl) rfl #[.agg #[.string t398,.string t399,.int .i64 t400,.slice Ao42 t401.length co42,.int .i64 t404],.agg #[.string t407,.string t408,.int .i64 t409,.slice Ao43 t410.length co43,.int .i64 t413]] (by rfl) rfl rfl ar_ ?_
              with_reducible refine (tree_SameExpr.calls kj2 t398 t399 t400 _ _ t401 t404 t407 t408 t409 _ _ t410 t413 t414 _ ?side1 ?side2 ?side3 ?side4 A37.out).mono ?_
              (case side1=>repeat (first|exact (Kd.R_reads' HO403.out).2.2|(with_reducible refine Kd.C_alloc ?_ _)|(with_reducible refine Kd.C_drewN ?_ _)|(with_reducible refine Kd.C_drew ?_)))
              (case side2=>exact (Kd.R_reads' HO403.out).2.1)
              (case side3=>repeat (first|exact (Kd.R_reads' HO412.out).2.2|(with_reducible refine Kd.C_alloc ?_ _)|(with_reducible refine Kd.C_drewN ?_ _)|(with_reducible refine Kd.C_drew ?_)))
              (case side4=>exact (Kd.R_reads' HO412.out).2.1)
              rintro e w44 ⟨rfl,hb⟩
              refine ⟨_,rfl,?_⟩
              have n0_:=Aside0.mk (Kd.R_below (by (with_reducible repeat (first|apply Kd.R_alloc|apply Kd.R_drewN|apply Kd.R_drew));exact HO387.out) hb)
              have n1_:=Aside0.mk (Kd.R_below (by (with_reducible repeat (first|apply Kd.R_alloc|apply Kd.R_drewN|apply Kd.R_drew));exact HO390.out) hb)
              have n2_:=Aside0.mk (Kd.R_below (by (with_reducible repeat (first|apply Kd.R_alloc|apply Kd.R_drewN|apply Kd.R_drew));exact HO403.out) hb)
              have n3_:=Aside0.mk (Kd.R_below (by (with_reducible repeat (first|apply Kd.R_alloc|apply Kd.R_drewN|apply Kd.R_drew));exact HO412.out) hb)
              have n4_:=Aside0.mk (bb_ BK391.out hb)
              have n5_:=Aside0.mk (bb_ BK392.out hb)
              have n6_:=Aside0.mk (below_step (bl_ HB.out) hb)
              clear HO387
              clear HO390
              clear HO403
              clear HO412
              clear BK391
              clear BK392
              clear HB
              have HO387:=n0_
              have HO390:=n1_
              have HO403:=n2_
              have HO412:=n3_
              have BK391:=n4_
              have BK392:=n5_
              have HB:=n6_
              clear n0_ n1_ n2_ n3_ n4_ n5_ n6_
              (try clear hb)
              (try clear hb2)
              (try clear hk)
              (try clear hi)
              refine hK.out _ _ ⟨((cb_ HB.out hw394_0:_)),((cb_ HB.out hw394_1:_)),((cb_ HB.out hw394_2:_)),((cb_ HB.out hw394_3:_)),((cb_ HB.out hw394_4:_)),((cb_ HB.out hw394_5:_)),((cb_ HB.out hw395_0:_)),((cb_ HB.out hw395_1:_)),((cb_ HB.out hw395_2:_)),((cb_ HB.out hw395_3:_)),((cb_ HB.out hw395_4:_)),((cb_ HB.out hw395_5:_)),((cb_ HB.out hw396_0:_)),((cb_ HB.out hw396_1:_)),((cb_ HB.out hw396_2:_)),((cb_ HB.out hw396_3:_)),((cb_ HB.out hw396_4:_)),((cb_ HB.out hw396_5:_)),((cb_ HB.out hw397_0:_)),((cb_ HB.out hw397_1:_)),((cb_ HB.out hw397_2:_)),((cb_ HB.out hw397_3:_)),((cb_ HB.out hw397_4:_)),((cb_ HB.out hw405_0:_)),((cb_ HB.out hw405_1:_)),((cb_ HB.out hw405_2:_)),((cb_ HB.out hw405_3:_)),((cb_ HB.out hw405_4:_)),((cb_ HB.out hw405_5:_)),((cb_ HB.out hw406_0:_)),((cb_ HB.out hw406_1:_)),((cb_ HB.out hw406_2:_)),((cb_ HB.out hw406_3:_)),((cb_ HB.out hw406_4:_)),((cb_ HB.out hw415_0:_)),((cb_ HB.out hw415_1:_)),((cb_ HB.out hw415_2:_)),((cb_ HB.out hw415_3:_)),((cb_ HB.out hw415_4:_)),((cb_ HB.out hw415_5:_)),((cb_ HB.out hw397_0:_)),((cb_ HB.out hw397_1:_)),((cb_ HB.out hw397_2:_)),((cb_ HB.out hw397_3:_)),((cb_ HB.out hw397_4:_)),((cb_ HB.out hw417_0:_)),((cb_ HB.out hw417_1:_)),((cb_ HB.out hw417_2:_)),((cb_ HB.out hw417_3:_)),((cb_ HB.out hw417_4:_)),((cb_ HB.out hw417_5:_)),((cb_ HB.out hw406_0:_)),((cb_ HB.out hw406_1:_)),((cb_ HB.out hw406_2:_)),((cb_ HB.out hw406_3:_)),((cb_ HB.out hw406_4:_))⟩ (fun hHeld=>?_)
              clear hK K
              refine norm_ (a':=?_) ?_ ?_
              rotate_left
              ·show Act.put _ (some 65) _=_
               simp only [Act.put,List.setIfInBounds_toArray,List.set_cons_zero,List.set_cons_succ,i64_w,i32_w]
               rfl
              refine one_ (i:=52) (N:=some 78) (flg 55 9007199254740991) rfl rfl (one_of HT_.out (by kernel_rfl)) (by decide) (fun K hK=>?_)
              refine goes_ Tryd.func27 (by kernel_rfl) rfl #[.agg #[.string ((rd_T24 ((rd_T29 l0 0).f2) 0).f0),.string ((rd_T24 ((rd_T29 l0 0).f2) 0).f1),.int .i64 ((rd_T24 ((rd_T29 l0 0).f2) 0).f2),.slice A397_3 ((rd_T24 ((rd_T29 l0 0).f2) 0).f3).length c397_3,.int .i64 ((rd_T24 ((rd_T29 l0 0).f2) 0).f4)],.agg #[.string ((rd_T24 ((rd_T29 l1 0).f2) 0).f0),.string ((rd_T24 ((rd_T29 l1 0).f2) 0).f1),.int .i64 ((rd_T24 ((rd_T29 l1 0).f2) 0).f2),.slice A406_3 ((rd_T24 ((rd_T29 l1 0).f2) 0).f3).length c406_3,.int .i64 ((rd_T24 ((rd_T29 l1 0).f2) 0).f4)]] (by rfl) rfl rfl ar_ ?_
              with_reducible refine (helmsmanref12_SameExpr.calls kj2 ((rd_T24 ((rd_T29 l0 0).f2) 0).f0) ((rd_T24 ((rd_T29 l0 0).f2) 0).f1) ((rd_T24 ((rd_T29 l0 0).f2) 0).f2) _ _ ((rd_T24 ((rd_T29 l0 0).f2) 0).f3) ((rd_T24 ((rd_T29 l0 0).f2) 0).f4) ((rd_T24 ((rd_T29 l1 0).f2) 0).f0) ((rd_T24 ((rd_T29 l1 0).f2) 0).f1) ((rd_T24 ((rd_T29 l1 0).f2) 0).f2) _ _ ((rd_T24 ((rd_T29 l1 0).f2) 0).f3) ((rd_T24 ((rd_T29 l1 0).f2) 0).f4) t419 _ ?side1 ?side2 ?side3 ?side4 A38.out).mono ?_
              (case side1=>exact kc_ HR397_3.out HB.out)
              (case side2=>exact HC397_3.out)
              (case side3=>exact kc_ HR406_3.out HB.out)
              (case side4=>exact HC406_3.out)
              rintro e w45 ⟨rfl,hb⟩
              refine ⟨_,rfl,?_⟩
              have n0_:=Aside0.mk (Kd.R_below (by (with_reducible repeat (first|apply Kd.R_alloc|apply Kd.R_drewN|apply Kd.R_drew));exact HO387.out) hb)
              have n1_:=Aside0.mk (Kd.R_below (by (with_reducible repeat (first|apply Kd.R_alloc|apply Kd.R_drewN|apply Kd.R_drew));exact HO390.out) hb)
              have n2_:=Aside0.mk (Kd.R_below (by (with_reducible repeat (first|apply Kd.R_alloc|apply Kd.R_drewN|apply Kd.R_drew));exact HO403.out) hb)
              have n3_:=Aside0.mk (Kd.R_below (by (with_reducible repeat (first|apply Kd.R_alloc|apply Kd.R_drewN|apply Kd.R_drew));exact HO412.out) hb)
              have n4_:=Aside0.mk (bb_ BK391.out hb)
              have n5_:=Aside0.mk (bb_ BK392.out hb)
              have n6_:=Aside0.mk (below_step (bl_ HB.out) hb)
              clear HO387
              clear HO390
              clear HO403
              clear HO412
              clear BK391
              clear BK392
              clear HB
              have HO387:=n0_
              have HO390:=n1_
              have HO403:=n2_
              have HO412:=n3_
              have BK391:=n4_
              have BK392:=n5_
              have HB:=n6_
              clear n0_ n1_ n2_ n3_ n4_ n5_ n6_
              (try clear hb)
              (try clear hb2)
              (try clear hk)
              (try clear hi)
              refine hK.out _ _ ⟨((cb_ HB.out hw394_0:_)),((cb_ HB.out hw394_1:_)),((cb_ HB.out hw394_2:_)),((cb_ HB.out hw394_3:_)),((cb_ HB.out hw394_4:_)),((cb_ HB.out hw394_5:_)),((cb_ HB.out hw395_0:_)),((cb_ HB.out hw395_1:_)),((cb_ HB.out hw395_2:_)),((cb_ HB.out hw395_3:_)),((cb_ HB.out hw395_4:_)),((cb_ HB.out hw395_5:_)),((cb_ HB.out hw396_0:_)),((cb_ HB.out hw396_1:_)),((cb_ HB.out hw396_2:_)),((cb_ HB.out hw396_3:_)),((cb_ HB.out hw396_4:_)),((cb_ HB.out hw396_5:_)),((cb_ HB.out hw397_0:_)),((cb_ HB.out hw397_1:_)),((cb_ HB.out hw397_2:_)),((cb_ HB.out hw397_3:_)),((cb_ HB.out hw397_4:_)),((cb_ HB.out hw405_0:_)),((cb_ HB.out hw405_1:_)),((cb_ HB.out hw405_2:_)),((cb_ HB.out hw405_3:_)),((cb_ HB.out hw405_4:_)),((cb_ HB.out hw405_5:_)),((cb_ HB.out hw406_0:_)),((cb_ HB.out hw406_1:_)),((cb_ HB.out hw406_2:_)),((cb_ HB.out hw406_3:_)),((cb_ HB.out hw406_4:_)),((cb_ HB.out hw415_0:_)),((cb_ HB.out hw415_1:_)),((cb_ HB.out hw415_2:_)),((cb_ HB.out hw415_3:_)),((cb_ HB.out hw415_4:_)),((cb_ HB.out hw415_5:_)),((cb_ HB.out hw397_0:_)),((cb_ HB.out hw397_1:_)),((cb_ HB.out hw397_2:_)),((cb_ HB.out hw397_3:_)),((cb_ HB.out hw397_4:_)),((cb_ HB.out hw417_0:_)),((cb_ HB.out hw417_1:_)),((cb_ HB.out hw417_2:_)),((cb_ HB.out hw417_3:_)),((cb_ HB.out hw417_4:_)),((cb_ HB.out hw417_5:_)),((cb_ HB.out hw406_0:_)),((cb_ HB.out hw406_1:_)),((cb_ HB.out hw406_2:_)),((cb_ HB.out hw406_3:_)),((cb_ HB.out hw406_4:_))⟩ (fun hHeld=>?_)
              clear hK K
              refine norm_ (a':=?_) ?_ ?_
              rotate_left
              ·show Act.put _ (some 78) _=_
               simp only [Act.put,List.setIfInBounds_toArray,List.set_cons_zero,List.set_cons_succ,i64_w,i32_w]
               rfl
              refine pur_ 53 79 (flg 55 18014398509481983) rfl rfl (any_of HT_.out (by kernel_rfl)) (fun _ _ _ h=>h) ?_
              refine pur_ 54 80 (flg 55 36028797018963967) rfl rfl (any_of HT_.out (by kernel_rfl)) (fun _ _ _ h=>h) ?_
              refine done_ (done_of HT_.out (by kernel_rfl)) ?_
              try go_wp2
              go_meet
              case rel=>exact ⟨_,((t414 != t419)),rf_,H',⟨by have:=HJ2.out;first|omega|exact Nat.le_refl _⟩,⟨by (with_reducible repeat (first|apply Kd.R_alloc|apply Kd.R_drewN|apply Kd.R_drew));exact Kd.R_mono HO387.out (fun _ hk=>hk.1.1.2)⟩,⟨by (with_reducible repeat (first|apply Kd.R_alloc|apply Kd.R_drewN|apply Kd.R_drew));exact Kd.R_mono HO390.out (fun _ hk=>hk.1.1.2)⟩,⟨kb_ BK391.out⟩,⟨kb_ BK392.out⟩,⟨bl_ HB.out⟩⟩
            ·rw [if_neg c35] at H
             exact absurd H (by simp)
           ·rw [if_neg c33] at H
            exact absurd H (by simp)
          ·rw [if_neg c32] at H
           have c32b0:decide (0 < (((rd_T29 l1 0).f2).length:Int))=false:=decide_eq_false c32
           have c32b1:decide (0 < ((rd_T29 l1 0).f2).length)=false:=decide_eq_false (by omega)
           clear c32
           have H':=Aside0.mk H
           clear H
           try go_wp2
           have n0_:=Aside0.mk (Kd.R_drew HO387.out)
           have n1_:=Aside0.mk (Kd.R_drew HO390.out)
           have n2_:=Aside0.mk (blk_drew BK391.out)
           have n3_:=Aside0.mk (blk_drew BK392.out)
           have n4_:=Aside0.mk (below_drew1 HB.out)
           clear HO387
           clear HO390
           clear BK391
           clear BK392
           clear HB
           have HO387:=n0_
           have HO390:=n1_
           have BK391:=n2_
           have BK392:=n3_
           have HB:=n4_
           clear n0_ n1_ n2_ n3_ n4_
           have p394:0≤(0:Int):=(by omega)
           have q394:0 < (l0.length:Int):=of_decide_eq_true as_
           obtain ⟨ad394,A394_2,c394_2,A394_3,c394_3,A394_4,c394_4,e394,hx394_0,hx394_1,hx394_2,hx394_3,hx394_4,hx394_5,hl394_2,hi394_2,hl394_3,hi394_3,hl394_4,hi394_4⟩:=at_T29 HR0.out 0 p394 q394
           have hw394_5:=hx394_5
           (try rw [show ((0:Int)).toNat=0 from rfl] at hw394_5)
           (try rw [show 0 * 6=0 from rfl] at hw394_5)
           (try rw [Addr.add_zero'] at hw394_5)
           have hw394_4:=hx394_4
           (try rw [show ((0:Int)).toNat=0 from rfl] at hw394_4)
           (try rw [show 0 * 6=0 from rfl] at hw394_4)
           (try rw [Addr.add_zero'] at hw394_4)
           have hw394_3:=hx394_3
           (try rw [show ((0:Int)).toNat=0 from rfl] at hw394_3)
           (try rw [show 0 * 6=0 from rfl] at hw394_3)
           (try rw [Addr.add_zero'] at hw394_3)
           have hw394_2:=hx394_2
           (try rw [show ((0:Int)).toNat=0 from rfl] at hw394_2)
           (try rw [show 0 * 6=0 from rfl] at hw394_2)
           (try rw [Addr.add_zero'] at hw394_2)
           have hw394_1:=hx394_1
           (try rw [show ((0:Int)).toNat=0 from rfl] at hw394_1)
           (try rw [show 0 * 6=0 from rfl] at hw394_1)
           (try rw [Addr.add_zero'] at hw394_1)
           have hw394_0:=hx394_0
           (try rw [show ((0:Int)).toNat=0 from rfl] at hw394_0)
           (try rw [show 0 * 6=0 from rfl] at hw394_0)
           (try rw [Addr.add_zero'] at hw394_0)
           cases e394
           have qi394:(0 < l0.length)=True:=eq_true (by omega)
           (try rw [show ((0:Int)).toNat=0 from rfl] at hx394_0)
           (try rw [show 0 * 6=0 from rfl] at hx394_0)
           (try rw [Addr.add_zero'] at hx394_0)
           (try rw [show ((0:Int)).toNat=0 from rfl] at hx394_1)
           (try rw [show 0 * 6=0 from rfl] at hx394_1)
           (try rw [Addr.add_zero'] at hx394_1)
           (try rw [show ((0:Int)).toNat=0 from rfl] at hx394_2)
           (try rw [show 0 * 6=0 from rfl] at hx394_2)
           (try rw [Addr.add_zero'] at hx394_2)
           (try rw [show ((0:Int)).toNat=0 from rfl] at hx394_3)
           (try rw [show 0 * 6=0 from rfl] at hx394_3)
           (try rw [Addr.add_zero'] at hx394_3)
           (try rw [show ((0:Int)).toNat=0 from rfl] at hx394_4)
           (try rw [show 0 * 6=0 from rfl] at hx394_4)
           (try rw [Addr.add_zero'] at hx394_4)
           (try rw [show ((0:Int)).toNat=0 from rfl] at hx394_5)
           (try rw [show 0 * 6=0 from rfl] at hx394_5)
           (try rw [Addr.add_zero'] at hx394_5)
           replace hx394_0:=(cb_ HB.out hx394_0:_)
           replace hx394_1:=(cb_ HB.out hx394_1:_)
           replace hx394_2:=(cb_ HB.out hx394_2:_)
           replace hx394_3:=(cb_ HB.out hx394_3:_)
           replace hx394_4:=(cb_ HB.out hx394_4:_)
           replace hx394_5:=(cb_ HB.out hx394_5:_)
           have HR394_2:=Aside0.mk hi394_2
           have HC394_2:=Aside0.mk hl394_2
           clear hi394_2 hl394_2
           have HR394_3:=Aside0.mk hi394_3
           have HC394_3:=Aside0.mk hl394_3
           clear hi394_3 hl394_3
           have HR394_4:=Aside0.mk hi394_4
           have HC394_4:=Aside0.mk hl394_4
           clear hi394_4 hl394_4
           replace p394:=eq_true p394
           replace q394:=eq_true q394
           have p395:0≤(0:Int):=(by omega)
           have q395:0 < (l1.length:Int):=of_decide_eq_true as_
           obtain ⟨ad395,A395_2,c395_2,A395_3,c395_3,A395_4,c395_4,e395,hx395_0,hx395_1,hx395_2,hx395_3,hx395_4,hx395_5,hl395_2,hi395_2,hl395_3,hi395_3,hl395_4,hi395_4⟩:=at_T29 HR1.out 0 p395 q395
           have hw395_5:=hx395_5
           (try rw [show ((0:Int)).toNat=0 from rfl] at hw395_5)
           (try rw [show 0 * 6=0 from rfl] at hw395_5)
           (try rw [Addr.add_zero'] at hw395_5)
           have hw395_4:=hx395_4
           (try rw [show ((0:Int)).toNat=0 from rfl] at hw395_4)
           (try rw [show 0 * 6=0 from rfl] at hw395_4)
           (try rw [Addr.add_zero'] at hw395_4)
           have hw395_3:=hx395_3
           (try rw [show ((0:Int)).toNat=0 from rfl] at hw395_3)
           (try rw [show 0 * 6=0 from rfl] at hw395_3)
           (try rw [Addr.add_zero'] at hw395_3)
           have hw395_2:=hx395_2
           (try rw [show ((0:Int)).toNat=0 from rfl] at hw395_2)
           (try rw [show 0 * 6=0 from rfl] at hw395_2)
           (try rw [Addr.add_zero'] at hw395_2)
           have hw395_1:=hx395_1
           (try rw [show ((0:Int)).toNat=0 from rfl] at hw395_1)
           (try rw [show 0 * 6=0 from rfl] at hw395_1)
           (try rw [Addr.add_zero'] at hw395_1)
           have hw395_0:=hx395_0
           (try rw [show ((0:Int)).toNat=0 from rfl] at hw395_0)
           (try rw [show 0 * 6=0 from rfl] at hw395_0)
           (try rw [Addr.add_zero'] at hw395_0)
           cases e395
           have qi395:(0 < l1.length)=True:=eq_true (by omega)
           (try rw [show ((0:Int)).toNat=0 from rfl] at hx395_0)
           (try rw [show 0 * 6=0 from rfl] at hx395_0)
           (try rw [Addr.add_zero'] at hx395_0)
           (try rw [show ((0:Int)).toNat=0 from rfl] at hx395_1)
           (try rw [show 0 * 6=0 from rfl] at hx395_1)
           (try rw [Addr.add_zero'] at hx395_1)
           (try rw [show ((0:Int)).toNat=0 from rfl] at hx395_2)
           (try rw [show 0 * 6=0 from rfl] at hx395_2)
           (try rw [Addr.add_zero'] at hx395_2)
           (try rw [show ((0:Int)).toNat=0 from rfl] at hx395_3)
           (try rw [show 0 * 6=0 from rfl] at hx395_3)
           (try rw [Addr.add_zero'] at hx395_3)
           (try rw [show ((0:Int)).toNat=0 from rfl] at hx395_4)
           (try rw [show 0 * 6=0 from rfl] at hx395_4)
           (try rw [Addr.add_zero'] at hx395_4)
           (try rw [show ((0:Int)).toNat=0 from rfl] at hx395_5)
           (try rw [show 0 * 6=0 from rfl] at hx395_5)
           (try rw [Addr.add_zero'] at hx395_5)
           replace hx395_0:=(cb_ HB.out hx395_0:_)
           replace hx395_1:=(cb_ HB.out hx395_1:_)
           replace hx395_2:=(cb_ HB.out hx395_2:_)
           replace hx395_3:=(cb_ HB.out hx395_3:_)
           replace hx395_4:=(cb_ HB.out hx395_4:_)
           replace hx395_5:=(cb_ HB.out hx395_5:_)
           have HR395_2:=Aside0.mk hi395_2
           have HC395_2:=Aside0.mk hl395_2
           clear hi395_2 hl395_2
           have HR395_3:=Aside0.mk hi395_3
           have HC395_3:=Aside0.mk hl395_3
           clear hi395_3 hl395_3
           have HR395_4:=Aside0.mk hi395_4
           have HC395_4:=Aside0.mk hl395_4
           clear hi395_4 hl395_4
           replace p395:=eq_true p395
           replace q395:=eq_true q395
           as_aux_lemma=>
            refine start_ (n:=55) (S:=fun w'=>w'.cell? ad394=some (.string ((rd_T29 l0 0).f0))∧w'.cell? ⟨ad394.block,ad394.off+1,none⟩=some (.string ((rd_T29 l0 0).f1))∧w'.cell? ⟨ad394.block,ad394.off+2,none⟩=some (.slice A394_2 ((rd_T29 l0 0).f2).length c394_2)∧w'.cell? ⟨ad394.block,ad394.off+3,none⟩=some (.slice A394_3 ((rd_T29 l0 0).f3).length c394_3)∧w'.cell? ⟨ad394.block,ad394.off+4,none⟩=some (.slice A394_4 ((rd_T29 l0 0).f4).length c394_4)∧w'.cell? ⟨ad394.block,ad394.off+5,none⟩=some (.int .i64 ((rd_T29 l0 0).f5))∧w'.cell? ad395=some (.string ((rd_T29 l1 0).f0))∧w'.cell? ⟨ad395.block,ad395.off+1,none⟩=some (.string ((rd_T29 l1 0).f1))∧w'.cell? ⟨ad395.block,ad395.off+2,none⟩=some (.slice A395_2 ((rd_T29 l1 0).f2).length c395_2)∧w'.cell? ⟨ad395.block,ad395.off+3,none⟩=some (.slice A395_3 ((rd_T29 l1 0).f3).length c395_3)∧w'.cell? ⟨ad395.block,ad395.off+4,none⟩=some (.slice A395_4 ((rd_T29 l1 0).f4).length c395_4)∧w'.cell? ⟨ad395.block,ad395.off+5,none⟩=some (.int .i64 ((rd_T29 l1 0).f5))) (ds:=[]) (flg 55 0) (by kernel_rfl) rfl (by kernel_rfl) ⟨((cb_ HB.out hw394_0:_)),((cb_ HB.out hw394_1:_)),((cb_ HB.out hw394_2:_)),((cb_ HB.out hw394_3:_)),((cb_ HB.out hw394_4:_)),((cb_ HB.out hw394_5:_)),((cb_ HB.out hw395_0:_)),((cb_ HB.out hw395_1:_)),((cb_ HB.out hw395_2:_)),((cb_ HB.out hw395_3:_)),((cb_ HB.out hw395_4:_)),((cb_ HB.out hw395_5:_))⟩ (fun hHeld=>?_);refine with_tabW helmsmanlaw12_TreeSame.tab5 helmsmanlaw12_TreeSame.bits5 (fun HT_ HW_=>?_)
            generalize w26.drew=w46 at HO387 HO390 BK391 BK392 HB HR394_2 HR394_3 HR394_4 HR395_2 HR395_3 HR395_4 hx394_0 hx394_1 hx394_2 hx394_3 hx394_4 hx394_5 hx395_0 hx395_1 hx395_2 hx395_3 hx395_4 hx395_5 hHeld ⊢
            refine pur_ 0 26 (flg 55 1) rfl rfl (any_of HT_.out (by kernel_rfl)) (fun _ _ _ h=>h) ?_
            refine pur_ 1 27 (flg 55 3) rfl rfl (any_of HT_.out (by kernel_rfl)) (fun _ _ _ h=>h) ?_
            refine pur_ 2 28 (flg 55 7) rfl rfl (any_of HT_.out (by kernel_rfl)) (fun _ _ _ h=>h) ?_
            refine pur_ 3 29 (flg 55 15) rfl rfl (any_of HT_.out (by kernel_rfl)) (fun _ _ _ h=>h) ?_
            refine pur_ 4 30 (flg 55 31) rfl rfl (any_of HT_.out (by kernel_rfl)) (fun _ _ _ h=>h) ?_
            refine pur_ 5 31 (flg 55 63) rfl rfl (any_of HT_.out (by kernel_rfl)) (fun _ _ _ h=>h) ?_
            refine pur_ 6 32 (flg 55 127) rfl rfl (any_of HT_.out (by kernel_rfl)) (fun _ _ _ h=>h) ?_
            refine pur_ 7 33 (flg 55 255) rfl rfl (any_of HT_.out (by kernel_rfl)) (fun _ _ _ h=>h) ?_
            refine pur_ 8 34 (flg 55 511) rfl rfl (any_of HT_.out (by kernel_rfl)) (fun _ _ _ h=>h) ?_
            refine pur_ 9 35 (flg 55 1023) rfl rfl (any_of HT_.out (by kernel_rfl)) (fun _ _ _ h=>h) ?_
            refine pur_ 10 36 (flg 55 2047) rfl rfl (any_of HT_.out (by kernel_rfl)) (fun _ _ _ h=>h) ?_
            refine pur_ 11 37 (flg 55 4095) rfl rfl (any_of HT_.out (by kernel_rfl)) (fun _ _ _ h=>h) ?_
            refine tak_ 12 38 (flg 55 8191) rfl rfl (take_ofW HT_.out HW_.out (by kernel_rfl)) (fun _ _ _ h=>h) hHeld ?_
            refine pur_ 13 39 (flg 55 16383) rfl rfl (any_of HT_.out (by kernel_rfl)) (fun _ _ _ h=>h) ?_
            refine pur_ 14 40 (flg 55 32767) rfl rfl (any_of HT_.out (by kernel_rfl)) (fun _ _ _ h=>h) ?_
            refine pur_ 15 41 (flg 55 65535) rfl rfl (any_of HT_.out (by kernel_rfl)) (fun _ _ _ h=>h) ?_
            refine pur_ 16 42 (flg 55 131071) rfl rfl (any_of HT_.out (by kernel_rfl)) (fun _ _ _ h=>h) ?_
            refine pur_ 17 43 (flg 55 262143) rfl rfl (any_of HT_.out (by kernel_rfl)) (fun _ _ _ h=>h) ?_
            refine pur_ 18 44 (flg 55 524287) rfl rfl (any_of HT_.out (by kernel_rfl)) (fun _ _ _ h=>h) ?_
            refine pur_ 19 45 (flg 55 1048575) rfl rfl (any_of HT_.out (by kernel_rfl)) (fun _ _ _ h=>h) ?_
            refine tak_ 20 46 (flg 55 2097151) rfl rfl (take_ofW HT_.out HW_.out (by kernel_rfl)) (fun _ _ _ h=>h) hHeld ?_
            refine pur_ 21 47 (flg 55 4194303) rfl rfl (any_of HT_.out (by kernel_rfl)) (fun _ _ _ h=>h) ?_
            refine pur_ 22 48 (flg 55 8388607) rfl rfl (any_of HT_.out (by kernel_rfl)) (fun _ _ _ h=>h) ?_
            refine pur_ 23 49 (flg 55 16777215) rfl rfl (any_of HT_.out (by kernel_rfl)) (fun _ _ _ h=>h) ?_
            refine pur_ 24 50 (flg 55 33554431) rfl rfl (any_of HT_.out (by kernel_rfl)) (fun _ _ _ h=>h) ?_
            refine skp_ 25 51 (flg 55 67108863) rfl rfl (any_of HT_.out (by kernel_rfl)) (fun _ _ _ h=>h) ?_
            refine skp_ 26 52 (flg 55 134217727) rfl rfl (any_of HT_.out (by kernel_rfl)) (fun _ _ _ h=>h) ?_
            refine skp_ 27 53 (flg 55 268435455) rfl rfl (any_of HT_.out (by kernel_rfl)) (fun _ _ _ h=>h) ?_
            refine skp_ 28 54 (flg 55 536870911) rfl rfl (any_of HT_.out (by kernel_rfl)) (fun _ _ _ h=>h) ?_
            refine skp_ 29 55 (flg 55 1073741823) rfl rfl (any_of HT_.out (by kernel_rfl)) (fun _ _ _ h=>h) ?_
            refine skp_ 30 56 (flg 55 2147483647) rfl rfl (any_of HT_.out (by kernel_rfl)) (fun _ _ _ h=>h) ?_
            refine skp_ 31 57 (flg 55 4294967295) rfl rfl (any_of HT_.out (by kernel_rfl)) (fun _ _ _ h=>h) ?_
            refine skp_ 32 58 (flg 55 8589934591) rfl rfl (any_of HT_.out (by kernel_rfl)) (fun _ _ _ h=>h) ?_
            refine skp_ 33 59 (flg 55 17179869183) rfl rfl (any_of HT_.out (by kernel_rfl)) (fun _ _ _ h=>h) ?_
            refine skp_ 34 60 (flg 55 34359738367) rfl rfl (any_of HT_.out (by kernel_rfl)) (fun _ _ _ h=>h) ?_
            refine skp_ 35 61 (flg 55 68719476735) rfl rfl (any_of HT_.out (by kernel_rfl)) (fun _ _ _ h=>h) ?_
            refine skp_ 36 62 (flg 55 137438953471) rfl rfl (any_of HT_.out (by kernel_rfl)) (fun _ _ _ h=>h) ?_
            refine skp_ 37 63 (flg 55 274877906943) rfl rfl (any_of HT_.out (by kernel_rfl)) (fun _ _ _ h=>h) ?_
            refine skp_ 38 64 (flg 55 549755813887) rfl rfl (any_of HT_.out (by kernel_rfl)) (fun _ _ _ h=>h) ?_
            refine skp_ 39 65 (flg 55 1099511627775) rfl rfl (any_of HT_.out (by kernel_rfl)) (fun _ _ _ h=>h) ?_
            refine skp_ 40 66 (flg 55 2199023255551) rfl rfl (any_of HT_.out (by kernel_rfl)) (fun _ _ _ h=>h) ?_
            refine skp_ 41 67 (flg 55 4398046511103) rfl rfl (any_of HT_.out (by kernel_rfl)) (fun _ _ _ h=>h) ?_
            refine skp_ 42 68 (flg 55 8796093022207) rfl rfl (any_of HT_.out (by kernel_rfl)) (fun _ _ _ h=>h) ?_
            refine skp_ 43 69 (flg 55 17592186044415) rfl rfl (any_of HT_.out (by kernel_rfl)) (fun _ _ _ h=>h) ?_
            refine skp_ 44 70 (flg 55 35184372088831) rfl rfl (any_of HT_.out (by kernel_rfl)) (fun _ _ _ h=>h) ?_
            refine skp_ 45 71 (flg 55 70368744177663) rfl rfl (any_of HT_.out (by kernel_rfl)) (fun _ _ _ h=>h) ?_
            refine skp_ 46 72 (flg 55 140737488355327) rfl rfl (any_of HT_.out (by kernel_rfl)) (fun _ _ _ h=>h) ?_
            refine skp_ 47 73 (flg 55 281474976710655) rfl rfl (any_of HT_.out (by kernel_rfl)) (fun _ _ _ h=>h) ?_
            refine skp_ 48 74 (flg 55 562949953421311) rfl rfl (any_of HT_.out (by kernel_rfl)) (fun _ _ _ h=>h) ?_
            refine skp_ 49 75 (flg 55 1125899906842623) rfl rfl (any_of HT_.out (by kernel_rfl)) (fun _ _ _ h=>h) ?_
            refine skp_ 50 76 (flg 55 2251799813685247) rfl rfl (any_of HT_.out (by kernel_rfl)) (fun _ _ _ h=>h) ?_
            refine skp_ 51 77 (flg 55 4503599627370495) rfl rfl (any_of HT_.out (by kernel_rfl)) (fun _ _ _ h=>h) ?_
            refine skp_ 52 78 (flg 55 9007199254740991) rfl rfl (any_of HT_.out (by kernel_rfl)) (fun _ _ _ h=>h) ?_
            refine skp_ 53 79 (flg 55 18014398509481983) rfl rfl (any_of HT_.out (by kernel_rfl)) (fun _ _ _ h=>h) ?_
            refine pur_ 54 80 (flg 55 36028797018963967) rfl rfl (any_of HT_.out (by kernel_rfl)) (fun _ _ _ h=>h) ?_
            refine done_ (done_of HT_.out (by kernel_rfl)) ?_
            try go_wp2
            go_meet
            case rel=>exact ⟨_,(false),rf_,H',⟨by have:=HJ2.out;first|omega|exact Nat.le_refl _⟩,⟨by (with_reducible repeat (first|apply Kd.R_alloc|apply Kd.R_drewN|apply Kd.R_drew));exact Kd.R_mono HO387.out (fun _ hk=>hk.2)⟩,⟨by (with_reducible repeat (first|apply Kd.R_alloc|apply Kd.R_drewN|apply Kd.R_drew));exact Kd.R_mono HO390.out (fun _ hk=>hk.2)⟩,⟨kb_ BK391.out⟩,⟨kb_ BK392.out⟩,⟨bl_ HB.out⟩⟩
         ·rw [if_neg c31] at H
          exact absurd H (by simp)
        ·rw [if_neg c30] at H
         have c30b0:decide (0 < (((rd_T29 l0 0).f2).length:Int))=false:=decide_eq_false c30
         have c30b1:decide (0 < ((rd_T29 l0 0).f2).length)=false:=decide_eq_false (by omega)
         clear c30
         have H':=Aside0.mk H
         clear H
         try go_wp2
         have n0_:=Aside0.mk (Kd.R_drew HO387.out)
         have n1_:=Aside0.mk (Kd.R_drew HO390.out)
         have n2_:=Aside0.mk (blk_drew BK391.out)
         have n3_:=Aside0.mk (blk_drew BK392.out)
         have n4_:=Aside0.mk (below_drew1 HB.out)
         clear HO387
         clear HO390
         clear BK391
         clear BK392
         clear HB
         have HO387:=n0_
         have HO390:=n1_
         have BK391:=n2_
         have BK392:=n3_
         have HB:=n4_
         clear n0_ n1_ n2_ n3_ n4_
         have p394:0≤(0:Int):=(by omega)
         have q394:0 < (l0.length:Int):=of_decide_eq_true as_
         obtain ⟨ad394,A394_2,c394_2,A394_3,c394_3,A394_4,c394_4,e394,hx394_0,hx394_1,hx394_2,hx394_3,hx394_4,hx394_5,hl394_2,hi394_2,hl394_3,hi394_3,hl394_4,hi394_4⟩:=at_T29 HR0.out 0 p394 q394
         have hw394_5:=hx394_5
         (try rw [show ((0:Int)).toNat=0 from rfl] at hw394_5)
         (try rw [show 0 * 6=0 from rfl] at hw394_5)
         (try rw [Addr.add_zero'] at hw394_5)
         have hw394_4:=hx394_4
         (try rw [show ((0:Int)).toNat=0 from rfl] at hw394_4)
         (try rw [show 0 * 6=0 from rfl] at hw394_4)
         (try rw [Addr.add_zero'] at hw394_4)
         have hw394_3:=hx394_3
         (try rw [show ((0:Int)).toNat=0 from rfl] at hw394_3)
         (try rw [show 0 * 6=0 from rfl] at hw394_3)
         (try rw [Addr.add_zero'] at hw394_3)
         have hw394_2:=hx394_2
         (try rw [show ((0:Int)).toNat=0 from rfl] at hw394_2)
         (try rw [show 0 * 6=0 from rfl] at hw394_2)
         (try rw [Addr.add_zero'] at hw394_2)
         have hw394_1:=hx394_1
         (try rw [show ((0:Int)).toNat=0 from rfl] at hw394_1)
         (try rw [show 0 * 6=0 from rfl] at hw394_1)
         (try rw [Addr.add_zero'] at hw394_1)
         have hw394_0:=hx394_0
         (try rw [show ((0:Int)).toNat=0 from rfl] at hw394_0)
         (try rw [show 0 * 6=0 from rfl] at hw394_0)
         (try rw [Addr.add_zero'] at hw394_0)
         cases e394
         have qi394:(0 < l0.length)=True:=eq_true (by omega)
         (try rw [show ((0:Int)).toNat=0 from rfl] at hx394_0)
         (try rw [show 0 * 6=0 from rfl] at hx394_0)
         (try rw [Addr.add_zero'] at hx394_0)
         (try rw [show ((0:Int)).toNat=0 from rfl] at hx394_1)
         (try rw [show 0 * 6=0 from rfl] at hx394_1)
         (try rw [Addr.add_zero'] at hx394_1)
         (try rw [show ((0:Int)).toNat=0 from rfl] at hx394_2)
         (try rw [show 0 * 6=0 from rfl] at hx394_2)
         (try rw [Addr.add_zero'] at hx394_2)
         (try rw [show ((0:Int)).toNat=0 from rfl] at hx394_3)
         (try rw [show 0 * 6=0 from rfl] at hx394_3)
         (try rw [Addr.add_zero'] at hx394_3)
         (try rw [show ((0:Int)).toNat=0 from rfl] at hx394_4)
         (try rw [show 0 * 6=0 from rfl] at hx394_4)
         (try rw [Addr.add_zero'] at hx394_4)
         (try rw [show ((0:Int)).toNat=0 from rfl] at hx394_5)
         (try rw [show 0 * 6=0 from rfl] at hx394_5)
         (try rw [Addr.add_zero'] at hx394_5)
         replace hx394_0:=(cb_ HB.out hx394_0:_)
         replace hx394_1:=(cb_ HB.out hx394_1:_)
         replace hx394_2:=(cb_ HB.out hx394_2:_)
         replace hx394_3:=(cb_ HB.out hx394_3:_)
         replace hx394_4:=(cb_ HB.out hx394_4:_)
         replace hx394_5:=(cb_ HB.out hx394_5:_)
         have HR394_2:=Aside0.mk hi394_2
         have HC394_2:=Aside0.mk hl394_2
         clear hi394_2 hl394_2
         have HR394_3:=Aside0.mk hi394_3
         have HC394_3:=Aside0.mk hl394_3
         clear hi394_3 hl394_3
         have HR394_4:=Aside0.mk hi394_4
         have HC394_4:=Aside0.mk hl394_4
         clear hi394_4 hl394_4
         replace p394:=eq_true p394
         replace q394:=eq_true q394
         as_aux_lemma=>
          refine start_ (n:=55) (S:=fun w'=>w'.cell? ad394=some (.string ((rd_T29 l0 0).f0))∧w'.cell? ⟨ad394.block,ad394.off+1,none⟩=some (.string ((rd_T29 l0 0).f1))∧w'.cell? ⟨ad394.block,ad394.off+2,none⟩=some (.slice A394_2 ((rd_T29 l0 0).f2).length c394_2)∧w'.cell? ⟨ad394.block,ad394.off+3,none⟩=some (.slice A394_3 ((rd_T29 l0 0).f3).length c394_3)∧w'.cell? ⟨ad394.block,ad394.off+4,none⟩=some (.slice A394_4 ((rd_T29 l0 0).f4).length c394_4)∧w'.cell? ⟨ad394.block,ad394.off+5,none⟩=some (.int .i64 ((rd_T29 l0 0).f5))) (ds:=[]) (flg 55 0) (by kernel_rfl) rfl (by kernel_rfl) ⟨((cb_ HB.out hw394_0:_)),((cb_ HB.out hw394_1:_)),((cb_ HB.out hw394_2:_)),((cb_ HB.out hw394_3:_)),((cb_ HB.out hw394_4:_)),((cb_ HB.out hw394_5:_))⟩ (fun hHeld=>?_);refine with_tabW helmsmanlaw12_TreeSame.tab5 helmsmanlaw12_TreeSame.bits5 (fun HT_ HW_=>?_)
          generalize w26.drew=w47 at HO387 HO390 BK391 BK392 HB HR394_2 HR394_3 HR394_4 hx394_0 hx394_1 hx394_2 hx394_3 hx394_4 hx394_5 hHeld ⊢
          refine pur_ 0 26 (flg 55 1) rfl rfl (any_of HT_.out (by kernel_rfl)) (fun _ _ _ h=>h) ?_
          refine pur_ 1 27 (flg 55 3) rfl rfl (any_of HT_.out (by kernel_rfl)) (fun _ _ _ h=>h) ?_
          refine pur_ 2 28 (flg 55 7) rfl rfl (any_of HT_.out (by kernel_rfl)) (fun _ _ _ h=>h) ?_
          refine pur_ 3 29 (flg 55 15) rfl rfl (any_of HT_.out (by kernel_rfl)) (fun _ _ _ h=>h) ?_
          refine pur_ 4 30 (flg 55 31) rfl rfl (any_of HT_.out (by kernel_rfl)) (fun _ _ _ h=>h) ?_
          refine pur_ 5 31 (flg 55 63) rfl rfl (any_of HT_.out (by kernel_rfl)) (fun _ _ _ h=>h) ?_
          refine pur_ 6 32 (flg 55 127) rfl rfl (any_of HT_.out (by kernel_rfl)) (fun _ _ _ h=>h) ?_
          refine pur_ 7 33 (flg 55 255) rfl rfl (any_of HT_.out (by kernel_rfl)) (fun _ _ _ h=>h) ?_
          refine pur_ 8 34 (flg 55 511) rfl rfl (any_of HT_.out (by kernel_rfl)) (fun _ _ _ h=>h) ?_
          refine pur_ 9 35 (flg 55 1023) rfl rfl (any_of HT_.out (by kernel_rfl)) (fun _ _ _ h=>h) ?_
          refine pur_ 10 36 (flg 55 2047) rfl rfl (any_of HT_.out (by kernel_rfl)) (fun _ _ _ h=>h) ?_
          refine pur_ 11 37 (flg 55 4095) rfl rfl (any_of HT_.out (by kernel_rfl)) (fun _ _ _ h=>h) ?_
          refine tak_ 12 38 (flg 55 8191) rfl rfl (take_ofW HT_.out HW_.out (by kernel_rfl)) (fun _ _ _ h=>h) hHeld ?_
          refine pur_ 13 39 (flg 55 16383) rfl rfl (any_of HT_.out (by kernel_rfl)) (fun _ _ _ h=>h) ?_
          refine pur_ 14 40 (flg 55 32767) rfl rfl (any_of HT_.out (by kernel_rfl)) (fun _ _ _ h=>h) ?_
          refine pur_ 15 41 (flg 55 65535) rfl rfl (any_of HT_.out (by kernel_rfl)) (fun _ _ _ h=>h) ?_
          refine pur_ 16 42 (flg 55 131071) rfl rfl (any_of HT_.out (by kernel_rfl)) (fun _ _ _ h=>h) ?_
          refine skp_ 17 43 (flg 55 262143) rfl rfl (any_of HT_.out (by kernel_rfl)) (fun _ _ _ h=>h) ?_
          refine skp_ 18 44 (flg 55 524287) rfl rfl (any_of HT_.out (by kernel_rfl)) (fun _ _ _ h=>h) ?_
          refine skp_ 19 45 (flg 55 1048575) rfl rfl (any_of HT_.out (by kernel_rfl)) (fun _ _ _ h=>h) ?_
          refine skp_ 20 46 (flg 55 2097151) rfl rfl (any_of HT_.out (by kernel_rfl)) (fun _ _ _ h=>h) ?_
          refine skp_ 21 47 (flg 55 4194303) rfl rfl (any_of HT_.out (by kernel_rfl)) (fun _ _ _ h=>h) ?_
          refine skp_ 22 48 (flg 55 8388607) rfl rfl (any_of HT_.out (by kernel_rfl)) (fun _ _ _ h=>h) ?_
          refine pur_ 23 49 (flg 55 16777215) rfl rfl (any_of HT_.out (by kernel_rfl)) (fun _ _ _ h=>h) ?_
          refine pur_ 24 50 (flg 55 33554431) rfl rfl (any_of HT_.out (by kernel_rfl)) (fun _ _ _ h=>h) ?_
          refine skp_ 25 51 (flg 55 67108863) rfl rfl (any_of HT_.out (by kernel_rfl)) (fun _ _ _ h=>h) ?_
          refine skp_ 26 52 (flg 55 134217727) rfl rfl (any_of HT_.out (by kernel_rfl)) (fun _ _ _ h=>h) ?_
          refine skp_ 27 53 (flg 55 268435455) rfl rfl (any_of HT_.out (by kernel_rfl)) (fun _ _ _ h=>h) ?_
          refine skp_ 28 54 (flg 55 536870911) rfl rfl (any_of HT_.out (by kernel_rfl)) (fun _ _ _ h=>h) ?_
          refine skp_ 29 55 (flg 55 1073741823) rfl rfl (any_of HT_.out (by kernel_rfl)) (fun _ _ _ h=>h) ?_
          refine skp_ 30 56 (flg 55 2147483647) rfl rfl (any_of HT_.out (by kernel_rfl)) (fun _ _ _ h=>h) ?_
          refine skp_ 31 57 (flg 55 4294967295) rfl rfl (any_of HT_.out (by kernel_rfl)) (fun _ _ _ h=>h) ?_
          refine skp_ 32 58 (flg 55 8589934591) rfl rfl (any_of HT_.out (by kernel_rfl)) (fun _ _ _ h=>h) ?_
          refine skp_ 33 59 (flg 55 17179869183) rfl rfl (any_of HT_.out (by kernel_rfl)) (fun _ _ _ h=>h) ?_
          refine skp_ 34 60 (flg 55 34359738367) rfl rfl (any_of HT_.out (by kernel_rfl)) (fun _ _ _ h=>h) ?_
          refine skp_ 35 61 (flg 55 68719476735) rfl rfl (any_of HT_.out (by kernel_rfl)) (fun _ _ _ h=>h) ?_
          refine skp_ 36 62 (flg 55 137438953471) rfl rfl (any_of HT_.out (by kernel_rfl)) (fun _ _ _ h=>h) ?_
          refine skp_ 37 63 (flg 55 274877906943) rfl rfl (any_of HT_.out (by kernel_rfl)) (fun _ _ _ h=>h) ?_
          refine skp_ 38 64 (flg 55 549755813887) rfl rfl (any_of HT_.out (by kernel_rfl)) (fun _ _ _ h=>h) ?_
          refine skp_ 39 65 (flg 55 1099511627775) rfl rfl (any_of HT_.out (by kernel_rfl)) (fun _ _ _ h=>h) ?_
          refine skp_ 40 66 (flg 55 2199023255551) rfl rfl (any_of HT_.out (by kernel_rfl)) (fun _ _ _ h=>h) ?_
          refine skp_ 41 67 (flg 55 4398046511103) rfl rfl (any_of HT_.out (by kernel_rfl)) (fun _ _ _ h=>h) ?_
          refine skp_ 42 68 (flg 55 8796093022207) rfl rfl (any_of HT_.out (by kernel_rfl)) (fun _ _ _ h=>h) ?_
          refine skp_ 43 69 (flg 55 17592186044415) rfl rfl (any_of HT_.out (by kernel_rfl)) (fun _ _ _ h=>h) ?_
          refine skp_ 44 70 (flg 55 35184372088831) rfl rfl (any_of HT_.out (by kernel_rfl)) (fun _ _ _ h=>h) ?_
          refine skp_ 45 71 (flg 55 70368744177663) rfl rfl (any_of HT_.out (by kernel_rfl)) (fun _ _ _ h=>h) ?_
          refine skp_ 46 72 (flg 55 140737488355327) rfl rfl (any_of HT_.out (by kernel_rfl)) (fun _ _ _ h=>h) ?_
          refine skp_ 47 73 (flg 55 281474976710655) rfl rfl (any_of HT_.out (by kernel_rfl)) (fun _ _ _ h=>h) ?_
          refine skp_ 48 74 (flg 55 562949953421311) rfl rfl (any_of HT_.out (by kernel_rfl)) (fun _ _ _ h=>h) ?_
          refine skp_ 49 75 (flg 55 1125899906842623) rfl rfl (any_of HT_.out (by kernel_rfl)) (fun _ _ _ h=>h) ?_
          refine skp_ 50 76 (flg 55 2251799813685247) rfl rfl (any_of HT_.out (by kernel_rfl)) (fun _ _ _ h=>h) ?_
          refine skp_ 51 77 (flg 55 4503599627370495) rfl rfl (any_of HT_.out (by kernel_rfl)) (fun _ _ _ h=>h) ?_
          refine skp_ 52 78 (flg 55 9007199254740991) rfl rfl (any_of HT_.out (by kernel_rfl)) (fun _ _ _ h=>h) ?_
          refine skp_ 53 79 (flg 55 18014398509481983) rfl rfl (any_of HT_.out (by kernel_rfl)) (fun _ _ _ h=>h) ?_
          refine pur_ 54 80 (flg 55 36028797018963967) rfl rfl (any_of HT_.out (by kernel_rfl)) (fun _ _ _ h=>h) ?_
          refine done_ (done_of HT_.out (by kernel_rfl)) ?_
          try go_wp2
          go_meet
          case rel=>exact ⟨_,(false),rf_,H',⟨by have:=HJ2.out;first|omega|exact Nat.le_refl _⟩,⟨by (with_reducible repeat (first|apply Kd.R_alloc|apply Kd.R_drewN|apply Kd.R_drew));exact Kd.R_mono HO387.out (fun _ hk=>hk.2)⟩,⟨by (with_reducible repeat (first|apply Kd.R_alloc|apply Kd.R_drewN|apply Kd.R_drew));exact Kd.R_mono HO390.out (fun _ hk=>hk.2)⟩,⟨kb_ BK391.out⟩,⟨kb_ BK392.out⟩,⟨bl_ HB.out⟩⟩
       ·rw [if_neg c29] at H
        exact absurd H (by simp)
      ·rw [if_neg c28] at H
       have c28b0:decide (0 < (l1.length:Int))=false:=decide_eq_false c28
       have c28b1:decide (0 < l1.length)=false:=decide_eq_false (by omega)
       clear c28
       have H':=Aside0.mk H
       clear H
       try go_wp2
       have n0_:=Aside0.mk (Kd.R_drew HO387.out)
       have n1_:=Aside0.mk (Kd.R_drew HO390.out)
       have n2_:=Aside0.mk (blk_drew BK391.out)
       have n3_:=Aside0.mk (blk_drew BK392.out)
       have n4_:=Aside0.mk (below_drew1 HB.out)
       clear HO387
       clear HO390
       clear BK391
       clear BK392
       clear HB
       have HO387:=n0_
       have HO390:=n1_
       have BK391:=n2_
       have BK392:=n3_
       have HB:=n4_
       clear n0_ n1_ n2_ n3_ n4_
       as_aux_lemma=>
        refine start_ (n:=55) (S:=fun w'=>True) (ds:=[]) (flg 55 0) (by kernel_rfl) rfl (by kernel_rfl) trivial (fun hHeld=>?_);refine with_tabW helmsmanlaw12_TreeSame.tab5 helmsmanlaw12_TreeSame.bits5 (fun HT_ HW_=>?_)
        generalize w26.drew=w48 at HO387 HO390 BK391 BK392 HB hHeld ⊢
        refine pur_ 0 26 (flg 55 1) rfl rfl (any_of HT_.out (by kernel_rfl)) (fun _ _ _ h=>h) ?_
        refine pur_ 1 27 (flg 55 3) rfl rfl (any_of HT_.out (by kernel_rfl)) (fun _ _ _ h=>h) ?_
        refine pur_ 2 28 (flg 55 7) rfl rfl (any_of HT_.out (by kernel_rfl)) (fun _ _ _ h=>h) ?_
        refine pur_ 3 29 (flg 55 15) rfl rfl (any_of HT_.out (by kernel_rfl)) (fun _ _ _ h=>h) ?_
        refine pur_ 4 30 (flg 55 31) rfl rfl (any_of HT_.out (by kernel_rfl)) (fun _ _ _ h=>h) ?_
        refine pur_ 5 31 (flg 55 63) rfl rfl (any_of HT_.out (by kernel_rfl)) (fun _ _ _ h=>h) ?_
        refine pur_ 6 32 (flg 55 127) rfl rfl (any_of HT_.out (by kernel_rfl)) (fun _ _ _ h=>h) ?_
        refine pur_ 7 33 (flg 55 255) rfl rfl (any_of HT_.out (by kernel_rfl)) (fun _ _ _ h=>h) ?_
        refine pur_ 8 34 (flg 55 511) rfl rfl (any_of HT_.out (by kernel_rfl)) (fun _ _ _ h=>h) ?_
        refine skp_ 9 35 (flg 55 1023) rfl rfl (any_of HT_.out (by kernel_rfl)) (fun _ _ _ h=>h) ?_
        refine skp_ 10 36 (flg 55 2047) rfl rfl (any_of HT_.out (by kernel_rfl)) (fun _ _ _ h=>h) ?_
        refine skp_ 11 37 (flg 55 4095) rfl rfl (any_of HT_.out (by kernel_rfl)) (fun _ _ _ h=>h) ?_
        refine skp_ 12 38 (flg 55 8191) rfl rfl (any_of HT_.out (by kernel_rfl)) (fun _ _ _ h=>h) ?_
        refine skp_ 13 39 (flg 55 16383) rfl rfl (any_of HT_.out (by kernel_rfl)) (fun _ _ _ h=>h) ?_
        refine skp_ 14 40 (flg 55 32767) rfl rfl (any_of HT_.out (by kernel_rfl)) (fun _ _ _ h=>h) ?_
        refine pur_ 15 41 (flg 55 65535) rfl rfl (any_of HT_.out (by kernel_rfl)) (fun _ _ _ h=>h) ?_
        refine pur_ 16 42 (flg 55 131071) rfl rfl (any_of HT_.out (by kernel_rfl)) (fun _ _ _ h=>h) ?_
        refine skp_ 17 43 (flg 55 262143) rfl rfl (any_of HT_.out (by kernel_rfl)) (fun _ _ _ h=>h) ?_
        refine skp_ 18 44 (flg 55 524287) rfl rfl (any_of HT_.out (by kernel_rfl)) (fun _ _ _ h=>h) ?_
        refine skp_ 19 45 (flg 55 1048575) rfl rfl (any_of HT_.out (by kernel_rfl)) (fun _ _ _ h=>h) ?_
        refine skp_ 20 46 (flg 55 2097151) rfl rfl (any_of HT_.out (by kernel_rfl)) (fun _ _ _ h=>h) ?_
        refine skp_ 21 47 (flg 55 4194303) rfl rfl (any_of HT_.out (by kernel_rfl)) (fun _ _ _ h=>h) ?_
        refine skp_ 22 48 (flg 55 8388607) rfl rfl (any_of HT_.out (by kernel_rfl)) (fun _ _ _ h=>h) ?_
        refine pur_ 23 49 (flg 55 16777215) rfl rfl (any_of HT_.out (by kernel_rfl)) (fun _ _ _ h=>h) ?_
        refine pur_ 24 50 (flg 55 33554431) rfl rfl (any_of HT_.out (by kernel_rfl)) (fun _ _ _ h=>h) ?_
        refine skp_ 25 51 (flg 55 67108863) rfl rfl (any_of HT_.out (by kernel_rfl)) (fun _ _ _ h=>h) ?_
        refine skp_ 26 52 (flg 55 134217727) rfl rfl (any_of HT_.out (by kernel_rfl)) (fun _ _ _ h=>h) ?_
        refine skp_ 27 53 (flg 55 268435455) rfl rfl (any_of HT_.out (by kernel_rfl)) (fun _ _ _ h=>h) ?_
        refine skp_ 28 54 (flg 55 536870911) rfl rfl (any_of HT_.out (by kernel_rfl)) (fun _ _ _ h=>h) ?_
        refine skp_ 29 55 (flg 55 1073741823) rfl rfl (any_of HT_.out (by kernel_rfl)) (fun _ _ _ h=>h) ?_
        refine skp_ 30 56 (flg 55 2147483647) rfl rfl (any_of HT_.out (by kernel_rfl)) (fun _ _ _ h=>h) ?_
        refine skp_ 31 57 (flg 55 4294967295) rfl rfl (any_of HT_.out (by kernel_rfl)) (fun _ _ _ h=>h) ?_
        refine skp_ 32 58 (flg 55 8589934591) rfl rfl (any_of HT_.out (by kernel_rfl)) (fun _ _ _ h=>h) ?_
        refine skp_ 33 59 (flg 55 17179869183) rfl rfl (any_of HT_.out (by kernel_rfl)) (fun _ _ _ h=>h) ?_
        refine skp_ 34 60 (flg 55 34359738367) rfl rfl (any_of HT_.out (by kernel_rfl)) (fun _ _ _ h=>h) ?_
        refine skp_ 35 61 (flg 55 68719476735) rfl rfl (any_of HT_.out (by kernel_rfl)) (fun _ _ _ h=>h) ?_
        refine skp_ 36 62 (flg 55 137438953471) rfl rfl (any_of HT_.out (by kernel_rfl)) (fun _ _ _ h=>h) ?_
        refine skp_ 37 63 (flg 55 274877906943) rfl rfl (any_of HT_.out (by kernel_rfl)) (fun _ _ _ h=>h) ?_
        refine skp_ 38 64 (flg 55 549755813887) rfl rfl (any_of HT_.out (by kernel_rfl)) (fun _ _ _ h=>h) ?_
        refine skp_ 39 65 (flg 55 1099511627775) rfl rfl (any_of HT_.out (by kernel_rfl)) (fun _ _ _ h=>h) ?_
        refine skp_ 40 66 (flg 55 2199023255551) rfl rfl (any_of HT_.out (by kernel_rfl)) (fun _ _ _ h=>h) ?_
        refine skp_ 41 67 (flg 55 4398046511103) rfl rfl (any_of HT_.out (by kernel_rfl)) (fun _ _ _ h=>h) ?_
        refine skp_ 42 68 (flg 55 8796093022207) rfl rfl (any_of HT_.out (by kernel_rfl)) (fun _ _ _ h=>h) ?_
        refine skp_ 43 69 (flg 55 17592186044415) rfl rfl (any_of HT_.out (by kernel_rfl)) (fun _ _ _ h=>h) ?_
        refine skp_ 44 70 (flg 55 35184372088831) rfl rfl (any_of HT_.out (by kernel_rfl)) (fun _ _ _ h=>h) ?_
        refine skp_ 45 71 (flg 55 70368744177663) rfl rfl (any_of HT_.out (by kernel_rfl)) (fun _ _ _ h=>h) ?_
        refine skp_ 46 72 (flg 55 140737488355327) rfl rfl (any_of HT_.out (by kernel_rfl)) (fun _ _ _ h=>h) ?_
        refine skp_ 47 73 (flg 55 281474976710655) rfl rfl (any_of HT_.out (by kernel_rfl)) (fun _ _ _ h=>h) ?_
        refine skp_ 48 74 (flg 55 562949953421311) rfl rfl (any_of HT_.out (by kernel_rfl)) (fun _ _ _ h=>h) ?_
        refine skp_ 49 75 (flg 55 1125899906842623) rfl rfl (any_of HT_.out (by kernel_rfl)) (fun _ _ _ h=>h) ?_
        refine skp_ 50 76 (flg 55 2251799813685247) rfl rfl (any_of HT_.out (by kernel_rfl)) (fun _ _ _ h=>h) ?_
        refine skp_ 51 77 (flg 55 4503599627370495) rfl rfl (any_of HT_.out (by kernel_rfl)) (fun _ _ _ h=>h) ?_
        refine skp_ 52 78 (flg 55 9007199254740991) rfl rfl (any_of HT_.out (by kernel_rfl)) (fun _ _ _ h=>h) ?_
        refine skp_ 53 79 (flg 55 18014398509481983) rfl rfl (any_of HT_.out (by kernel_rfl)) (fun _ _ _ h=>h) ?_
        refine pur_ 54 80 (flg 55 36028797018963967) rfl rfl (any_of HT_.out (by kernel_rfl)) (fun _ _ _ h=>h) ?_
        refine done_ (done_of HT_.out (by kernel_rfl)) ?_
        try go_wp2
        go_meet
        case rel=>exact ⟨_,(false),rf_,H',⟨by have:=HJ2.out;first|omega|exact Nat.le_refl _⟩,⟨by (with_reducible repeat (first|apply Kd.R_alloc|apply Kd.R_drewN|apply Kd.R_drew));exact Kd.R_mono HO387.out (fun _ hk=>hk.2)⟩,⟨by (with_reducible repeat (first|apply Kd.R_alloc|apply Kd.R_drewN|apply Kd.R_drew));exact Kd.R_mono HO390.out (fun _ hk=>hk.2)⟩,⟨kb_ BK391.out⟩,⟨kb_ BK392.out⟩,⟨bl_ HB.out⟩⟩
     ·rw [if_neg c27] at H
      have c27b0:decide (0 < (l0.length:Int))=false:=decide_eq_false c27
      have c27b1:decide (0 < l0.length)=false:=decide_eq_false (by omega)
      clear c27
      (first|rw [c27b0]|(simp only [i64_w,i32_w];rw [c27b0])|skip)
      have H':=Aside0.mk H
      clear H
      try go_wp2
      have n0_:=Aside0.mk (Kd.R_drew HO387.out)
      have n1_:=Aside0.mk (Kd.R_drew HO390.out)
      have n2_:=Aside0.mk (blk_drew BK391.out)
      have n3_:=Aside0.mk (blk_drew BK392.out)
      have n4_:=Aside0.mk (below_drew1 HB.out)
      clear HO387
      clear HO390
      clear BK391
      clear BK392
      clear HB
      have HO387:=n0_
      have HO390:=n1_
      have BK391:=n2_
      have BK392:=n3_
      have HB:=n4_
      clear n0_ n1_ n2_ n3_ n4_
      as_aux_lemma=>
       refine start_ (n:=55) (S:=fun w'=>True) (ds:=[]) (flg 55 0) (by kernel_rfl) rfl (by kernel_rfl) trivial (fun hHeld=>?_);refine with_tabW helmsmanlaw12_TreeSame.tab5 helmsmanlaw12_TreeSame.bits5 (fun HT_ HW_=>?_)
       generalize w26.drew=w49 at HO387 HO390 BK391 BK392 HB hHeld ⊢
       refine pur_ 0 26 (flg 55 1) rfl rfl (any_of HT_.out (by kernel_rfl)) (fun _ _ _ h=>h) ?_
       refine pur_ 1 27 (flg 55 3) rfl rfl (any_of HT_.out (by kernel_rfl)) (fun _ _ _ h=>h) ?_
       refine pur_ 2 28 (flg 55 7) rfl rfl (any_of HT_.out (by kernel_rfl)) (fun _ _ _ h=>h) ?_
       refine pur_ 3 29 (flg 55 15) rfl rfl (any_of HT_.out (by kernel_rfl)) (fun _ _ _ h=>h) ?_
       refine skp_ 4 30 (flg 55 31) rfl rfl (any_of HT_.out (by kernel_rfl)) (fun _ _ _ h=>h) ?_
       refine skp_ 5 31 (flg 55 63) rfl rfl (any_of HT_.out (by kernel_rfl)) (fun _ _ _ h=>h) ?_
       refine skp_ 6 32 (flg 55 127) rfl rfl (any_of HT_.out (by kernel_rfl)) (fun _ _ _ h=>h) ?_
       refine pur_ 7 33 (flg 55 255) rfl rfl (any_of HT_.out (by kernel_rfl)) (fun _ _ _ h=>h) ?_
       refine pur_ 8 34 (flg 55 511) rfl rfl (any_of HT_.out (by kernel_rfl)) (fun _ _ _ h=>h) ?_
       refine skp_ 9 35 (flg 55 1023) rfl rfl (any_of HT_.out (by kernel_rfl)) (fun _ _ _ h=>h) ?_
       refine skp_ 10 36 (flg 55 2047) rfl rfl (any_of HT_.out (by kernel_rfl)) (fun _ _ _ h=>h) ?_
       refine skp_ 11 37 (flg 55 4095) rfl rfl (any_of HT_.out (by kernel_rfl)) (fun _ _ _ h=>h) ?_
       refine skp_ 12 38 (flg 55 8191) rfl rfl (any_of HT_.out (by kernel_rfl)) (fun _ _ _ h=>h) ?_
       refine skp_ 13 39 (flg 55 16383) rfl rfl (any_of HT_.out (by kernel_rfl)) (fun _ _ _ h=>h) ?_
       refine skp_ 14 40 (flg 55 32767) rfl rfl (any_of HT_.out (by kernel_rfl)) (fun _ _ _ h=>h) ?_
       refine pur_ 15 41 (flg 55 65535) rfl rfl (any_of HT_.out (by kernel_rfl)) (fun _ _ _ h=>h) ?_
       refine pur_ 16 42 (flg 55 131071) rfl rfl (any_of HT_.out (by kernel_rfl)) (fun _ _ _ h=>h) ?_
       refine skp_ 17 43 (flg 55 262143) rfl rfl (any_of HT_.out (by kernel_rfl)) (fun _ _ _ h=>h) ?_
       refine skp_ 18 44 (flg 55 524287) rfl rfl (any_of HT_.out (by kernel_rfl)) (fun _ _ _ h=>h) ?_
       refine skp_ 19 45 (flg 55 1048575) rfl rfl (any_of HT_.out (by kernel_rfl)) (fun _ _ _ h=>h) ?_
       refine skp_ 20 46 (flg 55 2097151) rfl rfl (any_of HT_.out (by kernel_rfl)) (fun _ _ _ h=>h) ?_
       refine skp_ 21 47 (flg 55 4194303) rfl rfl (any_of HT_.out (by kernel_rfl)) (fun _ _ _ h=>h) ?_
       refine skp_ 22 48 (flg 55 8388607) rfl rfl (any_of HT_.out (by kernel_rfl)) (fun _ _ _ h=>h) ?_
       refine pur_ 23 49 (flg 55 16777215) rfl rfl (any_of HT_.out (by kernel_rfl)) (fun _ _ _ h=>h) ?_
       refine pur_ 24 50 (flg 55 33554431) rfl rfl (any_of HT_.out (by kernel_rfl)) (fun _ _ _ h=>h) ?_
       refine skp_ 25 51 (flg 55 67108863) rfl rfl (any_of HT_.out (by kernel_rfl)) (fun _ _ _ h=>h) ?_
       refine skp_ 26 52 (flg 55 134217727) rfl rfl (any_of HT_.out (by kernel_rfl)) (fun _ _ _ h=>h) ?_
       refine skp_ 27 53 (flg 55 268435455) rfl rfl (any_of HT_.out (by kernel_rfl)) (fun _ _ _ h=>h) ?_
       refine skp_ 28 54 (flg 55 536870911) rfl rfl (any_of HT_.out (by kernel_rfl)) (fun _ _ _ h=>h) ?_
       refine skp_ 29 55 (flg 55 1073741823) rfl rfl (any_of HT_.out (by kernel_rfl)) (fun _ _ _ h=>h) ?_
       refine skp_ 30 56 (flg 55 2147483647) rfl rfl (any_of HT_.out (by kernel_rfl)) (fun _ _ _ h=>h) ?_
       refine skp_ 31 57 (flg 55 4294967295) rfl rfl (any_of HT_.out (by kernel_rfl)) (fun _ _ _ h=>h) ?_
       refine skp_ 32 58 (flg 55 8589934591) rfl rfl (any_of HT_.out (by kernel_rfl)) (fun _ _ _ h=>h) ?_
       refine skp_ 33 59 (flg 55 17179869183) rfl rfl (any_of HT_.out (by kernel_rfl)) (fun _ _ _ h=>h) ?_
       refine skp_ 34 60 (flg 55 34359738367) rfl rfl (any_of HT_.out (by kernel_rfl)) (fun _ _ _ h=>h) ?_
       refine skp_ 35 61 (flg 55 68719476735) rfl rfl (any_of HT_.out (by kernel_rfl)) (fun _ _ _ h=>h) ?_
       refine skp_ 36 62 (flg 55 137438953471) rfl rfl (any_of HT_.out (by kernel_rfl)) (fun _ _ _ h=>h) ?_
       refine skp_ 37 63 (flg 55 274877906943) rfl rfl (any_of HT_.out (by kernel_rfl)) (fun _ _ _ h=>h) ?_
       refine skp_ 38 64 (flg 55 549755813887) rfl rfl (any_of HT_.out (by kernel_rfl)) (fun _ _ _ h=>h) ?_
       refine skp_ 39 65 (flg 55 1099511627775) rfl rfl (any_of HT_.out (by kernel_rfl)) (fun _ _ _ h=>h) ?_
       refine skp_ 40 66 (flg 55 2199023255551) rfl rfl (any_of HT_.out (by kernel_rfl)) (fun _ _ _ h=>h) ?_
       refine skp_ 41 67 (flg 55 4398046511103) rfl rfl (any_of HT_.out (by kernel_rfl)) (fun _ _ _ h=>h) ?_
       refine skp_ 42 68 (flg 55 8796093022207) rfl rfl (any_of HT_.out (by kernel_rfl)) (fun _ _ _ h=>h) ?_
       refine skp_ 43 69 (flg 55 17592186044415) rfl rfl (any_of HT_.out (by kernel_rfl)) (fun _ _ _ h=>h) ?_
       refine skp_ 44 70 (flg 55 35184372088831) rfl rfl (any_of HT_.out (by kernel_rfl)) (fun _ _ _ h=>h) ?_
       refine skp_ 45 71 (flg 55 70368744177663) rfl rfl (any_of HT_.out (by kernel_rfl)) (fun _ _ _ h=>h) ?_
       refine skp_ 46 72 (flg 55 140737488355327) rfl rfl (any_of HT_.out (by kernel_rfl)) (fun _ _ _ h=>h) ?_
       refine skp_ 47 73 (flg 55 281474976710655) rfl rfl (any_of HT_.out (by kernel_rfl)) (fun _ _ _ h=>h) ?_
       refine skp_ 48 74 (flg 55 562949953421311) rfl rfl (any_of HT_.out (by kernel_rfl)) (fun _ _ _ h=>h) ?_
       refine skp_ 49 75 (flg 55 1125899906842623) rfl rfl (any_of HT_.out (by kernel_rfl)) (fun _ _ _ h=>h) ?_
       refine skp_ 50 76 (flg 55 2251799813685247) rfl rfl (any_of HT_.out (by kernel_rfl)) (fun _ _ _ h=>h) ?_
       refine skp_ 51 77 (flg 55 4503599627370495) rfl rfl (any_of HT_.out (by kernel_rfl)) (fun _ _ _ h=>h) ?_
       refine skp_ 52 78 (flg 55 9007199254740991) rfl rfl (any_of HT_.out (by kernel_rfl)) (fun _ _ _ h=>h) ?_
       refine skp_ 53 79 (flg 55 18014398509481983) rfl rfl (any_of HT_.out (by kernel_rfl)) (fun _ _ _ h=>h) ?_
       refine pur_ 54 80 (flg 55 36028797018963967) rfl rfl (any_of HT_.out (by kernel_rfl)) (fun _ _ _ h=>h) ?_
       refine done_ (done_of HT_.out (by kernel_rfl)) ?_
       try go_wp2
       go_meet
       case rel=>exact ⟨_,(false),rf_,H',⟨by have:=HJ2.out;first|omega|exact Nat.le_refl _⟩,⟨by (with_reducible repeat (first|apply Kd.R_alloc|apply Kd.R_drewN|apply Kd.R_drew));exact Kd.R_mono HO387.out (fun _ hk=>hk.2)⟩,⟨by (with_reducible repeat (first|apply Kd.R_alloc|apply Kd.R_drewN|apply Kd.R_drew));exact Kd.R_mono HO390.out (fun _ hk=>hk.2)⟩,⟨kb_ BK391.out⟩,⟨kb_ BK392.out⟩,⟨bl_ HB.out⟩⟩
    case rest=>
     clear HC16
     (try clear c2);(try clear p2);(try clear c27);(try clear c27b0);(try clear c27b1);(try clear c28);(try clear c28b0);(try clear c28b1)
     obtain ⟨kq,x80_15,rfl,HA,HJ15,HO_392003,HO_393003,BK391,BK392,HB⟩:=hcut
     cases kq with
     | zero=>exact absurd HA.out (by simp [helmsmanlaw12_TreeSame.j1])
     | succ kj15=>
      have H:=HA.out
      clear HA
      simp only [helmsmanlaw12_TreeSame.j1] at H
      by_cases c50:x80_15=true
      ·subst c50
       have H1:(some false)=some r:=by rw [if_pos rfl] at H;exact H
       clear H
       have H:=H1
       clear H1
       obtain rfl:=Option.some.inj H
       go_wp2
       go_ret
       exact ⟨rt_,bl_ HB.out⟩
      ·replace c50:=Bool.eq_false_iff.mpr c50
       subst c50
       have H1:((helmsmanlaw12_alive.f).bind fun t420=>(if t420=true then ((tree_Same.f kj15 ([]:List (S79)) ([]:List (S80)) ([]:List (S66)) t385 ([]:List (S79)) ([]:List (S80)) ([]:List (S66)) t388).bind fun t421=>(if (t421 == t393)=true then (if t393=true then ((tree_Print.f ([]:List (S79)) ([]:List (S80)) ([]:List (S66)) t385).bind fun t422=>((tree_Print.f ([]:List (S79)) ([]:List (S80)) ([]:List (S66)) t388).bind fun t423=>(some (t422.toList == t423.toList)))) else (some true)) else (some false))) else (some false)))=some r:=by rw [if_neg (show ¬ (false=true) by decide)] at H;exact H
       clear H
       have H:=H1
       clear H1
       replace H:=Option.bind_eq_some_iff.mp H
       obtain ⟨t420,A510,H⟩:=H
       replace H:(if t420=true then ((tree_Same.f kj15 ([]:List (S79)) ([]:List (S80)) ([]:List (S66)) t385 ([]:List (S79)) ([]:List (S80)) ([]:List (S66)) t388).bind fun t421=>(if (t421 == t393)=true then (if t393=true then ((tree_Print.f ([]:List (S79)) ([]:List (S80)) ([]:List (S66)) t385).bind fun t422=>((tree_Print.f ([]:List (S79)) ([]:List (S80)) ([]:List (S66)) t388).bind fun t423=>(some (t422.toList == t423.toList)))) else (some true)) else (some false))) else (some false))=some r:=H
       have A51:=Aside0.mk A510
       clear A510
       by_cases c52:t420=true
       ·subst c52
        have H1:((tree_Same.f kj15 ([]:List (S79)) ([]:List (S80)) ([]:List (S66)) t385 ([]:List (S79)) ([]:List (S80)) ([]:List (S66)) t388).bind fun t421=>(if (t421 == t393)=true then (if t393=true then ((tree_Print.f ([]:List (S79)) ([]:List (S80)) ([]:List (S66)) t385).bind fun t422=>((tree_Print.f ([]:List (S79)) ([]:List (S80)) ([]:List (S66)) t388).bind fun t423=>(some (t422.toList == t423.toList)))) else (some true)) else (some false)))=some r:=by rw [if_pos rfl] at H;exact H
        clear H
        have H:=H1
        clear H1
        replace H:=Option.bind_eq_some_iff.mp H
        obtain ⟨t421,A530,H⟩:=H
        replace H:(if (t421 == t393)=true then (if t393=true then ((tree_Print.f ([]:List (S79)) ([]:List (S80)) ([]:List (S66)) t385).bind fun t422=>((tree_Print.f ([]:List (S79)) ([]:List (S80)) ([]:List (S66)) t388).bind fun t423=>(some (t422.toList == t423.toList)))) else (some true)) else (some false))=some r:=H
        have A53:=Aside0.mk A530
        clear A530
        by_cases c54:(t421 == t393)=true
        ·rw [if_pos c54] at H
         have c54b0:(t421 == t393)=true:=c54
         (try (have c54b1:decide (t421=t393)=true:=by simpa using c54))
         (try (have c54b2:(t421 == t393)=true:=by simpa using c54))
         clear c54
         by_cases c55:t393=true
         ·subst c55
          have H1:((tree_Print.f ([]:List (S79)) ([]:List (S80)) ([]:List (S66)) t385).bind fun t422=>((tree_Print.f ([]:List (S79)) ([]:List (S80)) ([]:List (S66)) t388).bind fun t423=>(some (t422.toList == t423.toList))))=some r:=by rw [if_pos rfl] at H;exact H
          clear H
          have H:=H1
          clear H1
          replace H:=Option.bind_eq_some_iff.mp H
          obtain ⟨t422,A560,H⟩:=H
          replace H:((tree_Print.f ([]:List (S79)) ([]:List (S80)) ([]:List (S66)) t388).bind fun t423=>(some (t422.toList == t423.toList)))=some r:=H
          have A56:=Aside0.mk A560
          clear A560
          replace H:=Option.bind_eq_some_iff.mp H
          obtain ⟨t423,A570,H⟩:=H
          replace H:(some (t422.toList == t423.toList))=some r:=H
          have A57:=Aside0.mk A570
          clear A570
          obtain rfl:=Option.some.inj H
          try go_wp2
          have n0_:=Aside0.mk (Kd.R_drew HO_392003.out)
          have n1_:=Aside0.mk (Kd.R_drew HO_393003.out)
          have n2_:=Aside0.mk (blk_drew BK391.out)
          have n3_:=Aside0.mk (blk_drew BK392.out)
          have n4_:=Aside0.mk (below_drew1 HB.out)
          clear HO_392003
          clear HO_393003
          clear BK391
          clear BK392
          clear HB
          have HO_392003:=n0_
          have HO_393003:=n1_
          have BK391:=n2_
          have BK392:=n3_
          have HB:=n4_
          clear n0_ n1_ n2_ n3_ n4_
          as_aux_lemma=>
           refine start_ (n:=20) (S:=fun w'=>w'.cell? ⟨gb391,0,none⟩=some (.slice none 0 0)∧w'.cell? ⟨gb391,1,none⟩=some (.slice none 0 0)∧w'.cell? ⟨gb391,2,none⟩=some (.slice none 0 0)∧w'.cell? ⟨gb391,3,none⟩=some (.slice Ao18 t385.length co18)∧w'.cell? ⟨gb392,0,none⟩=some (.slice none 0 0)∧w'.cell? ⟨gb392,1,none⟩=some (.slice none 0 0)∧w'.cell? ⟨gb392,2,none⟩=some (.slice none 0 0)∧w'.cell? ⟨gb392,3,none⟩=some (.slice Ao20 t388.length co20)) (ds:=[]) (flg 20 0) (by kernel_rfl) rfl (by kernel_rfl) ⟨zc_ BK391.out 0,zc_ BK391.out 1,zc_ BK391.out 2,zc_ BK391.out 3,zc_ BK392.out 0,zc_ BK392.out 1,zc_ BK392.out 2,zc_ BK392.out 3⟩ (fun hHeld=>?_);refine with_tabW helmsmanlaw12_TreeSame.tab7 helmsmanlaw12_TreeSame.bits7 (fun HT_ HW_=>?_)
           generalize wc.drew=w58 at HO_392003 HO_393003 BK391 BK392 HB hHeld ⊢
           refine one_ (i:=0) (N:=some 81) (flg 20 1) rfl rfl (one_of HT_.out (by kernel_rfl)) (by decide) (fun K hK=>?_)
           refine goes_ Tryd.func10 (by kernel_rfl) rfl #[] (by rfl) rfl rfl ar_ ?_
           with_reducible refine (helmsmanlaw12_alive.calls  true _ ?side1 A51.out).mono ?_
           (case side1=>exact hT.later (bl_ HB.out))
           rintro e w59 ⟨rfl,hb⟩
           refine ⟨_,rfl,?_⟩
           have n0_:=Aside0.mk (Kd.R_below (by (with_reducible repeat (first|apply Kd.R_alloc|apply Kd.R_drewN|apply Kd.R_drew));exact HO_392003.out) hb)
           have n1_:=Aside0.mk (Kd.R_below (by (with_reducible repeat (first|apply Kd.R_alloc|apply Kd.R_drewN|apply Kd.R_drew));exact HO_393003.out) hb)
           have n2_:=Aside0.mk (bb_ BK391.out hb)
           have n3_:=Aside0.mk (bb_ BK392.out hb)
           have n4_:=Aside0.mk (below_step (bl_ HB.out) hb)
           clear HO_392003
           clear HO_393003
           clear BK391
           clear BK392
           clear HB
           have HO_392003:=n0_
           have HO_393003:=n1_
           have BK391:=n2_
           have BK392:=n3_
           have HB:=n4_
           clear n0_ n1_ n2_ n3_ n4_
           (try clear hb)
           (try clear hb2)
           (try clear hk)
           (try clear hi)
           refine hK.out _ _ ⟨zc_ BK391.out 0,zc_ BK391.out 1,zc_ BK391.out 2,zc_ BK391.out 3,zc_ BK392.out 0,zc_ BK392.out 1,zc_ BK392.out 2,zc_ BK392.out 3⟩ (fun hHeld=>?_)
           clear hK K
           refine norm_ (a':=?_) ?_ ?_
           rotate_left
           ·show Act.put _ (some 81) _=_
            simp only [Act.put,List.setIfInBounds_toArray,List.set_cons_zero,List.set_cons_succ,i64_w,i32_w]
            rfl
           refine pur_ 1 82 (flg 20 3) rfl rfl (any_of HT_.out (by kernel_rfl)) (fun _ _ _ h=>h) ?_
           refine pur_ 5 86 (flg 20 35) rfl rfl (any_of HT_.out (by kernel_rfl)) (fun _ _ _ h=>h) ?_
           refine tak_ 2 83 (flg 20 39) rfl rfl (take_ofW HT_.out HW_.out (by kernel_rfl)) (fun _ _ _ h=>h) hHeld ?_
           refine tak_ 3 84 (flg 20 47) rfl rfl (take_ofW HT_.out HW_.out (by kernel_rfl)) (fun _ _ _ h=>h) hHeld ?_
           refine one_ (i:=4) (N:=some 85) (flg 20 63) rfl rfl (one_of HT_.out (by kernel_rfl)) (by decide) (fun K hK=>?_)
           refine goes_ Tryd.func28 (by kernel_rfl) rfl #[.agg #[.slice none 0 0,.slice none 0 0,.slice none 0 0,.slice Ao18 t385.length co18],.agg #[.slice none 0 0,.slice none 0 0,.slice none 0 0,.slice Ao20 t388.length co20]] (by rfl) rfl rfl ar_ ?_
           refine (tree_Same.calls kj15 _ _ ([]:List (S79)) _ _ ([]:List (S80)) _ _ ([]:List (S66)) _ _ t385 _ _ ([]:List (S79)) _ _ ([]:List (S80)) _ _ ([]:List (S66)) _ _ t388 t421 _ ?side1 ?side2 ?side3 ?side4 ?side5 ?side6 ?side7 ?side8 ?side9 ?side10 ?side11 ?side12 ?side13 ?side14 ?side15 ?side16 A53.out).mono ?_
           (case side1=>exact Kd.C_nil _ _)
           (case side2=>exact Nat.le_refl _)
           (case side3=>exact Kd.C_nil _ _)
           (case side4=>exact Nat.le_refl _)
           (case side5=>exact Kd.C_nil _ _)
           (case side6=>exact Nat.le_refl _)
           (case side7=>repeat (first|exact (Kd.R_reads' HO_392003.out).2.2|(with_reducible refine Kd.C_alloc ?_ _)|(with_reducible refine Kd.C_drewN ?_ _)|(with_reducible refine Kd.C_drew ?_)))
           (case side8=>exact (Kd.R_reads' HO_392003.out).2.1)
           (case side9=>exact Kd.C_nil _ _)
           (case side10=>exact Nat.le_refl _)
           (case side11=>exact Kd.C_nil _ _)
           (case side12=>exact Nat.le_refl _)
           (case side13=>exact Kd.C_nil _ _)
           (case side14=>exact Nat.le_refl _)
           (case side15=>repeat (first|exact (Kd.R_reads' HO_393003.out).2.2|(with_reducible refine Kd.C_alloc ?_ _)|(with_reducible refine Kd.C_drewN ?_ _)|(with_reducible refine Kd.C_drew ?_)))
           (case side16=>exact (Kd.R_reads' HO_393003.out).2.1)
           rintro e w60 ⟨rfl,hb⟩
           refine ⟨_,rfl,?_⟩
           have n0_:=Aside0.mk (Kd.R_below (by (with_reducible repeat (first|apply Kd.R_alloc|apply Kd.R_drewN|apply Kd.R_drew));exact HO_392003.out) hb)
           have n1_:=Aside0.mk (Kd.R_below (by (with_reducible repeat (first|apply Kd.R_alloc|apply Kd.R_drewN|apply Kd.R_drew));exact HO_393003.out) hb)
           have n2_:=Aside0.mk (bb_ BK391.out hb)
           have n3_:=Aside0.mk (bb_ BK392.out hb)
           have n4_:=Aside0.mk (below_step (bl_ HB.out) hb)
           clear HO_392003
           clear HO_393003
           clear BK391
           clear BK392
           clear HB
           have HO_392003:=n0_
           have HO_393003:=n1_
           have BK391:=n2_
           have BK392:=n3_
           have HB:=n4_
           clear n0_ n1_ n2_ n3_ n4_
           (try clear hb)
           (try clear hb2)
           (try clear hk)
           (try clear hi)
           refine hK.out _ _ ⟨zc_ BK391.out 0,zc_ BK391.out 1,zc_ BK391.out 2,zc_ BK391.out 3,zc_ BK392.out 0,zc_ BK392.out 1,zc_ BK392.out 2,zc_ BK392.out 3⟩ (fun hHeld=>?_)
           clear hK K
           refine norm_ (a':=?_) ?_ ?_
           rotate_left
           ·show Act.put _ (some 85) _=_
            simp only [Act.put,List.setIfInBounds_toArray,List.set_cons_zero,List.set_cons_succ,i64_w,i32_w]
            rfl
           refine pur_ 6 87 (flg 20 127) rfl rfl (any_of HT_.out (by kernel_rfl)) (fun _ _ _ h=>h) ?_
           refine pur_ 7 88 (flg 20 255) rfl rfl (any_of HT_.out (by kernel_rfl)) (fun _ _ _ h=>h) ?_
           refine pur_ 8 89 (flg 20 511) rfl rfl (any_of HT_.out (by kernel_rfl)) (fun _ _ _ h=>h) ?_
           refine pur_ 9 90 (flg 20 1023) rfl rfl (any_of HT_.out (by kernel_rfl)) (fun _ _ _ h=>h) ?_
           refine pur_ 10 91 (flg 20 2047) rfl rfl (any_of HT_.out (by kernel_rfl)) (fun _ _ _ h=>h) ?_
           refine pur_ 11 92 (flg 20 4095) rfl rfl (any_of HT_.out (by kernel_rfl)) (fun _ _ _ h=>h) ?_
           refine tak_ 12 93 (flg 20 8191) rfl rfl (take_ofW HT_.out HW_.out (by kernel_rfl)) (fun _ _ _ h=>h) hHeld ?_
           refine tak_ 14 95 (flg 20 24575) rfl rfl (take_ofW HT_.out HW_.out (by kernel_rfl)) (fun _ _ _ h=>h) hHeld ?_
           refine one_ (i:=13) (N:=some 94) (flg 20 32767) rfl rfl (one_of HT_.out (by kernel_rfl)) (by decide) (fun K hK=>?_)
           refine goes_ Tryd.func22 (by kernel_rfl) rfl #[.agg #[.slice none 0 0,.slice none 0 0,.slice none 0 0,.slice Ao18 t385.length co18]] (by rfl) rfl rfl ar_ ?_
           refine (tree_Print.calls _ _ ([]:List (S79)) _ _ ([]:List (S80)) _ _ ([]:List (S66)) _ _ t385 t422 _ ?side1 ?side2 ?side3 ?side4 ?side5 ?side6 ?side7 ?side8 ?side9 A56.out).mono ?_
           (case side1=>exact hT.later (bl_ HB.out))
           (case side2=>exact Kd.C_nil _ _)
           (case side3=>exact Nat.le_refl _)
           (case side4=>exact Kd.C_nil _ _)
           (case side5=>exact Nat.le_refl _)
           (case side6=>exact Kd.C_nil _ _)
           (case side7=>exact Nat.le_refl _)
           (case side8=>repeat (first|exact (Kd.R_reads' HO_392003.out).2.2|(with_reducible refine Kd.C_alloc ?_ _)|(with_reducible refine Kd.C_drewN ?_ _)|(with_reducible refine Kd.C_drew ?_)))
           (case side9=>exact (Kd.R_reads' HO_392003.out).2.1)
           rintro e w61 ⟨rfl,hb⟩
           refine ⟨_,rfl,?_⟩
           have n0_:=Aside0.mk (Kd.R_below (by (with_reducible repeat (first|apply Kd.R_alloc|apply Kd.R_drewN|apply Kd.R_drew));exact HO_392003.out) hb)
           have n1_:=Aside0.mk (Kd.R_below (by (with_reducible repeat (first|apply Kd.R_alloc|apply Kd.R_drewN|apply Kd.R_drew));exact HO_393003.out) hb)
           have n2_:=Aside0.mk (bb_ BK391.out hb)
           have n3_:=Aside0.mk (bb_ BK392.out hb)
           have n4_:=Aside0.mk (below_step (bl_ HB.out) hb)
           clear HO_392003
           clear HO_393003
           clear BK391
           clear BK392
           clear HB
           have HO_392003:=n0_
           have HO_393003:=n1_
           have BK391:=n2_
           have BK392:=n3_
           have HB:=n4_
           clear n0_ n1_ n2_ n3_ n4_
           (try clear hb)
           (try clear hb2)
           (try clear hk)
           (try clear hi)
           refine hK.out _ _ ⟨zc_ BK391.out 0,zc_ BK391.out 1,zc_ BK391.out 2,zc_ BK391.out 3,zc_ BK392.out 0,zc_ BK392.out 1,zc_ BK392.out 2,zc_ BK392.out 3⟩ (fun hHeld=>?_)
           clear hK K
           refine norm_ (a':=?_) ?_ ?_
           rotate_left
           ·show Act.put _ (some 94) _=_
            simp only [Act.put,List.setIfInBounds_toArray,List.set_cons_zero,List.set_cons_succ,i64_w,i32_w]
            rfl
           refine one_ (i:=15) (N:=some 96) (flg 20 65535) rfl rfl (one_of HT_.out (by kernel_rfl)) (by decide) (fun K hK=>?_)
           refine goes_ Tryd.func22 (by kernel_rfl) rfl #[.agg #[.slice none 0 0,.slice none 0 0,.slice none 0 0,.slice Ao20 t388.length co20]] (by rfl) rfl rfl ar_ ?_
           refine (tree_Print.calls _ _ ([]:List (S79)) _ _ ([]:List (S80)) _ _ ([]:List (S66)) _ _ t388 t423 _ ?side1 ?side2 ?side3 ?side4 ?side5 ?side6 ?side7 ?side8 ?side9 A57.out).mono ?_
           (case side1=>exact hT.later (bl_ HB.out))
           (case side2=>exact Kd.C_nil _ _)
           (case side3=>exact Nat.le_refl _)
           (case side4=>exact Kd.C_nil _ _)
           (case side5=>exact Nat.le_refl _)
           (case side6=>exact Kd.C_nil _ _)
           (case side7=>exact Nat.le_refl _)
           (case side8=>repeat (first|exact (Kd.R_reads' HO_393003.out).2.2|(with_reducible refine Kd.C_alloc ?_ _)|(with_reducible refine Kd.C_drewN ?_ _)|(with_reducible refine Kd.C_drew ?_)))
           (case side9=>exact (Kd.R_reads' HO_393003.out).2.1)
           rintro e w62 ⟨rfl,hb⟩
           refine ⟨_,rfl,?_⟩
           have n0_:=Aside0.mk (Kd.R_below (by (with_reducible repeat (first|apply Kd.R_alloc|apply Kd.R_drewN|apply Kd.R_drew));exact HO_392003.out) hb)
           have n1_:=Aside0.mk (Kd.R_below (by (with_reducible repeat (first|apply Kd.R_alloc|apply Kd.R_drewN|apply Kd.R_drew));exact HO_393003.out) hb)
           have n2_:=Aside0.mk (bb_ BK391.out hb)
           have n3_:=Aside0.mk (bb_ BK392.out hb)
           have n4_:=Aside0.mk (below_step (bl_ HB.out) hb)
           clear HO_392003
           clear HO_393003
           clear BK391
           clear BK392
           clear HB
           have HO_392003:=n0_
           have HO_393003:=n1_
           have BK391:=n2_
           have BK392:=n3_
           have HB:=n4_
           clear n0_ n1_ n2_ n3_ n4_
           (try clear hb)
           (try clear hb2)
           (try clear hk)
           (try clear hi)
           refine hK.out _ _ ⟨zc_ BK391.out 0,zc_ BK391.out 1,zc_ BK391.out 2,zc_ BK391.out 3,zc_ BK392.out 0,zc_ BK392.out 1,zc_ BK392.out 2,zc_ BK392.out 3⟩ (fun hHeld=>?_)
           clear hK K
           refine norm_ (a':=?_) ?_ ?_
           rotate_left
           ·show Act.put _ (some 96) _=_
            simp only [Act.put,List.setIfInBounds_toArray,List.set_cons_zero,List.set_cons_succ,i64_w,i32_w]
            rfl
           refine pur_ 16 97 (flg 20 131071) rfl rfl (any_of HT_.out (by kernel_rfl)) (fun _ _ _ h=>h) ?_
           refine pur_ 17 98 (flg 20 262143) rfl rfl (any_of HT_.out (by kernel_rfl)) (fun _ _ _ h=>h) ?_
           refine pur_ 18 99 (flg 20 524287) rfl rfl (any_of HT_.out (by kernel_rfl)) (fun _ _ _ h=>h) ?_
           refine pur_ 19 4 (flg 20 1048575) rfl rfl (any_of HT_.out (by kernel_rfl)) (fun _ _ _ h=>h) ?_
           refine done_ (done_of HT_.out (by kernel_rfl)) ?_
           try go_wp2
           go_ret
           exact ⟨rt_,bl_ HB.out⟩
         ·replace c55:=Bool.eq_false_iff.mpr c55
          subst c55
          have H1:(some true)=some r:=by rw [if_neg (show ¬ (false=true) by decide)] at H;exact H
          clear H
          have H:=H1
          clear H1
          obtain rfl:=Option.some.inj H
          try go_wp2
          have n0_:=Aside0.mk (Kd.R_drew HO_392003.out)
          have n1_:=Aside0.mk (Kd.R_drew HO_393003.out)
          have n2_:=Aside0.mk (blk_drew BK391.out)
          have n3_:=Aside0.mk (blk_drew BK392.out)
          have n4_:=Aside0.mk (below_drew1 HB.out)
          clear HO_392003
          clear HO_393003
          clear BK391
          clear BK392
          clear HB
          have HO_392003:=n0_
          have HO_393003:=n1_
          have BK391:=n2_
          have BK392:=n3_
          have HB:=n4_
          clear n0_ n1_ n2_ n3_ n4_
          as_aux_lemma=>
           refine start_ (n:=20) (S:=fun w'=>w'.cell? ⟨gb391,0,none⟩=some (.slice none 0 0)∧w'.cell? ⟨gb391,1,none⟩=some (.slice none 0 0)∧w'.cell? ⟨gb391,2,none⟩=some (.slice none 0 0)∧w'.cell? ⟨gb391,3,none⟩=some (.slice Ao18 t385.length co18)∧w'.cell? ⟨gb392,0,none⟩=some (.slice none 0 0)∧w'.cell? ⟨gb392,1,none⟩=some (.slice none 0 0)∧w'.cell? ⟨gb392,2,none⟩=some (.slice none 0 0)∧w'.cell? ⟨gb392,3,none⟩=some (.slice Ao20 t388.length co20)) (ds:=[]) (flg 20 0) (by kernel_rfl) rfl (by kernel_rfl) ⟨zc_ BK391.out 0,zc_ BK391.out 1,zc_ BK391.out 2,zc_ BK391.out 3,zc_ BK392.out 0,zc_ BK392.out 1,zc_ BK392.out 2,zc_ BK392.out 3⟩ (fun hHeld=>?_);refine with_tabW helmsmanlaw12_TreeSame.tab7 helmsmanlaw12_TreeSame.bits7 (fun HT_ HW_=>?_)
           generalize wc.drew=w63 at HO_392003 HO_393003 BK391 BK392 HB hHeld ⊢
           refine one_ (i:=0) (N:=some 81) (flg 20 1) rfl rfl (one_of HT_.out (by kernel_rfl)) (by decide) (fun K hK=>?_)
           refine goes_ Tryd.func10 (by kernel_rfl) rfl #[] (by rfl) rfl rfl ar_ ?_
           with_reducible refine (helmsmanlaw12_alive.calls  true _ ?side1 A51.out).mono ?_
           (case side1=>exact hT.later (bl_ HB.out))
           rintro e w64 ⟨rfl,hb⟩
           refine ⟨_,rfl,?_⟩
           have n0_:=Aside0.mk (Kd.R_below (by (with_reducible repeat (first|apply Kd.R_alloc|apply Kd.R_drewN|apply Kd.R_drew));exact HO_392003.out) hb)
           have n1_:=Aside0.mk (Kd.R_below (by (with_reducible repeat (first|apply Kd.R_alloc|apply Kd.R_drewN|apply Kd.R_drew));exact HO_393003.out) hb)
           have n2_:=Aside0.mk (bb_ BK391.out hb)
           have n3_:=Aside0.mk (bb_ BK392.out hb)
           have n4_:=Aside0.mk (below_step (bl_ HB.out) hb)
           clear HO_392003
           clear HO_393003
           clear BK391
           clear BK392
           clear HB
           have HO_392003:=n0_
           have HO_393003:=n1_
           have BK391:=n2_
           have BK392:=n3_
           have HB:=n4_
           clear n0_ n1_ n2_ n3_ n4_
           (try clear hb)
           (try clear hb2)
           (try clear hk)
           (try clear hi)
           refine hK.out _ _ ⟨zc_ BK391.out 0,zc_ BK391.out 1,zc_ BK391.out 2,zc_ BK391.out 3,zc_ BK392.out 0,zc_ BK392.out 1,zc_ BK392.out 2,zc_ BK392.out 3⟩ (fun hHeld=>?_)
           clear hK K
           refine norm_ (a':=?_) ?_ ?_
           rotate_left
           ·show Act.put _ (some 81) _=_
            simp only [Act.put,List.setIfInBounds_toArray,List.set_cons_zero,List.set_cons_succ,i64_w,i32_w]
            rfl
           refine pur_ 1 82 (flg 20 3) rfl rfl (any_of HT_.out (by kernel_rfl)) (fun _ _ _ h=>h) ?_
           refine pur_ 5 86 (flg 20 35) rfl rfl (any_of HT_.out (by kernel_rfl)) (fun _ _ _ h=>h) ?_
           refine tak_ 2 83 (flg 20 39) rfl rfl (take_ofW HT_.out HW_.out (by kernel_rfl)) (fun _ _ _ h=>h) hHeld ?_
           refine tak_ 3 84 (flg 20 47) rfl rfl (take_ofW HT_.out HW_.out (by kernel_rfl)) (fun _ _ _ h=>h) hHeld ?_
           refine one_ (i:=4) (N:=some 85) (flg 20 63) rfl rfl (one_of HT_.out (by kernel_rfl)) (by decide) (fun K hK=>?_)
           refine goes_ Tryd.func28 (by kernel_rfl) rfl #[.agg #[.slice none 0 0,.slice none 0 0,.slice none 0 0,.slice Ao18 t385.length co18],.agg #[.slice none 0 0,.slice none 0 0,.slice none 0 0,.slice Ao20 t388.length co20]] (by rfl) rfl rfl ar_ ?_
           refine (tree_Same.calls kj15 _ _ ([]:List (S79)) _ _ ([]:List (S80)) _ _ ([]:List (S66)) _ _ t385 _ _ ([]:List (S79)) _ _ ([]:List (S80)) _ _ ([]:List (S66)) _ _ t388 t421 _ ?side1 ?side2 ?side3 ?side4 ?side5 ?side6 ?side7 ?side8 ?side9 ?side10 ?side11 ?side12 ?side13 ?side14 ?side15 ?side16 A53.out).mono ?_
           (case side1=>exact Kd.C_nil _ _)
           (case side2=>exact Nat.le_refl _)
           (case side3=>exact Kd.C_nil _ _)
           (case side4=>exact Nat.le_refl _)
           (case side5=>exact Kd.C_nil _ _)
           (case side6=>exact Nat.le_refl _)
           (case side7=>repeat (first|exact (Kd.R_reads' HO_392003.out).2.2|(with_reducible refine Kd.C_alloc ?_ _)|(with_reducible refine Kd.C_drewN ?_ _)|(with_reducible refine Kd.C_drew ?_)))
           (case side8=>exact (Kd.R_reads' HO_392003.out).2.1)
           (case side9=>exact Kd.C_nil _ _)
           (case side10=>exact Nat.le_refl _)
           (case side11=>exact Kd.C_nil _ _)
           (case side12=>exact Nat.le_refl _)
           (case side13=>exact Kd.C_nil _ _)
           (case side14=>exact Nat.le_refl _)
           (case side15=>repeat (first|exact (Kd.R_reads' HO_393003.out).2.2|(with_reducible refine Kd.C_alloc ?_ _)|(with_reducible refine Kd.C_drewN ?_ _)|(with_reducible refine Kd.C_drew ?_)))
           (case side16=>exact (Kd.R_reads' HO_393003.out).2.1)
           rintro e w65 ⟨rfl,hb⟩
           refine ⟨_,rfl,?_⟩
           have n0_:=Aside0.mk (Kd.R_below (by (with_reducible repeat (first|apply Kd.R_alloc|apply Kd.R_drewN|apply Kd.R_drew));exact HO_392003.out) hb)
           have n1_:=Aside0.mk (Kd.R_below (by (with_reducible repeat (first|apply Kd.R_alloc|apply Kd.R_drewN|apply Kd.R_drew));exact HO_393003.out) hb)
           have n2_:=Aside0.mk (bb_ BK391.out hb)
           have n3_:=Aside0.mk (bb_ BK392.out hb)
           have n4_:=Aside0.mk (below_step (bl_ HB.out) hb)
           clear HO_392003
           clear HO_393003
           clear BK391
           clear BK392
           clear HB
           have HO_392003:=n0_
           have HO_393003:=n1_
           have BK391:=n2_
           have BK392:=n3_
           have HB:=n4_
           clear n0_ n1_ n2_ n3_ n4_
           (try clear hb)
           (try clear hb2)
           (try clear hk)
           (try clear hi)
           refine hK.out _ _ ⟨zc_ BK391.out 0,zc_ BK391.out 1,zc_ BK391.out 2,zc_ BK391.out 3,zc_ BK392.out 0,zc_ BK392.out 1,zc_ BK392.out 2,zc_ BK392.out 3⟩ (fun hHeld=>?_)
           clear hK K
           refine norm_ (a':=?_) ?_ ?_
           rotate_left
           ·show Act.put _ (some 85) _=_
            simp only [Act.put,List.setIfInBounds_toArray,List.set_cons_zero,List.set_cons_succ,i64_w,i32_w]
            rfl
           refine pur_ 6 87 (flg 20 127) rfl rfl (any_of HT_.out (by kernel_rfl)) (fun _ _ _ h=>h) ?_
           refine pur_ 7 88 (flg 20 255) rfl rfl (any_of HT_.out (by kernel_rfl)) (fun _ _ _ h=>h) ?_
           refine pur_ 8 89 (flg 20 511) rfl rfl (any_of HT_.out (by kernel_rfl)) (fun _ _ _ h=>h) ?_
           refine pur_ 9 90 (flg 20 1023) rfl rfl (any_of HT_.out (by kernel_rfl)) (fun _ _ _ h=>h) ?_
           refine pur_ 10 91 (flg 20 2047) rfl rfl (any_of HT_.out (by kernel_rfl)) (fun _ _ _ h=>h) ?_
           refine pur_ 11 92 (flg 20 4095) rfl rfl (any_of HT_.out (by kernel_rfl)) (fun _ _ _ h=>h) ?_
           refine skp_ 12 93 (flg 20 8191) rfl rfl (any_of HT_.out (by kernel_rfl)) (fun _ _ _ h=>h) ?_
           refine skp_ 13 94 (flg 20 16383) rfl rfl (any_of HT_.out (by kernel_rfl)) (fun _ _ _ h=>h) ?_
           refine skp_ 14 95 (flg 20 32767) rfl rfl (any_of HT_.out (by kernel_rfl)) (fun _ _ _ h=>h) ?_
           refine skp_ 15 96 (flg 20 65535) rfl rfl (any_of HT_.out (by kernel_rfl)) (fun _ _ _ h=>h) ?_
           refine skp_ 16 97 (flg 20 131071) rfl rfl (any_of HT_.out (by kernel_rfl)) (fun _ _ _ h=>h) ?_
           refine pur_ 17 98 (flg 20 262143) rfl rfl (any_of HT_.out (by kernel_rfl)) (fun _ _ _ h=>h) ?_
           refine pur_ 18 99 (flg 20 524287) rfl rfl (any_of HT_.out (by kernel_rfl)) (fun _ _ _ h=>h) ?_
           refine pur_ 19 4 (flg 20 1048575) rfl rfl (any_of HT_.out (by kernel_rfl)) (fun _ _ _ h=>h) ?_
           refine done_ (done_of HT_.out (by kernel_rfl)) ?_
           try go_wp2
           go_ret
           exact ⟨rt_,bl_ HB.out⟩
        ·rw [if_neg c54] at H
         have c54b0:(t421 == t393)=false:=by simpa using c54
         (try (have c54b1:decide (t421=t393)=false:=by simpa using c54))
         (try (have c54b2:(t421 == t393)=false:=by simpa using c54))
         (try (have c54b3 : ¬ (t421=t393):=by simpa using c54))
         clear c54
         obtain rfl:=Option.some.inj H
         try go_wp2
         have n0_:=Aside0.mk (Kd.R_drew HO_392003.out)
         have n1_:=Aside0.mk (Kd.R_drew HO_393003.out)
         have n2_:=Aside0.mk (blk_drew BK391.out)
         have n3_:=Aside0.mk (blk_drew BK392.out)
         have n4_:=Aside0.mk (below_drew1 HB.out)
         clear HO_392003
         clear HO_393003
         clear BK391
         clear BK392
         clear HB
         have HO_392003:=n0_
         have HO_393003:=n1_
         have BK391:=n2_
         have BK392:=n3_
         have HB:=n4_
         clear n0_ n1_ n2_ n3_ n4_
         as_aux_lemma=>
          refine start_ (n:=20) (S:=fun w'=>w'.cell? ⟨gb391,0,none⟩=some (.slice none 0 0)∧w'.cell? ⟨gb391,1,none⟩=some (.slice none 0 0)∧w'.cell? ⟨gb391,2,none⟩=some (.slice none 0 0)∧w'.cell? ⟨gb391,3,none⟩=some (.slice Ao18 t385.length co18)∧w'.cell? ⟨gb392,0,none⟩=some (.slice none 0 0)∧w'.cell? ⟨gb392,1,none⟩=some (.slice none 0 0)∧w'.cell? ⟨gb392,2,none⟩=some (.slice none 0 0)∧w'.cell? ⟨gb392,3,none⟩=some (.slice Ao20 t388.length co20)) (ds:=[]) (flg 20 0) (by kernel_rfl) rfl (by kernel_rfl) ⟨zc_ BK391.out 0,zc_ BK391.out 1,zc_ BK391.out 2,zc_ BK391.out 3,zc_ BK392.out 0,zc_ BK392.out 1,zc_ BK392.out 2,zc_ BK392.out 3⟩ (fun hHeld=>?_);refine with_tabW helmsmanlaw12_TreeSame.tab7 helmsmanlaw12_TreeSame.bits7 (fun HT_ HW_=>?_)
          generalize wc.drew=w66 at HO_392003 HO_393003 BK391 BK392 HB hHeld ⊢
          refine one_ (i:=0) (N:=some 81) (flg 20 1) rfl rfl (one_of HT_.out (by kernel_rfl)) (by decide) (fun K hK=>?_)
          refine goes_ Tryd.func10 (by kernel_rfl) rfl #[] (by rfl) rfl rfl ar_ ?_
          with_reducible refine (helmsmanlaw12_alive.calls  true _ ?side1 A51.out).mono ?_
          (case side1=>exact hT.later (bl_ HB.out))
          rintro e w67 ⟨rfl,hb⟩
          refine ⟨_,rfl,?_⟩
          have n0_:=Aside0.mk (Kd.R_below (by (with_reducible repeat (first|apply Kd.R_alloc|apply Kd.R_drewN|apply Kd.R_drew));exact HO_392003.out) hb)
          have n1_:=Aside0.mk (Kd.R_below (by (with_reducible repeat (first|apply Kd.R_alloc|apply Kd.R_drewN|apply Kd.R_drew));exact HO_393003.out) hb)
          have n2_:=Aside0.mk (bb_ BK391.out hb)
          have n3_:=Aside0.mk (bb_ BK392.out hb)
          have n4_:=Aside0.mk (below_step (bl_ HB.out) hb)
          clear HO_392003
          clear HO_393003
          clear BK391
          clear BK392
          clear HB
          have HO_392003:=n0_
          have HO_393003:=n1_
          have BK391:=n2_
          have BK392:=n3_
          have HB:=n4_
          clear n0_ n1_ n2_ n3_ n4_
          (try clear hb)
          (try clear hb2)
          (try clear hk)
          (try clear hi)
          refine hK.out _ _ ⟨zc_ BK391.out 0,zc_ BK391.out 1,zc_ BK391.out 2,zc_ BK391.out 3,zc_ BK392.out 0,zc_ BK392.out 1,zc_ BK392.out 2,zc_ BK392.out 3⟩ (fun hHeld=>?_)
          clear hK K
          refine norm_ (a':=?_) ?_ ?_
          rotate_left
          ·show Act.put _ (some 81) _=_
           simp only [Act.put,List.setIfInBounds_toArray,List.set_cons_zero,List.set_cons_succ,i64_w,i32_w]
           rfl
          refine pur_ 1 82 (flg 20 3) rfl rfl (any_of HT_.out (by kernel_rfl)) (fun _ _ _ h=>h) ?_
          refine pur_ 5 86 (flg 20 35) rfl rfl (any_of HT_.out (by kernel_rfl)) (fun _ _ _ h=>h) ?_
          refine tak_ 2 83 (flg 20 39) rfl rfl (take_ofW HT_.out HW_.out (by kernel_rfl)) (fun _ _ _ h=>h) hHeld ?_
          refine tak_ 3 84 (flg 20 47) rfl rfl (take_ofW HT_.out HW_.out (by kernel_rfl)) (fun _ _ _ h=>h) hHeld ?_
          refine one_ (i:=4) (N:=some 85) (flg 20 63) rfl rfl (one_of HT_.out (by kernel_rfl)) (by decide) (fun K hK=>?_)
          refine goes_ Tryd.func28 (by kernel_rfl) rfl #[.agg #[.slice none 0 0,.slice none 0 0,.slice none 0 0,.slice Ao18 t385.length co18],.agg #[.slice none 0 0,.slice none 0 0,.slice none 0 0,.slice Ao20 t388.length co20]] (by rfl) rfl rfl ar_ ?_
          refine (tree_Same.calls kj15 _ _ ([]:List (S79)) _ _ ([]:List (S80)) _ _ ([]:List (S66)) _ _ t385 _ _ ([]:List (S79)) _ _ ([]:List (S80)) _ _ ([]:List (S66)) _ _ t388 t421 _ ?side1 ?side2 ?side3 ?side4 ?side5 ?side6 ?side7 ?side8 ?side9 ?side10 ?side11 ?side12 ?side13 ?side14 ?side15 ?side16 A53.out).mono ?_
          (case side1=>exact Kd.C_nil _ _)
          (case side2=>exact Nat.le_refl _)
          (case side3=>exact Kd.C_nil _ _)
          (case side4=>exact Nat.le_refl _)
          (case side5=>exact Kd.C_nil _ _)
          (case side6=>exact Nat.le_refl _)
          (case side7=>repeat (first|exact (Kd.R_reads' HO_392003.out).2.2|(with_reducible refine Kd.C_alloc ?_ _)|(with_reducible refine Kd.C_drewN ?_ _)|(with_reducible refine Kd.C_drew ?_)))
          (case side8=>exact (Kd.R_reads' HO_392003.out).2.1)
          (case side9=>exact Kd.C_nil _ _)
          (case side10=>exact Nat.le_refl _)
          (case side11=>exact Kd.C_nil _ _)
          (case side12=>exact Nat.le_refl _)
          (case side13=>exact Kd.C_nil _ _)
          (case side14=>exact Nat.le_refl _)
          (case side15=>repeat (first|exact (Kd.R_reads' HO_393003.out).2.2|(with_reducible refine Kd.C_alloc ?_ _)|(with_reducible refine Kd.C_drewN ?_ _)|(with_reducible refine Kd.C_drew ?_)))
          (case side16=>exact (Kd.R_reads' HO_393003.out).2.1)
          rintro e w68 ⟨rfl,hb⟩
          refine ⟨_,rfl,?_⟩
          have n0_:=Aside0.mk (Kd.R_below (by (with_reducible repeat (first|apply Kd.R_alloc|apply Kd.R_drewN|apply Kd.R_drew));exact HO_392003.out) hb)
          have n1_:=Aside0.mk (Kd.R_below (by (with_reducible repeat (first|apply Kd.R_alloc|apply Kd.R_drewN|apply Kd.R_drew));exact HO_393003.out) hb)
          have n2_:=Aside0.mk (bb_ BK391.out hb)
          have n3_:=Aside0.mk (bb_ BK392.out hb)
          have n4_:=Aside0.mk (below_step (bl_ HB.out) hb)
          clear HO_392003
          clear HO_393003
          clear BK391
          clear BK392
          clear HB
          have HO_392003:=n0_
          have HO_393003:=n1_
          have BK391:=n2_
          have BK392:=n3_
          have HB:=n4_
          clear n0_ n1_ n2_ n3_ n4_
          (try clear hb)
          (try clear hb2)
          (try clear hk)
          (try clear hi)
          refine hK.out _ _ ⟨zc_ BK391.out 0,zc_ BK391.out 1,zc_ BK391.out 2,zc_ BK391.out 3,zc_ BK392.out 0,zc_ BK392.out 1,zc_ BK392.out 2,zc_ BK392.out 3⟩ (fun hHeld=>?_)
          clear hK K
          refine norm_ (a':=?_) ?_ ?_
          rotate_left
          ·show Act.put _ (some 85) _=_
           simp only [Act.put,List.setIfInBounds_toArray,List.set_cons_zero,List.set_cons_succ,i64_w,i32_w]
           rfl
          refine pur_ 6 87 (flg 20 127) rfl rfl (any_of HT_.out (by kernel_rfl)) (fun _ _ _ h=>h) ?_
          refine pur_ 7 88 (flg 20 255) rfl rfl (any_of HT_.out (by kernel_rfl)) (fun _ _ _ h=>h) ?_
          refine pur_ 8 89 (flg 20 511) rfl rfl (any_of HT_.out (by kernel_rfl)) (fun _ _ _ h=>h) ?_
          refine skp_ 9 90 (flg 20 1023) rfl rfl (any_of HT_.out (by kernel_rfl)) (fun _ _ _ h=>h) ?_
          refine skp_ 10 91 (flg 20 2047) rfl rfl (any_of HT_.out (by kernel_rfl)) (fun _ _ _ h=>h) ?_
          refine skp_ 11 92 (flg 20 4095) rfl rfl (any_of HT_.out (by kernel_rfl)) (fun _ _ _ h=>h) ?_
          refine skp_ 12 93 (flg 20 8191) rfl rfl (any_of HT_.out (by kernel_rfl)) (fun _ _ _ h=>h) ?_
          refine skp_ 13 94 (flg 20 16383) rfl rfl (any_of HT_.out (by kernel_rfl)) (fun _ _ _ h=>h) ?_
          refine skp_ 14 95 (flg 20 32767) rfl rfl (any_of HT_.out (by kernel_rfl)) (fun _ _ _ h=>h) ?_
          refine skp_ 15 96 (flg 20 65535) rfl rfl (any_of HT_.out (by kernel_rfl)) (fun _ _ _ h=>h) ?_
          refine skp_ 16 97 (flg 20 131071) rfl rfl (any_of HT_.out (by kernel_rfl)) (fun _ _ _ h=>h) ?_
          refine skp_ 17 98 (flg 20 262143) rfl rfl (any_of HT_.out (by kernel_rfl)) (fun _ _ _ h=>h) ?_
          refine pur_ 18 99 (flg 20 524287) rfl rfl (any_of HT_.out (by kernel_rfl)) (fun _ _ _ h=>h) ?_
          refine pur_ 19 4 (flg 20 1048575) rfl rfl (any_of HT_.out (by kernel_rfl)) (fun _ _ _ h=>h) ?_
          refine done_ (done_of HT_.out (by kernel_rfl)) ?_
          try go_wp2
          go_ret
          exact ⟨rt_,bl_ HB.out⟩
       ·replace c52:=Bool.eq_false_iff.mpr c52
        subst c52
        have H1:(some false)=some r:=by rw [if_neg (show ¬ (false=true) by decide)] at H;exact H
        clear H
        have H:=H1
        clear H1
        obtain rfl:=Option.some.inj H
        try go_wp2
        have n0_:=Aside0.mk (Kd.R_drew HO_392003.out)
        have n1_:=Aside0.mk (Kd.R_drew HO_393003.out)
        have n2_:=Aside0.mk (blk_drew BK391.out)
        have n3_:=Aside0.mk (blk_drew BK392.out)
        have n4_:=Aside0.mk (below_drew1 HB.out)
        clear HO_392003
        clear HO_393003
        clear BK391
        clear BK392
        clear HB
        have HO_392003:=n0_
        have HO_393003:=n1_
        have BK391:=n2_
        have BK392:=n3_
        have HB:=n4_
        clear n0_ n1_ n2_ n3_ n4_
        as_aux_lemma=>
         refine start_ (n:=20) (S:=fun w'=>True) (ds:=[]) (flg 20 0) (by kernel_rfl) rfl (by kernel_rfl) trivial (fun hHeld=>?_);refine with_tabW helmsmanlaw12_TreeSame.tab7 helmsmanlaw12_TreeSame.bits7 (fun HT_ HW_=>?_)
         generalize wc.drew=w69 at HO_392003 HO_393003 BK391 BK392 HB hHeld ⊢
         refine one_ (i:=0) (N:=some 81) (flg 20 1) rfl rfl (one_of HT_.out (by kernel_rfl)) (by decide) (fun K hK=>?_)
         refine goes_ Tryd.func10 (by kernel_rfl) rfl #[] (by rfl) rfl rfl ar_ ?_
         with_reducible refine (helmsmanlaw12_alive.calls  false _ ?side1 A51.out).mono ?_
         (case side1=>exact hT.later (bl_ HB.out))
         rintro e w70 ⟨rfl,hb⟩
         refine ⟨_,rfl,?_⟩
         have n0_:=Aside0.mk (Kd.R_below (by (with_reducible repeat (first|apply Kd.R_alloc|apply Kd.R_drewN|apply Kd.R_drew));exact HO_392003.out) hb)
         have n1_:=Aside0.mk (Kd.R_below (by (with_reducible repeat (first|apply Kd.R_alloc|apply Kd.R_drewN|apply Kd.R_drew));exact HO_393003.out) hb)
         have n2_:=Aside0.mk (bb_ BK391.out hb)
         have n3_:=Aside0.mk (bb_ BK392.out hb)
         have n4_:=Aside0.mk (below_step (bl_ HB.out) hb)
         clear HO_392003
         clear HO_393003
         clear BK391
         clear BK392
         clear HB
         have HO_392003:=n0_
         have HO_393003:=n1_
         have BK391:=n2_
         have BK392:=n3_
         have HB:=n4_
         clear n0_ n1_ n2_ n3_ n4_
         (try clear hb)
         (try clear hb2)
         (try clear hk)
         (try clear hi)
         refine hK.out _ _ trivial (fun hHeld=>?_)
         clear hK K
         refine norm_ (a':=?_) ?_ ?_
         rotate_left
         ·show Act.put _ (some 81) _=_
          simp only [Act.put,List.setIfInBounds_toArray,List.set_cons_zero,List.set_cons_succ,i64_w,i32_w]
          rfl
         refine pur_ 1 82 (flg 20 3) rfl rfl (any_of HT_.out (by kernel_rfl)) (fun _ _ _ h=>h) ?_
         refine skp_ 2 83 (flg 20 7) rfl rfl (any_of HT_.out (by kernel_rfl)) (fun _ _ _ h=>h) ?_
         refine skp_ 3 84 (flg 20 15) rfl rfl (any_of HT_.out (by kernel_rfl)) (fun _ _ _ h=>h) ?_
         refine skp_ 4 85 (flg 20 31) rfl rfl (any_of HT_.out (by kernel_rfl)) (fun _ _ _ h=>h) ?_
         refine skp_ 5 86 (flg 20 63) rfl rfl (any_of HT_.out (by kernel_rfl)) (fun _ _ _ h=>h) ?_
         refine skp_ 6 87 (flg 20 127) rfl rfl (any_of HT_.out (by kernel_rfl)) (fun _ _ _ h=>h) ?_
         refine pur_ 7 88 (flg 20 255) rfl rfl (any_of HT_.out (by kernel_rfl)) (fun _ _ _ h=>h) ?_
         refine pur_ 8 89 (flg 20 511) rfl rfl (any_of HT_.out (by kernel_rfl)) (fun _ _ _ h=>h) ?_
         refine skp_ 9 90 (flg 20 1023) rfl rfl (any_of HT_.out (by kernel_rfl)) (fun _ _ _ h=>h) ?_
         refine skp_ 10 91 (flg 20 2047) rfl rfl (any_of HT_.out (by kernel_rfl)) (fun _ _ _ h=>h) ?_
         refine skp_ 11 92 (flg 20 4095) rfl rfl (any_of HT_.out (by kernel_rfl)) (fun _ _ _ h=>h) ?_
         refine skp_ 12 93 (flg 20 8191) rfl rfl (any_of HT_.out (by kernel_rfl)) (fun _ _ _ h=>h) ?_
         refine skp_ 13 94 (flg 20 16383) rfl rfl (any_of HT_.out (by kernel_rfl)) (fun _ _ _ h=>h) ?_
         refine skp_ 14 95 (flg 20 32767) rfl rfl (any_of HT_.out (by kernel_rfl)) (fun _ _ _ h=>h) ?_
         refine skp_ 15 96 (flg 20 65535) rfl rfl (any_of HT_.out (by kernel_rfl)) (fun _ _ _ h=>h) ?_
         refine skp_ 16 97 (flg 20 131071) rfl rfl (any_of HT_.out (by kernel_rfl)) (fun _ _ _ h=>h) ?_
         refine skp_ 17 98 (flg 20 262143) rfl rfl (any_of HT_.out (by kernel_rfl)) (fun _ _ _ h=>h) ?_
         refine pur_ 18 99 (flg 20 524287) rfl rfl (any_of HT_.out (by kernel_rfl)) (fun _ _ _ h=>h) ?_
         refine pur_ 19 4 (flg 20 1048575) rfl rfl (any_of HT_.out (by kernel_rfl)) (fun _ _ _ h=>h) ?_
         refine done_ (done_of HT_.out (by kernel_rfl)) ?_
         try go_wp2
         go_ret
         exact ⟨rt_,bl_ HB.out⟩
end Go.Proofs.YtnnbbeloifhofaaDoor.P
end
section
namespace Go.Proofs.YtnnbbeloifhofaaDoor.P
open Go Go.RowKit Go.Proofs
open Go.Proofs.YtnnbbeloifhofaaDoorW.PrintWords Go.Proofs.YtnnbbeloifhofaaDoorW.PrintLast Go.Proofs.YtnnbbeloifhofaaDoorW.PrintMore
set_option linter.unusedVariables false
theorem TreeSame_j1 (a b:List RS) (ho:okSs a) (ho':okSs b) (hb:bulkSs a≤2097152) (hb':bulkSs b≤2097152):Ev (fun k=>helmsmanlaw12_TreeSame.j1 k (sameSs a b) false (convSs a) (convSs b)) true:=by
  refine Ev.step (fun k=>helmsmanlaw12_TreeSame.j1.eq_2 _ _ _ _ k) (Ev.no (by simp) (alive_now (Ev.yes rfl ?_)))
  have hz : ∀ l:List RS,bulkP [] [] [] l=bulkSs l:=fun l=>by unfold bulkP;simp
  have s1:=Same_ev [] [] [] a (small_of _ _ _ _ (by rw [hz];omega)) [] [] [] b
  rw [show sameP [] [] [] a [] [] [] b=sameSs a b by unfold sameP;simp [all2]] at s1
  refine Ev.bind s1 (Ev.yes (beq_self_eq_true _) ?_)
  cases c:sameSs a b with
  | false=>exact Ev.no (by simp) (Ev.now _)
  | true=>
    refine Ev.yes rfl ?_
    have o1:=printOk_small [] [] [] a ⟨(fun x h=>by cases h),(fun x h=>by cases h),ho⟩ (by rw [hz];omega)
    have o2:=printOk_small [] [] [] b ⟨(fun x h=>by cases h),(fun x h=>by cases h),ho'⟩ (by rw [hz];omega)
    refine Ev.then (tree_Print.some _ _ _ _ o1) (Ev.then (tree_Print.some _ _ _ _ o2) ?_)
    rw [show printB ([].map convEn) ([].map convV) [] b=printB ([].map convEn) ([].map convV) [] a by unfold printB mainB;rw [same_stmts c]]
    rw [show ((strOf (printB ([].map convEn) ([].map convV) [] a)).toList == (strOf (printB ([].map convEn) ([].map convV) [] a)).toList)=true from beq_self_eq_true _]
    exact Ev.now _
theorem TreeSame_ev (a b:List RS) (ho:okSs a) (ho':okSs b) (hb:bulkSs a≤2097152) (hb':bulkSs b≤2097152):Ev (fun k=>helmsmanlaw12_TreeSame.f k a b) true:=by
  have yes:Ev (fun k=>helmsmanlaw12_TreeSame.j0 k a b true) true:=Ev.step (fun k=>helmsmanlaw12_TreeSame.j0.eq_2 _ _ _ k) (Ev.yes rfl (alive_now (Ev.now _)))
  have go:=TreeSame_j1 a b ho ho' hb hb'
  unfold helmsmanlaw12_TreeSame.f
  refine Ev.bind (Size_ev a (by omega)) ?_
  by_cases g1:(szSs a:Int) > 300
  · exact Ev.yes g1 yes
  refine Ev.no g1 (Ev.bind (Size_ev b (by omega)) ?_)
  by_cases g2:(szSs b:Int) > 300
  · rw [decide_eq_true g2];exact yes
  rw [decide_eq_false g2]
  refine Ev.step (fun k=>helmsmanlaw12_TreeSame.j0.eq_2 _ _ _ k) (Ev.no (by simp) (Ev.bind (Stmts_ev a (by omega)) (Ev.bind (Stmts_ev b (by omega)) (Ev.bind (rSameSs_ev a b (by omega)) ?_))))
  cases a with
  | nil=>exact Ev.no (by simp) go
  | cons x xs=>
    cases b with
    | nil=>exact Ev.yes (by simp) (Ev.no (by simp) go)
    | cons y ys=>
      refine Ev.yes (by simp) (Ev.yes (by simp) (Ev.yes (by simp) ?_))
      rw [show rd_T29 (x :: xs) 0=x from rfl,show rd_T29 (y :: ys) 0=y from rfl]
      have bx:bulkS x≤2097152:=by rw [bulkSs] at hb;omega
      have by':bulkS y≤2097152:=by rw [bulkSs] at hb';omega
      rw [bulkS_eq] at bx by'
      cases hx:x.f2 with
      | nil=>exact Ev.no (by simp) go
      | cons u us=>
        refine Ev.yes (by simp) (Ev.yes (by simp) ?_)
        cases hy:y.f2 with
        | nil=>exact Ev.no (by simp) go
        | cons t ts=>
          rw [hx,bulkEs] at bx
          rw [hy,bulkEs] at by'
          refine Ev.yes (by simp) (Ev.yes (by simp) ?_)
          rw [show rd_T24 (u :: us) 0=u from rfl,show rd_T24 (t :: ts) 0=t from rfl]
          refine Ev.bind (Expr_ev u (by omega)) (Ev.yes (by simp) (Ev.bind (Expr_ev t (by omega)) (Ev.bind (tSameE_ev u (by omega) t) (Ev.bind (rSameE_ev u (by omega) t) ?_))))
          rw [show (sameE u t != sameE u t)=false from bne_self_eq_false _]
          exact go
end Go.Proofs.YtnnbbeloifhofaaDoor.P
end
section
namespace Go.Proofs.YtnnbbeloifhofaaDoor.treeSameUpto
open Go.ChangeShapes Go.WideShapes Go.ChangeAt Go.RowKit
open Go.ChangeMaps (open_string shut_string)
set_option linter.unusedVariables false
theorem reads (os:Os) {H:Type} (enc:TypeId × Value→H) : ∃ places,DataW.whole enc Tryd.prog ((laidWorld os).forCall (fun _ _=>0) ⟨#[],#[.slice none 0 0,.slice none 0 0],[]⟩).memory Tryd.f5.params.toList Rows.treeSameSpec.vars false (#[.slice none 0 0,.slice none 0 0]:Array Value).toList 8=some ([.nil,.nil],[],places):=
  ⟨[],by kernel_rfl⟩
set_option maxRecDepth 100000 in
theorem lifted (os:Os) (started:os.Started) (H:Type) (enc:TypeId × Value→H) (F:Stop.Interp) :
    ReturnsInHanded {} Tryd.checked os 5 .any ((Rows.OpenSpec.upto Rows.treeSameSpec).preRow enc Tryd.prog Tryd.f5 Rows.treeSameUptoRow.domain false Rows.treeSameUptoRow.laid) (((Rows.OpenSpec.upto Rows.treeSameSpec).at F).post enc Tryd.prog Tryd.f5 false true false false):=by
  obtain ⟨places,hx⟩:=reads os enc
  refine returnsInHanded_of_row (C:=Tryd.checked) (s:=(Rows.OpenSpec.upto Rows.treeSameSpec)) own started (by kernel_rfl) Tryd.func5
    (witness_row_atRef (enc:=enc) (C:=Tryd.checked) false (laidWorld os) #[.slice none 0 0,.slice none 0 0] rfl (by kernel_rfl) (by kernel_rfl) (by kernel_rfl)
      (OpenSpec.preRow_of_cond 8 hx (by kernel_rfl) (fun k hk=>by cases hk;kernel_rfl) (by kernel_rfl) (laid_met os _))) ?_
  intro W base args ds gs before hval0 hW _ hcond hsz0 hL _ _
  have hval : ∀ (j:Nat) t v,Tryd.f5.params[j]?=some t→args[j]?=some v→Value.okWide Tryd.prog W .any base t v:=hval0
  have hW':=hW
  obtain ⟨p,q,hA0,hV,rfl,hfz,hnd⟩:=hW
  have hA:DataW.TrodAll enc Tryd.prog W 0 (fun _=>true) true Tryd.f5.params.toList args.toList ds p:=hA0
  rw [Tryd.params5] at hA hval
  obtain ⟨v0,vs0,d0,ds0,p0,q0,hargs,rfl,rfl,h0,r0⟩:=trodAll_cons hA
  obtain ⟨v1,vs1,d1,ds1,p1,q1,rfl,rfl,rfl,h1,r1⟩:=trodAll_cons r0
  obtain ⟨rfl,rfl,rfl⟩:=trodAll_nil r1
  obtain rfl:args=#[v0,v1]:=by cases args;simp_all
  obtain ⟨rfl,rfl⟩:=trodVars_none hV
  have lt0 : ∀ x ∈ p0,x.block < W.heap.size:=by obtain ⟨m,hm⟩:=h0;exact DataW.trod_lt m _ _ _ hm
  have lt1 : ∀ x ∈ p1,x.block < W.heap.size:=by obtain ⟨m,hm⟩:=h1;exact DataW.trod_lt m _ _ _ hm
  have hr0:=h0
  obtain ⟨m0,hm0⟩:=hr0
  have hr1:=h1
  obtain ⟨m1,hm1⟩:=hr1
  have hT:P.TabT W:=tabs hL
  obtain ⟨a0,len0,cap0,rfl⟩:=okWide_slice Tryd.underlying27 (hval 0 27 v0 rfl rfl)
  obtain ⟨L0,A0,c0,hcs0,l0,g0,B0,O0⟩:=P.readSs m0 _ _ hm0
  replace hcs0 : [Value.slice a0 len0 cap0]=[.slice A0 L0.length c0]:=hcs0
  simp only [List.cons.injEq,Value.slice.injEq,and_true] at hcs0
  obtain ⟨rfl,rfl,rfl⟩:=hcs0
  replace B0:_≤Rows.uptoBulk d0:=B0
  obtain ⟨a1,len1,cap1,rfl⟩:=okWide_slice Tryd.underlying27 (hval 1 27 v1 rfl rfl)
  obtain ⟨L1,A1,c1,hcs1,l1,g1,B1,O1⟩:=P.readSs m1 _ _ hm1
  replace hcs1 : [Value.slice a1 len1 cap1]=[.slice A1 L1.length c1]:=hcs1
  simp only [List.cons.injEq,Value.slice.injEq,and_true] at hcs1
  obtain ⟨rfl,rfl,rfl⟩:=hcs1
  replace B1:_≤Rows.uptoBulk d1:=B1
  have hB:Rows.uptoBulkAll [d0,d1]≤1048576:=of_decide_eq_true (hcond _ rfl)
  simp only [Rows.uptoBulkAll] at hB
  obtain ⟨k,hk⟩:=(P.TreeSame_ev L0 L1 O0 O1 (by omega) (by omega)).rounds
  refine (P.helmsmanlaw12_TreeSame.calls k a0 cap0 L0 a1 cap1 L1 true W hT g0 l0 g1 l1 hk).mono fun e W' ⟨he,bel⟩=>?_
  subst he
  exact ⟨_,rfl,_,_,_,[],_,[],hW',trodAll_mk1 (shut_bool Tryd.underlying4 _),(trodAll_cons_mk (Below.trod laidOut (by kernel_rfl) (of_decide_eq_true (by kernel_rfl)) h0 bel lt0) (trodAll_cons_mk (Below.trod laidOut (by kernel_rfl) (of_decide_eq_true (by kernel_rfl)) h1 bel lt1) trodAll_mk0)),rfl,bel.frame _,fun h=>by cases h⟩
theorem said:Rows.TreeSameUptoSaid:=
  OpenClaim.holds_of_cond 5 Tryd.f5 rfl rfl rfl rfl rfl rfl rfl ⟨rfl,rfl,rfl,rfl,rfl⟩ rfl rfl rfl rfl rfl (by kernel_rfl) Tryd.func5 (by kernel_rfl)
    (of_decide_eq_true (by kernel_rfl)) (by unfold Func.isWrapper;first|(rw [if_pos (by decide +kernel)];kernel_rfl)|(rw [if_neg (by decide +kernel)];exact ⟨rfl,rfl⟩))
    (fun os started H enc _ F=>by rw [OpenClaim.pre_eq_preRow];exact lifted os started H enc F)
theorem plain (f:FuncId) (fn:Func) (hf:Tryd.pinned.checked.prog.funcNamed Rows.treeSameUptoRow.func=some f) (hfn:Tryd.pinned.checked.prog.funcs[f]?=some fn) :
    false=Tryd.pinned.checked.prog.looks []∧∀ (j:Nat) t,fn.params[j]?=some t→Tryd.pinned.checked.prog.wantsStandIn t=false:=by
  obtain rfl:f=5:=Option.some.inj ((show Tryd.prog.funcNamed Rows.treeSameUptoRow.func=some 5 by kernel_rfl).symm.trans hf) |>.symm
  obtain rfl:fn=Tryd.f5:=(Option.some.inj (Tryd.func5.symm.trans hfn)).symm
  refine ⟨by kernel_rfl,fun j t ht=>?_⟩
  rw [Tryd.params5] at ht
  have ht2:=Array.mem_of_getElem? ht
  have ht3:t=27:=by simpa using ht2
  obtain rfl:=ht3
  exact (show Tryd.prog.wantsStandIn 27=false by kernel_rfl)
end Go.Proofs.YtnnbbeloifhofaaDoor.treeSameUpto
namespace Go.Proofs.YtnnbbeloifhofaaDoor
theorem treeSameUpto_holds:Rows.TreeSameUptoCardSaid:=
  Claim7.holds_tied_plain_at .later [] _ _ _ _ treeSameUpto.said (fun _ h=>by cases h) (by kernel_rfl) (fun _ h=>by cases h) treeSameUpto_row_tie rfl ⟨rfl,rfl⟩ (by kernel_rfl) rfl treeSameUpto.plain (by kernel_rfl)
#print axioms treeSameUpto_holds
end Go.Proofs.YtnnbbeloifhofaaDoor
end
