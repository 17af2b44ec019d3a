/- Texts of this claim, joined. -/
import Derived.Test.YtnnbbeloifhofaaDoorCTreePrintsUpto0
import Derived.Test.YtnnbbeloifhofaaDoorCTreePrintsUpto1
import Derived.Lib.ItoaLen
import Derived.RegionTactic
import Derived.BigRegion
import Derived.Test.YtnnbbeloifhofaaDoorRows
import Derived.Deep.Slices
import Derived.DataReads
import Derived.ChangeArms
section
namespace Go.Proofs.YtnnbbeloifhofaaDoor.P
open Go.RowKit Go.Proofs.YtnnbbeloifhofaaDoorW.PrintWords Go.Proofs.YtnnbbeloifhofaaDoorW.PrintLast Go.Proofs.YtnnbbeloifhofaaDoorW.PrintMore
attribute [local go_sem] max2_int min2_int max_two min_two max_three min_three max_four min_four
set_option linter.unusedVariables false
set_option linter.unusedSimpArgs false
mutual
def tree_Text.j0:Nat→ByteArray→Bool→ByteArray→ByteArray→Int→List (S33)→Int→Option (ByteArray)
 | 0,_,_,_,_,_,_,_=>none
 | k+1,x4,x24,x132000,x132001,x132002,x132003,x132004=>if x24=true then (some x132000) else (if x4.toList=([110,101,103]:List UInt8) then ((tree_closed.f k x132003 0).bind fun t134=>(if 1+t134.size≤9223372036854775807 then (some ((⟨#[45]⟩:ByteArray)++t134)) else (none))) else (if x4.toList=([110,111,116]:List UInt8) then ((tree_closed.f k x132003 0).bind fun t135=>(if 1+t135.size≤9223372036854775807 then (some ((⟨#[33]⟩:ByteArray)++t135)) else (none))) else ((tree_closed.f k x132003 0).bind fun t136=>(if t136.size+1≤9223372036854775807 then (if (t136++(⟨#[32]⟩:ByteArray)).size+x132000.size≤9223372036854775807 then (if ((t136++(⟨#[32]⟩:ByteArray))++x132000).size+1≤9223372036854775807 then ((tree_closed.f k x132003 1).bind fun t137=>(if (((t136++(⟨#[32]⟩:ByteArray))++x132000)++(⟨#[32]⟩:ByteArray)).size+t137.size≤9223372036854775807 then (some ((((t136++(⟨#[32]⟩:ByteArray))++x132000)++(⟨#[32]⟩:ByteArray))++t137)) else (none))) else (none)) else (none)) else (none)))))
def tree_Text.f:Nat→ByteArray→ByteArray→Int→List (S33)→Int→Option (ByteArray)
 | 0,_,_,_,_,_=>none
 | k+1,a0_0,a0_1,a0_2,l0_3,a0_4=>if a0_0.toList=([110,117,109]:List UInt8) then ((strconv_Itoa_31.f a0_2).bind fun t132=>(some t132)) else (if a0_0.toList=([110,97,109,101]:List UInt8) then (some a0_1) else (if a0_0.toList=([97,116]:List UInt8) then (if a0_1.size+1≤9223372036854775807 then ((tree_part.f k l0_3 0).bind fun t133=>(if (a0_1++(⟨#[91]⟩:ByteArray)).size+t133.size≤9223372036854775807 then (if ((a0_1++(⟨#[91]⟩:ByteArray))++t133).size+1≤9223372036854775807 then (some (((a0_1++(⟨#[91]⟩:ByteArray))++t133)++(⟨#[93]⟩:ByteArray))) else (none)) else (none))) else (none)) else (if a0_0.toList=([116,114,117,101]:List UInt8) then (tree_Text.j0 k a0_0 (a0_0.toList == ([116,114,117,101]:List UInt8)) a0_0 a0_1 a0_2 l0_3 a0_4) else (tree_Text.j0 k a0_0 (a0_0.toList == ([102,97,108,115,101]:List UInt8)) a0_0 a0_1 a0_2 l0_3 a0_4))))
def tree_part.f:Nat→List (S33)→Int→Option (ByteArray)
 | 0,_,_=>none
 | k+1,l0,a1=>if a1≥(l0.length:Int) then (some (⟨#[]⟩:ByteArray)) else (if 0≤a1 then (if a1 < (l0.length:Int) then ((tree_Text.f k ((rd_T33 l0 a1).f0) ((rd_T33 l0 a1).f1) ((rd_T33 l0 a1).f2) ((rd_T33 l0 a1).f3) ((rd_T33 l0 a1).f4)).bind fun t139=>(some t139)) else (none)) else (none))
def tree_closed.f:Nat→List (S33)→Int→Option (ByteArray)
 | 0,_,_=>none
 | k+1,l0,a1=>(tree_part.f k l0 a1).bind fun t140=>(if a1≥(l0.length:Int) then (some t140) else (if 0≤a1 then (if a1 < (l0.length:Int) then ((slices_Contains_string_string.f k (([(⟨#[110,117,109]⟩:ByteArray),(⟨#[110,97,109,101]⟩:ByteArray),(⟨#[97,116]⟩:ByteArray),(⟨#[116,114,117,101]⟩:ByteArray),(⟨#[102,97,108,115,101]⟩:ByteArray)]:List ByteArray)) ((rd_T33 l0 a1).f0)).bind fun t145=>(if t145=true then (some t140) else (if 1+t140.size≤9223372036854775807 then (if ((⟨#[40]⟩:ByteArray)++t140).size+1≤9223372036854775807 then (some (((⟨#[40]⟩:ByteArray)++t140)++(⟨#[41]⟩:ByteArray))) else (none)) else (none)))) else (none)) else (none)))
end
abbrev tree_Text.Stmt (k:Nat):Prop:=∀ (a0_0:ByteArray) (a0_1:ByteArray) (a0_2:Int) (A0_3:Option Addr) (c0_3:Nat) (l0_3:List (S33)) (a0_4:Int) (r:ByteArray) (w:World) (hT:TabT w) (hr0_3:Kd.C k33 w A0_3 l0_3.length l0_3) (hc0_3:l0_3.length≤c0_3) (h:tree_Text.f k a0_0 a0_1 a0_2 l0_3 a0_4=some r),
  Calls Tryd.prog 12 #[.agg #[.string a0_0,.string a0_1,.int .i64 a0_2,.slice A0_3 l0_3.length c0_3,.int .i64 a0_4]] w fun e w'=>e=.returned (.string r)∧Below w.heap.size w w'
abbrev tree_part.Stmt (k:Nat):Prop:=∀ (A0:Option Addr) (c0:Nat) (l0:List (S33)) (a1:Int) (r:ByteArray) (w:World) (hT:TabT w) (hr0:Kd.C k33 w A0 l0.length l0) (hc0:l0.length≤c0) (h:tree_part.f k l0 a1=some r),
  Calls Tryd.prog 32 #[.slice A0 l0.length c0,.int .i64 a1] w fun e w'=>e=.returned (.string r)∧Below w.heap.size w w'
abbrev tree_closed.Stmt (k:Nat):Prop:=∀ (A0:Option Addr) (c0:Nat) (l0:List (S33)) (a1:Int) (r:ByteArray) (w:World) (hT:TabT w) (hr0:Kd.C k33 w A0 l0.length l0) (hc0:l0.length≤c0) (h:tree_closed.f k l0 a1=some r),
  Calls Tryd.prog 33 #[.slice A0 l0.length c0,.int .i64 a1] w fun e w'=>e=.returned (.string r)∧Below w.heap.size w w'
end Go.Proofs.YtnnbbeloifhofaaDoor.P
end
section
namespace Go.Proofs.YtnnbbeloifhofaaDoor.P
open Go.RowKit Go.Proofs.YtnnbbeloifhofaaDoorW.PrintWords Go.Proofs.YtnnbbeloifhofaaDoorW.PrintLast Go.Proofs.YtnnbbeloifhofaaDoorW.PrintMore
attribute [local go_sem] max2_int min2_int max_two min_two max_three min_three max_four min_four
set_option linter.unusedVariables false
set_option linter.unusedSimpArgs false
def tree_Text.T7:Bool × List (List Nat × List Nat):=(true,[([],[]),([0],[0]),([1],[1]),([],[]),([3],[3]),([4],[4]),([2,5],[2,5]),([6],[6]),([7,5,0,1,2,3,4,5,6,7],[7])])
def tree_Text.B7:List Nat:=[0,1,3,0,8,24,63,127,255]
theorem tree_Text.tab7:rtab .any (opsOf Tryd.f12 7)=tree_Text.T7:=by kernel_rfl
theorem tree_Text.bits7:waitsOk tree_Text.T7.2 tree_Text.B7=true:=by kernel_rfl
def tree_Text.T15:Bool × List (List Nat × List Nat):=(true,[([],[]),([0],[0]),([1],[1]),([2],[2]),([],[]),([4],[4]),([3,5],[3,5]),([6],[6]),([],[]),([8],[8]),([9,2],[9]),([7,10],[7,10]),([11,10,0,1,2,3,4,5,6,7,8,9,10,11],[11])])
def tree_Text.B15:List Nat:=[0,1,3,7,0,16,63,127,0,256,775,2047,4095]
theorem tree_Text.tab15:rtab .any (opsOf Tryd.f12 15)=tree_Text.T15:=by kernel_rfl
theorem tree_Text.bits15:waitsOk tree_Text.T15.2 tree_Text.B15=true:=by kernel_rfl
set_option maxHeartbeats 8000000 in
set_option maxRecDepth 100000 in
theorem tree_Text.step (k:Nat) (ih12 : ∀ m_,m_ < k→tree_Text.Stmt m_) (ih32 : ∀ m_,m_ < k→tree_part.Stmt m_) (ih33 : ∀ m_,m_ < k→tree_closed.Stmt m_):tree_Text.Stmt k:=by
 intro a0_0 a0_1 a0_2 A0_3 c0_3 l0_3 a0_4 r w hT hr0_3 hc0_3 h
 cases k with
 | zero=>exact absurd h (by simp [tree_Text.f])
 | succ k=>
 simp only [tree_Text.f] at h
 have hu33:=Tryd.underlying33
 have HR0_3:=Aside0.mk hr0_3
 have HC0_3:=Aside0.mk hc0_3
 clear hr0_3 hc0_3
 have HB:=Aside0.mk (Below.refl w.heap.size w)
 have H:(if a0_0.toList=([110,117,109]:List UInt8) then ((strconv_Itoa_31.f a0_2).bind fun t132=>(some t132)) else (if a0_0.toList=([110,97,109,101]:List UInt8) then (some a0_1) else (if a0_0.toList=([97,116]:List UInt8) then (if a0_1.size+1≤9223372036854775807 then ((tree_part.f k l0_3 0).bind fun t133=>(if (a0_1++(⟨#[91]⟩:ByteArray)).size+t133.size≤9223372036854775807 then (if ((a0_1++(⟨#[91]⟩:ByteArray))++t133).size+1≤9223372036854775807 then (some (((a0_1++(⟨#[91]⟩:ByteArray))++t133)++(⟨#[93]⟩:ByteArray))) else (none)) else (none))) else (none)) else (if a0_0.toList=([116,114,117,101]:List UInt8) then (tree_Text.j0 k a0_0 (a0_0.toList == ([116,114,117,101]:List UInt8)) a0_0 a0_1 a0_2 l0_3 a0_4) else (tree_Text.j0 k a0_0 (a0_0.toList == ([102,97,108,115,101]:List UInt8)) a0_0 a0_1 a0_2 l0_3 a0_4)))))=some r:=h
 clear h
 by_cases c2:a0_0.toList=([110,117,109]:List UInt8)
 ·rw [if_pos c2] at H
  have c2b0:=bqt_ c2
  have c2b1:=bnf_ c2
  clear c2
  revert H
  refine bd_ fun t132 A3 H=>?_
  obtain rfl:=Option.some.inj H
  go_enter Tryd.func12,Tryd.ntmps12
  go_wp2_with (first|((with_reducible refine gate_dst (N:=1) rfl ?_);refine bx_ (N:=1) (cs:=#[.string a0_0,.string a0_1,.int .i64 a0_2,.slice A0_3 l0_3.length c0_3,.int .i64 a0_4]) (t:=33) ?_;intro gb131 hg w4 hbox hb;have BK131:=Aside0.mk (hbox);have GW131:=Aside0.mk ((gs_ hg (bl_ HB.out):w.heap.size≤gb131));have GE131:=Aside0.mk ((gs_ hg (bl_ HB.out):w.heap.size≤gb131));replace HB:=Aside0.mk (below_step (bl_ HB.out) hb);clear hb hbox hg;obtain ⟨hcz5_0,hcz5_1,hcz5_2,hcz5_3,hcz5_4,hfz5_0,hfz5_1,hfz5_2,hfz5_3,hfz5_4⟩:=zf5_ BK131.out)|((with_reducible refine gate_callee (f:=31) rfl ?_);refine goesL_ (some 9) rfl rfl Tryd.func31 (by kernel_rfl) rfl #[.int .i64 a0_2] rfl ar_ ?_;(with_reducible refine (strconv_Itoa_31.calls a0_2 t132 _ ?side1 A3.out).mono ?_);(case side1=>exact hT.later (bl_ HB.out));rintro e w6 ⟨rfl,hb⟩;refine ⟨_,rfl,?_⟩;replace BK131:=Aside0.mk (bb_ BK131.out hb);replace HB:=Aside0.mk (below_step (bl_ HB.out) hb)))
  go_ret
  exact ⟨rt_,bl_ HB.out⟩
 ·rw [if_neg c2] at H
  have c2b0:=bqf_ c2
  have c2b1:=bnt_ c2
  by_cases c7:a0_0.toList=([110,97,109,101]:List UInt8)
  ·rw [if_pos c7] at H
   have c7b0:=bqt_ c7
   have c7b1:=bnf_ c7
   clear c7
   obtain rfl:=Option.some.inj H
   go_enter Tryd.func12,Tryd.ntmps12
   go_wp2_with (first|((with_reducible refine gate_dst (N:=1) rfl ?_);refine bx_ (N:=1) (cs:=#[.string a0_0,.string a0_1,.int .i64 a0_2,.slice A0_3 l0_3.length c0_3,.int .i64 a0_4]) (t:=33) ?_;intro gb131 hg w8 hbox hb;have BK131:=Aside0.mk (hbox);have GW131:=Aside0.mk ((gs_ hg (bl_ HB.out):w.heap.size≤gb131));have GE131:=Aside0.mk ((gs_ hg (bl_ HB.out):w.heap.size≤gb131));replace HB:=Aside0.mk (below_step (bl_ HB.out) hb);clear hb hbox hg;obtain ⟨hcz9_0,hcz9_1,hcz9_2,hcz9_3,hcz9_4,hfz9_0,hfz9_1,hfz9_2,hfz9_3,hfz9_4⟩:=zf5_ BK131.out))
   go_ret
   exact ⟨rt_,bl_ HB.out⟩
  ·rw [if_neg c7] at H
   have c7b0:=bqf_ c7
   have c7b1:=bnt_ c7
   by_cases c10:a0_0.toList=([97,116]:List UInt8)
   ·rw [if_pos c10] at H
    have c10b0:=bqt_ c10
    have c10b1:=bnf_ c10
    clear c10
    revert H
    refine gd_ fun c11 H=>?_
    have c11b0:=eq_true c11
    have c11b1:=decide_eq_true c11
    have c11b2:=nlt_ c11
    revert H
    refine bd_ fun t133 A12 H=>?_
    revert H
    refine gd_ fun c13 H=>?_
    have c13b0:=eq_true c13
    have c13b1:=decide_eq_true c13
    have c13b2:=nlt_ c13
    try have c13b3:(9223372036854775807 < a0_1.size+1+t133.size)=False:=by have h_:=c13b2;simp only [ByteArray.size_append] at h_;exact h_
    try have c13b4:(a0_1.size+1+t133.size≤9223372036854775807)=True:=by have h_:=c13b0;simp only [ByteArray.size_append] at h_;exact h_
    revert H
    refine gd_ fun c14 H=>?_
    have c14b0:=eq_true c14
    have c14b1:=decide_eq_true c14
    have c14b2:=nlt_ c14
    try have c14b3:(9223372036854775807 < a0_1.size+1+t133.size+1)=False:=by have h_:=c14b2;simp only [ByteArray.size_append] at h_;exact h_
    try have c14b4:(a0_1.size+1+t133.size+1≤9223372036854775807)=True:=by have h_:=c14b0;simp only [ByteArray.size_append] at h_;exact h_
    obtain rfl:=Option.some.inj H
    go_enter Tryd.func12,Tryd.ntmps12
    try go_wp2_with (first|((with_reducible refine gate_dst (N:=1) rfl ?_);refine bx_ (N:=1) (cs:=#[.string a0_0,.string a0_1,.int .i64 a0_2,.slice A0_3 l0_3.length c0_3,.int .i64 a0_4]) (t:=33) ?_;intro gb131 hg w15 hbox hb;have BK131:=Aside0.mk (hbox);have GW131:=Aside0.mk ((gs_ hg (bl_ HB.out):w.heap.size≤gb131));have GE131:=Aside0.mk ((gs_ hg (bl_ HB.out):w.heap.size≤gb131));replace HB:=Aside0.mk (below_step (bl_ HB.out) hb);clear hb hbox hg;obtain ⟨hcz16_0,hcz16_1,hcz16_2,hcz16_3,hcz16_4,hfz16_0,hfz16_1,hfz16_2,hfz16_3,hfz16_4⟩:=zf5_ BK131.out))
    replace BK131:=Aside0.mk (blk_drew BK131.out)
    replace HB:=Aside0.mk (below_drew1 HB.out)
    refine start_ (n:=9) (S:=fun w'=>w'.cell? ⟨gb131,0,none⟩=some (.string a0_0)∧w'.cell? ⟨gb131,1,none⟩=some (.string a0_1)∧w'.cell? ⟨gb131,2,none⟩=some (.int .i64 a0_2)∧w'.cell? ⟨gb131,3,none⟩=some (.slice A0_3 l0_3.length c0_3)∧w'.cell? ⟨gb131,4,none⟩=some (.int .i64 a0_4)) (ds:=[]) (flg 9 0) (by kernel_rfl) rfl (by kernel_rfl) ⟨zc_ BK131.out 0,zc_ BK131.out 1,zc_ BK131.out 2,zc_ BK131.out 3,zc_ BK131.out 4⟩ (fun hHeld=>?_);refine with_tabW tree_Text.tab7 tree_Text.bits7 (fun HT_ HW_=>?_)
    generalize w15.drew=w17 at BK131 HB hHeld ⊢
    refine pu_ 0 16 (flg 9 1) ?_
    refine pu_ 3 19 (flg 9 9) ?_
    refine ta_ 1 17 (flg 9 11) hHeld ?_
    refine pu_ 2 18 (flg 9 15) ?_
    refine ta_ 4 20 (flg 9 31) hHeld ?_
    refine one_ (i:=5) (N:=some 21) (flg 9 63) rfl rfl (one_of HT_.out (by kernel_rfl)) (by decide) (fun K hK=>?_)
    refine goes_ Tryd.func32 (by kernel_rfl) rfl #[.slice A0_3 l0_3.length c0_3,.int .i64 0] (by rfl) rfl rfl ar_ ?_
    with_reducible refine (ih32 k (by omega) _ _ l0_3 0 t133 _ ?side1 ?side2 ?side3 A12.out).mono ?_
    (case side1=>exact hT.later (bl_ HB.out))
    (case side2=>exact kc_ HR0_3.out HB.out)
    (case side3=>exact HC0_3.out)
    rintro e w18 ⟨rfl,hb⟩
    refine ⟨_,rfl,?_⟩
    replace BK131:=Aside0.mk (bb_ BK131.out hb)
    replace HB:=Aside0.mk (below_step (bl_ HB.out) hb)
    refine ko_ hK (fun hHeld=>?_)
    clear hK K
    refine nm_ ?_
    refine pu_ 6 22 (flg 9 127) ?_
    refine pu_ 7 23 (flg 9 255) ?_
    refine pu_ 8 2 (flg 9 511) ?_
    refine done_ (done_of HT_.out (by kernel_rfl)) ?_
    try go_wp2
    go_ret
    exact ⟨rt_,bl_ HB.out⟩
   ·rw [if_neg c10] at H
    have c10b0:=bqf_ c10
    have c10b1:=bnt_ c10
    have HC19:=Aside0.mk H
    clear H
    go_enter Tryd.func12,Tryd.ntmps12
    go_upto_if 24 with (first|((with_reducible refine gate_dst (N:=1) rfl ?_);refine bx_ (N:=1) (cs:=#[.string a0_0,.string a0_1,.int .i64 a0_2,.slice A0_3 l0_3.length c0_3,.int .i64 a0_4]) (t:=33) ?_;intro gb131 hg w20 hbox hb;have BK131:=Aside0.mk (hbox);have GW131:=Aside0.mk ((gs_ hg (bl_ HB.out):w.heap.size≤gb131));have GE131:=Aside0.mk ((gs_ hg (bl_ HB.out):w.heap.size≤gb131));replace HB:=Aside0.mk (below_step (bl_ HB.out) hb);clear hb hbox hg;obtain ⟨hcz21_0,hcz21_1,hcz21_2,hcz21_3,hcz21_4,hfz21_0,hfz21_1,hfz21_2,hfz21_3,hfz21_4⟩:=zf5_ BK131.out))
    (try simp only [Act.put,List.setIfInBounds_toArray,List.set_cons_zero,List.set_cons_succ])
    go_cut [24] (fun v24 wc=>∃ (kq:Nat) (x24_18:Bool),v24=.bool x24_18∧Aside0 (tree_Text.j0 kq a0_0 x24_18 a0_0 a0_1 a0_2 l0_3 a0_4=some r)∧Aside0 (kq≤k)∧Aside0 (wc.heap[gb131]?=some (.cells #[.string a0_0,.string a0_1,.int .i64 a0_2,(.slice A0_3 l0_3.length c0_3),.int .i64 a0_4] 33 (0,0)))∧Aside0 (Below w.heap.size w wc))
    case first=>
     have H:=HC19.out
     clear HC19
     by_cases c22:a0_0.toList=([116,114,117,101]:List UInt8)
     ·rw [if_pos c22] at H
      have c22b0:=bqt_ c22
      have c22b1:=bnf_ c22
      clear c22
      (first|rw [c22b0]|(simp only [i64_w,i32_w];rw [c22b0])|skip)
      have H':=Aside0.mk H
      clear H
      go_wp2
      go_meet
      case rel=>exact ⟨_,((a0_0.toList == ([116,114,117,101]:List UInt8))),rf_,H',⟨by first|omega|exact Nat.le_refl _⟩,⟨kb_ BK131.out⟩,⟨bl_ HB.out⟩⟩
     ·rw [if_neg c22] at H
      have c22b0:=bqf_ c22
      have c22b1:=bnt_ c22
      (first|rw [c22b0]|(simp only [i64_w,i32_w];rw [c22b0])|skip)
      have H':=Aside0.mk H
      clear H
      go_wp2
      go_meet
      case rel=>exact ⟨_,((a0_0.toList == ([102,97,108,115,101]:List UInt8))),rf_,H',⟨by first|omega|exact Nat.le_refl _⟩,⟨kb_ BK131.out⟩,⟨bl_ HB.out⟩⟩
    case rest=>
     clear HC19
     obtain ⟨kq,x24_18,rfl,HA,HJ18,BK131,HB⟩:=hcut
     cases kq with
     | zero=>exact absurd HA.out (by simp [tree_Text.j0])
     | succ kj18=>
      have H:=HA.out
      clear HA
      simp only [tree_Text.j0] at H
      by_cases c23:x24_18=true
      ·subst c23
       replace H:=ip_ H
       obtain rfl:=Option.some.inj H
       obtain ⟨hcz24_0,hcz24_1,hcz24_2,hcz24_3,hcz24_4,hfz24_0,hfz24_1,hfz24_2,hfz24_3,hfz24_4⟩:=zf5_ BK131.out
       go_wp2
       go_ret
       exact ⟨rt_,bl_ HB.out⟩
      ·replace c23:=Bool.eq_false_iff.mpr c23
       subst c23
       replace H:=in_ H
       by_cases c25:a0_0.toList=([110,101,103]:List UInt8)
       ·rw [if_pos c25] at H
        have c25b0:=bqt_ c25
        have c25b1:=bnf_ c25
        clear c25
        revert H
        refine bd_ fun t134 A26 H=>?_
        revert H
        refine gd_ fun c27 H=>?_
        have c27b0:=eq_true c27
        have c27b1:=decide_eq_true c27
        have c27b2:=nlt_ c27
        obtain rfl:=Option.some.inj H
        obtain ⟨hcz28_0,hcz28_1,hcz28_2,hcz28_3,hcz28_4,hfz28_0,hfz28_1,hfz28_2,hfz28_3,hfz28_4⟩:=zf5_ BK131.out
        go_wp2_with (first|((with_reducible refine gate_callee (f:=33) rfl ?_);refine goesL_ (some 33) rfl rfl Tryd.func33 (by kernel_rfl) rfl #[.slice A0_3 l0_3.length c0_3,.int .i64 0] rfl ar_ ?_;(with_reducible refine (ih33 kj18 (by have:=HJ18.out;omega) _ _ l0_3 0 t134 _ ?side1 ?side2 ?side3 A26.out).mono ?_);(case side1=>exact hT.later (bl_ HB.out));(case side2=>exact kc_ HR0_3.out HB.out);(case side3=>exact HC0_3.out);rintro e w29 ⟨rfl,hb⟩;refine ⟨_,rfl,?_⟩;replace BK131:=Aside0.mk (bb_ BK131.out hb);replace HB:=Aside0.mk (below_step (bl_ HB.out) hb)))
        go_ret
        exact ⟨rt_,bl_ HB.out⟩
       ·rw [if_neg c25] at H
        have c25b0:=bqf_ c25
        have c25b1:=bnt_ c25
        by_cases c30:a0_0.toList=([110,111,116]:List UInt8)
        ·rw [if_pos c30] at H
         have c30b0:=bqt_ c30
         have c30b1:=bnf_ c30
         clear c30
         revert H
         refine bd_ fun t135 A31 H=>?_
         revert H
         refine gd_ fun c32 H=>?_
         have c32b0:=eq_true c32
         have c32b1:=decide_eq_true c32
         have c32b2:=nlt_ c32
         obtain rfl:=Option.some.inj H
         obtain ⟨hcz33_0,hcz33_1,hcz33_2,hcz33_3,hcz33_4,hfz33_0,hfz33_1,hfz33_2,hfz33_3,hfz33_4⟩:=zf5_ BK131.out
         go_wp2_with (first|((with_reducible refine gate_callee (f:=33) rfl ?_);refine goesL_ (some 39) rfl rfl Tryd.func33 (by kernel_rfl) rfl #[.slice A0_3 l0_3.length c0_3,.int .i64 0] rfl ar_ ?_;(with_reducible refine (ih33 kj18 (by have:=HJ18.out;omega) _ _ l0_3 0 t135 _ ?side1 ?side2 ?side3 A31.out).mono ?_);(case side1=>exact hT.later (bl_ HB.out));(case side2=>exact kc_ HR0_3.out HB.out);(case side3=>exact HC0_3.out);rintro e w34 ⟨rfl,hb⟩;refine ⟨_,rfl,?_⟩;replace BK131:=Aside0.mk (bb_ BK131.out hb);replace HB:=Aside0.mk (below_step (bl_ HB.out) hb)))
         go_ret
         exact ⟨rt_,bl_ HB.out⟩
        ·rw [if_neg c30] at H
         have c30b0:=bqf_ c30
         have c30b1:=bnt_ c30
         revert H
         refine bd_ fun t136 A35 H=>?_
         revert H
         refine gd_ fun c36 H=>?_
         have c36b0:=eq_true c36
         have c36b1:=decide_eq_true c36
         have c36b2:=nlt_ c36
         revert H
         refine gd_ fun c37 H=>?_
         have c37b0:=eq_true c37
         have c37b1:=decide_eq_true c37
         have c37b2:=nlt_ c37
         try have c37b3:(9223372036854775807 < t136.size+1+a0_0.size)=False:=by have h_:=c37b2;simp only [ByteArray.size_append] at h_;exact h_
         try have c37b4:(t136.size+1+a0_0.size≤9223372036854775807)=True:=by have h_:=c37b0;simp only [ByteArray.size_append] at h_;exact h_
         revert H
         refine gd_ fun c38 H=>?_
         have c38b0:=eq_true c38
         have c38b1:=decide_eq_true c38
         have c38b2:=nlt_ c38
         try have c38b3:(9223372036854775807 < t136.size+1+a0_0.size+1)=False:=by have h_:=c38b2;simp only [ByteArray.size_append] at h_;exact h_
         try have c38b4:(t136.size+1+a0_0.size+1≤9223372036854775807)=True:=by have h_:=c38b0;simp only [ByteArray.size_append] at h_;exact h_
         revert H
         refine bd_ fun t137 A39 H=>?_
         revert H
         refine gd_ fun c40 H=>?_
         have c40b0:=eq_true c40
         have c40b1:=decide_eq_true c40
         have c40b2:=nlt_ c40
         try have c40b3:(9223372036854775807 < t136.size+1+a0_0.size+1+t137.size)=False:=by have h_:=c40b2;simp only [ByteArray.size_append] at h_;exact h_
         try have c40b4:(t136.size+1+a0_0.size+1+t137.size≤9223372036854775807)=True:=by have h_:=c40b0;simp only [ByteArray.size_append] at h_;exact h_
         obtain rfl:=Option.some.inj H
         try go_wp2
         replace BK131:=Aside0.mk (blk_drew BK131.out)
         replace HB:=Aside0.mk (below_drew1 HB.out)
         refine start_ (n:=13) (S:=fun w'=>w'.cell? ⟨gb131,0,none⟩=some (.string a0_0)∧w'.cell? ⟨gb131,1,none⟩=some (.string a0_1)∧w'.cell? ⟨gb131,2,none⟩=some (.int .i64 a0_2)∧w'.cell? ⟨gb131,3,none⟩=some (.slice A0_3 l0_3.length c0_3)∧w'.cell? ⟨gb131,4,none⟩=some (.int .i64 a0_4)) (ds:=[]) (flg 13 0) (by kernel_rfl) rfl (by kernel_rfl) ⟨zc_ BK131.out 0,zc_ BK131.out 1,zc_ BK131.out 2,zc_ BK131.out 3,zc_ BK131.out 4⟩ (fun hHeld=>?_);refine with_tabW tree_Text.tab15 tree_Text.bits15 (fun HT_ HW_=>?_)
         generalize wc.drew=w41 at BK131 HB hHeld ⊢
         refine pu_ 0 41 (flg 13 1) ?_
         refine pu_ 4 45 (flg 13 17) ?_
         refine pu_ 8 49 (flg 13 273) ?_
         refine ta_ 1 42 (flg 13 275) hHeld ?_
         refine ta_ 5 46 (flg 13 307) hHeld ?_
         refine ta_ 9 50 (flg 13 819) hHeld ?_
         refine one_ (i:=2) (N:=some 43) (flg 13 823) rfl rfl (one_of HT_.out (by kernel_rfl)) (by decide) (fun K hK=>?_)
         refine goes_ Tryd.func33 (by kernel_rfl) rfl #[.slice A0_3 l0_3.length c0_3,.int .i64 0] (by rfl) rfl rfl ar_ ?_
         with_reducible refine (ih33 kj18 (by have:=HJ18.out;omega) _ _ l0_3 0 t136 _ ?side1 ?side2 ?side3 A35.out).mono ?_
         (case side1=>exact hT.later (bl_ HB.out))
         (case side2=>exact kc_ HR0_3.out HB.out)
         (case side3=>exact HC0_3.out)
         rintro e w42 ⟨rfl,hb⟩
         refine ⟨_,rfl,?_⟩
         replace BK131:=Aside0.mk (bb_ BK131.out hb)
         replace HB:=Aside0.mk (below_step (bl_ HB.out) hb)
         refine ko_ hK (fun hHeld=>?_)
         clear hK K
         refine nm_ ?_
         refine pu_ 3 44 (flg 13 831) ?_
         refine pu_ 6 47 (flg 13 895) ?_
         refine pu_ 7 48 (flg 13 1023) ?_
         refine one_ (i:=10) (N:=some 51) (flg 13 2047) rfl rfl (one_of HT_.out (by kernel_rfl)) (by decide) (fun K hK=>?_)
         refine goes_ Tryd.func33 (by kernel_rfl) rfl #[.slice A0_3 l0_3.length c0_3,.int .i64 1] (by rfl) rfl rfl ar_ ?_
         with_reducible refine (ih33 kj18 (by have:=HJ18.out;omega) _ _ l0_3 1 t137 _ ?side1 ?side2 ?side3 A39.out).mono ?_
         (case side1=>exact hT.later (bl_ HB.out))
         (case side2=>exact kc_ HR0_3.out HB.out)
         (case side3=>exact HC0_3.out)
         rintro e w43 ⟨rfl,hb⟩
         refine ⟨_,rfl,?_⟩
         replace BK131:=Aside0.mk (bb_ BK131.out hb)
         replace HB:=Aside0.mk (below_step (bl_ HB.out) hb)
         refine ko_ hK (fun hHeld=>?_)
         clear hK K
         refine nm_ ?_
         refine pu_ 11 52 (flg 13 4095) ?_
         refine pu_ 12 2 (flg 13 8191) ?_
         refine done_ (done_of HT_.out (by kernel_rfl)) ?_
         try go_wp2
         go_ret
         exact ⟨rt_,bl_ HB.out⟩
end Go.Proofs.YtnnbbeloifhofaaDoor.P
end
section
namespace Go.Proofs.YtnnbbeloifhofaaDoor.P
open Go.RowKit Go.Proofs.YtnnbbeloifhofaaDoorW.PrintWords Go.Proofs.YtnnbbeloifhofaaDoorW.PrintLast Go.Proofs.YtnnbbeloifhofaaDoorW.PrintMore
attribute [local go_sem] max2_int min2_int max_two min_two max_three min_three max_four min_four
set_option linter.unusedVariables false
set_option linter.unusedSimpArgs false
set_option maxHeartbeats 8000000 in
set_option maxRecDepth 100000 in
theorem tree_part.step (k:Nat) (ih12 : ∀ m_,m_ < k→tree_Text.Stmt m_) (ih32 : ∀ m_,m_ < k→tree_part.Stmt m_) (ih33 : ∀ m_,m_ < k→tree_closed.Stmt m_):tree_part.Stmt k:=by
 intro A0 c0 l0 a1 r w hT hr0 hc0 h
 cases k with
 | zero=>exact absurd h (by simp [tree_part.f])
 | succ k=>
 simp only [tree_part.f] at h
 have hu33:=Tryd.underlying33
 have HR0:=Aside0.mk hr0
 have HC0:=Aside0.mk hc0
 clear hr0 hc0
 have HB:=Aside0.mk (Below.refl w.heap.size w)
 have H:(if a1≥(l0.length:Int) then (some (⟨#[]⟩:ByteArray)) else (if 0≤a1 then (if a1 < (l0.length:Int) then ((tree_Text.f k ((rd_T33 l0 a1).f0) ((rd_T33 l0 a1).f1) ((rd_T33 l0 a1).f2) ((rd_T33 l0 a1).f3) ((rd_T33 l0 a1).f4)).bind fun t139=>(some t139)) else (none)) else (none)))=some r:=h
 clear h
 by_cases c3:a1≥(l0.length:Int)
 ·rw [if_pos c3] at H
  have c3b0:decide ((l0.length:Int)≤a1)=true:=decide_eq_true c3
  clear c3
  obtain rfl:=Option.some.inj H
  go_enter Tryd.func32,Tryd.ntmps32
  go_wp2
  go_ret
  exact ⟨rt_,bl_ HB.out⟩
 ·rw [if_neg c3] at H
  have c3b0:decide ((l0.length:Int)≤a1)=false:=decide_eq_false c3
  clear c3
  revert H
  refine gd_ fun c4 H=>?_
  have c4b0:=decide_eq_true c4
  clear c4
  revert H
  refine gd_ fun c5 H=>?_
  have c5b0:=decide_eq_true c5
  clear c5
  revert H
  refine bd_ fun t139 A6 H=>?_
  obtain rfl:=Option.some.inj H
  have p138:0≤(a1:Int):=of_decide_eq_true as_
  have q138:a1 < (l0.length:Int):=of_decide_eq_true as_
  obtain ⟨ad138,A138_3,c138_3,e138,hx138_0,hx138_1,hx138_2,hx138_3,hx138_4,hl138_3,hi138_3⟩:=at_T33 HR0.out a1 p138 q138
  cases e138
  have HR138_3:=Aside0.mk hi138_3
  have HC138_3:=Aside0.mk hl138_3
  clear hi138_3 hl138_3
  replace p138:=eq_true p138
  replace q138:=eq_true q138
  go_enter Tryd.func32,Tryd.ntmps32
  go_wp2_with (first|((with_reducible refine gate_callee (f:=12) rfl ?_);refine goesL_ (some 13) rfl rfl Tryd.func12 (by kernel_rfl) rfl #[.agg #[.string ((rd_T33 l0 a1).f0),.string ((rd_T33 l0 a1).f1),.int .i64 ((rd_T33 l0 a1).f2),.slice A138_3 ((rd_T33 l0 a1).f3).length c138_3,.int .i64 ((rd_T33 l0 a1).f4)]] rfl ar_ ?_;(with_reducible refine (ih12 k (by omega) ((rd_T33 l0 a1).f0) ((rd_T33 l0 a1).f1) ((rd_T33 l0 a1).f2) _ _ ((rd_T33 l0 a1).f3) ((rd_T33 l0 a1).f4) t139 _ ?side1 ?side2 ?side3 A6.out).mono ?_);(case side1=>exact hT.later (bl_ HB.out));(case side2=>repeat (first|exact HR138_3.out|(with_reducible refine Kd.C_alloc ?_ _)|(with_reducible refine Kd.C_drewN ?_ _)|(with_reducible refine Kd.C_drew ?_)));(case side3=>exact HC138_3.out);rintro e w7 ⟨rfl,hb⟩;refine ⟨_,rfl,?_⟩;replace HB:=Aside0.mk (below_step (bl_ HB.out) hb)))
  go_ret
  exact ⟨rt_,bl_ HB.out⟩
end Go.Proofs.YtnnbbeloifhofaaDoor.P
end
section
namespace Go.Proofs.YtnnbbeloifhofaaDoor.P
open Go.RowKit Go.Proofs.YtnnbbeloifhofaaDoorW.PrintWords Go.Proofs.YtnnbbeloifhofaaDoorW.PrintLast Go.Proofs.YtnnbbeloifhofaaDoorW.PrintMore
attribute [local go_sem] max2_int min2_int max_two min_two max_three min_three max_four min_four
set_option linter.unusedVariables false
set_option linter.unusedSimpArgs false
set_option maxHeartbeats 8000000 in
set_option maxRecDepth 100000 in
theorem tree_closed.step (k:Nat) (ih12 : ∀ m_,m_ < k→tree_Text.Stmt m_) (ih32 : ∀ m_,m_ < k→tree_part.Stmt m_) (ih33 : ∀ m_,m_ < k→tree_closed.Stmt m_):tree_closed.Stmt k:=by
 intro A0 c0 l0 a1 r w hT hr0 hc0 h
 cases k with
 | zero=>exact absurd h (by simp [tree_closed.f])
 | succ k=>
 simp only [tree_closed.f] at h
 have HR0:=Aside0.mk hr0
 have HC0:=Aside0.mk hc0
 clear hr0 hc0
 have HB:=Aside0.mk (Below.refl w.heap.size w)
 have H:((tree_part.f k l0 a1).bind fun t140=>(if a1≥(l0.length:Int) then (some t140) else (if 0≤a1 then (if a1 < (l0.length:Int) then ((slices_Contains_string_string.f k (([(⟨#[110,117,109]⟩:ByteArray),(⟨#[110,97,109,101]⟩:ByteArray),(⟨#[97,116]⟩:ByteArray),(⟨#[116,114,117,101]⟩:ByteArray),(⟨#[102,97,108,115,101]⟩:ByteArray)]:List ByteArray)) ((rd_T33 l0 a1).f0)).bind fun t145=>(if t145=true then (some t140) else (if 1+t140.size≤9223372036854775807 then (if ((⟨#[40]⟩:ByteArray)++t140).size+1≤9223372036854775807 then (some (((⟨#[40]⟩:ByteArray)++t140)++(⟨#[41]⟩:ByteArray))) else (none)) else (none)))) else (none)) else (none))))=some r:=h
 clear h
 revert H
 refine bd_ fun t140 A3 H=>?_
 by_cases c4:a1≥(l0.length:Int)
 ·rw [if_pos c4] at H
  have c4b0:decide ((l0.length:Int)≤a1)=true:=decide_eq_true c4
  clear c4
  obtain rfl:=Option.some.inj H
  go_enter Tryd.func33,Tryd.ntmps33
  go_wp2_with (first|((with_reducible refine gate_callee (f:=32) rfl ?_);refine goesL_ (some 8) rfl rfl Tryd.func32 (by kernel_rfl) rfl #[.slice A0 l0.length c0,.int .i64 a1] rfl ar_ ?_;(with_reducible refine (ih32 k (by omega) _ _ l0 a1 t140 _ ?side1 ?side2 ?side3 A3.out).mono ?_);(case side1=>exact hT.later (bl_ HB.out));(case side2=>repeat (first|exact HR0.out|(with_reducible refine Kd.C_alloc ?_ _)|(with_reducible refine Kd.C_drewN ?_ _)|(with_reducible refine Kd.C_drew ?_)));(case side3=>exact HC0.out);rintro e w5 ⟨rfl,hb⟩;refine ⟨_,rfl,?_⟩;replace HB:=Aside0.mk (below_step (bl_ HB.out) hb)))
  go_ret
  exact ⟨rt_,bl_ HB.out⟩
 ·rw [if_neg c4] at H
  have c4b0:decide ((l0.length:Int)≤a1)=false:=decide_eq_false c4
  clear c4
  obtain ⟨y141,hy141⟩ : ∃ y_:List ByteArray,y_=(([(⟨#[110,117,109]⟩:ByteArray),(⟨#[110,97,109,101]⟩:ByteArray),(⟨#[97,116]⟩:ByteArray),(⟨#[116,114,117,101]⟩:ByteArray),(⟨#[102,97,108,115,101]⟩:ByteArray)]:List ByteArray)):=⟨_,rfl⟩
  replace H:(if 0≤a1 then (if a1 < (l0.length:Int) then ((slices_Contains_string_string.f k y141 ((rd_T33 l0 a1).f0)).bind fun t145=>(if t145=true then (some t140) else (if 1+t140.size≤9223372036854775807 then (if ((⟨#[40]⟩:ByteArray)++t140).size+1≤9223372036854775807 then (some (((⟨#[40]⟩:ByteArray)++t140)++(⟨#[41]⟩:ByteArray))) else (none)) else (none)))) else (none)) else (none))=some r:=by first|(rw [hy141];with_reducible exact H)|(have H2_:=(Option.bind_some _ _).symm.trans H;rw [hy141];with_reducible exact H2_)|(have H2_:=(Option.bind_some _ _).symm.trans H;with_reducible exact H2_)|with_reducible exact H|(rw [hy141];exact H)|exact H
  have Ny141:=Aside0.mk hy141
  clear hy141
  revert H
  refine gd_ fun c6 H=>?_
  have c6b0:=decide_eq_true c6
  clear c6
  revert H
  refine gd_ fun c7 H=>?_
  have c7b0:=decide_eq_true c7
  clear c7
  revert H
  refine bd_ fun t145 A8 H=>?_
  by_cases c9:t145=true
  ·subst c9
   replace H:=ip_ H
   obtain rfl:=Option.some.inj H
   go_enter Tryd.func33,Tryd.ntmps33
   go_wp2_with (first|((with_reducible refine gate_callee (f:=32) rfl ?_);refine goesL_ (some 8) rfl rfl Tryd.func32 (by kernel_rfl) rfl #[.slice A0 l0.length c0,.int .i64 a1] rfl ar_ ?_;(with_reducible refine (ih32 k (by omega) _ _ l0 a1 t140 _ ?side1 ?side2 ?side3 A3.out).mono ?_);(case side1=>exact hT.later (bl_ HB.out));(case side2=>repeat (first|exact HR0.out|(with_reducible refine Kd.C_alloc ?_ _)|(with_reducible refine Kd.C_drewN ?_ _)|(with_reducible refine Kd.C_drew ?_)));(case side3=>exact HC0.out);rintro e w10 ⟨rfl,hb⟩;refine ⟨_,rfl,?_⟩;replace HB:=Aside0.mk (below_step (bl_ HB.out) hb))|((with_reducible refine gate_dst (N:=14) rfl ?_);(try (refine gate_guard (by rfl) ?_;dsimp only));refine Kd.R_lit Kd.string _ 9 ?hg (N:=14) ?hd (xs:=([(⟨#[110,117,109]⟩:ByteArray),(⟨#[110,97,109,101]⟩:ByteArray),(⟨#[97,116]⟩:ByteArray),(⟨#[116,114,117,101]⟩:ByteArray),(⟨#[102,97,108,115,101]⟩:ByteArray)]:List ByteArray)) (inner:=[.string (⟨#[110,117,109]⟩:ByteArray),.string (⟨#[110,97,109,101]⟩:ByteArray),.string (⟨#[97,116]⟩:ByteArray),.string (⟨#[116,114,117,101]⟩:ByteArray),.string (⟨#[102,97,108,115,101]⟩:ByteArray)]) (ok:=fun _=>True) (okp:=fun _=>True) ?hr ?hp (fun _ hk=>hk) trivial (Below.refl _ _) (Nat.le_refl _) (by simp) ?_;(case hd=>rfl);(case hg=>rfl);(case hr=>first|(go_simp;done)|(go_simp;rfl));(case hp=>exact (Reps.one (show Kd.M Kd.string _ _ _ (⟨#[110,117,109]⟩:ByteArray) [.string (⟨#[110,117,109]⟩:ByteArray)] from rfl) (Reps.one (show Kd.M Kd.string _ _ _ (⟨#[110,97,109,101]⟩:ByteArray) [.string (⟨#[110,97,109,101]⟩:ByteArray)] from rfl) (Reps.one (show Kd.M Kd.string _ _ _ (⟨#[97,116]⟩:ByteArray) [.string (⟨#[97,116]⟩:ByteArray)] from rfl) (Reps.one (show Kd.M Kd.string _ _ _ (⟨#[116,114,117,101]⟩:ByteArray) [.string (⟨#[116,114,117,101]⟩:ByteArray)] from rfl) (Reps.one (show Kd.M Kd.string _ _ _ (⟨#[102,97,108,115,101]⟩:ByteArray) [.string (⟨#[102,97,108,115,101]⟩:ByteArray)] from rfl) (Reps.none _ _)))))));intro v142 w11 ho12 hb hg_ hnew_;clear hg_ hnew_;(first|rw [← Ny141.out] at ho12|(simp only [Int.reduceToNat] at ho12;rw [← Ny141.out] at ho12));have HO143:=Aside0.mk (Kd.R_lower ho12 (below_size (bl_ HB.out)));replace HB:=Aside0.mk (below_step (bl_ HB.out) hb);clear hb ho12;have p144:0≤(a1:Int):=of_decide_eq_true as_;have q144:a1 < (l0.length:Int):=of_decide_eq_true as_;obtain ⟨ad144,A144_3,c144_3,e144,hx144_0,hx144_1,hx144_2,hx144_3,hx144_4,hl144_3,hi144_3⟩:=at_T33 HR0.out a1 p144 q144;cases e144;replace hx144_0:=(cb_ HB.out hx144_0:_);replace hx144_1:=(cb_ HB.out hx144_1:_);replace hx144_2:=(cb_ HB.out hx144_2:_);replace hx144_3:=(cb_ HB.out hx144_3:_);replace hx144_4:=(cb_ HB.out hx144_4:_);have HR144_3:=Aside0.mk hi144_3;have HC144_3:=Aside0.mk hl144_3;clear hi144_3 hl144_3;replace p144:=eq_true p144;replace q144:=eq_true q144;obtain ⟨Ao13,co13,eo13⟩:=Kd.R_slice HO143.out;subst eo13)|(go_at_call 54;(with_reducible refine (slices_Contains_string_string.calls k _ _ y141 ((rd_T33 l0 a1).f0) true _ ?side1 ?side2 A8.out).mono ?_);(case side1=>repeat (first|exact (Kd.R_reads' HO143.out).2.2|(with_reducible refine Kd.C_alloc ?_ _)|(with_reducible refine Kd.C_drewN ?_ _)|(with_reducible refine Kd.C_drew ?_)));(case side2=>exact (Kd.R_reads' HO143.out).2.1);rintro e w' ⟨rfl,⟨nd,rfl⟩⟩))
   go_ret
   exact ⟨rt_,bl_ HB.out⟩
  ·replace c9:=Bool.eq_false_iff.mpr c9
   subst c9
   replace H:=in_ H
   revert H
   refine gd_ fun c14 H=>?_
   have c14b0:=eq_true c14
   have c14b1:=decide_eq_true c14
   have c14b2:=nlt_ c14
   revert H
   refine gd_ fun c15 H=>?_
   have c15b0:=eq_true c15
   have c15b1:=decide_eq_true c15
   have c15b2:=nlt_ c15
   try have c15b3:(9223372036854775807 < 1+t140.size+1)=False:=by have h_:=c15b2;simp only [ByteArray.size_append] at h_;exact h_
   try have c15b4:(1+t140.size+1≤9223372036854775807)=True:=by have h_:=c15b0;simp only [ByteArray.size_append] at h_;exact h_
   obtain rfl:=Option.some.inj H
   go_enter Tryd.func33,Tryd.ntmps33
   go_wp2_with (first|((with_reducible refine gate_callee (f:=32) rfl ?_);refine goesL_ (some 8) rfl rfl Tryd.func32 (by kernel_rfl) rfl #[.slice A0 l0.length c0,.int .i64 a1] rfl ar_ ?_;(with_reducible refine (ih32 k (by omega) _ _ l0 a1 t140 _ ?side1 ?side2 ?side3 A3.out).mono ?_);(case side1=>exact hT.later (bl_ HB.out));(case side2=>repeat (first|exact HR0.out|(with_reducible refine Kd.C_alloc ?_ _)|(with_reducible refine Kd.C_drewN ?_ _)|(with_reducible refine Kd.C_drew ?_)));(case side3=>exact HC0.out);rintro e w16 ⟨rfl,hb⟩;refine ⟨_,rfl,?_⟩;replace HB:=Aside0.mk (below_step (bl_ HB.out) hb))|((with_reducible refine gate_dst (N:=14) rfl ?_);(try (refine gate_guard (by rfl) ?_;dsimp only));refine Kd.R_lit Kd.string _ 9 ?hg (N:=14) ?hd (xs:=([(⟨#[110,117,109]⟩:ByteArray),(⟨#[110,97,109,101]⟩:ByteArray),(⟨#[97,116]⟩:ByteArray),(⟨#[116,114,117,101]⟩:ByteArray),(⟨#[102,97,108,115,101]⟩:ByteArray)]:List ByteArray)) (inner:=[.string (⟨#[110,117,109]⟩:ByteArray),.string (⟨#[110,97,109,101]⟩:ByteArray),.string (⟨#[97,116]⟩:ByteArray),.string (⟨#[116,114,117,101]⟩:ByteArray),.string (⟨#[102,97,108,115,101]⟩:ByteArray)]) (ok:=fun _=>True) (okp:=fun _=>True) ?hr ?hp (fun _ hk=>hk) trivial (Below.refl _ _) (Nat.le_refl _) (by simp) ?_;(case hd=>rfl);(case hg=>rfl);(case hr=>first|(go_simp;done)|(go_simp;rfl));(case hp=>exact (Reps.one (show Kd.M Kd.string _ _ _ (⟨#[110,117,109]⟩:ByteArray) [.string (⟨#[110,117,109]⟩:ByteArray)] from rfl) (Reps.one (show Kd.M Kd.string _ _ _ (⟨#[110,97,109,101]⟩:ByteArray) [.string (⟨#[110,97,109,101]⟩:ByteArray)] from rfl) (Reps.one (show Kd.M Kd.string _ _ _ (⟨#[97,116]⟩:ByteArray) [.string (⟨#[97,116]⟩:ByteArray)] from rfl) (Reps.one (show Kd.M Kd.string _ _ _ (⟨#[116,114,117,101]⟩:ByteArray) [.string (⟨#[116,114,117,101]⟩:ByteArray)] from rfl) (Reps.one (show Kd.M Kd.string _ _ _ (⟨#[102,97,108,115,101]⟩:ByteArray) [.string (⟨#[102,97,108,115,101]⟩:ByteArray)] from rfl) (Reps.none _ _)))))));intro v142 w17 ho18 hb hg_ hnew_;clear hg_ hnew_;(first|rw [← Ny141.out] at ho18|(simp only [Int.reduceToNat] at ho18;rw [← Ny141.out] at ho18));have HO143:=Aside0.mk (Kd.R_lower ho18 (below_size (bl_ HB.out)));replace HB:=Aside0.mk (below_step (bl_ HB.out) hb);clear hb ho18;have p144:0≤(a1:Int):=of_decide_eq_true as_;have q144:a1 < (l0.length:Int):=of_decide_eq_true as_;obtain ⟨ad144,A144_3,c144_3,e144,hx144_0,hx144_1,hx144_2,hx144_3,hx144_4,hl144_3,hi144_3⟩:=at_T33 HR0.out a1 p144 q144;cases e144;replace hx144_0:=(cb_ HB.out hx144_0:_);replace hx144_1:=(cb_ HB.out hx144_1:_);replace hx144_2:=(cb_ HB.out hx144_2:_);replace hx144_3:=(cb_ HB.out hx144_3:_);replace hx144_4:=(cb_ HB.out hx144_4:_);have HR144_3:=Aside0.mk hi144_3;have HC144_3:=Aside0.mk hl144_3;clear hi144_3 hl144_3;replace p144:=eq_true p144;replace q144:=eq_true q144;obtain ⟨Ao19,co19,eo19⟩:=Kd.R_slice HO143.out;subst eo19)|(go_at_call 54;(with_reducible refine (slices_Contains_string_string.calls k _ _ y141 ((rd_T33 l0 a1).f0) false _ ?side1 ?side2 A8.out).mono ?_);(case side1=>repeat (first|exact (Kd.R_reads' HO143.out).2.2|(with_reducible refine Kd.C_alloc ?_ _)|(with_reducible refine Kd.C_drewN ?_ _)|(with_reducible refine Kd.C_drew ?_)));(case side2=>exact (Kd.R_reads' HO143.out).2.1);rintro e w' ⟨rfl,⟨nd,rfl⟩⟩))
   go_ret
   exact ⟨rt_,bl_ HB.out⟩
end Go.Proofs.YtnnbbeloifhofaaDoor.P
end
section
namespace Go.Proofs.YtnnbbeloifhofaaDoor.P
open Go.RowKit Go.Proofs.YtnnbbeloifhofaaDoorW.PrintWords Go.Proofs.YtnnbbeloifhofaaDoorW.PrintLast Go.Proofs.YtnnbbeloifhofaaDoorW.PrintMore
attribute [local go_sem] max2_int min2_int max_two min_two max_three min_three max_four min_four
set_option linter.unusedVariables false
set_option linter.unusedSimpArgs false
theorem tree_Text_ring.all (k:Nat):tree_Text.Stmt k∧tree_part.Stmt k∧tree_closed.Stmt k:=by
  induction k using Nat.strongRecOn with
  | _ k ih=>
  exact ⟨tree_Text.step k (fun m_ h_=>(ih m_ h_).1) (fun m_ h_=>(ih m_ h_).2.1) (fun m_ h_=>(ih m_ h_).2.2),tree_part.step k (fun m_ h_=>(ih m_ h_).1) (fun m_ h_=>(ih m_ h_).2.1) (fun m_ h_=>(ih m_ h_).2.2),tree_closed.step k (fun m_ h_=>(ih m_ h_).1) (fun m_ h_=>(ih m_ h_).2.1) (fun m_ h_=>(ih m_ h_).2.2)⟩
theorem tree_Text.calls (k:Nat):tree_Text.Stmt k:=(tree_Text_ring.all k).1
theorem tree_part.calls (k:Nat):tree_part.Stmt k:=(tree_Text_ring.all k).2.1
end Go.Proofs.YtnnbbeloifhofaaDoor.P
end
section
namespace Go.Proofs.YtnnbbeloifhofaaDoor.P
open Go Go.RowKit Go.Proofs
open Go.Proofs.YtnnbbeloifhofaaDoorW.PrintWords Go.Proofs.YtnnbbeloifhofaaDoorW.PrintLast Go.Proofs.YtnnbbeloifhofaaDoorW.PrintMore
def okI (n:Int):Prop:=-9223372036854775808≤n∧n≤9223372036854775807
mutual
def okE:RE→Prop
  | ⟨_,_,n,l,_⟩=>okI n∧okEs l
def okEs:List RE→Prop
  | []=>True
  | x :: xs=>okE x∧okEs xs
end
theorem okE_eq (x:RE):okE x=(okI x.f2∧okEs x.f3):=by cases x;rfl
theorem okEs_mem {x:RE} : ∀ {l:List RE},okEs l→x ∈ l→okE x
  | [],_,h=>by cases h
  | y :: ys,h,hx=>by
    rcases List.mem_cons.1 hx with e|hx
    · exact e ▸ h.1
    · exact okEs_mem h.2 hx
abbrev opNum:List UInt8:=[110,117,109]
abbrev opName:List UInt8:=[110,97,109,101]
abbrev opAt:List UInt8:=[97,116]
abbrev opTrue:List UInt8:=[116,114,117,101]
abbrev opFalse:List UInt8:=[102,97,108,115,101]
abbrev opNeg:List UInt8:=[110,101,103]
abbrev opNot:List UInt8:=[110,111,116]
def simpB (op:ByteArray):Bool:=op.toList == opNum || (op.toList == opName || (op.toList == opAt || (op.toList == opTrue || op.toList == opFalse)))
def cloB (op t:ByteArray):ByteArray:=if simpB op=true then t else ((⟨#[40]⟩:ByteArray)++t)++(⟨#[41]⟩:ByteArray)
def nth (l:List ByteArray) (i:Nat):ByteArray:=l.getD i ⟨#[]⟩
def textF (op name:ByteArray) (n:Int) (ts cs:List ByteArray):ByteArray:=
  if op.toList=opNum then itoaB n
  else if op.toList=opName then name
  else if op.toList=opAt then ((name++(⟨#[91]⟩:ByteArray))++nth ts 0)++(⟨#[93]⟩:ByteArray)
  else if op.toList=opTrue then op
  else if op.toList=opFalse then op
  else if op.toList=opNeg then (⟨#[45]⟩:ByteArray)++nth cs 0
  else if op.toList=opNot then (⟨#[33]⟩:ByteArray)++nth cs 0
  else (((nth cs 0++(⟨#[32]⟩:ByteArray))++op)++(⟨#[32]⟩:ByteArray))++nth cs 1
mutual
def textE:RE→ByteArray
  | ⟨op,name,n,l,_⟩=>textF op name n (textEs l) (cloEs l)
def textEs:List RE→List ByteArray
  | []=>[]
  | x :: xs=>textE x :: textEs xs
def cloE:RE→ByteArray
  | ⟨op,name,n,l,_⟩=>cloB op (textF op name n (textEs l) (cloEs l))
def cloEs:List RE→List ByteArray
  | []=>[]
  | x :: xs=>cloE x :: cloEs xs
end
theorem textE_eq (x:RE):textE x=textF x.f0 x.f1 x.f2 (textEs x.f3) (cloEs x.f3):=by cases x;rw [textE]
theorem cloE_eq (x:RE):cloE x=cloB x.f0 (textE x):=by cases x;rw [cloE,textE]
theorem textEs_map (l:List RE):textEs l=l.map textE:=by
  induction l with
  | nil=>rfl
  | cons x xs ih=>rw [textEs,ih];rfl
theorem cloEs_map (l:List RE):cloEs l=l.map cloE:=by
  induction l with
  | nil=>rfl
  | cons x xs ih=>rw [cloEs,ih];rfl
theorem size_lit (l:List UInt8):(⟨l.toArray⟩:ByteArray).size=l.length:=by simp [ByteArray.size]
theorem itoaB_size {n:Int} (h:okI n):(itoaB n).size≤21:=by unfold itoaB;rw [strOf_size];exact Lib.itoa_length_le n h.1 h.2
theorem nth_zero_le {l:List RE} {f:RE→ByteArray} {c:Nat} (h : ∀ x ∈ l,(f x).size≤c * bulkE x):(nth (l.map f) 0).size≤c * bulkEs l:=by
  cases l with
  | nil=>exact Nat.zero_le _
  | cons x xs=>rw [bulkEs,Nat.mul_add];exact Nat.le_trans (h x (List.mem_cons_self ..)) (Nat.le_add_right _ _)
theorem nth_two_le {l:List RE} {f:RE→ByteArray} {c:Nat} (h : ∀ x ∈ l,(f x).size≤c * bulkE x):(nth (l.map f) 0).size+(nth (l.map f) 1).size≤c * bulkEs l:=by
  match l,h with
  | [],_=>exact Nat.zero_le _
  | [x],h=>
    rw [bulkEs,Nat.mul_add];have:=h x (List.mem_cons_self ..)
    exact (show (f x).size+0≤_ by omega)
  | x :: y :: r,h=>
    rw [bulkEs,bulkEs,Nat.mul_add,Nat.mul_add]
    have h1:=h x (List.mem_cons_self ..)
    have h2:=h y (List.mem_cons_of_mem _ (List.mem_cons_self ..))
    exact (show (f x).size+(f y).size≤_ by omega)
theorem cloB_size (op t:ByteArray):(cloB op t).size≤t.size+2:=by
  unfold cloB;split
  · omega
  · rw [ByteArray.size_append,ByteArray.size_append];exact (show 1+t.size+1≤_ by omega)
theorem textE_size : ∀ x:RE,okE x→(textE x).size+2≤24 * bulkE x:=RE.all fun x ih ho=>by
  rw [okE_eq] at ho
  have h1 : ∀ y ∈ x.f3,(textE y).size≤24 * bulkE y:=fun y hy=>by have:=ih y hy (okEs_mem ho.2 hy);omega
  have h2 : ∀ y ∈ x.f3,(cloE y).size≤24 * bulkE y:=fun y hy=>by rw [cloE_eq];have:=ih y hy (okEs_mem ho.2 hy);have:=cloB_size y.f0 (textE y);omega
  have a0:=nth_zero_le h1
  have a1:=nth_zero_le h2
  have a2:=nth_two_le h2
  have hi:=itoaB_size ho.1
  rw [textE_eq,bulkE_eq,textEs_map,cloEs_map]
  unfold textF
  repeat' split
  · omega
  · omega
  · rw [ByteArray.size_append,ByteArray.size_append,ByteArray.size_append];exact (show x.f1.size+1+_+1+2≤_ by omega)
  · omega
  · omega
  · rw [ByteArray.size_append];exact (show 1+_+2≤_ by omega)
  · rw [ByteArray.size_append];exact (show 1+_+2≤_ by omega)
  · rw [ByteArray.size_append,ByteArray.size_append,ByteArray.size_append,ByteArray.size_append];exact (show _+1+x.f0.size+1+_+2≤_ by omega)
theorem cloE_size (x:RE) (ho:okE x):(cloE x).size≤24 * bulkE x:=by rw [cloE_eq];have:=textE_size x ho;have:=cloB_size x.f0 (textE x);omega
theorem index_any (a:ByteArray) : ∀ (xs pre:List ByteArray) (n:Int),n=((pre++xs).length:Int)→(pre++xs).length < 4611686018427387904→
    ∃ i,Ev (fun k=>slices_Index_string_string.l0 k (pre++xs) a n pre.length) i∧decide (i≥0)=xs.any (fun y=>a.toList == y.toList):=by
  intro xs
  induction xs with
  | nil=>
    intro pre n hn _
    subst hn
    exact ⟨-1,Ev.step (fun k=>slices_Index_string_string.l0.eq_2 _ _ _ _ k) (Ev.no (end_not pre) (Ev.now _)),rfl⟩
  | cons x xs ih=>
    intro pre n hn hl
    subst hn
    by_cases h:a.toList=x.toList
    · refine ⟨pre.length,Ev.step (fun k=>slices_Index_string_string.l0.eq_2 _ _ _ _ k) (Ev.yes (mid_lt pre x xs) (Ev.yes (by omega) (Ev.yes (mid_lt pre x xs) ?_))),?_⟩
      · rw [show rdOf ByteArray.empty (pre++x :: xs) (pre.length:Int)=x from getD_mid ..]
        exact Ev.yes h (Ev.now _)
      · rw [List.any_cons,beq_iff_eq.2 h,Bool.true_or];exact decide_eq_true (by omega)
    · obtain ⟨i,hi,e⟩:=ih (pre++[x]) _ rfl (by rw [← snoc];exact hl)
      refine ⟨i,Ev.step (fun k=>slices_Index_string_string.l0.eq_2 _ _ _ _ k) (Ev.yes (mid_lt pre x xs) (Ev.yes (by omega) (Ev.yes (mid_lt pre x xs) ?_))),?_⟩
      · rw [show rdOf ByteArray.empty (pre++x :: xs) (pre.length:Int)=x from getD_mid ..]
        refine Ev.no h ?_
        rw [next_len pre x xs hl]
        rw [← snoc] at hi
        exact hi
      · rw [List.any_cons,show (a.toList == x.toList)=false from beq_eq_false_iff_ne.2 h,Bool.false_or];exact e
theorem contains_any (l:List ByteArray) (a:ByteArray) (hl:l.length < 4611686018427387904):Ev (fun k=>slices_Contains_string_string.f k l a) (l.any (fun y=>a.toList == y.toList)):=by
  obtain ⟨i,hi,e⟩:=index_any a l [] (l.length:Int) rfl hl
  rw [← e]
  exact Ev.bind hi (Ev.now _)
theorem lit_list (l:List UInt8):(⟨l.toArray⟩:ByteArray).toList=l:=by rw [toList_data]
abbrev simpL:List ByteArray:=[(⟨#[110,117,109]⟩:ByteArray),(⟨#[110,97,109,101]⟩:ByteArray),(⟨#[97,116]⟩:ByteArray),(⟨#[116,114,117,101]⟩:ByteArray),(⟨#[102,97,108,115,101]⟩:ByteArray)]
theorem simpL_any (op:ByteArray):simpL.any (fun y=>op.toList == y.toList)=simpB op:=by
  unfold simpB simpL
  simp only [List.any_cons,List.any_nil,Bool.or_false]
  rw [show (⟨#[110,117,109]⟩:ByteArray).toList=opNum from lit_list _,show (⟨#[110,97,109,101]⟩:ByteArray).toList=opName from lit_list _,show (⟨#[97,116]⟩:ByteArray).toList=opAt from lit_list _,show (⟨#[116,114,117,101]⟩:ByteArray).toList=opTrue from lit_list _,show (⟨#[102,97,108,115,101]⟩:ByteArray).toList=opFalse from lit_list _]
theorem contains_ev (op:ByteArray):Ev (fun k=>slices_Contains_string_string.f k simpL op) (simpB op):=by
  rw [← simpL_any];exact contains_any simpL op (by decide)
theorem convEs_nth {l:List RE} {i:Nat} (h:i < l.length):rd_T33 (convEs l) (i:Int)=convE l[i]:=by
  rw [show rd_T33 (convEs l) (i:Int)=(convEs l).getD i z33 from rfl,convEs_map,List.getD_eq_getElem?_getD,List.getElem?_map,List.getElem?_eq_getElem h];rfl
theorem nth_map {l:List RE} {f:RE→ByteArray} {i:Nat} (h:i < l.length):nth (l.map f) i=f l[i]:=by
  unfold nth;rw [List.getD_eq_getElem?_getD,List.getElem?_map,List.getElem?_eq_getElem h];rfl
theorem nth_none {l:List ByteArray} {i:Nat} (h : ¬ i < l.length):nth l i=⟨#[]⟩:=by
  unfold nth;rw [List.getD_eq_getElem?_getD,List.getElem?_eq_none (by omega)];rfl
abbrev TextOk (x:RE):Prop:=Ev (fun k=>tree_Text.f k (convE x).f0 (convE x).f1 (convE x).f2 (convE x).f3 (convE x).f4) (textE x)
theorem part_of (l:List RE) (i:Nat) (h : ∀ y ∈ l,TextOk y):Ev (fun k=>tree_part.f k (convEs l) (i:Int)) (nth (textEs l) i):=by
  refine Ev.step (fun k=>tree_part.f.eq_2 _ _ k) ?_
  rw [convEs_len]
  by_cases hi:i < l.length
  · refine Ev.no (by omega) (Ev.yes (by omega) (Ev.yes (by omega) ?_))
    rw [convEs_nth hi,textEs_map,nth_map hi]
    exact Ev.bind (h _ (List.getElem_mem hi)) (Ev.now _)
  · refine Ev.yes (by omega) ?_
    rw [nth_none (by rw [textEs_map,List.length_map];exact hi)]
    exact Ev.now _
theorem closed_of (l:List RE) (i:Nat) (h : ∀ y ∈ l,TextOk y) (hz : ∀ y ∈ l,(textE y).size < 4611686018427387904):Ev (fun k=>tree_closed.f k (convEs l) (i:Int)) (nth (cloEs l) i):=by
  refine Ev.step (fun k=>tree_closed.f.eq_2 _ _ k) (Ev.bind (part_of l i h) ?_)
  rw [convEs_len]
  by_cases hi:i < l.length
  · refine Ev.no (by omega) (Ev.yes (by omega) (Ev.yes (by omega) ?_))
    rw [convEs_nth hi,textEs_map,nth_map hi,cloEs_map,nth_map hi,cloE_eq,convE_eq]
    refine Ev.bind (contains_ev _) ?_
    have:=hz _ (List.getElem_mem hi)
    unfold cloB
    cases e:simpB l[i].f0 with
    | true=>exact Ev.yes rfl (Ev.now _)
    | false=>exact Ev.no (by simp) (Ev.yes (by omega) (Ev.yes (by rw [ByteArray.size_append];exact (show 1+_+1≤_ by omega)) (Ev.now _)))
  · refine Ev.yes (by omega) ?_
    rw [nth_none (by rw [textEs_map,List.length_map];exact hi),nth_none (by rw [cloEs_map,List.length_map];exact hi)]
    exact Ev.now _
theorem itoa_some (n:Int) (h:okI n):strconv_Itoa_31.f n=some (itoaB n):=by
  unfold strconv_Itoa_31.f strconv_Itoa_53.f strconv_FormatInt.f
  rw [if_pos ⟨rfl,h.1,h.2⟩];rfl
theorem text_ev : ∀ x:RE,okE x→bulkE x < 1099511627776→TextOk x:=RE.all fun x ih ho hb=>by
  rw [okE_eq] at ho
  rw [bulkE_eq] at hb
  have hz : ∀ y ∈ x.f3,(textE y).size < 4611686018427387904:=fun y hy=>by
    have:=textE_size y (okEs_mem ho.2 hy);have:=mem_bulkEs hy;omega
  have hT : ∀ y ∈ x.f3,TextOk y:=fun y hy=>ih y hy (okEs_mem ho.2 hy) (by have:=mem_bulkEs hy;omega)
  have h1 : ∀ y ∈ x.f3,(textE y).size≤24 * bulkE y:=fun y hy=>by have:=textE_size y (okEs_mem ho.2 hy);omega
  have h2 : ∀ y ∈ x.f3,(cloE y).size≤24 * bulkE y:=fun y hy=>cloE_size y (okEs_mem ho.2 hy)
  have a0:=nth_zero_le h1
  have a1:=nth_zero_le h2
  have a2:=nth_two_le h2
  have hp:=part_of x.f3 0 hT
  have hc:=closed_of x.f3 0 hT hz
  have hc1:=closed_of x.f3 1 hT hz
  rw [textEs_map] at hp
  rw [cloEs_map] at hc hc1
  unfold TextOk
  rw [convE_eq,textE_eq,textEs_map,cloEs_map]
  revert a0 a1 a2 hp hc hc1
  generalize x.f3.map textE=ts
  generalize x.f3.map cloE=cs
  intro a0 a1 a2 hp hc hc1
  unfold textF
  refine Ev.step (fun k=>tree_Text.f.eq_2 _ _ _ _ _ k) ?_
  by_cases c1:x.f0.toList=opNum
  · rw [if_pos c1]
    exact Ev.yes c1 (Ev.then (itoa_some _ ho.1) (Ev.now _))
  rw [if_neg c1]
  refine Ev.no c1 ?_
  by_cases c2:x.f0.toList=opName
  · rw [if_pos c2]
    exact Ev.yes c2 (Ev.now _)
  rw [if_neg c2]
  refine Ev.no c2 ?_
  by_cases c3:x.f0.toList=opAt
  · rw [if_pos c3]
    refine Ev.yes c3 (Ev.yes (show x.f1.size+1≤_ by omega) (Ev.bind hp ?_))
    refine Ev.yes (by rw [ByteArray.size_append];exact (show x.f1.size+1+_≤_ by omega)) (Ev.yes (by rw [ByteArray.size_append,ByteArray.size_append];exact (show x.f1.size+1+_+1≤_ by omega)) (Ev.now _))
  rw [if_neg c3]
  refine Ev.no c3 ?_
  by_cases c4:x.f0.toList=opTrue
  · rw [if_pos c4]
    refine Ev.yes c4 (Ev.step (fun k=>tree_Text.j0.eq_2 _ _ _ _ _ _ _ k) (Ev.yes ?_ (Ev.now _)))
    rw [c4];rfl
  rw [if_neg c4]
  refine Ev.no c4 (Ev.step (fun k=>tree_Text.j0.eq_2 _ _ _ _ _ _ _ k) ?_)
  by_cases c5:x.f0.toList=opFalse
  · rw [if_pos c5]
    refine Ev.yes ?_ (Ev.now _)
    rw [c5];rfl
  rw [if_neg c5]
  refine Ev.no (by rw [beq_iff_eq];exact c5) ?_
  by_cases c6:x.f0.toList=opNeg
  · rw [if_pos c6]
    exact Ev.yes c6 (Ev.bind hc (Ev.yes (by omega) (Ev.now _)))
  rw [if_neg c6]
  refine Ev.no c6 ?_
  by_cases c7:x.f0.toList=opNot
  · rw [if_pos c7]
    exact Ev.yes c7 (Ev.bind hc (Ev.yes (by omega) (Ev.now _)))
  rw [if_neg c7]
  refine Ev.no c7 (Ev.bind hc (Ev.yes (by omega) (Ev.yes (by rw [ByteArray.size_append];exact (show _+1+x.f0.size≤_ by omega)) (Ev.yes (by rw [ByteArray.size_append,ByteArray.size_append];exact (show _+1+x.f0.size+1≤_ by omega)) (Ev.bind hc1 ?_)))))
  refine Ev.yes (by rw [ByteArray.size_append,ByteArray.size_append,ByteArray.size_append];exact (show _+1+x.f0.size+1+_≤_ by omega)) (Ev.now _)
theorem part_ev (l:List RE) (i:Nat) (ho:okEs l) (hb:bulkEs l < 1099511627775):Ev (fun k=>tree_part.f k (convEs l) (i:Int)) (nth (textEs l) i):=
  part_of l i (fun y hy=>text_ev y (okEs_mem ho hy) (by have:=mem_bulkEs hy;omega))
end Go.Proofs.YtnnbbeloifhofaaDoor.P
end
section
namespace Go.Proofs.YtnnbbeloifhofaaDoor.P
open Go Go.RowKit Go.Proofs
open Go.Proofs.YtnnbbeloifhofaaDoorW.PrintWords Go.Proofs.YtnnbbeloifhofaaDoorW.PrintLast Go.Proofs.YtnnbbeloifhofaaDoorW.PrintMore
abbrev oSet:List UInt8:=[115,101,116]
abbrev oPut:List UInt8:=[112,117,116]
abbrev oInput:List UInt8:=[105,110,112,117,116]
abbrev oIf:List UInt8:=[105,102]
abbrev oWhile:List UInt8:=[119,104,105,108,101]
abbrev oAssert:List UInt8:=[97,115,115,101,114,116]
abbrev oAssume:List UInt8:=[97,115,115,117,109,101]
abbrev oCall:List UInt8:=[99,97,108,108]
def lit (l:List UInt8):ByteArray:=⟨l.toArray⟩
def stmtF (d:Int) (op name:ByteArray) (e:List RE) (a m:List UInt8) (els:Bool):List UInt8:=
  if op.toList=oSet then lineB d [name,lit [32,61,32],nth (textEs e) 0,lit [59]]
  else if op.toList=oPut then lineB d [name,lit [91],nth (textEs e) 0,lit [93,32,61,32],nth (textEs e) 1,lit [59]]
  else if op.toList=oInput then
    if e.length=0 then lineB d [name,lit [32,61,32,105,110,112,117,116,59]]
    else lineB d [name,lit [32,61,32,105,110,112,117,116,40],nth (textEs e) 0,lit [44,32],nth (textEs e) 1,lit [41,59]]
  else if op.toList=oIf∨op.toList=oWhile then
    lineB d [op,lit [32],nth (textEs e) 0,lit [32,123]]++a++(if op.toList=oIf∧els=true then lineB d [lit [125,32,101,108,115,101,32,123]]++m else [])++lineB d [lit [125]]
  else if op.toList=oAssert∨op.toList=oAssume then lineB d [op,lit [32],nth (textEs e) 0,lit [59]]
  else if op.toList=oCall then lineB d [lit [99,97,108,108,32],name,lit [59]]
  else lineB d [op,lit [59]]
mutual
def stmtB:RS→Int→List UInt8
  | ⟨op,name,e,a,m,_⟩,d=>stmtF d op name e (stmtsB a (d+1)) (stmtsB m (d+1)) (decide (m.length > 0))
def stmtsB:List RS→Int→List UInt8
  | [],_=>[]
  | x :: xs,d=>stmtB x d++stmtsB xs d
end
theorem stmtB_eq (x:RS) (d:Int):stmtB x d=stmtF d x.f0 x.f1 x.f2 (stmtsB x.f3 (d+1)) (stmtsB x.f4 (d+1)) (decide (x.f4.length > 0)):=by cases x;rw [stmtB]
theorem stmtsB_app (l m:List RS) (d:Int):stmtsB (l++m) d=stmtsB l d++stmtsB m d:=by
  induction l with
  | nil=>rfl
  | cons x xs ih=>rw [List.cons_append,stmtsB,stmtsB,ih,List.append_assoc]
mutual
def okS:RS→Prop
  | ⟨_,_,e,a,m,_⟩=>okEs e∧okSs a∧okSs m
def okSs:List RS→Prop
  | []=>True
  | x :: xs=>okS x∧okSs xs
end
theorem okS_eq (x:RS):okS x=(okEs x.f2∧okSs x.f3∧okSs x.f4):=by cases x;rfl
theorem okSs_mem {x:RS} : ∀ {l:List RS},okSs l→x ∈ l→okS x
  | [],_,h=>by cases h
  | y :: ys,h,hx=>by
    rcases List.mem_cons.1 hx with e|hx
    · exact e ▸ h.1
    · exact okSs_mem h.2 hx
def StmtOk (s:RS):Prop:=∀ (b:Nat) (t:List UInt8) (d:Int) (A2 A3 A4:Option Addr) (c2 c3 c4:Nat) (w0 w:World),IsPr w0.heap.size b (Lib.byteCells t) d w→Below w0.heap.size w0 w→TabT w0→
  Kd.C k33 w0 A2 (convEs s.f2).length (convEs s.f2)→(convEs s.f2).length≤c2→Kd.C k76 w0 A3 (convSs s.f3).length (convSs s.f3)→(convSs s.f3).length≤c3→Kd.C k76 w0 A4 (convSs s.f4).length (convSs s.f4)→(convSs s.f4).length≤c4→
  okS s→0≤d→d+bulkS s≤1099511627770→t.length+(stmtB s d).length≤140737488355328→
  Calls Tryd.prog 61 #[.pointer (some ⟨b,0,none⟩),.agg #[.string s.f0,.string s.f1,.slice A2 (convEs s.f2).length c2,.slice A3 (convSs s.f3).length c3,.slice A4 (convSs s.f4).length c4,.int .i64 s.f5]] w fun e w'=>
    e=.returned (.tuple #[])∧IsPr w0.heap.size b (Lib.byteCells (t++stmtB s d)) d w'∧Below w0.heap.size w w'∧Beside b w w'
end Go.Proofs.YtnnbbeloifhofaaDoor.P
end
section
namespace Go.Proofs.YtnnbbeloifhofaaDoor.P
open Go Go.RowKit Go.Proofs
open Go.Proofs.YtnnbbeloifhofaaDoorW.PrintWords Go.Proofs.YtnnbbeloifhofaaDoorW.PrintLast Go.Proofs.YtnnbbeloifhofaaDoorW.PrintMore
set_option linter.unusedVariables false
theorem convSs_nth {l:List RS} {i:Nat} (h:i < l.length):rd_T76 (convSs l) (i:Int)=convS l[i]:=by
  rw [show rd_T76 (convSs l) (i:Int)=(convSs l).getD i z76 from rfl,convSs_map,List.getD_eq_getElem?_getD,List.getElem?_map,List.getElem?_eq_getElem h];rfl
set_option maxHeartbeats 2000000 in
set_option maxRecDepth 100000 in
theorem block_pr (l:List RS) (hS : ∀ s ∈ l,StmtOk s) (b:Nat) (t:List UInt8) (d:Int) (A:Option Addr) (c:Nat) (w0 w:World) (hP:IsPr w0.heap.size b (Lib.byteCells t) d w) (hB:Below w0.heap.size w0 w) (hT:TabT w0)
    (hC:Kd.C k76 w0 A (convSs l).length (convSs l)) (hc:(convSs l).length≤c) (ho:okSs l) (hd0:0≤d) (hd:d+1+bulkSs l≤1099511627770) (hlen:t.length+(stmtsB l (d+1)).length≤140737488355328) :
    Calls Tryd.prog 40 #[.pointer (some ⟨b,0,none⟩),.slice A (convSs l).length c] w fun e w'=>
      e=.returned (.tuple #[])∧IsPr w0.heap.size b (Lib.byteCells (t++stmtsB l (d+1))) d w'∧Below w0.heap.size w w'∧Beside b w w':=by
  have hdeep:=hP.deep
  have hfz:w.frozen? ⟨b,2,none⟩=false:=by
    rcases hP with ⟨_,v,hb,_⟩ | ⟨_,v,hb,_⟩ <;> exact Lib.frozen_of_heap hb 2
  have hw1:wrap64 (d+1)=d+1:=wrap64_small (by omega) (by omega)
  have hP1:IsPr w0.heap.size b (Lib.byteCells t) (d+1) (w.setCell ⟨b,2,none⟩ (.int .i64 (d+1))):=hP.imp (fun h=>h.setDeep _) (fun h=>h.setDeep _)
  have hBb:w0.heap.size≤b:=by rcases hP with h|h <;> exact h.1
  have hB1:Below w0.heap.size w (w.setCell ⟨b,2,none⟩ (.int .i64 (d+1))):=(Below.refl _ w).setCell (p:=⟨b,2,none⟩) hBb _
  have hs1:Beside b w (w.setCell ⟨b,2,none⟩ (.int .i64 (d+1))):=Beside.set b 2 _ w
  have hN:=len_bulkSs l
  go_enter Tryd.func40,Tryd.ntmps40
  go_wp2
  (try simp only [Act.put,List.setIfInBounds_toArray,List.set_cons_succ,List.set_cons_zero])
  generalize hw1e:w.setCell ⟨b,2,none⟩ (.int .i64 (d+1))=w1 at hP1 hB1 hs1 ⊢
  have HP1:=Aside0.mk hP1
  have HB1:=Aside0.mk hB1
  have HS1:=Aside0.mk hs1
  have HN:=Aside0.mk hN
  have HL:=Aside0.mk hlen
  have HC:=Aside0.mk hC
  have HD:=Aside0.mk hd
  have HBB:=Aside0.mk hB
  clear hP1 hB1 hs1 hN hlen hdeep hfz hw1 hw1e hP hC hd hB
  go_loopg [15] (l.length+1) (fun kq v15 w'=>∃ i:Nat,v15=.int .i64 (i:Int)∧Aside0 (i+kq=l.length+1∧i≤l.length)∧Aside0 (IsPr w0.heap.size b (Lib.byteCells (t++stmtsB (l.take i) (d+1))) (d+1) w')∧Aside0 (Below w0.heap.size w w')∧Aside0 (Beside b w w'))
  case atStart=>exact ⟨0,rfl,⟨by omega,by omega⟩,⟨by rw [List.take_zero,stmtsB,List.append_nil];exact HP1.out⟩,HB1,HS1⟩
  case round=>
    obtain ⟨i,rfl,HI,HP,HB,HS⟩:=hrel
    by_cases hi:i < l.length
    · have c0:decide ((i:Int) < ((convSs l).length:Int))=true:=decide_eq_true (by rw [convSs_len];omega)
      cases gk with
      | zero=>exact absurd HI.out (by omega)
      | succ k1=>
      obtain ⟨ad,A2,c2,A3,c3,A4,c4,rfl,x0,x1,x2,x3,x4,x5,l2,g2,l3,g3,l4,g4⟩:=at_T76 HC.out (i:Int) (by omega) (by rw [convSs_len];omega)
      have hm:l[i] ∈ l:=List.getElem_mem hi
      have hbu:=mem_bulkSs hm
      rw [convSs_nth hi] at x0 x1 x2 x3 x4 x5 l2 g2 l3 g3 l4 g4
      have hSi:=hS _ hm
      have hoi:=okSs_mem ho hm
      have hnx:stmtsB (l.take (i+1)) (d+1)=stmtsB (l.take i) (d+1)++stmtB l[i] (d+1):=by
        rw [List.take_succ_eq_append_getElem hi,stmtsB_app,stmtsB,stmtsB,List.append_nil]
      have hle:(stmtsB (l.take (i+1)) (d+1)).length≤(stmtsB l (d+1)).length:=by
        conv=>rhs;rw [← List.take_append_drop (i+1) l,stmtsB_app,List.length_append]
        omega
      rw [hnx,List.length_append] at hle
      generalize hse:l[i]=s at x0 x1 x2 x3 x4 x5 l2 g2 l3 g3 l4 g4 hSi hoi hnx hle hbu hm
      clear hse hS
      rw [convS_eq] at x0 x1 x2 x3 x4 x5 l2 g2 l3 g3 l4 g4
      dsimp only at x0 x1 x2 x3 x4 x5 l2 g2 l3 g3 l4 g4
      simp only [Int.toNat_natCast] at x0 x1 x2 x3 x4 x5
      have hW:=HBB.out.trans HB.out
      replace x0:=(hW.cell (World.block_lt_of_cell? w0 _ x0)).trans x0
      replace x1:=(hW.cell (World.block_lt_of_cell? w0 _ x1)).trans x1
      replace x2:=(hW.cell (World.block_lt_of_cell? w0 _ x2)).trans x2
      replace x3:=(hW.cell (World.block_lt_of_cell? w0 _ x3)).trans x3
      replace x4:=(hW.cell (World.block_lt_of_cell? w0 _ x4)).trans x4
      replace x5:=(hW.cell (World.block_lt_of_cell? w0 _ x5)).trans x5
      have G2:=Aside0.mk g2
      have L2:=Aside0.mk l2
      have G3:=Aside0.mk g3
      have L3:=Aside0.mk l3
      have G4:=Aside0.mk g4
      have L4:=Aside0.mk l4
      have HSI:=Aside0.mk hSi
      have HLE:=Aside0.mk hle
      have HNX:=Aside0.mk hnx
      have HWW:=Aside0.mk hW
      have HBU:=Aside0.mk hbu
      clear g2 l2 g3 l3 g4 l4 hSi hle hnx hW hbu
      have p0:(0≤(i:Int))=True:=eq_true (by omega)
      have q0:((i:Int) < ((convSs l).length:Int))=True:=eq_true (by rw [convSs_len];omega)
      go_wp2_with (first|((with_reducible refine gate_dst (N:=5) rfl ?_);refine box_event ?hg (N:=5) ?hd (cs:=#[.string (⟨#[]⟩:ByteArray),.string (⟨#[]⟩:ByteArray),.slice none 0 0,.slice none 0 0,.slice none 0 0,.int .i64 0]) (t:=76) ?hr ?_;(case hd=>rfl);(case hg=>rfl);(case hr=>first|(go_simp;done)|(go_simp;rfl));intro gb hg w8 hbox hb;have BK:=Aside0.mk hbox;have GW:=Aside0.mk hg;have HB8:=Aside0.mk hb;clear hb hbox hg;have z0:w8.cell? ⟨gb,0,none⟩=some (.string (⟨#[]⟩:ByteArray)):=(blk_cell BK.out 0).trans rfl;have z1:w8.cell? ⟨gb,1,none⟩=some (.string (⟨#[]⟩:ByteArray)):=(blk_cell BK.out 1).trans rfl;have z2:w8.cell? ⟨gb,2,none⟩=some (.slice none 0 0):=(blk_cell BK.out 2).trans rfl;have z3:w8.cell? ⟨gb,3,none⟩=some (.slice none 0 0):=(blk_cell BK.out 3).trans rfl;have z4:w8.cell? ⟨gb,4,none⟩=some (.slice none 0 0):=(blk_cell BK.out 4).trans rfl;have z5:w8.cell? ⟨gb,5,none⟩=some (.int .i64 0):=(blk_cell BK.out 5).trans rfl;have y0:=blk_frozen BK.out 0;have y1:=blk_frozen BK.out 1;have y2:=blk_frozen BK.out 2;have y3:=blk_frozen BK.out 3;have y4:=blk_frozen BK.out 4;have y5:=blk_frozen BK.out 5))
      have hge:wr.heap.size≤gb:=Nat.le_of_eq GW.out.symm
      have e9:Below wr.heap.size wr ((((((w8.setCell ⟨gb,0,none⟩ (.string s.f0)).setCell ⟨gb,1,none⟩ (.string s.f1)).setCell ⟨gb,2,none⟩ (.slice A2 (convEs s.f2).length c2)).setCell ⟨gb,3,none⟩ (.slice A3 (convSs s.f3).length c3)).setCell ⟨gb,4,none⟩ (.slice A4 (convSs s.f4).length c4)).setCell ⟨gb,5,none⟩ (.int .i64 s.f5)):=
        (((((HB8.out.setCell (p:=⟨gb,0,none⟩) hge _).setCell (p:=⟨gb,1,none⟩) hge _).setCell (p:=⟨gb,2,none⟩) hge _).setCell (p:=⟨gb,3,none⟩) hge _).setCell (p:=⟨gb,4,none⟩) hge _).setCell (p:=⟨gb,5,none⟩) hge _
      generalize ((((((w8.setCell ⟨gb,0,none⟩ (.string s.f0)).setCell ⟨gb,1,none⟩ (.string s.f1)).setCell ⟨gb,2,none⟩ (.slice A2 (convEs s.f2).length c2)).setCell ⟨gb,3,none⟩ (.slice A3 (convSs s.f3).length c3)).setCell ⟨gb,4,none⟩ (.slice A4 (convSs s.f4).length c4)).setCell ⟨gb,5,none⟩ (.int .i64 s.f5))=w9 at e9 ⊢
      clear z0 z1 z2 z3 z4 z5 y0 y1 y2 y3 y4 y5
      have s0:=HWW.out.size
      have hlen9:(t++stmtsB (l.take i) (d+1)).length+(stmtB s (d+1)).length≤140737488355328:=by have:=HLE.out;have:=HL.out;rw [List.length_append];omega
      have hbs:d+1+bulkS s≤1099511627770:=by have:=HBU.out;have:=HD.out;omega
      have hwi:wrap64 ((i:Int)+1)=((i+1:Nat):Int):=by rw [wrap64_small (by have:=HN.out;have:=HD.out;omega) (by have:=HN.out;have:=HD.out;omega)];rfl
      have HWI:=Aside0.mk hwi
      clear hwi
      refine (HSI.out b _ (d+1) A2 A3 A4 c2 c3 c4 w0 w9 (HP.out.kept e9) (HWW.out.trans (e9.mono (by omega))) hT G2.out L2.out G3.out L3.out G4.out L4.out hoi (by omega) hbs hlen9).mono ?_
      rintro e w10 ⟨rfl,hP',hB',hs'⟩
      have HP10:Aside0 (IsPr w0.heap.size b (Lib.byteCells (t++stmtsB (l.take (i+1)) (d+1))) (d+1) w10):=⟨by rw [HNX.out,← List.append_assoc];exact hP'⟩
      have HB10:Aside0 (Below w0.heap.size w w10):=⟨HB.out.trans ((e9.mono (by omega)).trans hB')⟩
      have HS10:Aside0 (Beside b w w10):=⟨HS.out.trans ((Beside.of e9).trans hs')⟩
      clear hP' hB' hs' e9 HP HB HS
      go_wp2
      go_roundg k1
      case measure=>omega
      case rel=>exact ⟨i+1,congrArg (Value.int IntKind.i64) HWI.out,⟨by have:=HI.out;omega,by omega⟩,HP10,HB10,HS10⟩
    · have c0:decide ((i:Int) < ((convSs l).length:Int))=false:=decide_eq_false (by rw [convSs_len];omega)
      have hi':i=l.length:=by have:=HI.out;omega
      subst hi'
      rw [List.take_length] at HP
      have c1:decide (l.length < (convSs l).length)=false:=decide_eq_false (by rw [convSs_len];omega)
      have c2:(l.length < (convSs l).length)=False:=eq_false (by rw [convSs_len];omega)
      have hdeep:=HP.out.deep
      have hfz:wr.frozen? ⟨b,2,none⟩=false:=by
        rcases HP.out with ⟨_,v,hb,_⟩ | ⟨_,v,hb,_⟩ <;> exact Lib.frozen_of_heap hb 2
      have hw2:wrap64 d=d:=wrap64_small (by omega) (by have:=HD.out;omega)
      have hP2:IsPr w0.heap.size b (Lib.byteCells (t++stmtsB l (d+1))) d (wr.setCell ⟨b,2,none⟩ (.int .i64 d)):=HP.out.imp (fun h=>h.setDeep _) (fun h=>h.setDeep _)
      go_wp2
      go_end0
      exact ⟨rfl,hP2,HB.out.setCell (p:=⟨b,2,none⟩) hBb _,HS.out.trans (Beside.set b 2 _ wr)⟩
end Go.Proofs.YtnnbbeloifhofaaDoor.P
end
section
namespace Go.Proofs.YtnnbbeloifhofaaDoor.P
open Go Go.RowKit Go.Proofs
open Go.Proofs.YtnnbbeloifhofaaDoorW.PrintWords Go.Proofs.YtnnbbeloifhofaaDoorW.PrintLast Go.Proofs.YtnnbbeloifhofaaDoorW.PrintMore
set_option linter.unusedVariables false
theorem part_k (l:List RE) (i:Nat) (ho:okEs l) (hb:bulkEs l < 1099511627775) : ∃ k,tree_part.f k (convEs l) (i:Int)=some (nth (textEs l) i):=(part_ev l i ho hb).rounds
theorem opIs {op:ByteArray} {l:List UInt8} (h:op.toList=l):(op.toList == l)=true:=beq_iff_eq.mpr h
theorem opNo {op:ByteArray} {l:List UInt8} (h : ¬ op.toList=l):(op.toList == l)=false:=beq_eq_false_iff_ne.mpr h
end Go.Proofs.YtnnbbeloifhofaaDoor.P
end
section
namespace Go.Proofs.YtnnbbeloifhofaaDoor.P
open Go Go.RowKit Go.Proofs
open Go.Proofs.YtnnbbeloifhofaaDoorW.PrintWords Go.Proofs.YtnnbbeloifhofaaDoorW.PrintLast Go.Proofs.YtnnbbeloifhofaaDoorW.PrintMore
set_option linter.unusedVariables false
set_option linter.unusedSimpArgs false
set_option maxHeartbeats 2000000 in
set_option maxRecDepth 100000 in
theorem stmt_set (s:RS) (c1:s.f0.toList=oSet):StmtOk s:=by
  intro b t d A2 A3 A4 c2 c3 c4 w0 w hP hB hT g2 l2 g3 l3 g4 l4 ho hd0 hd hlen
  rw [okS_eq] at ho
  rw [bulkS_eq] at hd
  rw [stmtB_eq] at hlen ⊢
  unfold stmtF at hlen ⊢
  rw [if_pos c1] at hlen ⊢
  obtain ⟨k,hp⟩:=part_k s.f2 0 ho.1 (by omega)
  obtain ⟨k',hp'⟩:=part_k s.f2 1 ho.1 (by omega)
  have c1b:=opIs c1
  clear c1
  have G2:=Aside0.mk g2
  have L2:=Aside0.mk l2
  have HB0:=Aside0.mk hB
  have HLEN:=Aside0.mk hlen
  have HD:=Aside0.mk hd
  have HPP:=Aside0.mk hp
  have HQQ:=Aside0.mk hp'
  have HP:=Aside0.mk hP
  clear g2 l2 g3 l3 g4 l4 hB hlen hd hp hp' hP
  go_enter Tryd.func61,Tryd.ntmps61
  go_wp2_with (first|((with_reducible refine gate_dst (N:=3) rfl ?_);refine box_event ?hg (N:=3) ?hd (cs:=#[.string s.f0,.string s.f1,.slice A2 (convEs s.f2).length c2,.slice A3 (convSs s.f3).length c3,.slice A4 (convSs s.f4).length c4,.int .i64 s.f5]) (t:=76) ?hr ?_;(case hd=>rfl);(case hg=>rfl);(case hr=>first|(go_simp;done)|(go_simp;rfl));intro gb hg w1 hbox hb;have BK:=Aside0.mk hbox;have GW:=Aside0.mk hg;have HB1:=Aside0.mk hb;clear hb hbox hg;have z0:w1.cell? ⟨gb,0,none⟩=some (.string s.f0):=(blk_cell BK.out 0).trans rfl;have z1:w1.cell? ⟨gb,1,none⟩=some (.string s.f1):=(blk_cell BK.out 1).trans rfl;have z2:w1.cell? ⟨gb,2,none⟩=some (.slice A2 (convEs s.f2).length c2):=(blk_cell BK.out 2).trans rfl;have z3:w1.cell? ⟨gb,3,none⟩=some (.slice A3 (convSs s.f3).length c3):=(blk_cell BK.out 3).trans rfl;have z4:w1.cell? ⟨gb,4,none⟩=some (.slice A4 (convSs s.f4).length c4):=(blk_cell BK.out 4).trans rfl))
  have hHeld0:w1.drew.cell? ⟨gb,0,none⟩=some (.string s.f0)∧w1.drew.cell? ⟨gb,1,none⟩=some (.string s.f1)∧w1.drew.cell? ⟨gb,2,none⟩=some (.slice A2 (convEs s.f2).length c2)∧Below w1.heap.size w1 w1.drew:=⟨z0,z1,z2,Below.drew (Below.refl _ w1)⟩
  refine start_ (n:=8) (ds:=[7]) (S:=fun w'=>w'.cell? ⟨gb,0,none⟩=some (.string s.f0)∧w'.cell? ⟨gb,1,none⟩=some (.string s.f1)∧w'.cell? ⟨gb,2,none⟩=some (.slice A2 (convEs s.f2).length c2)∧Below w1.heap.size w1 w') #[false,false,false,false,false,false,false,false] (by kernel_rfl) rfl rfl hHeld0 (fun hHeld=>?_)
  generalize w1.drew=w2 at hHeld ⊢
  refine pure_ (i:=0) (N:=some 13) (v:=?_) (a':=?_) #[true,false,false,false,false,false,false,false] rfl rfl (by kernel_rfl) (fun _ _ _ h=>h) (Or.inl ⟨by rfl,?_⟩) ?_ ?_
  rotate_left
  · intro w'
    go_simp
    with_reducible rfl
  rotate_left
  · simp only [Act.put,List.setIfInBounds_toArray,List.set_cons_zero,List.set_cons_succ,i64_w,i32_w]
    rfl
  refine pure_ (i:=1) (N:=some 14) (v:=?_) (a':=?_) #[true,true,false,false,false,false,false,false] rfl rfl (by kernel_rfl) (fun _ _ _ h=>h) (Or.inl ⟨by rfl,?_⟩) ?_ ?_
  rotate_left
  · intro w'
    go_simp
    with_reducible rfl
  rotate_left
  · simp only [Act.put,List.setIfInBounds_toArray,List.set_cons_zero,List.set_cons_succ,i64_w,i32_w]
    rfl
  refine pure_ (i:=3) (N:=some 16) (v:=?_) (a':=?_) #[true,true,false,true,false,false,false,false] rfl rfl (by kernel_rfl) (fun _ _ _ h=>h) (Or.inl ⟨by rfl,?_⟩) ?_ ?_
  rotate_left
  · intro w'
    go_simp
    with_reducible rfl
  rotate_left
  · simp only [Act.put,List.setIfInBounds_toArray,List.set_cons_zero,List.set_cons_succ,i64_w,i32_w]
    rfl
  refine take_ (i:=2) (N:=some 15) (v:=?_) (a':=?_) #[true,true,true,true,false,false,false,false] rfl rfl (by kernel_rfl) (fun _ _ _ h=>h) (Or.inl ⟨by rfl,?_⟩) hHeld ?_ ?_
  rotate_left
  · rintro w' ⟨s0,s1,s2,s3⟩
    go_simp
    with_reducible rfl
  rotate_left
  · simp only [Act.put,List.setIfInBounds_toArray,List.set_cons_zero,List.set_cons_succ,i64_w,i32_w]
    rfl
  refine take_ (i:=4) (N:=some 17) (v:=?_) (a':=?_) #[true,true,true,true,true,false,false,false] rfl rfl (by kernel_rfl) (fun _ _ _ h=>h) (Or.inl ⟨by rfl,?_⟩) hHeld ?_ ?_
  rotate_left
  · rintro w' ⟨s0,s1,s2,s3⟩
    go_simp
    with_reducible rfl
  rotate_left
  · simp only [Act.put,List.setIfInBounds_toArray,List.set_cons_zero,List.set_cons_succ,i64_w,i32_w]
    rfl
  refine one_ (i:=5) (N:=some 18) #[true,true,true,true,true,true,false,false] rfl rfl (by kernel_rfl) (by decide) (fun K hK=>?_)
  refine goes_ Tryd.func32 (by kernel_rfl) rfl #[.slice A2 (convEs s.f2).length c2,.int .i64 0] (by rfl) rfl rfl (by (try simp only [List.map_toArray,List.map_cons,List.map_nil]);first|done|rfl) ?_
  have hb2:Below w0.heap.size w0 w2:=HB0.out.trans ((HB1.out.trans (hHeld.2.2.2.mono HB1.out.size)).mono HB0.out.size)
  refine (tree_part.calls k A2 c2 (convEs s.f2) 0 _ w2 (hT.later hb2) (Kd.C_below G2.out hb2) L2.out HPP.out).mono ?_
  clear hb2
  rintro e w3 ⟨rfl,hb⟩
  refine ⟨_,rfl,?_⟩
  obtain ⟨t0,t1,t2,t3⟩:=hHeld
  have hHeld:w3.cell? ⟨gb,0,none⟩=some (.string s.f0)∧w3.cell? ⟨gb,1,none⟩=some (.string s.f1)∧w3.cell? ⟨gb,2,none⟩=some (.slice A2 (convEs s.f2).length c2)∧Below w1.heap.size w1 w3:=⟨(hb.cell (World.block_lt_of_cell? w2 _ t0)).trans t0,(hb.cell (World.block_lt_of_cell? w2 _ t1)).trans t1,(hb.cell (World.block_lt_of_cell? w2 _ t2)).trans t2,t3.trans (hb.mono t3.size)⟩
  refine hK.out _ _ hHeld (fun hHeld=>?_)
  clear hK K t0 t1 t2 t3 hb
  refine norm_ (a':=?_) ?_ ?_
  rotate_left
  · show Act.put _ (some 18) _=_
    simp only [Act.put,List.setIfInBounds_toArray,List.set_cons_zero,List.set_cons_succ,i64_w,i32_w]
    rfl
  refine one_ (i:=6) (N:=some 19) #[true,true,true,true,true,true,true,false] rfl rfl (by kernel_rfl) (by decide) (fun K hK=>?_)
  refine Kd.R_lit_step Kd.string (w0:=w3) w3.heap.size 9 (by rfl) (N:=19) rfl (xs:=[s.f1,(lit [32,61,32]),(nth (textEs s.f2) 0),(lit [59])]) (inner:=[.string s.f1,.string (lit [32,61,32]),.string (nth (textEs s.f2) 0),.string (lit [59])]) (ok:=fun _=>True) (okp:=fun _=>True) ?hr ?hp (fun _ hk=>hk) trivial (Below.refl _ _) (Nat.le_refl _) (by simp) ?_
  case hr=>first|(go_simp;done)|(go_simp;rfl)
  case hp=>exact Reps.one (show Kd.M Kd.string _ _ _ (s.f1) [.string (s.f1)] from rfl) (Reps.one (show Kd.M Kd.string _ _ _ ((lit [32,61,32])) [.string ((lit [32,61,32]))] from rfl) (Reps.one (show Kd.M Kd.string _ _ _ ((nth (textEs s.f2) 0)) [.string ((nth (textEs s.f2) 0))] from rfl) (Reps.one (show Kd.M Kd.string _ _ _ ((lit [59])) [.string ((lit [59]))] from rfl) (Reps.none _ _))))
  intro vrow w4 hrow hb hg_ hnew_
  clear hg_ hnew_
  obtain ⟨Ao,co,rfl⟩:=Kd.R_slice hrow
  have hro:=(Kd.R_reads' hrow).2
  obtain ⟨t0,t1,t2,t3⟩:=hHeld
  have hHeld:w4.cell? ⟨gb,0,none⟩=some (.string s.f0)∧w4.cell? ⟨gb,1,none⟩=some (.string s.f1)∧w4.cell? ⟨gb,2,none⟩=some (.slice A2 (convEs s.f2).length c2)∧Below w1.heap.size w1 w4:=⟨(hb.cell (World.block_lt_of_cell? w3 _ t0)).trans t0,(hb.cell (World.block_lt_of_cell? w3 _ t1)).trans t1,(hb.cell (World.block_lt_of_cell? w3 _ t2)).trans t2,t3.trans (hb.mono t3.size)⟩
  refine hK.out _ _ hHeld (fun hHeld=>?_)
  clear hK K t0 t1 t2 t3 hb hrow
  refine norm_ (a':=?_) ?_ ?_
  rotate_left
  · show Act.put _ (some 19) _=_
    simp only [Act.put,List.setIfInBounds_toArray,List.set_cons_zero,List.set_cons_succ,i64_w,i32_w]
    rfl
  have e4:Below w.heap.size w w4:=HB1.out.trans (hHeld.2.2.2.mono HB1.out.size)
  refine last_ (i:=7) (N:=some 20) #[true,true,true,true,true,true,true,true] rfl rfl (by kernel_rfl) (by decide) (fun K hK=>?_)
  refine goes_ Tryd.func38 (by kernel_rfl) rfl #[.pointer (some ⟨b,0,none⟩),.slice Ao 4 co] (by rfl) rfl rfl (by (try simp only [List.map_toArray,List.map_cons,List.map_nil]);first|done|rfl) ?_
  refine (line_pr w0.heap.size b t d Ao co [s.f1,(lit [32,61,32]),(nth (textEs s.f2) 0),(lit [59])] w4 (HP.out.kept e4) hro.2 hro.1 hd0 (by have:=HD.out;omega) (by simp) HLEN.out (Nat.le_trans HB0.out.size e4.size)).mono ?_
  rintro e w5 ⟨rfl,hP5,hb,hs5⟩
  refine ⟨_,rfl,?_⟩
  refine hK.out _ _ ?_
  refine done_ (by kernel_rfl) ?_
  try go_wp2
  go_end0
  exact ⟨rfl,.inr hP5,(e4.mono HB0.out.size).trans hb,(Beside.of e4).trans hs5⟩
end Go.Proofs.YtnnbbeloifhofaaDoor.P
end
section
namespace Go.Proofs.YtnnbbeloifhofaaDoor.P
open Go Go.RowKit Go.Proofs
open Go.Proofs.YtnnbbeloifhofaaDoorW.PrintWords Go.Proofs.YtnnbbeloifhofaaDoorW.PrintLast Go.Proofs.YtnnbbeloifhofaaDoorW.PrintMore
set_option linter.unusedVariables false
set_option linter.unusedSimpArgs false
set_option maxHeartbeats 2000000 in
set_option maxRecDepth 100000 in
theorem stmt_put (s:RS) (n0 : ¬ s.f0.toList=oSet) (c1:s.f0.toList=oPut):StmtOk s:=by
  intro b t d A2 A3 A4 c2 c3 c4 w0 w hP hB hT g2 l2 g3 l3 g4 l4 ho hd0 hd hlen
  rw [okS_eq] at ho
  rw [bulkS_eq] at hd
  rw [stmtB_eq] at hlen ⊢
  unfold stmtF at hlen ⊢
  rw [if_neg n0,if_pos c1] at hlen ⊢
  obtain ⟨k,hp⟩:=part_k s.f2 0 ho.1 (by omega)
  obtain ⟨k',hp'⟩:=part_k s.f2 1 ho.1 (by omega)
  have m0:=opNo n0
  clear n0
  have c1b:=opIs c1
  clear c1
  have G2:=Aside0.mk g2
  have L2:=Aside0.mk l2
  have HB0:=Aside0.mk hB
  have HLEN:=Aside0.mk hlen
  have HD:=Aside0.mk hd
  have HPP:=Aside0.mk hp
  have HQQ:=Aside0.mk hp'
  have HP:=Aside0.mk hP
  clear g2 l2 g3 l3 g4 l4 hB hlen hd hp hp' hP
  go_enter Tryd.func61,Tryd.ntmps61
  go_wp2_with (first|((with_reducible refine gate_dst (N:=3) rfl ?_);refine box_event ?hg (N:=3) ?hd (cs:=#[.string s.f0,.string s.f1,.slice A2 (convEs s.f2).length c2,.slice A3 (convSs s.f3).length c3,.slice A4 (convSs s.f4).length c4,.int .i64 s.f5]) (t:=76) ?hr ?_;(case hd=>rfl);(case hg=>rfl);(case hr=>first|(go_simp;done)|(go_simp;rfl));intro gb hg w1 hbox hb;have BK:=Aside0.mk hbox;have GW:=Aside0.mk hg;have HB1:=Aside0.mk hb;clear hb hbox hg;have z0:w1.cell? ⟨gb,0,none⟩=some (.string s.f0):=(blk_cell BK.out 0).trans rfl;have z1:w1.cell? ⟨gb,1,none⟩=some (.string s.f1):=(blk_cell BK.out 1).trans rfl;have z2:w1.cell? ⟨gb,2,none⟩=some (.slice A2 (convEs s.f2).length c2):=(blk_cell BK.out 2).trans rfl;have z3:w1.cell? ⟨gb,3,none⟩=some (.slice A3 (convSs s.f3).length c3):=(blk_cell BK.out 3).trans rfl;have z4:w1.cell? ⟨gb,4,none⟩=some (.slice A4 (convSs s.f4).length c4):=(blk_cell BK.out 4).trans rfl))
  have hHeld0:w1.drew.cell? ⟨gb,0,none⟩=some (.string s.f0)∧w1.drew.cell? ⟨gb,1,none⟩=some (.string s.f1)∧w1.drew.cell? ⟨gb,2,none⟩=some (.slice A2 (convEs s.f2).length c2)∧Below w1.heap.size w1 w1.drew:=⟨z0,z1,z2,Below.drew (Below.refl _ w1)⟩
  refine start_ (n:=11) (ds:=[10]) (S:=fun w'=>w'.cell? ⟨gb,0,none⟩=some (.string s.f0)∧w'.cell? ⟨gb,1,none⟩=some (.string s.f1)∧w'.cell? ⟨gb,2,none⟩=some (.slice A2 (convEs s.f2).length c2)∧Below w1.heap.size w1 w') #[false,false,false,false,false,false,false,false,false,false,false] (by kernel_rfl) rfl rfl hHeld0 (fun hHeld=>?_)
  generalize w1.drew=w2 at hHeld ⊢
  refine pure_ (i:=0) (N:=some 23) (v:=?_) (a':=?_) #[true,false,false,false,false,false,false,false,false,false,false] rfl rfl (by kernel_rfl) (fun _ _ _ h=>h) (Or.inl ⟨by rfl,?_⟩) ?_ ?_
  rotate_left
  · intro w'
    go_simp
    with_reducible rfl
  rotate_left
  · simp only [Act.put,List.setIfInBounds_toArray,List.set_cons_zero,List.set_cons_succ,i64_w,i32_w]
    rfl
  refine pure_ (i:=1) (N:=some 24) (v:=?_) (a':=?_) #[true,true,false,false,false,false,false,false,false,false,false] rfl rfl (by kernel_rfl) (fun _ _ _ h=>h) (Or.inl ⟨by rfl,?_⟩) ?_ ?_
  rotate_left
  · intro w'
    go_simp
    with_reducible rfl
  rotate_left
  · simp only [Act.put,List.setIfInBounds_toArray,List.set_cons_zero,List.set_cons_succ,i64_w,i32_w]
    rfl
  refine pure_ (i:=3) (N:=some 26) (v:=?_) (a':=?_) #[true,true,false,true,false,false,false,false,false,false,false] rfl rfl (by kernel_rfl) (fun _ _ _ h=>h) (Or.inl ⟨by rfl,?_⟩) ?_ ?_
  rotate_left
  · intro w'
    go_simp
    with_reducible rfl
  rotate_left
  · simp only [Act.put,List.setIfInBounds_toArray,List.set_cons_zero,List.set_cons_succ,i64_w,i32_w]
    rfl
  refine pure_ (i:=6) (N:=some 29) (v:=?_) (a':=?_) #[true,true,false,true,false,false,true,false,false,false,false] rfl rfl (by kernel_rfl) (fun _ _ _ h=>h) (Or.inl ⟨by rfl,?_⟩) ?_ ?_
  rotate_left
  · intro w'
    go_simp
    with_reducible rfl
  rotate_left
  · simp only [Act.put,List.setIfInBounds_toArray,List.set_cons_zero,List.set_cons_succ,i64_w,i32_w]
    rfl
  refine take_ (i:=2) (N:=some 25) (v:=?_) (a':=?_) #[true,true,true,true,false,false,true,false,false,false,false] rfl rfl (by kernel_rfl) (fun _ _ _ h=>h) (Or.inl ⟨by rfl,?_⟩) hHeld ?_ ?_
  rotate_left
  · rintro w' ⟨s0,s1,s2,s3⟩
    go_simp
    with_reducible rfl
  rotate_left
  · simp only [Act.put,List.setIfInBounds_toArray,List.set_cons_zero,List.set_cons_succ,i64_w,i32_w]
    rfl
  refine take_ (i:=4) (N:=some 27) (v:=?_) (a':=?_) #[true,true,true,true,true,false,true,false,false,false,false] rfl rfl (by kernel_rfl) (fun _ _ _ h=>h) (Or.inl ⟨by rfl,?_⟩) hHeld ?_ ?_
  rotate_left
  · rintro w' ⟨s0,s1,s2,s3⟩
    go_simp
    with_reducible rfl
  rotate_left
  · simp only [Act.put,List.setIfInBounds_toArray,List.set_cons_zero,List.set_cons_succ,i64_w,i32_w]
    rfl
  refine take_ (i:=7) (N:=some 30) (v:=?_) (a':=?_) #[true,true,true,true,true,false,true,true,false,false,false] rfl rfl (by kernel_rfl) (fun _ _ _ h=>h) (Or.inl ⟨by rfl,?_⟩) hHeld ?_ ?_
  rotate_left
  · rintro w' ⟨s0,s1,s2,s3⟩
    go_simp
    with_reducible rfl
  rotate_left
  · simp only [Act.put,List.setIfInBounds_toArray,List.set_cons_zero,List.set_cons_succ,i64_w,i32_w]
    rfl
  refine one_ (i:=5) (N:=some 28) #[true,true,true,true,true,true,true,true,false,false,false] rfl rfl (by kernel_rfl) (by decide) (fun K hK=>?_)
  refine goes_ Tryd.func32 (by kernel_rfl) rfl #[.slice A2 (convEs s.f2).length c2,.int .i64 0] (by rfl) rfl rfl (by (try simp only [List.map_toArray,List.map_cons,List.map_nil]);first|done|rfl) ?_
  have hb2:Below w0.heap.size w0 w2:=HB0.out.trans ((HB1.out.trans (hHeld.2.2.2.mono HB1.out.size)).mono HB0.out.size)
  refine (tree_part.calls k A2 c2 (convEs s.f2) 0 _ w2 (hT.later hb2) (Kd.C_below G2.out hb2) L2.out HPP.out).mono ?_
  clear hb2
  rintro e w3 ⟨rfl,hb⟩
  refine ⟨_,rfl,?_⟩
  obtain ⟨t0,t1,t2,t3⟩:=hHeld
  have hHeld:w3.cell? ⟨gb,0,none⟩=some (.string s.f0)∧w3.cell? ⟨gb,1,none⟩=some (.string s.f1)∧w3.cell? ⟨gb,2,none⟩=some (.slice A2 (convEs s.f2).length c2)∧Below w1.heap.size w1 w3:=⟨(hb.cell (World.block_lt_of_cell? w2 _ t0)).trans t0,(hb.cell (World.block_lt_of_cell? w2 _ t1)).trans t1,(hb.cell (World.block_lt_of_cell? w2 _ t2)).trans t2,t3.trans (hb.mono t3.size)⟩
  refine hK.out _ _ hHeld (fun hHeld=>?_)
  clear hK K t0 t1 t2 t3 hb
  refine norm_ (a':=?_) ?_ ?_
  rotate_left
  · show Act.put _ (some 28) _=_
    simp only [Act.put,List.setIfInBounds_toArray,List.set_cons_zero,List.set_cons_succ,i64_w,i32_w]
    rfl
  refine one_ (i:=8) (N:=some 31) #[true,true,true,true,true,true,true,true,true,false,false] rfl rfl (by kernel_rfl) (by decide) (fun K hK=>?_)
  refine goes_ Tryd.func32 (by kernel_rfl) rfl #[.slice A2 (convEs s.f2).length c2,.int .i64 1] (by rfl) rfl rfl (by (try simp only [List.map_toArray,List.map_cons,List.map_nil]);first|done|rfl) ?_
  have hb2:Below w0.heap.size w0 w3:=HB0.out.trans ((HB1.out.trans (hHeld.2.2.2.mono HB1.out.size)).mono HB0.out.size)
  refine (tree_part.calls k' A2 c2 (convEs s.f2) 1 _ w3 (hT.later hb2) (Kd.C_below G2.out hb2) L2.out HQQ.out).mono ?_
  clear hb2
  rintro e w4 ⟨rfl,hb⟩
  refine ⟨_,rfl,?_⟩
  obtain ⟨t0,t1,t2,t3⟩:=hHeld
  have hHeld:w4.cell? ⟨gb,0,none⟩=some (.string s.f0)∧w4.cell? ⟨gb,1,none⟩=some (.string s.f1)∧w4.cell? ⟨gb,2,none⟩=some (.slice A2 (convEs s.f2).length c2)∧Below w1.heap.size w1 w4:=⟨(hb.cell (World.block_lt_of_cell? w3 _ t0)).trans t0,(hb.cell (World.block_lt_of_cell? w3 _ t1)).trans t1,(hb.cell (World.block_lt_of_cell? w3 _ t2)).trans t2,t3.trans (hb.mono t3.size)⟩
  refine hK.out _ _ hHeld (fun hHeld=>?_)
  clear hK K t0 t1 t2 t3 hb
  refine norm_ (a':=?_) ?_ ?_
  rotate_left
  · show Act.put _ (some 31) _=_
    simp only [Act.put,List.setIfInBounds_toArray,List.set_cons_zero,List.set_cons_succ,i64_w,i32_w]
    rfl
  refine one_ (i:=9) (N:=some 32) #[true,true,true,true,true,true,true,true,true,true,false] rfl rfl (by kernel_rfl) (by decide) (fun K hK=>?_)
  refine Kd.R_lit_step Kd.string (w0:=w4) w4.heap.size 9 (by rfl) (N:=32) rfl (xs:=[s.f1,(lit [91]),(nth (textEs s.f2) 0),(lit [93,32,61,32]),(nth (textEs s.f2) 1),(lit [59])]) (inner:=[.string s.f1,.string (lit [91]),.string (nth (textEs s.f2) 0),.string (lit [93,32,61,32]),.string (nth (textEs s.f2) 1),.string (lit [59])]) (ok:=fun _=>True) (okp:=fun _=>True) ?hr ?hp (fun _ hk=>hk) trivial (Below.refl _ _) (Nat.le_refl _) (by simp) ?_
  case hr=>first|(go_simp;done)|(go_simp;rfl)
  case hp=>exact Reps.one (show Kd.M Kd.string _ _ _ (s.f1) [.string (s.f1)] from rfl) (Reps.one (show Kd.M Kd.string _ _ _ ((lit [91])) [.string ((lit [91]))] from rfl) (Reps.one (show Kd.M Kd.string _ _ _ ((nth (textEs s.f2) 0)) [.string ((nth (textEs s.f2) 0))] from rfl) (Reps.one (show Kd.M Kd.string _ _ _ ((lit [93,32,61,32])) [.string ((lit [93,32,61,32]))] from rfl) (Reps.one (show Kd.M Kd.string _ _ _ ((nth (textEs s.f2) 1)) [.string ((nth (textEs s.f2) 1))] from rfl) (Reps.one (show Kd.M Kd.string _ _ _ ((lit [59])) [.string ((lit [59]))] from rfl) (Reps.none _ _))))))
  intro vrow w5 hrow hb hg_ hnew_
  clear hg_ hnew_
  obtain ⟨Ao,co,rfl⟩:=Kd.R_slice hrow
  have hro:=(Kd.R_reads' hrow).2
  obtain ⟨t0,t1,t2,t3⟩:=hHeld
  have hHeld:w5.cell? ⟨gb,0,none⟩=some (.string s.f0)∧w5.cell? ⟨gb,1,none⟩=some (.string s.f1)∧w5.cell? ⟨gb,2,none⟩=some (.slice A2 (convEs s.f2).length c2)∧Below w1.heap.size w1 w5:=⟨(hb.cell (World.block_lt_of_cell? w4 _ t0)).trans t0,(hb.cell (World.block_lt_of_cell? w4 _ t1)).trans t1,(hb.cell (World.block_lt_of_cell? w4 _ t2)).trans t2,t3.trans (hb.mono t3.size)⟩
  refine hK.out _ _ hHeld (fun hHeld=>?_)
  clear hK K t0 t1 t2 t3 hb hrow
  refine norm_ (a':=?_) ?_ ?_
  rotate_left
  · show Act.put _ (some 32) _=_
    simp only [Act.put,List.setIfInBounds_toArray,List.set_cons_zero,List.set_cons_succ,i64_w,i32_w]
    rfl
  have e4:Below w.heap.size w w5:=HB1.out.trans (hHeld.2.2.2.mono HB1.out.size)
  refine last_ (i:=10) (N:=some 33) #[true,true,true,true,true,true,true,true,true,true,true] rfl rfl (by kernel_rfl) (by decide) (fun K hK=>?_)
  refine goes_ Tryd.func38 (by kernel_rfl) rfl #[.pointer (some ⟨b,0,none⟩),.slice Ao 6 co] (by rfl) rfl rfl (by (try simp only [List.map_toArray,List.map_cons,List.map_nil]);first|done|rfl) ?_
  refine (line_pr w0.heap.size b t d Ao co [s.f1,(lit [91]),(nth (textEs s.f2) 0),(lit [93,32,61,32]),(nth (textEs s.f2) 1),(lit [59])] w5 (HP.out.kept e4) hro.2 hro.1 hd0 (by have:=HD.out;omega) (by simp) HLEN.out (Nat.le_trans HB0.out.size e4.size)).mono ?_
  rintro e w6 ⟨rfl,hP5,hb,hs5⟩
  refine ⟨_,rfl,?_⟩
  refine hK.out _ _ ?_
  refine done_ (by kernel_rfl) ?_
  try go_wp2
  go_end0
  exact ⟨rfl,.inr hP5,(e4.mono HB0.out.size).trans hb,(Beside.of e4).trans hs5⟩
end Go.Proofs.YtnnbbeloifhofaaDoor.P
end
section
namespace Go.Proofs.YtnnbbeloifhofaaDoor.P
open Go Go.RowKit Go.Proofs
open Go.Proofs.YtnnbbeloifhofaaDoorW.PrintWords Go.Proofs.YtnnbbeloifhofaaDoorW.PrintLast Go.Proofs.YtnnbbeloifhofaaDoorW.PrintMore
set_option linter.unusedVariables false
set_option linter.unusedSimpArgs false
set_option maxHeartbeats 2000000 in
set_option maxRecDepth 100000 in
theorem stmt_input (s:RS) (n0 : ¬ s.f0.toList=oSet) (n1 : ¬ s.f0.toList=oPut) (c1:s.f0.toList=oInput) (ce : ¬ s.f2.length=0):StmtOk s:=by
  intro b t d A2 A3 A4 c2 c3 c4 w0 w hP hB hT g2 l2 g3 l3 g4 l4 ho hd0 hd hlen
  rw [okS_eq] at ho
  rw [bulkS_eq] at hd
  rw [stmtB_eq] at hlen ⊢
  unfold stmtF at hlen ⊢
  rw [if_neg n0,if_neg n1,if_pos c1,if_neg ce] at hlen ⊢
  obtain ⟨k,hp⟩:=part_k s.f2 0 ho.1 (by omega)
  obtain ⟨k',hp'⟩:=part_k s.f2 1 ho.1 (by omega)
  have m0:=opNo n0
  clear n0
  have m1:=opNo n1
  clear n1
  have c1b:=opIs c1
  have ceb:((s.f2.length:Int) == 0)=false:=by simp;intro e;exact ce (by simp [e])
  rw [← convEs_len] at ceb
  clear c1 ce
  have G2:=Aside0.mk g2
  have L2:=Aside0.mk l2
  have HB0:=Aside0.mk hB
  have HLEN:=Aside0.mk hlen
  have HD:=Aside0.mk hd
  have HPP:=Aside0.mk hp
  have HQQ:=Aside0.mk hp'
  have HP:=Aside0.mk hP
  clear g2 l2 g3 l3 g4 l4 hB hlen hd hp hp' hP
  go_enter Tryd.func61,Tryd.ntmps61
  go_wp2_with (first|((with_reducible refine gate_dst (N:=3) rfl ?_);refine box_event ?hg (N:=3) ?hd (cs:=#[.string s.f0,.string s.f1,.slice A2 (convEs s.f2).length c2,.slice A3 (convSs s.f3).length c3,.slice A4 (convSs s.f4).length c4,.int .i64 s.f5]) (t:=76) ?hr ?_;(case hd=>rfl);(case hg=>rfl);(case hr=>first|(go_simp;done)|(go_simp;rfl));intro gb hg w1 hbox hb;have BK:=Aside0.mk hbox;have GW:=Aside0.mk hg;have HB1:=Aside0.mk hb;clear hb hbox hg;have z0:w1.cell? ⟨gb,0,none⟩=some (.string s.f0):=(blk_cell BK.out 0).trans rfl;have z1:w1.cell? ⟨gb,1,none⟩=some (.string s.f1):=(blk_cell BK.out 1).trans rfl;have z2:w1.cell? ⟨gb,2,none⟩=some (.slice A2 (convEs s.f2).length c2):=(blk_cell BK.out 2).trans rfl;have z3:w1.cell? ⟨gb,3,none⟩=some (.slice A3 (convSs s.f3).length c3):=(blk_cell BK.out 3).trans rfl;have z4:w1.cell? ⟨gb,4,none⟩=some (.slice A4 (convSs s.f4).length c4):=(blk_cell BK.out 4).trans rfl))
  have hHeld0:w1.drew.cell? ⟨gb,0,none⟩=some (.string s.f0)∧w1.drew.cell? ⟨gb,1,none⟩=some (.string s.f1)∧w1.drew.cell? ⟨gb,2,none⟩=some (.slice A2 (convEs s.f2).length c2)∧Below w1.heap.size w1 w1.drew:=⟨z0,z1,z2,Below.drew (Below.refl _ w1)⟩
  refine start_ (n:=11) (ds:=[10]) (S:=fun w'=>w'.cell? ⟨gb,0,none⟩=some (.string s.f0)∧w'.cell? ⟨gb,1,none⟩=some (.string s.f1)∧w'.cell? ⟨gb,2,none⟩=some (.slice A2 (convEs s.f2).length c2)∧Below w1.heap.size w1 w') #[false,false,false,false,false,false,false,false,false,false,false] (by kernel_rfl) rfl rfl hHeld0 (fun hHeld=>?_)
  generalize w1.drew=w2 at hHeld ⊢
  refine pure_ (i:=0) (N:=some 45) (v:=?_) (a':=?_) #[true,false,false,false,false,false,false,false,false,false,false] rfl rfl (by kernel_rfl) (fun _ _ _ h=>h) (Or.inl ⟨by rfl,?_⟩) ?_ ?_
  rotate_left
  · intro w'
    go_simp
    with_reducible rfl
  rotate_left
  · simp only [Act.put,List.setIfInBounds_toArray,List.set_cons_zero,List.set_cons_succ,i64_w,i32_w]
    rfl
  refine pure_ (i:=1) (N:=some 46) (v:=?_) (a':=?_) #[true,true,false,false,false,false,false,false,false,false,false] rfl rfl (by kernel_rfl) (fun _ _ _ h=>h) (Or.inl ⟨by rfl,?_⟩) ?_ ?_
  rotate_left
  · intro w'
    go_simp
    with_reducible rfl
  rotate_left
  · simp only [Act.put,List.setIfInBounds_toArray,List.set_cons_zero,List.set_cons_succ,i64_w,i32_w]
    rfl
  refine pure_ (i:=3) (N:=some 48) (v:=?_) (a':=?_) #[true,true,false,true,false,false,false,false,false,false,false] rfl rfl (by kernel_rfl) (fun _ _ _ h=>h) (Or.inl ⟨by rfl,?_⟩) ?_ ?_
  rotate_left
  · intro w'
    go_simp
    with_reducible rfl
  rotate_left
  · simp only [Act.put,List.setIfInBounds_toArray,List.set_cons_zero,List.set_cons_succ,i64_w,i32_w]
    rfl
  refine pure_ (i:=6) (N:=some 51) (v:=?_) (a':=?_) #[true,true,false,true,false,false,true,false,false,false,false] rfl rfl (by kernel_rfl) (fun _ _ _ h=>h) (Or.inl ⟨by rfl,?_⟩) ?_ ?_
  rotate_left
  · intro w'
    go_simp
    with_reducible rfl
  rotate_left
  · simp only [Act.put,List.setIfInBounds_toArray,List.set_cons_zero,List.set_cons_succ,i64_w,i32_w]
    rfl
  refine take_ (i:=2) (N:=some 47) (v:=?_) (a':=?_) #[true,true,true,true,false,false,true,false,false,false,false] rfl rfl (by kernel_rfl) (fun _ _ _ h=>h) (Or.inl ⟨by rfl,?_⟩) hHeld ?_ ?_
  rotate_left
  · rintro w' ⟨s0,s1,s2,s3⟩
    go_simp
    with_reducible rfl
  rotate_left
  · simp only [Act.put,List.setIfInBounds_toArray,List.set_cons_zero,List.set_cons_succ,i64_w,i32_w]
    rfl
  refine take_ (i:=4) (N:=some 49) (v:=?_) (a':=?_) #[true,true,true,true,true,false,true,false,false,false,false] rfl rfl (by kernel_rfl) (fun _ _ _ h=>h) (Or.inl ⟨by rfl,?_⟩) hHeld ?_ ?_
  rotate_left
  · rintro w' ⟨s0,s1,s2,s3⟩
    go_simp
    with_reducible rfl
  rotate_left
  · simp only [Act.put,List.setIfInBounds_toArray,List.set_cons_zero,List.set_cons_succ,i64_w,i32_w]
    rfl
  refine take_ (i:=7) (N:=some 52) (v:=?_) (a':=?_) #[true,true,true,true,true,false,true,true,false,false,false] rfl rfl (by kernel_rfl) (fun _ _ _ h=>h) (Or.inl ⟨by rfl,?_⟩) hHeld ?_ ?_
  rotate_left
  · rintro w' ⟨s0,s1,s2,s3⟩
    go_simp
    with_reducible rfl
  rotate_left
  · simp only [Act.put,List.setIfInBounds_toArray,List.set_cons_zero,List.set_cons_succ,i64_w,i32_w]
    rfl
  refine one_ (i:=5) (N:=some 50) #[true,true,true,true,true,true,true,true,false,false,false] rfl rfl (by kernel_rfl) (by decide) (fun K hK=>?_)
  refine goes_ Tryd.func32 (by kernel_rfl) rfl #[.slice A2 (convEs s.f2).length c2,.int .i64 0] (by rfl) rfl rfl (by (try simp only [List.map_toArray,List.map_cons,List.map_nil]);first|done|rfl) ?_
  have hb2:Below w0.heap.size w0 w2:=HB0.out.trans ((HB1.out.trans (hHeld.2.2.2.mono HB1.out.size)).mono HB0.out.size)
  refine (tree_part.calls k A2 c2 (convEs s.f2) 0 _ w2 (hT.later hb2) (Kd.C_below G2.out hb2) L2.out HPP.out).mono ?_
  clear hb2
  rintro e w3 ⟨rfl,hb⟩
  refine ⟨_,rfl,?_⟩
  obtain ⟨t0,t1,t2,t3⟩:=hHeld
  have hHeld:w3.cell? ⟨gb,0,none⟩=some (.string s.f0)∧w3.cell? ⟨gb,1,none⟩=some (.string s.f1)∧w3.cell? ⟨gb,2,none⟩=some (.slice A2 (convEs s.f2).length c2)∧Below w1.heap.size w1 w3:=⟨(hb.cell (World.block_lt_of_cell? w2 _ t0)).trans t0,(hb.cell (World.block_lt_of_cell? w2 _ t1)).trans t1,(hb.cell (World.block_lt_of_cell? w2 _ t2)).trans t2,t3.trans (hb.mono t3.size)⟩
  refine hK.out _ _ hHeld (fun hHeld=>?_)
  clear hK K t0 t1 t2 t3 hb
  refine norm_ (a':=?_) ?_ ?_
  rotate_left
  · show Act.put _ (some 50) _=_
    simp only [Act.put,List.setIfInBounds_toArray,List.set_cons_zero,List.set_cons_succ,i64_w,i32_w]
    rfl
  refine one_ (i:=8) (N:=some 53) #[true,true,true,true,true,true,true,true,true,false,false] rfl rfl (by kernel_rfl) (by decide) (fun K hK=>?_)
  refine goes_ Tryd.func32 (by kernel_rfl) rfl #[.slice A2 (convEs s.f2).length c2,.int .i64 1] (by rfl) rfl rfl (by (try simp only [List.map_toArray,List.map_cons,List.map_nil]);first|done|rfl) ?_
  have hb2:Below w0.heap.size w0 w3:=HB0.out.trans ((HB1.out.trans (hHeld.2.2.2.mono HB1.out.size)).mono HB0.out.size)
  refine (tree_part.calls k' A2 c2 (convEs s.f2) 1 _ w3 (hT.later hb2) (Kd.C_below G2.out hb2) L2.out HQQ.out).mono ?_
  clear hb2
  rintro e w4 ⟨rfl,hb⟩
  refine ⟨_,rfl,?_⟩
  obtain ⟨t0,t1,t2,t3⟩:=hHeld
  have hHeld:w4.cell? ⟨gb,0,none⟩=some (.string s.f0)∧w4.cell? ⟨gb,1,none⟩=some (.string s.f1)∧w4.cell? ⟨gb,2,none⟩=some (.slice A2 (convEs s.f2).length c2)∧Below w1.heap.size w1 w4:=⟨(hb.cell (World.block_lt_of_cell? w3 _ t0)).trans t0,(hb.cell (World.block_lt_of_cell? w3 _ t1)).trans t1,(hb.cell (World.block_lt_of_cell? w3 _ t2)).trans t2,t3.trans (hb.mono t3.size)⟩
  refine hK.out _ _ hHeld (fun hHeld=>?_)
  clear hK K t0 t1 t2 t3 hb
  refine norm_ (a':=?_) ?_ ?_
  rotate_left
  · show Act.put _ (some 53) _=_
    simp only [Act.put,List.setIfInBounds_toArray,List.set_cons_zero,List.set_cons_succ,i64_w,i32_w]
    rfl
  refine one_ (i:=9) (N:=some 54) #[true,true,true,true,true,true,true,true,true,true,false] rfl rfl (by kernel_rfl) (by decide) (fun K hK=>?_)
  refine Kd.R_lit_step Kd.string (w0:=w4) w4.heap.size 9 (by rfl) (N:=54) rfl (xs:=[s.f1,(lit [32,61,32,105,110,112,117,116,40]),(nth (textEs s.f2) 0),(lit [44,32]),(nth (textEs s.f2) 1),(lit [41,59])]) (inner:=[.string s.f1,.string (lit [32,61,32,105,110,112,117,116,40]),.string (nth (textEs s.f2) 0),.string (lit [44,32]),.string (nth (textEs s.f2) 1),.string (lit [41,59])]) (ok:=fun _=>True) (okp:=fun _=>True) ?hr ?hp (fun _ hk=>hk) trivial (Below.refl _ _) (Nat.le_refl _) (by simp) ?_
  case hr=>first|(go_simp;done)|(go_simp;rfl)
  case hp=>exact Reps.one (show Kd.M Kd.string _ _ _ (s.f1) [.string (s.f1)] from rfl) (Reps.one (show Kd.M Kd.string _ _ _ ((lit [32,61,32,105,110,112,117,116,40])) [.string ((lit [32,61,32,105,110,112,117,116,40]))] from rfl) (Reps.one (show Kd.M Kd.string _ _ _ ((nth (textEs s.f2) 0)) [.string ((nth (textEs s.f2) 0))] from rfl) (Reps.one (show Kd.M Kd.string _ _ _ ((lit [44,32])) [.string ((lit [44,32]))] from rfl) (Reps.one (show Kd.M Kd.string _ _ _ ((nth (textEs s.f2) 1)) [.string ((nth (textEs s.f2) 1))] from rfl) (Reps.one (show Kd.M Kd.string _ _ _ ((lit [41,59])) [.string ((lit [41,59]))] from rfl) (Reps.none _ _))))))
  intro vrow w5 hrow hb hg_ hnew_
  clear hg_ hnew_
  obtain ⟨Ao,co,rfl⟩:=Kd.R_slice hrow
  have hro:=(Kd.R_reads' hrow).2
  obtain ⟨t0,t1,t2,t3⟩:=hHeld
  have hHeld:w5.cell? ⟨gb,0,none⟩=some (.string s.f0)∧w5.cell? ⟨gb,1,none⟩=some (.string s.f1)∧w5.cell? ⟨gb,2,none⟩=some (.slice A2 (convEs s.f2).length c2)∧Below w1.heap.size w1 w5:=⟨(hb.cell (World.block_lt_of_cell? w4 _ t0)).trans t0,(hb.cell (World.block_lt_of_cell? w4 _ t1)).trans t1,(hb.cell (World.block_lt_of_cell? w4 _ t2)).trans t2,t3.trans (hb.mono t3.size)⟩
  refine hK.out _ _ hHeld (fun hHeld=>?_)
  clear hK K t0 t1 t2 t3 hb hrow
  refine norm_ (a':=?_) ?_ ?_
  rotate_left
  · show Act.put _ (some 54) _=_
    simp only [Act.put,List.setIfInBounds_toArray,List.set_cons_zero,List.set_cons_succ,i64_w,i32_w]
    rfl
  have e4:Below w.heap.size w w5:=HB1.out.trans (hHeld.2.2.2.mono HB1.out.size)
  refine last_ (i:=10) (N:=some 55) #[true,true,true,true,true,true,true,true,true,true,true] rfl rfl (by kernel_rfl) (by decide) (fun K hK=>?_)
  refine goes_ Tryd.func38 (by kernel_rfl) rfl #[.pointer (some ⟨b,0,none⟩),.slice Ao 6 co] (by rfl) rfl rfl (by (try simp only [List.map_toArray,List.map_cons,List.map_nil]);first|done|rfl) ?_
  refine (line_pr w0.heap.size b t d Ao co [s.f1,(lit [32,61,32,105,110,112,117,116,40]),(nth (textEs s.f2) 0),(lit [44,32]),(nth (textEs s.f2) 1),(lit [41,59])] w5 (HP.out.kept e4) hro.2 hro.1 hd0 (by have:=HD.out;omega) (by simp) HLEN.out (Nat.le_trans HB0.out.size e4.size)).mono ?_
  rintro e w6 ⟨rfl,hP5,hb,hs5⟩
  refine ⟨_,rfl,?_⟩
  refine hK.out _ _ ?_
  refine done_ (by kernel_rfl) ?_
  try go_wp2
  go_end0
  exact ⟨rfl,.inr hP5,(e4.mono HB0.out.size).trans hb,(Beside.of e4).trans hs5⟩
end Go.Proofs.YtnnbbeloifhofaaDoor.P
end
section
namespace Go.Proofs.YtnnbbeloifhofaaDoor.P
open Go Go.RowKit Go.Proofs
open Go.Proofs.YtnnbbeloifhofaaDoorW.PrintWords Go.Proofs.YtnnbbeloifhofaaDoorW.PrintLast Go.Proofs.YtnnbbeloifhofaaDoorW.PrintMore
set_option linter.unusedVariables false
set_option linter.unusedSimpArgs false
set_option maxHeartbeats 2000000 in
set_option maxRecDepth 100000 in
theorem stmt_input0 (s:RS) (n0 : ¬ s.f0.toList=oSet) (n1 : ¬ s.f0.toList=oPut) (c1:s.f0.toList=oInput) (ce:s.f2.length=0):StmtOk s:=by
  intro b t d A2 A3 A4 c2 c3 c4 w0 w hP hB hT g2 l2 g3 l3 g4 l4 ho hd0 hd hlen
  rw [okS_eq] at ho
  rw [bulkS_eq] at hd
  rw [stmtB_eq] at hlen ⊢
  unfold stmtF at hlen ⊢
  rw [if_neg n0,if_neg n1,if_pos c1,if_pos ce] at hlen ⊢
  obtain ⟨k,hp⟩:=part_k s.f2 0 ho.1 (by omega)
  obtain ⟨k',hp'⟩:=part_k s.f2 1 ho.1 (by omega)
  have m0:=opNo n0
  clear n0
  have m1:=opNo n1
  clear n1
  have c1b:=opIs c1
  have ceb:(convEs s.f2).length=0:=by rw [convEs_len];exact ce
  clear c1 ce
  have G2:=Aside0.mk g2
  have L2:=Aside0.mk l2
  have HB0:=Aside0.mk hB
  have HLEN:=Aside0.mk hlen
  have HD:=Aside0.mk hd
  have HPP:=Aside0.mk hp
  have HQQ:=Aside0.mk hp'
  have HP:=Aside0.mk hP
  clear g2 l2 g3 l3 g4 l4 hB hlen hd hp hp' hP
  go_enter Tryd.func61,Tryd.ntmps61
  go_wp2_with (first|((with_reducible refine gate_dst (N:=3) rfl ?_);refine box_event ?hg (N:=3) ?hd (cs:=#[.string s.f0,.string s.f1,.slice A2 (convEs s.f2).length c2,.slice A3 (convSs s.f3).length c3,.slice A4 (convSs s.f4).length c4,.int .i64 s.f5]) (t:=76) ?hr ?_;(case hd=>rfl);(case hg=>rfl);(case hr=>first|(go_simp;done)|(go_simp;rfl));intro gb hg w1 hbox hb;have BK:=Aside0.mk hbox;have GW:=Aside0.mk hg;have HB1:=Aside0.mk hb;clear hb hbox hg;have z0:w1.cell? ⟨gb,0,none⟩=some (.string s.f0):=(blk_cell BK.out 0).trans rfl;have z1:w1.cell? ⟨gb,1,none⟩=some (.string s.f1):=(blk_cell BK.out 1).trans rfl;have z2:w1.cell? ⟨gb,2,none⟩=some (.slice A2 (convEs s.f2).length c2):=(blk_cell BK.out 2).trans rfl;have z3:w1.cell? ⟨gb,3,none⟩=some (.slice A3 (convSs s.f3).length c3):=(blk_cell BK.out 3).trans rfl;have z4:w1.cell? ⟨gb,4,none⟩=some (.slice A4 (convSs s.f4).length c4):=(blk_cell BK.out 4).trans rfl)|((with_reducible refine gate_dst (N:=43) rfl ?_);(try (refine gate_guard (by rfl) ?_;dsimp only));refine Kd.R_lit Kd.string (w0:=w1) w1.heap.size 9 ?hg (N:=43) ?hd (xs:=[s.f1,(lit [32,61,32,105,110,112,117,116,59])]) (inner:=[.string s.f1,.string (lit [32,61,32,105,110,112,117,116,59])]) (ok:=fun _=>True) (okp:=fun _=>True) ?hr ?hp (fun _ hk=>hk) trivial (Below.refl _ _) (Nat.le_refl _) (by simp) ?_;(case hd=>rfl);(case hg=>rfl);(case hr=>first|(go_simp;done)|(go_simp;rfl));(case hp=>exact Reps.one (show Kd.M Kd.string _ _ _ (s.f1) [.string (s.f1)] from rfl) (Reps.one (show Kd.M Kd.string _ _ _ ((lit [32,61,32,105,110,112,117,116,59])) [.string ((lit [32,61,32,105,110,112,117,116,59]))] from rfl) (Reps.none _ _)));intro vrow w2 hrow hb hg_ hnew_;have HB2:=Aside0.mk hb;clear hg_ hnew_ hb;obtain ⟨Ao,co,rfl⟩:=Kd.R_slice hrow;have hro:=(Kd.R_reads' hrow).2;have HRO:=Aside0.mk hro;clear hro hrow))
  have e4:Below w.heap.size w w2:=HB1.out.trans (HB2.out.mono HB1.out.size)
  refine (line_pr w0.heap.size b t d Ao co [s.f1,(lit [32,61,32,105,110,112,117,116,59])] w2 (HP.out.kept e4) HRO.out.2 HRO.out.1 hd0 (by have:=HD.out;omega) (by simp) HLEN.out (Nat.le_trans HB0.out.size e4.size)).mono ?_
  rintro e w5 ⟨rfl,hP5,hb,hs5⟩
  try go_wp2
  refine bodyPost_ret (results_none rfl _ _ _) rfl ?_
  exact ⟨rfl,.inr hP5,(e4.mono HB0.out.size).trans hb,(Beside.of e4).trans hs5⟩
end Go.Proofs.YtnnbbeloifhofaaDoor.P
end
section
namespace Go.Proofs.YtnnbbeloifhofaaDoor.P
open Go Go.RowKit Go.Proofs
open Go.Proofs.YtnnbbeloifhofaaDoorW.PrintWords Go.Proofs.YtnnbbeloifhofaaDoorW.PrintLast Go.Proofs.YtnnbbeloifhofaaDoorW.PrintMore
set_option linter.unusedVariables false
set_option linter.unusedSimpArgs false
set_option maxHeartbeats 2000000 in
set_option maxRecDepth 100000 in
theorem stmt_if0 (s:RS) (n0 : ¬ s.f0.toList=oSet) (n1 : ¬ s.f0.toList=oPut) (n2 : ¬ s.f0.toList=oInput) (c1:s.f0.toList=oIf) (ce:s.f4.length=0) (iha : ∀ y ∈ s.f3,StmtOk y) (ihb : ∀ y ∈ s.f4,StmtOk y):StmtOk s:=by
  intro b t d A2 A3 A4 c2 c3 c4 w0 w hP hB hT g2 l2 g3 l3 g4 l4 ho hd0 hd hlen
  rw [okS_eq] at ho
  rw [bulkS_eq] at hd
  rw [stmtB_eq] at hlen ⊢
  unfold stmtF at hlen ⊢
  rw [if_neg n0,if_neg n1,if_neg n2,if_pos (.inl c1),if_neg (fun h=>by have:=of_decide_eq_true h.2;omega)] at hlen ⊢
  obtain ⟨k,hp⟩:=part_k s.f2 0 ho.1 (by omega)
  obtain ⟨k',hp'⟩:=part_k s.f2 1 ho.1 (by omega)
  have m0:=opNo n0
  clear n0
  have m1:=opNo n1
  clear n1
  have m2:=opNo n2
  clear n2
  have c1b:=opIs c1
  have ceb:decide (0 < (convSs s.f4).length)=false:=decide_eq_false (by rw [convSs_len];omega)
  clear c1 ce
  have G3:=Aside0.mk g3
  have L3:=Aside0.mk l3
  have G4:=Aside0.mk g4
  have L4:=Aside0.mk l4
  have OK:=Aside0.mk ho
  have G2:=Aside0.mk g2
  have L2:=Aside0.mk l2
  have HB0:=Aside0.mk hB
  have HLEN:=Aside0.mk hlen
  have HD:=Aside0.mk hd
  have HPP:=Aside0.mk hp
  have HQQ:=Aside0.mk hp'
  have HP:=Aside0.mk hP
  clear ho g2 l2 g3 l3 g4 l4 hB hlen hd hp hp' hP
  go_enter Tryd.func61,Tryd.ntmps61
  go_wp2_with (first|((with_reducible refine gate_dst (N:=3) rfl ?_);refine box_event ?hg (N:=3) ?hd (cs:=#[.string s.f0,.string s.f1,.slice A2 (convEs s.f2).length c2,.slice A3 (convSs s.f3).length c3,.slice A4 (convSs s.f4).length c4,.int .i64 s.f5]) (t:=76) ?hr ?_;(case hd=>rfl);(case hg=>rfl);(case hr=>first|(go_simp;done)|(go_simp;rfl));intro gb hg w1 hbox hb;have BK:=Aside0.mk hbox;have GW:=Aside0.mk hg;have HB1:=Aside0.mk hb;clear hb hbox hg;have z0:w1.cell? ⟨gb,0,none⟩=some (.string s.f0):=(blk_cell BK.out 0).trans rfl;have z1:w1.cell? ⟨gb,1,none⟩=some (.string s.f1):=(blk_cell BK.out 1).trans rfl;have z2:w1.cell? ⟨gb,2,none⟩=some (.slice A2 (convEs s.f2).length c2):=(blk_cell BK.out 2).trans rfl;have z3:w1.cell? ⟨gb,3,none⟩=some (.slice A3 (convSs s.f3).length c3):=(blk_cell BK.out 3).trans rfl;have z4:w1.cell? ⟨gb,4,none⟩=some (.slice A4 (convSs s.f4).length c4):=(blk_cell BK.out 4).trans rfl))
  have hHeld0:w1.drew.cell? ⟨gb,0,none⟩=some (.string s.f0)∧w1.drew.cell? ⟨gb,1,none⟩=some (.string s.f1)∧w1.drew.cell? ⟨gb,2,none⟩=some (.slice A2 (convEs s.f2).length c2)∧Below w1.heap.size w1 w1.drew:=⟨z0,z1,z2,Below.drew (Below.refl _ w1)⟩
  refine start_ (n:=8) (ds:=[7]) (S:=fun w'=>w'.cell? ⟨gb,0,none⟩=some (.string s.f0)∧w'.cell? ⟨gb,1,none⟩=some (.string s.f1)∧w'.cell? ⟨gb,2,none⟩=some (.slice A2 (convEs s.f2).length c2)∧Below w1.heap.size w1 w') #[false,false,false,false,false,false,false,false] (by kernel_rfl) rfl rfl hHeld0 (fun hHeld=>?_)
  generalize w1.drew=w2 at hHeld ⊢
  refine pure_ (i:=0) (N:=some 59) (v:=?_) (a':=?_) #[true,false,false,false,false,false,false,false] rfl rfl (by kernel_rfl) (fun _ _ _ h=>h) (Or.inl ⟨by rfl,?_⟩) ?_ ?_
  rotate_left
  · intro w'
    go_simp
    with_reducible rfl
  rotate_left
  · simp only [Act.put,List.setIfInBounds_toArray,List.set_cons_zero,List.set_cons_succ,i64_w,i32_w]
    rfl
  refine pure_ (i:=1) (N:=some 60) (v:=?_) (a':=?_) #[true,true,false,false,false,false,false,false] rfl rfl (by kernel_rfl) (fun _ _ _ h=>h) (Or.inl ⟨by rfl,?_⟩) ?_ ?_
  rotate_left
  · intro w'
    go_simp
    with_reducible rfl
  rotate_left
  · simp only [Act.put,List.setIfInBounds_toArray,List.set_cons_zero,List.set_cons_succ,i64_w,i32_w]
    rfl
  refine pure_ (i:=3) (N:=some 62) (v:=?_) (a':=?_) #[true,true,false,true,false,false,false,false] rfl rfl (by kernel_rfl) (fun _ _ _ h=>h) (Or.inl ⟨by rfl,?_⟩) ?_ ?_
  rotate_left
  · intro w'
    go_simp
    with_reducible rfl
  rotate_left
  · simp only [Act.put,List.setIfInBounds_toArray,List.set_cons_zero,List.set_cons_succ,i64_w,i32_w]
    rfl
  refine take_ (i:=2) (N:=some 61) (v:=?_) (a':=?_) #[true,true,true,true,false,false,false,false] rfl rfl (by kernel_rfl) (fun _ _ _ h=>h) (Or.inl ⟨by rfl,?_⟩) hHeld ?_ ?_
  rotate_left
  · rintro w' ⟨s0,s1,s2,s3⟩
    go_simp
    with_reducible rfl
  rotate_left
  · simp only [Act.put,List.setIfInBounds_toArray,List.set_cons_zero,List.set_cons_succ,i64_w,i32_w]
    rfl
  refine take_ (i:=4) (N:=some 63) (v:=?_) (a':=?_) #[true,true,true,true,true,false,false,false] rfl rfl (by kernel_rfl) (fun _ _ _ h=>h) (Or.inl ⟨by rfl,?_⟩) hHeld ?_ ?_
  rotate_left
  · rintro w' ⟨s0,s1,s2,s3⟩
    go_simp
    with_reducible rfl
  rotate_left
  · simp only [Act.put,List.setIfInBounds_toArray,List.set_cons_zero,List.set_cons_succ,i64_w,i32_w]
    rfl
  refine one_ (i:=5) (N:=some 64) #[true,true,true,true,true,true,false,false] rfl rfl (by kernel_rfl) (by decide) (fun K hK=>?_)
  refine goes_ Tryd.func32 (by kernel_rfl) rfl #[.slice A2 (convEs s.f2).length c2,.int .i64 0] (by rfl) rfl rfl (by (try simp only [List.map_toArray,List.map_cons,List.map_nil]);first|done|rfl) ?_
  have hb2:Below w0.heap.size w0 w2:=HB0.out.trans ((HB1.out.trans (hHeld.2.2.2.mono HB1.out.size)).mono HB0.out.size)
  refine (tree_part.calls k A2 c2 (convEs s.f2) 0 _ w2 (hT.later hb2) (Kd.C_below G2.out hb2) L2.out HPP.out).mono ?_
  clear hb2
  rintro e w3 ⟨rfl,hb⟩
  refine ⟨_,rfl,?_⟩
  obtain ⟨t0,t1,t2,t3⟩:=hHeld
  have hHeld:w3.cell? ⟨gb,0,none⟩=some (.string s.f0)∧w3.cell? ⟨gb,1,none⟩=some (.string s.f1)∧w3.cell? ⟨gb,2,none⟩=some (.slice A2 (convEs s.f2).length c2)∧Below w1.heap.size w1 w3:=⟨(hb.cell (World.block_lt_of_cell? w2 _ t0)).trans t0,(hb.cell (World.block_lt_of_cell? w2 _ t1)).trans t1,(hb.cell (World.block_lt_of_cell? w2 _ t2)).trans t2,t3.trans (hb.mono t3.size)⟩
  refine hK.out _ _ hHeld (fun hHeld=>?_)
  clear hK K t0 t1 t2 t3 hb
  refine norm_ (a':=?_) ?_ ?_
  rotate_left
  · show Act.put _ (some 64) _=_
    simp only [Act.put,List.setIfInBounds_toArray,List.set_cons_zero,List.set_cons_succ,i64_w,i32_w]
    rfl
  refine one_ (i:=6) (N:=some 65) #[true,true,true,true,true,true,true,false] rfl rfl (by kernel_rfl) (by decide) (fun K hK=>?_)
  refine Kd.R_lit_step Kd.string (w0:=w3) w3.heap.size 9 (by rfl) (N:=65) rfl (xs:=[s.f0,(lit [32]),(nth (textEs s.f2) 0),(lit [32,123])]) (inner:=[.string s.f0,.string (lit [32]),.string (nth (textEs s.f2) 0),.string (lit [32,123])]) (ok:=fun _=>True) (okp:=fun _=>True) ?hr ?hp (fun _ hk=>hk) trivial (Below.refl _ _) (Nat.le_refl _) (by simp) ?_
  case hr=>first|(go_simp;done)|(go_simp;rfl)
  case hp=>exact Reps.one (show Kd.M Kd.string _ _ _ (s.f0) [.string (s.f0)] from rfl) (Reps.one (show Kd.M Kd.string _ _ _ ((lit [32])) [.string ((lit [32]))] from rfl) (Reps.one (show Kd.M Kd.string _ _ _ ((nth (textEs s.f2) 0)) [.string ((nth (textEs s.f2) 0))] from rfl) (Reps.one (show Kd.M Kd.string _ _ _ ((lit [32,123])) [.string ((lit [32,123]))] from rfl) (Reps.none _ _))))
  intro vrow w4 hrow hb hg_ hnew_
  clear hg_ hnew_
  obtain ⟨Ao,co,rfl⟩:=Kd.R_slice hrow
  have hro:=(Kd.R_reads' hrow).2
  obtain ⟨t0,t1,t2,t3⟩:=hHeld
  have hHeld:w4.cell? ⟨gb,0,none⟩=some (.string s.f0)∧w4.cell? ⟨gb,1,none⟩=some (.string s.f1)∧w4.cell? ⟨gb,2,none⟩=some (.slice A2 (convEs s.f2).length c2)∧Below w1.heap.size w1 w4:=⟨(hb.cell (World.block_lt_of_cell? w3 _ t0)).trans t0,(hb.cell (World.block_lt_of_cell? w3 _ t1)).trans t1,(hb.cell (World.block_lt_of_cell? w3 _ t2)).trans t2,t3.trans (hb.mono t3.size)⟩
  refine hK.out _ _ hHeld (fun hHeld=>?_)
  clear hK K t0 t1 t2 t3 hb hrow
  refine norm_ (a':=?_) ?_ ?_
  rotate_left
  · show Act.put _ (some 65) _=_
    simp only [Act.put,List.setIfInBounds_toArray,List.set_cons_zero,List.set_cons_succ,i64_w,i32_w]
    rfl
  have e4:Below w.heap.size w w4:=HB1.out.trans (hHeld.2.2.2.mono HB1.out.size)
  refine last_ (i:=7) (N:=some 66) #[true,true,true,true,true,true,true,true] rfl rfl (by kernel_rfl) (by decide) (fun K hK=>?_)
  refine goes_ Tryd.func38 (by kernel_rfl) rfl #[.pointer (some ⟨b,0,none⟩),.slice Ao 4 co] (by rfl) rfl rfl (by (try simp only [List.map_toArray,List.map_cons,List.map_nil]);first|done|rfl) ?_
  refine (line_pr w0.heap.size b t d Ao co [s.f0,(lit [32]),(nth (textEs s.f2) 0),(lit [32,123])] w4 (HP.out.kept e4) hro.2 hro.1 hd0 (by have:=HD.out;omega) (by simp) (by have:=HLEN.out;simp only [List.length_append] at this;omega) (Nat.le_trans HB0.out.size e4.size)).mono ?_
  rintro e w5 ⟨rfl,hP5,hb,hs5⟩
  refine ⟨_,rfl,?_⟩
  refine hK.out _ _ ?_
  refine done_ (by kernel_rfl) ?_
  have hgb:gb≠b:=fun e=>by have:=HP.out.lt;have:=GW.out;omega
  have BK5:=Aside0.mk ((Beside.trans (Beside.of (hHeld.2.2.2)) hs5) gb _ _ _ hgb (by decide) BK.out)
  have HB5:=Aside0.mk ((e4.mono HB0.out.size).trans hb)
  have HS5:=Aside0.mk ((Beside.of e4).trans hs5)
  have HP5:Aside0 (IsPr w0.heap.size b (Lib.byteCells (t++lineB d [s.f0,lit [32],nth (textEs s.f2) 0,lit [32,123]])) d w5):=⟨.inr hP5⟩
  clear hK hHeld z0 z1 z2 z3 z4 hb hs5 hro hP5 e4 BK
  have z0:w5.cell? ⟨gb,0,none⟩=some (.string s.f0):=by rw [Lib.cell_of_heap BK5.out];rfl
  have z1:w5.cell? ⟨gb,1,none⟩=some (.string s.f1):=by rw [Lib.cell_of_heap BK5.out];rfl
  have z2:w5.cell? ⟨gb,2,none⟩=some (.slice A2 (convEs s.f2).length c2):=by rw [Lib.cell_of_heap BK5.out];rfl
  have z3:w5.cell? ⟨gb,3,none⟩=some (.slice A3 (convSs s.f3).length c3):=by rw [Lib.cell_of_heap BK5.out];rfl
  have z4:w5.cell? ⟨gb,4,none⟩=some (.slice A4 (convSs s.f4).length c4):=by rw [Lib.cell_of_heap BK5.out];rfl
  go_wp2_with fail
  refine (block_pr s.f3 iha b (t++lineB d [s.f0,lit [32],nth (textEs s.f2) 0,lit [32,123]]) d A3 c3 w0 w5 HP5.out (HB0.out.trans HB5.out) hT G3.out L3.out OK.out.2.1 hd0 (by have:=HD.out;omega) (by have:=HLEN.out;simp only [List.length_append] at this ⊢;omega)).mono ?_
  rintro e w6 ⟨rfl,hP',hb',hs'⟩
  have HP6:=Aside0.mk hP'
  have HB6:=Aside0.mk (HB5.out.trans hb')
  have HS6:=Aside0.mk (HS5.out.trans hs')
  have BK6:=Aside0.mk (hs' gb _ _ _ hgb (by decide) BK5.out)
  clear hP' hb' hs' z0 z1 z2 z3 z4 BK5
  have z0:w6.cell? ⟨gb,0,none⟩=some (.string s.f0):=by rw [Lib.cell_of_heap BK6.out];rfl
  have z1:w6.cell? ⟨gb,1,none⟩=some (.string s.f1):=by rw [Lib.cell_of_heap BK6.out];rfl
  have z2:w6.cell? ⟨gb,2,none⟩=some (.slice A2 (convEs s.f2).length c2):=by rw [Lib.cell_of_heap BK6.out];rfl
  have z3:w6.cell? ⟨gb,3,none⟩=some (.slice A3 (convSs s.f3).length c3):=by rw [Lib.cell_of_heap BK6.out];rfl
  have z4:w6.cell? ⟨gb,4,none⟩=some (.slice A4 (convSs s.f4).length c4):=by rw [Lib.cell_of_heap BK6.out];rfl
  go_wp2_with (first|((with_reducible refine gate_dst (N:=88) rfl ?_);(try (refine gate_guard (by rfl) ?_;dsimp only));refine Kd.R_lit Kd.string (w0:=w6) w6.heap.size 9 ?hg11 (N:=88) ?hd11 (xs:=[(lit [125])]) (inner:=[.string (lit [125])]) (ok:=fun _=>True) (okp:=fun _=>True) ?hr11 ?hp11 (fun _ hk=>hk) trivial (Below.refl _ _) (Nat.le_refl _) (by simp) ?_;(case hd11=>rfl);(case hg11=>rfl);(case hr11=>first|(go_simp;done)|(go_simp;rfl));(case hp11=>exact Reps.one (show Kd.M Kd.string _ _ _ ((lit [125])) [.string ((lit [125]))] from rfl) (Reps.none _ _));intro vrow w10 hrow hb hg_ hnew_;have HL11:=Aside0.mk hb;clear hg_ hnew_ hb;obtain ⟨Ao11,co11,rfl⟩:=Kd.R_slice hrow;have hro:=(Kd.R_reads' hrow).2;have HR11:=Aside0.mk hro;clear hro hrow))
  refine (line_pr w0.heap.size b ((t++lineB d [s.f0,lit [32],nth (textEs s.f2) 0,lit [32,123]])++stmtsB s.f3 (d+1)) d Ao11 co11 [(lit [125])] w10 (HP6.out.kept HL11.out) HR11.out.2 HR11.out.1 hd0 (by have:=HD.out;omega) (by simp) (by have:=HLEN.out;simp only [List.length_append] at this ⊢;omega) (Nat.le_trans HB0.out.size (Nat.le_trans HB6.out.size HL11.out.size))).mono ?_
  rintro e w11 ⟨rfl,hP',hb',hs'⟩
  have HP11:Aside0 (IsPr w0.heap.size b _ d w11):=⟨.inr hP'⟩
  have HB11:=Aside0.mk ((HB6.out.trans (HL11.out.mono (Nat.le_trans HB0.out.size HB6.out.size))).trans hb')
  have HS11:=Aside0.mk ((HS6.out.trans (Beside.of HL11.out)).trans hs')
  have BK11:=Aside0.mk (((Beside.of HL11.out).trans hs') gb _ _ _ hgb (by decide) BK6.out)
  clear hP' hb' hs' z0 z1 z2 z3 z4 BK6 HL11 HR11
  have z0:w11.cell? ⟨gb,0,none⟩=some (.string s.f0):=by rw [Lib.cell_of_heap BK11.out];rfl
  have z1:w11.cell? ⟨gb,1,none⟩=some (.string s.f1):=by rw [Lib.cell_of_heap BK11.out];rfl
  have z2:w11.cell? ⟨gb,2,none⟩=some (.slice A2 (convEs s.f2).length c2):=by rw [Lib.cell_of_heap BK11.out];rfl
  have z3:w11.cell? ⟨gb,3,none⟩=some (.slice A3 (convSs s.f3).length c3):=by rw [Lib.cell_of_heap BK11.out];rfl
  have z4:w11.cell? ⟨gb,4,none⟩=some (.slice A4 (convSs s.f4).length c4):=by rw [Lib.cell_of_heap BK11.out];rfl
  try go_wp2
  go_end0
  refine ⟨rfl,?_,HB11.out,HS11.out⟩
  have h11:=HP11.out
  simp only [List.append_assoc,List.nil_append,List.append_nil] at h11 ⊢
  exact h11
end Go.Proofs.YtnnbbeloifhofaaDoor.P
end
section
namespace Go.Proofs.YtnnbbeloifhofaaDoor.P
open Go Go.RowKit Go.Proofs
open Go.Proofs.YtnnbbeloifhofaaDoorW.PrintWords Go.Proofs.YtnnbbeloifhofaaDoorW.PrintLast Go.Proofs.YtnnbbeloifhofaaDoorW.PrintMore
set_option linter.unusedVariables false
set_option linter.unusedSimpArgs false
set_option maxHeartbeats 2000000 in
set_option maxRecDepth 100000 in
theorem stmt_if1 (s:RS) (n0 : ¬ s.f0.toList=oSet) (n1 : ¬ s.f0.toList=oPut) (n2 : ¬ s.f0.toList=oInput) (c1:s.f0.toList=oIf) (ce:0 < s.f4.length) (iha : ∀ y ∈ s.f3,StmtOk y) (ihb : ∀ y ∈ s.f4,StmtOk y):StmtOk s:=by
  intro b t d A2 A3 A4 c2 c3 c4 w0 w hP hB hT g2 l2 g3 l3 g4 l4 ho hd0 hd hlen
  rw [okS_eq] at ho
  rw [bulkS_eq] at hd
  rw [stmtB_eq] at hlen ⊢
  unfold stmtF at hlen ⊢
  rw [if_neg n0,if_neg n1,if_neg n2,if_pos (.inl c1),if_pos ⟨c1,decide_eq_true ce⟩] at hlen ⊢
  obtain ⟨k,hp⟩:=part_k s.f2 0 ho.1 (by omega)
  obtain ⟨k',hp'⟩:=part_k s.f2 1 ho.1 (by omega)
  have m0:=opNo n0
  clear n0
  have m1:=opNo n1
  clear n1
  have m2:=opNo n2
  clear n2
  have c1b:=opIs c1
  have ceb:decide (0 < (convSs s.f4).length)=true:=decide_eq_true (by rw [convSs_len];omega)
  clear c1 ce
  have G3:=Aside0.mk g3
  have L3:=Aside0.mk l3
  have G4:=Aside0.mk g4
  have L4:=Aside0.mk l4
  have OK:=Aside0.mk ho
  have G2:=Aside0.mk g2
  have L2:=Aside0.mk l2
  have HB0:=Aside0.mk hB
  have HLEN:=Aside0.mk hlen
  have HD:=Aside0.mk hd
  have HPP:=Aside0.mk hp
  have HQQ:=Aside0.mk hp'
  have HP:=Aside0.mk hP
  clear ho g2 l2 g3 l3 g4 l4 hB hlen hd hp hp' hP
  go_enter Tryd.func61,Tryd.ntmps61
  go_wp2_with (first|((with_reducible refine gate_dst (N:=3) rfl ?_);refine box_event ?hg (N:=3) ?hd (cs:=#[.string s.f0,.string s.f1,.slice A2 (convEs s.f2).length c2,.slice A3 (convSs s.f3).length c3,.slice A4 (convSs s.f4).length c4,.int .i64 s.f5]) (t:=76) ?hr ?_;(case hd=>rfl);(case hg=>rfl);(case hr=>first|(go_simp;done)|(go_simp;rfl));intro gb hg w1 hbox hb;have BK:=Aside0.mk hbox;have GW:=Aside0.mk hg;have HB1:=Aside0.mk hb;clear hb hbox hg;have z0:w1.cell? ⟨gb,0,none⟩=some (.string s.f0):=(blk_cell BK.out 0).trans rfl;have z1:w1.cell? ⟨gb,1,none⟩=some (.string s.f1):=(blk_cell BK.out 1).trans rfl;have z2:w1.cell? ⟨gb,2,none⟩=some (.slice A2 (convEs s.f2).length c2):=(blk_cell BK.out 2).trans rfl;have z3:w1.cell? ⟨gb,3,none⟩=some (.slice A3 (convSs s.f3).length c3):=(blk_cell BK.out 3).trans rfl;have z4:w1.cell? ⟨gb,4,none⟩=some (.slice A4 (convSs s.f4).length c4):=(blk_cell BK.out 4).trans rfl))
  have hHeld0:w1.drew.cell? ⟨gb,0,none⟩=some (.string s.f0)∧w1.drew.cell? ⟨gb,1,none⟩=some (.string s.f1)∧w1.drew.cell? ⟨gb,2,none⟩=some (.slice A2 (convEs s.f2).length c2)∧Below w1.heap.size w1 w1.drew:=⟨z0,z1,z2,Below.drew (Below.refl _ w1)⟩
  refine start_ (n:=8) (ds:=[7]) (S:=fun w'=>w'.cell? ⟨gb,0,none⟩=some (.string s.f0)∧w'.cell? ⟨gb,1,none⟩=some (.string s.f1)∧w'.cell? ⟨gb,2,none⟩=some (.slice A2 (convEs s.f2).length c2)∧Below w1.heap.size w1 w') #[false,false,false,false,false,false,false,false] (by kernel_rfl) rfl rfl hHeld0 (fun hHeld=>?_)
  generalize w1.drew=w2 at hHeld ⊢
  refine pure_ (i:=0) (N:=some 59) (v:=?_) (a':=?_) #[true,false,false,false,false,false,false,false] rfl rfl (by kernel_rfl) (fun _ _ _ h=>h) (Or.inl ⟨by rfl,?_⟩) ?_ ?_
  rotate_left
  · intro w'
    go_simp
    with_reducible rfl
  rotate_left
  · simp only [Act.put,List.setIfInBounds_toArray,List.set_cons_zero,List.set_cons_succ,i64_w,i32_w]
    rfl
  refine pure_ (i:=1) (N:=some 60) (v:=?_) (a':=?_) #[true,true,false,false,false,false,false,false] rfl rfl (by kernel_rfl) (fun _ _ _ h=>h) (Or.inl ⟨by rfl,?_⟩) ?_ ?_
  rotate_left
  · intro w'
    go_simp
    with_reducible rfl
  rotate_left
  · simp only [Act.put,List.setIfInBounds_toArray,List.set_cons_zero,List.set_cons_succ,i64_w,i32_w]
    rfl
  refine pure_ (i:=3) (N:=some 62) (v:=?_) (a':=?_) #[true,true,false,true,false,false,false,false] rfl rfl (by kernel_rfl) (fun _ _ _ h=>h) (Or.inl ⟨by rfl,?_⟩) ?_ ?_
  rotate_left
  · intro w'
    go_simp
    with_reducible rfl
  rotate_left
  · simp only [Act.put,List.setIfInBounds_toArray,List.set_cons_zero,List.set_cons_succ,i64_w,i32_w]
    rfl
  refine take_ (i:=2) (N:=some 61) (v:=?_) (a':=?_) #[true,true,true,true,false,false,false,false] rfl rfl (by kernel_rfl) (fun _ _ _ h=>h) (Or.inl ⟨by rfl,?_⟩) hHeld ?_ ?_
  rotate_left
  · rintro w' ⟨s0,s1,s2,s3⟩
    go_simp
    with_reducible rfl
  rotate_left
  · simp only [Act.put,List.setIfInBounds_toArray,List.set_cons_zero,List.set_cons_succ,i64_w,i32_w]
    rfl
  refine take_ (i:=4) (N:=some 63) (v:=?_) (a':=?_) #[true,true,true,true,true,false,false,false] rfl rfl (by kernel_rfl) (fun _ _ _ h=>h) (Or.inl ⟨by rfl,?_⟩) hHeld ?_ ?_
  rotate_left
  · rintro w' ⟨s0,s1,s2,s3⟩
    go_simp
    with_reducible rfl
  rotate_left
  · simp only [Act.put,List.setIfInBounds_toArray,List.set_cons_zero,List.set_cons_succ,i64_w,i32_w]
    rfl
  refine one_ (i:=5) (N:=some 64) #[true,true,true,true,true,true,false,false] rfl rfl (by kernel_rfl) (by decide) (fun K hK=>?_)
  refine goes_ Tryd.func32 (by kernel_rfl) rfl #[.slice A2 (convEs s.f2).length c2,.int .i64 0] (by rfl) rfl rfl (by (try simp only [List.map_toArray,List.map_cons,List.map_nil]);first|done|rfl) ?_
  have hb2:Below w0.heap.size w0 w2:=HB0.out.trans ((HB1.out.trans (hHeld.2.2.2.mono HB1.out.size)).mono HB0.out.size)
  refine (tree_part.calls k A2 c2 (convEs s.f2) 0 _ w2 (hT.later hb2) (Kd.C_below G2.out hb2) L2.out HPP.out).mono ?_
  clear hb2
  rintro e w3 ⟨rfl,hb⟩
  refine ⟨_,rfl,?_⟩
  obtain ⟨t0,t1,t2,t3⟩:=hHeld
  have hHeld:w3.cell? ⟨gb,0,none⟩=some (.string s.f0)∧w3.cell? ⟨gb,1,none⟩=some (.string s.f1)∧w3.cell? ⟨gb,2,none⟩=some (.slice A2 (convEs s.f2).length c2)∧Below w1.heap.size w1 w3:=⟨(hb.cell (World.block_lt_of_cell? w2 _ t0)).trans t0,(hb.cell (World.block_lt_of_cell? w2 _ t1)).trans t1,(hb.cell (World.block_lt_of_cell? w2 _ t2)).trans t2,t3.trans (hb.mono t3.size)⟩
  refine hK.out _ _ hHeld (fun hHeld=>?_)
  clear hK K t0 t1 t2 t3 hb
  refine norm_ (a':=?_) ?_ ?_
  rotate_left
  · show Act.put _ (some 64) _=_
    simp only [Act.put,List.setIfInBounds_toArray,List.set_cons_zero,List.set_cons_succ,i64_w,i32_w]
    rfl
  refine one_ (i:=6) (N:=some 65) #[true,true,true,true,true,true,true,false] rfl rfl (by kernel_rfl) (by decide) (fun K hK=>?_)
  refine Kd.R_lit_step Kd.string (w0:=w3) w3.heap.size 9 (by rfl) (N:=65) rfl (xs:=[s.f0,(lit [32]),(nth (textEs s.f2) 0),(lit [32,123])]) (inner:=[.string s.f0,.string (lit [32]),.string (nth (textEs s.f2) 0),.string (lit [32,123])]) (ok:=fun _=>True) (okp:=fun _=>True) ?hr ?hp (fun _ hk=>hk) trivial (Below.refl _ _) (Nat.le_refl _) (by simp) ?_
  case hr=>first|(go_simp;done)|(go_simp;rfl)
  case hp=>exact Reps.one (show Kd.M Kd.string _ _ _ (s.f0) [.string (s.f0)] from rfl) (Reps.one (show Kd.M Kd.string _ _ _ ((lit [32])) [.string ((lit [32]))] from rfl) (Reps.one (show Kd.M Kd.string _ _ _ ((nth (textEs s.f2) 0)) [.string ((nth (textEs s.f2) 0))] from rfl) (Reps.one (show Kd.M Kd.string _ _ _ ((lit [32,123])) [.string ((lit [32,123]))] from rfl) (Reps.none _ _))))
  intro vrow w4 hrow hb hg_ hnew_
  clear hg_ hnew_
  obtain ⟨Ao,co,rfl⟩:=Kd.R_slice hrow
  have hro:=(Kd.R_reads' hrow).2
  obtain ⟨t0,t1,t2,t3⟩:=hHeld
  have hHeld:w4.cell? ⟨gb,0,none⟩=some (.string s.f0)∧w4.cell? ⟨gb,1,none⟩=some (.string s.f1)∧w4.cell? ⟨gb,2,none⟩=some (.slice A2 (convEs s.f2).length c2)∧Below w1.heap.size w1 w4:=⟨(hb.cell (World.block_lt_of_cell? w3 _ t0)).trans t0,(hb.cell (World.block_lt_of_cell? w3 _ t1)).trans t1,(hb.cell (World.block_lt_of_cell? w3 _ t2)).trans t2,t3.trans (hb.mono t3.size)⟩
  refine hK.out _ _ hHeld (fun hHeld=>?_)
  clear hK K t0 t1 t2 t3 hb hrow
  refine norm_ (a':=?_) ?_ ?_
  rotate_left
  · show Act.put _ (some 65) _=_
    simp only [Act.put,List.setIfInBounds_toArray,List.set_cons_zero,List.set_cons_succ,i64_w,i32_w]
    rfl
  have e4:Below w.heap.size w w4:=HB1.out.trans (hHeld.2.2.2.mono HB1.out.size)
  refine last_ (i:=7) (N:=some 66) #[true,true,true,true,true,true,true,true] rfl rfl (by kernel_rfl) (by decide) (fun K hK=>?_)
  refine goes_ Tryd.func38 (by kernel_rfl) rfl #[.pointer (some ⟨b,0,none⟩),.slice Ao 4 co] (by rfl) rfl rfl (by (try simp only [List.map_toArray,List.map_cons,List.map_nil]);first|done|rfl) ?_
  refine (line_pr w0.heap.size b t d Ao co [s.f0,(lit [32]),(nth (textEs s.f2) 0),(lit [32,123])] w4 (HP.out.kept e4) hro.2 hro.1 hd0 (by have:=HD.out;omega) (by simp) (by have:=HLEN.out;simp only [List.length_append] at this;omega) (Nat.le_trans HB0.out.size e4.size)).mono ?_
  rintro e w5 ⟨rfl,hP5,hb,hs5⟩
  refine ⟨_,rfl,?_⟩
  refine hK.out _ _ ?_
  refine done_ (by kernel_rfl) ?_
  have hgb:gb≠b:=fun e=>by have:=HP.out.lt;have:=GW.out;omega
  have BK5:=Aside0.mk ((Beside.trans (Beside.of (hHeld.2.2.2)) hs5) gb _ _ _ hgb (by decide) BK.out)
  have HB5:=Aside0.mk ((e4.mono HB0.out.size).trans hb)
  have HS5:=Aside0.mk ((Beside.of e4).trans hs5)
  have HP5:Aside0 (IsPr w0.heap.size b (Lib.byteCells (t++lineB d [s.f0,lit [32],nth (textEs s.f2) 0,lit [32,123]])) d w5):=⟨.inr hP5⟩
  clear hK hHeld z0 z1 z2 z3 z4 hb hs5 hro hP5 e4 BK
  have z0:w5.cell? ⟨gb,0,none⟩=some (.string s.f0):=by rw [Lib.cell_of_heap BK5.out];rfl
  have z1:w5.cell? ⟨gb,1,none⟩=some (.string s.f1):=by rw [Lib.cell_of_heap BK5.out];rfl
  have z2:w5.cell? ⟨gb,2,none⟩=some (.slice A2 (convEs s.f2).length c2):=by rw [Lib.cell_of_heap BK5.out];rfl
  have z3:w5.cell? ⟨gb,3,none⟩=some (.slice A3 (convSs s.f3).length c3):=by rw [Lib.cell_of_heap BK5.out];rfl
  have z4:w5.cell? ⟨gb,4,none⟩=some (.slice A4 (convSs s.f4).length c4):=by rw [Lib.cell_of_heap BK5.out];rfl
  go_wp2_with fail
  refine (block_pr s.f3 iha b (t++lineB d [s.f0,lit [32],nth (textEs s.f2) 0,lit [32,123]]) d A3 c3 w0 w5 HP5.out (HB0.out.trans HB5.out) hT G3.out L3.out OK.out.2.1 hd0 (by have:=HD.out;omega) (by have:=HLEN.out;simp only [List.length_append] at this ⊢;omega)).mono ?_
  rintro e w6 ⟨rfl,hP',hb',hs'⟩
  have HP6:=Aside0.mk hP'
  have HB6:=Aside0.mk (HB5.out.trans hb')
  have HS6:=Aside0.mk (HS5.out.trans hs')
  have BK6:=Aside0.mk (hs' gb _ _ _ hgb (by decide) BK5.out)
  clear hP' hb' hs' z0 z1 z2 z3 z4 BK5
  have z0:w6.cell? ⟨gb,0,none⟩=some (.string s.f0):=by rw [Lib.cell_of_heap BK6.out];rfl
  have z1:w6.cell? ⟨gb,1,none⟩=some (.string s.f1):=by rw [Lib.cell_of_heap BK6.out];rfl
  have z2:w6.cell? ⟨gb,2,none⟩=some (.slice A2 (convEs s.f2).length c2):=by rw [Lib.cell_of_heap BK6.out];rfl
  have z3:w6.cell? ⟨gb,3,none⟩=some (.slice A3 (convSs s.f3).length c3):=by rw [Lib.cell_of_heap BK6.out];rfl
  have z4:w6.cell? ⟨gb,4,none⟩=some (.slice A4 (convSs s.f4).length c4):=by rw [Lib.cell_of_heap BK6.out];rfl
  go_wp2_with (first|((with_reducible refine gate_dst (N:=81) rfl ?_);(try (refine gate_guard (by rfl) ?_;dsimp only));refine Kd.R_lit Kd.string (w0:=w6) w6.heap.size 9 ?hg8 (N:=81) ?hd8 (xs:=[(lit [125,32,101,108,115,101,32,123])]) (inner:=[.string (lit [125,32,101,108,115,101,32,123])]) (ok:=fun _=>True) (okp:=fun _=>True) ?hr8 ?hp8 (fun _ hk=>hk) trivial (Below.refl _ _) (Nat.le_refl _) (by simp) ?_;(case hd8=>rfl);(case hg8=>rfl);(case hr8=>first|(go_simp;done)|(go_simp;rfl));(case hp8=>exact Reps.one (show Kd.M Kd.string _ _ _ ((lit [125,32,101,108,115,101,32,123])) [.string ((lit [125,32,101,108,115,101,32,123]))] from rfl) (Reps.none _ _));intro vrow w7 hrow hb hg_ hnew_;have HL8:=Aside0.mk hb;clear hg_ hnew_ hb;obtain ⟨Ao8,co8,rfl⟩:=Kd.R_slice hrow;have hro:=(Kd.R_reads' hrow).2;have HR8:=Aside0.mk hro;clear hro hrow))
  refine (line_pr w0.heap.size b ((t++lineB d [s.f0,lit [32],nth (textEs s.f2) 0,lit [32,123]])++stmtsB s.f3 (d+1)) d Ao8 co8 [(lit [125,32,101,108,115,101,32,123])] w7 (HP6.out.kept HL8.out) HR8.out.2 HR8.out.1 hd0 (by have:=HD.out;omega) (by simp) (by have:=HLEN.out;simp only [List.length_append] at this ⊢;omega) (Nat.le_trans HB0.out.size (Nat.le_trans HB6.out.size HL8.out.size))).mono ?_
  rintro e w8 ⟨rfl,hP',hb',hs'⟩
  have HP8:Aside0 (IsPr w0.heap.size b _ d w8):=⟨.inr hP'⟩
  have HB8:=Aside0.mk ((HB6.out.trans (HL8.out.mono (Nat.le_trans HB0.out.size HB6.out.size))).trans hb')
  have HS8:=Aside0.mk ((HS6.out.trans (Beside.of HL8.out)).trans hs')
  have BK8:=Aside0.mk (((Beside.of HL8.out).trans hs') gb _ _ _ hgb (by decide) BK6.out)
  clear hP' hb' hs' z0 z1 z2 z3 z4 BK6 HL8 HR8
  have z0:w8.cell? ⟨gb,0,none⟩=some (.string s.f0):=by rw [Lib.cell_of_heap BK8.out];rfl
  have z1:w8.cell? ⟨gb,1,none⟩=some (.string s.f1):=by rw [Lib.cell_of_heap BK8.out];rfl
  have z2:w8.cell? ⟨gb,2,none⟩=some (.slice A2 (convEs s.f2).length c2):=by rw [Lib.cell_of_heap BK8.out];rfl
  have z3:w8.cell? ⟨gb,3,none⟩=some (.slice A3 (convSs s.f3).length c3):=by rw [Lib.cell_of_heap BK8.out];rfl
  have z4:w8.cell? ⟨gb,4,none⟩=some (.slice A4 (convSs s.f4).length c4):=by rw [Lib.cell_of_heap BK8.out];rfl
  go_wp2_with fail
  refine (block_pr s.f4 ihb b (((t++lineB d [s.f0,lit [32],nth (textEs s.f2) 0,lit [32,123]])++stmtsB s.f3 (d+1))++lineB d [lit [125,32,101,108,115,101,32,123]]) d A4 c4 w0 w8 HP8.out (HB0.out.trans HB8.out) hT G4.out L4.out OK.out.2.2 hd0 (by have:=HD.out;omega) (by have:=HLEN.out;simp only [List.length_append] at this ⊢;omega)).mono ?_
  rintro e w9 ⟨rfl,hP',hb',hs'⟩
  have HP9:=Aside0.mk hP'
  have HB9:=Aside0.mk (HB8.out.trans hb')
  have HS9:=Aside0.mk (HS8.out.trans hs')
  have BK9:=Aside0.mk (hs' gb _ _ _ hgb (by decide) BK8.out)
  clear hP' hb' hs' z0 z1 z2 z3 z4 BK8
  have z0:w9.cell? ⟨gb,0,none⟩=some (.string s.f0):=by rw [Lib.cell_of_heap BK9.out];rfl
  have z1:w9.cell? ⟨gb,1,none⟩=some (.string s.f1):=by rw [Lib.cell_of_heap BK9.out];rfl
  have z2:w9.cell? ⟨gb,2,none⟩=some (.slice A2 (convEs s.f2).length c2):=by rw [Lib.cell_of_heap BK9.out];rfl
  have z3:w9.cell? ⟨gb,3,none⟩=some (.slice A3 (convSs s.f3).length c3):=by rw [Lib.cell_of_heap BK9.out];rfl
  have z4:w9.cell? ⟨gb,4,none⟩=some (.slice A4 (convSs s.f4).length c4):=by rw [Lib.cell_of_heap BK9.out];rfl
  go_wp2_with (first|((with_reducible refine gate_dst (N:=88) rfl ?_);(try (refine gate_guard (by rfl) ?_;dsimp only));refine Kd.R_lit Kd.string (w0:=w9) w9.heap.size 9 ?hg11 (N:=88) ?hd11 (xs:=[(lit [125])]) (inner:=[.string (lit [125])]) (ok:=fun _=>True) (okp:=fun _=>True) ?hr11 ?hp11 (fun _ hk=>hk) trivial (Below.refl _ _) (Nat.le_refl _) (by simp) ?_;(case hd11=>rfl);(case hg11=>rfl);(case hr11=>first|(go_simp;done)|(go_simp;rfl));(case hp11=>exact Reps.one (show Kd.M Kd.string _ _ _ ((lit [125])) [.string ((lit [125]))] from rfl) (Reps.none _ _));intro vrow w10 hrow hb hg_ hnew_;have HL11:=Aside0.mk hb;clear hg_ hnew_ hb;obtain ⟨Ao11,co11,rfl⟩:=Kd.R_slice hrow;have hro:=(Kd.R_reads' hrow).2;have HR11:=Aside0.mk hro;clear hro hrow))
  refine (line_pr w0.heap.size b ((((t++lineB d [s.f0,lit [32],nth (textEs s.f2) 0,lit [32,123]])++stmtsB s.f3 (d+1))++lineB d [lit [125,32,101,108,115,101,32,123]])++stmtsB s.f4 (d+1)) d Ao11 co11 [(lit [125])] w10 (HP9.out.kept HL11.out) HR11.out.2 HR11.out.1 hd0 (by have:=HD.out;omega) (by simp) (by have:=HLEN.out;simp only [List.length_append] at this ⊢;omega) (Nat.le_trans HB0.out.size (Nat.le_trans HB9.out.size HL11.out.size))).mono ?_
  rintro e w11 ⟨rfl,hP',hb',hs'⟩
  have HP11:Aside0 (IsPr w0.heap.size b _ d w11):=⟨.inr hP'⟩
  have HB11:=Aside0.mk ((HB9.out.trans (HL11.out.mono (Nat.le_trans HB0.out.size HB9.out.size))).trans hb')
  have HS11:=Aside0.mk ((HS9.out.trans (Beside.of HL11.out)).trans hs')
  have BK11:=Aside0.mk (((Beside.of HL11.out).trans hs') gb _ _ _ hgb (by decide) BK9.out)
  clear hP' hb' hs' z0 z1 z2 z3 z4 BK9 HL11 HR11
  have z0:w11.cell? ⟨gb,0,none⟩=some (.string s.f0):=by rw [Lib.cell_of_heap BK11.out];rfl
  have z1:w11.cell? ⟨gb,1,none⟩=some (.string s.f1):=by rw [Lib.cell_of_heap BK11.out];rfl
  have z2:w11.cell? ⟨gb,2,none⟩=some (.slice A2 (convEs s.f2).length c2):=by rw [Lib.cell_of_heap BK11.out];rfl
  have z3:w11.cell? ⟨gb,3,none⟩=some (.slice A3 (convSs s.f3).length c3):=by rw [Lib.cell_of_heap BK11.out];rfl
  have z4:w11.cell? ⟨gb,4,none⟩=some (.slice A4 (convSs s.f4).length c4):=by rw [Lib.cell_of_heap BK11.out];rfl
  try go_wp2
  go_end0
  refine ⟨rfl,?_,HB11.out,HS11.out⟩
  have h11:=HP11.out
  simp only [List.append_assoc,List.nil_append,List.append_nil] at h11 ⊢
  exact h11
end Go.Proofs.YtnnbbeloifhofaaDoor.P
end
section
namespace Go.Proofs.YtnnbbeloifhofaaDoor.P
open Go Go.RowKit Go.Proofs
open Go.Proofs.YtnnbbeloifhofaaDoorW.PrintWords Go.Proofs.YtnnbbeloifhofaaDoorW.PrintLast Go.Proofs.YtnnbbeloifhofaaDoorW.PrintMore
set_option linter.unusedVariables false
set_option linter.unusedSimpArgs false
set_option maxHeartbeats 2000000 in
set_option maxRecDepth 100000 in
theorem stmt_while (s:RS) (n0 : ¬ s.f0.toList=oSet) (n1 : ¬ s.f0.toList=oPut) (n2 : ¬ s.f0.toList=oInput) (n3 : ¬ s.f0.toList=oIf) (c1:s.f0.toList=oWhile) (iha : ∀ y ∈ s.f3,StmtOk y) (ihb : ∀ y ∈ s.f4,StmtOk y):StmtOk s:=by
  intro b t d A2 A3 A4 c2 c3 c4 w0 w hP hB hT g2 l2 g3 l3 g4 l4 ho hd0 hd hlen
  rw [okS_eq] at ho
  rw [bulkS_eq] at hd
  rw [stmtB_eq] at hlen ⊢
  unfold stmtF at hlen ⊢
  rw [if_neg n0,if_neg n1,if_neg n2,if_pos (.inr c1),if_neg (fun h=>n3 h.1)] at hlen ⊢
  obtain ⟨k,hp⟩:=part_k s.f2 0 ho.1 (by omega)
  obtain ⟨k',hp'⟩:=part_k s.f2 1 ho.1 (by omega)
  have m0:=opNo n0
  clear n0
  have m1:=opNo n1
  clear n1
  have m2:=opNo n2
  clear n2
  have m3:=opNo n3
  clear n3
  have c1b:=opIs c1
  clear c1
  have G3:=Aside0.mk g3
  have L3:=Aside0.mk l3
  have G4:=Aside0.mk g4
  have L4:=Aside0.mk l4
  have OK:=Aside0.mk ho
  have G2:=Aside0.mk g2
  have L2:=Aside0.mk l2
  have HB0:=Aside0.mk hB
  have HLEN:=Aside0.mk hlen
  have HD:=Aside0.mk hd
  have HPP:=Aside0.mk hp
  have HQQ:=Aside0.mk hp'
  have HP:=Aside0.mk hP
  clear ho g2 l2 g3 l3 g4 l4 hB hlen hd hp hp' hP
  go_enter Tryd.func61,Tryd.ntmps61
  go_wp2_with (first|((with_reducible refine gate_dst (N:=3) rfl ?_);refine box_event ?hg (N:=3) ?hd (cs:=#[.string s.f0,.string s.f1,.slice A2 (convEs s.f2).length c2,.slice A3 (convSs s.f3).length c3,.slice A4 (convSs s.f4).length c4,.int .i64 s.f5]) (t:=76) ?hr ?_;(case hd=>rfl);(case hg=>rfl);(case hr=>first|(go_simp;done)|(go_simp;rfl));intro gb hg w1 hbox hb;have BK:=Aside0.mk hbox;have GW:=Aside0.mk hg;have HB1:=Aside0.mk hb;clear hb hbox hg;have z0:w1.cell? ⟨gb,0,none⟩=some (.string s.f0):=(blk_cell BK.out 0).trans rfl;have z1:w1.cell? ⟨gb,1,none⟩=some (.string s.f1):=(blk_cell BK.out 1).trans rfl;have z2:w1.cell? ⟨gb,2,none⟩=some (.slice A2 (convEs s.f2).length c2):=(blk_cell BK.out 2).trans rfl;have z3:w1.cell? ⟨gb,3,none⟩=some (.slice A3 (convSs s.f3).length c3):=(blk_cell BK.out 3).trans rfl;have z4:w1.cell? ⟨gb,4,none⟩=some (.slice A4 (convSs s.f4).length c4):=(blk_cell BK.out 4).trans rfl))
  have hHeld0:w1.drew.cell? ⟨gb,0,none⟩=some (.string s.f0)∧w1.drew.cell? ⟨gb,1,none⟩=some (.string s.f1)∧w1.drew.cell? ⟨gb,2,none⟩=some (.slice A2 (convEs s.f2).length c2)∧Below w1.heap.size w1 w1.drew:=⟨z0,z1,z2,Below.drew (Below.refl _ w1)⟩
  refine start_ (n:=8) (ds:=[7]) (S:=fun w'=>w'.cell? ⟨gb,0,none⟩=some (.string s.f0)∧w'.cell? ⟨gb,1,none⟩=some (.string s.f1)∧w'.cell? ⟨gb,2,none⟩=some (.slice A2 (convEs s.f2).length c2)∧Below w1.heap.size w1 w') #[false,false,false,false,false,false,false,false] (by kernel_rfl) rfl rfl hHeld0 (fun hHeld=>?_)
  generalize w1.drew=w2 at hHeld ⊢
  refine pure_ (i:=0) (N:=some 59) (v:=?_) (a':=?_) #[true,false,false,false,false,false,false,false] rfl rfl (by kernel_rfl) (fun _ _ _ h=>h) (Or.inl ⟨by rfl,?_⟩) ?_ ?_
  rotate_left
  · intro w'
    go_simp
    with_reducible rfl
  rotate_left
  · simp only [Act.put,List.setIfInBounds_toArray,List.set_cons_zero,List.set_cons_succ,i64_w,i32_w]
    rfl
  refine pure_ (i:=1) (N:=some 60) (v:=?_) (a':=?_) #[true,true,false,false,false,false,false,false] rfl rfl (by kernel_rfl) (fun _ _ _ h=>h) (Or.inl ⟨by rfl,?_⟩) ?_ ?_
  rotate_left
  · intro w'
    go_simp
    with_reducible rfl
  rotate_left
  · simp only [Act.put,List.setIfInBounds_toArray,List.set_cons_zero,List.set_cons_succ,i64_w,i32_w]
    rfl
  refine pure_ (i:=3) (N:=some 62) (v:=?_) (a':=?_) #[true,true,false,true,false,false,false,false] rfl rfl (by kernel_rfl) (fun _ _ _ h=>h) (Or.inl ⟨by rfl,?_⟩) ?_ ?_
  rotate_left
  · intro w'
    go_simp
    with_reducible rfl
  rotate_left
  · simp only [Act.put,List.setIfInBounds_toArray,List.set_cons_zero,List.set_cons_succ,i64_w,i32_w]
    rfl
  refine take_ (i:=2) (N:=some 61) (v:=?_) (a':=?_) #[true,true,true,true,false,false,false,false] rfl rfl (by kernel_rfl) (fun _ _ _ h=>h) (Or.inl ⟨by rfl,?_⟩) hHeld ?_ ?_
  rotate_left
  · rintro w' ⟨s0,s1,s2,s3⟩
    go_simp
    with_reducible rfl
  rotate_left
  · simp only [Act.put,List.setIfInBounds_toArray,List.set_cons_zero,List.set_cons_succ,i64_w,i32_w]
    rfl
  refine take_ (i:=4) (N:=some 63) (v:=?_) (a':=?_) #[true,true,true,true,true,false,false,false] rfl rfl (by kernel_rfl) (fun _ _ _ h=>h) (Or.inl ⟨by rfl,?_⟩) hHeld ?_ ?_
  rotate_left
  · rintro w' ⟨s0,s1,s2,s3⟩
    go_simp
    with_reducible rfl
  rotate_left
  · simp only [Act.put,List.setIfInBounds_toArray,List.set_cons_zero,List.set_cons_succ,i64_w,i32_w]
    rfl
  refine one_ (i:=5) (N:=some 64) #[true,true,true,true,true,true,false,false] rfl rfl (by kernel_rfl) (by decide) (fun K hK=>?_)
  refine goes_ Tryd.func32 (by kernel_rfl) rfl #[.slice A2 (convEs s.f2).length c2,.int .i64 0] (by rfl) rfl rfl (by (try simp only [List.map_toArray,List.map_cons,List.map_nil]);first|done|rfl) ?_
  have hb2:Below w0.heap.size w0 w2:=HB0.out.trans ((HB1.out.trans (hHeld.2.2.2.mono HB1.out.size)).mono HB0.out.size)
  refine (tree_part.calls k A2 c2 (convEs s.f2) 0 _ w2 (hT.later hb2) (Kd.C_below G2.out hb2) L2.out HPP.out).mono ?_
  clear hb2
  rintro e w3 ⟨rfl,hb⟩
  refine ⟨_,rfl,?_⟩
  obtain ⟨t0,t1,t2,t3⟩:=hHeld
  have hHeld:w3.cell? ⟨gb,0,none⟩=some (.string s.f0)∧w3.cell? ⟨gb,1,none⟩=some (.string s.f1)∧w3.cell? ⟨gb,2,none⟩=some (.slice A2 (convEs s.f2).length c2)∧Below w1.heap.size w1 w3:=⟨(hb.cell (World.block_lt_of_cell? w2 _ t0)).trans t0,(hb.cell (World.block_lt_of_cell? w2 _ t1)).trans t1,(hb.cell (World.block_lt_of_cell? w2 _ t2)).trans t2,t3.trans (hb.mono t3.size)⟩
  refine hK.out _ _ hHeld (fun hHeld=>?_)
  clear hK K t0 t1 t2 t3 hb
  refine norm_ (a':=?_) ?_ ?_
  rotate_left
  · show Act.put _ (some 64) _=_
    simp only [Act.put,List.setIfInBounds_toArray,List.set_cons_zero,List.set_cons_succ,i64_w,i32_w]
    rfl
  refine one_ (i:=6) (N:=some 65) #[true,true,true,true,true,true,true,false] rfl rfl (by kernel_rfl) (by decide) (fun K hK=>?_)
  refine Kd.R_lit_step Kd.string (w0:=w3) w3.heap.size 9 (by rfl) (N:=65) rfl (xs:=[s.f0,(lit [32]),(nth (textEs s.f2) 0),(lit [32,123])]) (inner:=[.string s.f0,.string (lit [32]),.string (nth (textEs s.f2) 0),.string (lit [32,123])]) (ok:=fun _=>True) (okp:=fun _=>True) ?hr ?hp (fun _ hk=>hk) trivial (Below.refl _ _) (Nat.le_refl _) (by simp) ?_
  case hr=>first|(go_simp;done)|(go_simp;rfl)
  case hp=>exact Reps.one (show Kd.M Kd.string _ _ _ (s.f0) [.string (s.f0)] from rfl) (Reps.one (show Kd.M Kd.string _ _ _ ((lit [32])) [.string ((lit [32]))] from rfl) (Reps.one (show Kd.M Kd.string _ _ _ ((nth (textEs s.f2) 0)) [.string ((nth (textEs s.f2) 0))] from rfl) (Reps.one (show Kd.M Kd.string _ _ _ ((lit [32,123])) [.string ((lit [32,123]))] from rfl) (Reps.none _ _))))
  intro vrow w4 hrow hb hg_ hnew_
  clear hg_ hnew_
  obtain ⟨Ao,co,rfl⟩:=Kd.R_slice hrow
  have hro:=(Kd.R_reads' hrow).2
  obtain ⟨t0,t1,t2,t3⟩:=hHeld
  have hHeld:w4.cell? ⟨gb,0,none⟩=some (.string s.f0)∧w4.cell? ⟨gb,1,none⟩=some (.string s.f1)∧w4.cell? ⟨gb,2,none⟩=some (.slice A2 (convEs s.f2).length c2)∧Below w1.heap.size w1 w4:=⟨(hb.cell (World.block_lt_of_cell? w3 _ t0)).trans t0,(hb.cell (World.block_lt_of_cell? w3 _ t1)).trans t1,(hb.cell (World.block_lt_of_cell? w3 _ t2)).trans t2,t3.trans (hb.mono t3.size)⟩
  refine hK.out _ _ hHeld (fun hHeld=>?_)
  clear hK K t0 t1 t2 t3 hb hrow
  refine norm_ (a':=?_) ?_ ?_
  rotate_left
  · show Act.put _ (some 65) _=_
    simp only [Act.put,List.setIfInBounds_toArray,List.set_cons_zero,List.set_cons_succ,i64_w,i32_w]
    rfl
  have e4:Below w.heap.size w w4:=HB1.out.trans (hHeld.2.2.2.mono HB1.out.size)
  refine last_ (i:=7) (N:=some 66) #[true,true,true,true,true,true,true,true] rfl rfl (by kernel_rfl) (by decide) (fun K hK=>?_)
  refine goes_ Tryd.func38 (by kernel_rfl) rfl #[.pointer (some ⟨b,0,none⟩),.slice Ao 4 co] (by rfl) rfl rfl (by (try simp only [List.map_toArray,List.map_cons,List.map_nil]);first|done|rfl) ?_
  refine (line_pr w0.heap.size b t d Ao co [s.f0,(lit [32]),(nth (textEs s.f2) 0),(lit [32,123])] w4 (HP.out.kept e4) hro.2 hro.1 hd0 (by have:=HD.out;omega) (by simp) (by have:=HLEN.out;simp only [List.length_append] at this;omega) (Nat.le_trans HB0.out.size e4.size)).mono ?_
  rintro e w5 ⟨rfl,hP5,hb,hs5⟩
  refine ⟨_,rfl,?_⟩
  refine hK.out _ _ ?_
  refine done_ (by kernel_rfl) ?_
  have hgb:gb≠b:=fun e=>by have:=HP.out.lt;have:=GW.out;omega
  have BK5:=Aside0.mk ((Beside.trans (Beside.of (hHeld.2.2.2)) hs5) gb _ _ _ hgb (by decide) BK.out)
  have HB5:=Aside0.mk ((e4.mono HB0.out.size).trans hb)
  have HS5:=Aside0.mk ((Beside.of e4).trans hs5)
  have HP5:Aside0 (IsPr w0.heap.size b (Lib.byteCells (t++lineB d [s.f0,lit [32],nth (textEs s.f2) 0,lit [32,123]])) d w5):=⟨.inr hP5⟩
  clear hK hHeld z0 z1 z2 z3 z4 hb hs5 hro hP5 e4 BK
  have z0:w5.cell? ⟨gb,0,none⟩=some (.string s.f0):=by rw [Lib.cell_of_heap BK5.out];rfl
  have z1:w5.cell? ⟨gb,1,none⟩=some (.string s.f1):=by rw [Lib.cell_of_heap BK5.out];rfl
  have z2:w5.cell? ⟨gb,2,none⟩=some (.slice A2 (convEs s.f2).length c2):=by rw [Lib.cell_of_heap BK5.out];rfl
  have z3:w5.cell? ⟨gb,3,none⟩=some (.slice A3 (convSs s.f3).length c3):=by rw [Lib.cell_of_heap BK5.out];rfl
  have z4:w5.cell? ⟨gb,4,none⟩=some (.slice A4 (convSs s.f4).length c4):=by rw [Lib.cell_of_heap BK5.out];rfl
  go_wp2_with fail
  refine (block_pr s.f3 iha b (t++lineB d [s.f0,lit [32],nth (textEs s.f2) 0,lit [32,123]]) d A3 c3 w0 w5 HP5.out (HB0.out.trans HB5.out) hT G3.out L3.out OK.out.2.1 hd0 (by have:=HD.out;omega) (by have:=HLEN.out;simp only [List.length_append] at this ⊢;omega)).mono ?_
  rintro e w6 ⟨rfl,hP',hb',hs'⟩
  have HP6:=Aside0.mk hP'
  have HB6:=Aside0.mk (HB5.out.trans hb')
  have HS6:=Aside0.mk (HS5.out.trans hs')
  have BK6:=Aside0.mk (hs' gb _ _ _ hgb (by decide) BK5.out)
  clear hP' hb' hs' z0 z1 z2 z3 z4 BK5
  have z0:w6.cell? ⟨gb,0,none⟩=some (.string s.f0):=by rw [Lib.cell_of_heap BK6.out];rfl
  have z1:w6.cell? ⟨gb,1,none⟩=some (.string s.f1):=by rw [Lib.cell_of_heap BK6.out];rfl
  have z2:w6.cell? ⟨gb,2,none⟩=some (.slice A2 (convEs s.f2).length c2):=by rw [Lib.cell_of_heap BK6.out];rfl
  have z3:w6.cell? ⟨gb,3,none⟩=some (.slice A3 (convSs s.f3).length c3):=by rw [Lib.cell_of_heap BK6.out];rfl
  have z4:w6.cell? ⟨gb,4,none⟩=some (.slice A4 (convSs s.f4).length c4):=by rw [Lib.cell_of_heap BK6.out];rfl
  go_wp2_with (first|((with_reducible refine gate_dst (N:=88) rfl ?_);(try (refine gate_guard (by rfl) ?_;dsimp only));refine Kd.R_lit Kd.string (w0:=w6) w6.heap.size 9 ?hg11 (N:=88) ?hd11 (xs:=[(lit [125])]) (inner:=[.string (lit [125])]) (ok:=fun _=>True) (okp:=fun _=>True) ?hr11 ?hp11 (fun _ hk=>hk) trivial (Below.refl _ _) (Nat.le_refl _) (by simp) ?_;(case hd11=>rfl);(case hg11=>rfl);(case hr11=>first|(go_simp;done)|(go_simp;rfl));(case hp11=>exact Reps.one (show Kd.M Kd.string _ _ _ ((lit [125])) [.string ((lit [125]))] from rfl) (Reps.none _ _));intro vrow w10 hrow hb hg_ hnew_;have HL11:=Aside0.mk hb;clear hg_ hnew_ hb;obtain ⟨Ao11,co11,rfl⟩:=Kd.R_slice hrow;have hro:=(Kd.R_reads' hrow).2;have HR11:=Aside0.mk hro;clear hro hrow))
  refine (line_pr w0.heap.size b ((t++lineB d [s.f0,lit [32],nth (textEs s.f2) 0,lit [32,123]])++stmtsB s.f3 (d+1)) d Ao11 co11 [(lit [125])] w10 (HP6.out.kept HL11.out) HR11.out.2 HR11.out.1 hd0 (by have:=HD.out;omega) (by simp) (by have:=HLEN.out;simp only [List.length_append] at this ⊢;omega) (Nat.le_trans HB0.out.size (Nat.le_trans HB6.out.size HL11.out.size))).mono ?_
  rintro e w11 ⟨rfl,hP',hb',hs'⟩
  have HP11:Aside0 (IsPr w0.heap.size b _ d w11):=⟨.inr hP'⟩
  have HB11:=Aside0.mk ((HB6.out.trans (HL11.out.mono (Nat.le_trans HB0.out.size HB6.out.size))).trans hb')
  have HS11:=Aside0.mk ((HS6.out.trans (Beside.of HL11.out)).trans hs')
  have BK11:=Aside0.mk (((Beside.of HL11.out).trans hs') gb _ _ _ hgb (by decide) BK6.out)
  clear hP' hb' hs' z0 z1 z2 z3 z4 BK6 HL11 HR11
  have z0:w11.cell? ⟨gb,0,none⟩=some (.string s.f0):=by rw [Lib.cell_of_heap BK11.out];rfl
  have z1:w11.cell? ⟨gb,1,none⟩=some (.string s.f1):=by rw [Lib.cell_of_heap BK11.out];rfl
  have z2:w11.cell? ⟨gb,2,none⟩=some (.slice A2 (convEs s.f2).length c2):=by rw [Lib.cell_of_heap BK11.out];rfl
  have z3:w11.cell? ⟨gb,3,none⟩=some (.slice A3 (convSs s.f3).length c3):=by rw [Lib.cell_of_heap BK11.out];rfl
  have z4:w11.cell? ⟨gb,4,none⟩=some (.slice A4 (convSs s.f4).length c4):=by rw [Lib.cell_of_heap BK11.out];rfl
  try go_wp2
  go_end0
  refine ⟨rfl,?_,HB11.out,HS11.out⟩
  have h11:=HP11.out
  simp only [List.append_assoc,List.nil_append,List.append_nil] at h11 ⊢
  exact h11
end Go.Proofs.YtnnbbeloifhofaaDoor.P
end
section
namespace Go.Proofs.YtnnbbeloifhofaaDoor.P
open Go Go.RowKit Go.Proofs
open Go.Proofs.YtnnbbeloifhofaaDoorW.PrintWords Go.Proofs.YtnnbbeloifhofaaDoorW.PrintLast Go.Proofs.YtnnbbeloifhofaaDoorW.PrintMore
set_option linter.unusedVariables false
set_option linter.unusedSimpArgs false
set_option maxHeartbeats 2000000 in
set_option maxRecDepth 100000 in
theorem stmt_assert (s:RS) (n0 : ¬ s.f0.toList=oSet) (n1 : ¬ s.f0.toList=oPut) (n2 : ¬ s.f0.toList=oInput) (n3 : ¬ s.f0.toList=oIf) (n4 : ¬ s.f0.toList=oWhile) (c1:s.f0.toList=oAssert):StmtOk s:=by
  intro b t d A2 A3 A4 c2 c3 c4 w0 w hP hB hT g2 l2 g3 l3 g4 l4 ho hd0 hd hlen
  rw [okS_eq] at ho
  rw [bulkS_eq] at hd
  rw [stmtB_eq] at hlen ⊢
  unfold stmtF at hlen ⊢
  rw [if_neg n0,if_neg n1,if_neg n2,if_neg (by simp only [n3,n4,or_false,not_false_iff]),if_pos (.inl c1)] at hlen ⊢
  obtain ⟨k,hp⟩:=part_k s.f2 0 ho.1 (by omega)
  obtain ⟨k',hp'⟩:=part_k s.f2 1 ho.1 (by omega)
  have m0:=opNo n0
  clear n0
  have m1:=opNo n1
  clear n1
  have m2:=opNo n2
  clear n2
  have m3:=opNo n3
  clear n3
  have m4:=opNo n4
  clear n4
  have c1b:=opIs c1
  clear c1
  have G2:=Aside0.mk g2
  have L2:=Aside0.mk l2
  have HB0:=Aside0.mk hB
  have HLEN:=Aside0.mk hlen
  have HD:=Aside0.mk hd
  have HPP:=Aside0.mk hp
  have HQQ:=Aside0.mk hp'
  have HP:=Aside0.mk hP
  clear g2 l2 g3 l3 g4 l4 hB hlen hd hp hp' hP
  go_enter Tryd.func61,Tryd.ntmps61
  go_wp2_with (first|((with_reducible refine gate_dst (N:=3) rfl ?_);refine box_event ?hg (N:=3) ?hd (cs:=#[.string s.f0,.string s.f1,.slice A2 (convEs s.f2).length c2,.slice A3 (convSs s.f3).length c3,.slice A4 (convSs s.f4).length c4,.int .i64 s.f5]) (t:=76) ?hr ?_;(case hd=>rfl);(case hg=>rfl);(case hr=>first|(go_simp;done)|(go_simp;rfl));intro gb hg w1 hbox hb;have BK:=Aside0.mk hbox;have GW:=Aside0.mk hg;have HB1:=Aside0.mk hb;clear hb hbox hg;have z0:w1.cell? ⟨gb,0,none⟩=some (.string s.f0):=(blk_cell BK.out 0).trans rfl;have z1:w1.cell? ⟨gb,1,none⟩=some (.string s.f1):=(blk_cell BK.out 1).trans rfl;have z2:w1.cell? ⟨gb,2,none⟩=some (.slice A2 (convEs s.f2).length c2):=(blk_cell BK.out 2).trans rfl;have z3:w1.cell? ⟨gb,3,none⟩=some (.slice A3 (convSs s.f3).length c3):=(blk_cell BK.out 3).trans rfl;have z4:w1.cell? ⟨gb,4,none⟩=some (.slice A4 (convSs s.f4).length c4):=(blk_cell BK.out 4).trans rfl))
  have hHeld0:w1.drew.cell? ⟨gb,0,none⟩=some (.string s.f0)∧w1.drew.cell? ⟨gb,1,none⟩=some (.string s.f1)∧w1.drew.cell? ⟨gb,2,none⟩=some (.slice A2 (convEs s.f2).length c2)∧Below w1.heap.size w1 w1.drew:=⟨z0,z1,z2,Below.drew (Below.refl _ w1)⟩
  refine start_ (n:=8) (ds:=[7]) (S:=fun w'=>w'.cell? ⟨gb,0,none⟩=some (.string s.f0)∧w'.cell? ⟨gb,1,none⟩=some (.string s.f1)∧w'.cell? ⟨gb,2,none⟩=some (.slice A2 (convEs s.f2).length c2)∧Below w1.heap.size w1 w') #[false,false,false,false,false,false,false,false] (by kernel_rfl) rfl rfl hHeld0 (fun hHeld=>?_)
  generalize w1.drew=w2 at hHeld ⊢
  refine pure_ (i:=0) (N:=some 93) (v:=?_) (a':=?_) #[true,false,false,false,false,false,false,false] rfl rfl (by kernel_rfl) (fun _ _ _ h=>h) (Or.inl ⟨by rfl,?_⟩) ?_ ?_
  rotate_left
  · intro w'
    go_simp
    with_reducible rfl
  rotate_left
  · simp only [Act.put,List.setIfInBounds_toArray,List.set_cons_zero,List.set_cons_succ,i64_w,i32_w]
    rfl
  refine pure_ (i:=1) (N:=some 94) (v:=?_) (a':=?_) #[true,true,false,false,false,false,false,false] rfl rfl (by kernel_rfl) (fun _ _ _ h=>h) (Or.inl ⟨by rfl,?_⟩) ?_ ?_
  rotate_left
  · intro w'
    go_simp
    with_reducible rfl
  rotate_left
  · simp only [Act.put,List.setIfInBounds_toArray,List.set_cons_zero,List.set_cons_succ,i64_w,i32_w]
    rfl
  refine pure_ (i:=3) (N:=some 96) (v:=?_) (a':=?_) #[true,true,false,true,false,false,false,false] rfl rfl (by kernel_rfl) (fun _ _ _ h=>h) (Or.inl ⟨by rfl,?_⟩) ?_ ?_
  rotate_left
  · intro w'
    go_simp
    with_reducible rfl
  rotate_left
  · simp only [Act.put,List.setIfInBounds_toArray,List.set_cons_zero,List.set_cons_succ,i64_w,i32_w]
    rfl
  refine take_ (i:=2) (N:=some 95) (v:=?_) (a':=?_) #[true,true,true,true,false,false,false,false] rfl rfl (by kernel_rfl) (fun _ _ _ h=>h) (Or.inl ⟨by rfl,?_⟩) hHeld ?_ ?_
  rotate_left
  · rintro w' ⟨s0,s1,s2,s3⟩
    go_simp
    with_reducible rfl
  rotate_left
  · simp only [Act.put,List.setIfInBounds_toArray,List.set_cons_zero,List.set_cons_succ,i64_w,i32_w]
    rfl
  refine take_ (i:=4) (N:=some 97) (v:=?_) (a':=?_) #[true,true,true,true,true,false,false,false] rfl rfl (by kernel_rfl) (fun _ _ _ h=>h) (Or.inl ⟨by rfl,?_⟩) hHeld ?_ ?_
  rotate_left
  · rintro w' ⟨s0,s1,s2,s3⟩
    go_simp
    with_reducible rfl
  rotate_left
  · simp only [Act.put,List.setIfInBounds_toArray,List.set_cons_zero,List.set_cons_succ,i64_w,i32_w]
    rfl
  refine one_ (i:=5) (N:=some 98) #[true,true,true,true,true,true,false,false] rfl rfl (by kernel_rfl) (by decide) (fun K hK=>?_)
  refine goes_ Tryd.func32 (by kernel_rfl) rfl #[.slice A2 (convEs s.f2).length c2,.int .i64 0] (by rfl) rfl rfl (by (try simp only [List.map_toArray,List.map_cons,List.map_nil]);first|done|rfl) ?_
  have hb2:Below w0.heap.size w0 w2:=HB0.out.trans ((HB1.out.trans (hHeld.2.2.2.mono HB1.out.size)).mono HB0.out.size)
  refine (tree_part.calls k A2 c2 (convEs s.f2) 0 _ w2 (hT.later hb2) (Kd.C_below G2.out hb2) L2.out HPP.out).mono ?_
  clear hb2
  rintro e w3 ⟨rfl,hb⟩
  refine ⟨_,rfl,?_⟩
  obtain ⟨t0,t1,t2,t3⟩:=hHeld
  have hHeld:w3.cell? ⟨gb,0,none⟩=some (.string s.f0)∧w3.cell? ⟨gb,1,none⟩=some (.string s.f1)∧w3.cell? ⟨gb,2,none⟩=some (.slice A2 (convEs s.f2).length c2)∧Below w1.heap.size w1 w3:=⟨(hb.cell (World.block_lt_of_cell? w2 _ t0)).trans t0,(hb.cell (World.block_lt_of_cell? w2 _ t1)).trans t1,(hb.cell (World.block_lt_of_cell? w2 _ t2)).trans t2,t3.trans (hb.mono t3.size)⟩
  refine hK.out _ _ hHeld (fun hHeld=>?_)
  clear hK K t0 t1 t2 t3 hb
  refine norm_ (a':=?_) ?_ ?_
  rotate_left
  · show Act.put _ (some 98) _=_
    simp only [Act.put,List.setIfInBounds_toArray,List.set_cons_zero,List.set_cons_succ,i64_w,i32_w]
    rfl
  refine one_ (i:=6) (N:=some 99) #[true,true,true,true,true,true,true,false] rfl rfl (by kernel_rfl) (by decide) (fun K hK=>?_)
  refine Kd.R_lit_step Kd.string (w0:=w3) w3.heap.size 9 (by rfl) (N:=99) rfl (xs:=[s.f0,(lit [32]),(nth (textEs s.f2) 0),(lit [59])]) (inner:=[.string s.f0,.string (lit [32]),.string (nth (textEs s.f2) 0),.string (lit [59])]) (ok:=fun _=>True) (okp:=fun _=>True) ?hr ?hp (fun _ hk=>hk) trivial (Below.refl _ _) (Nat.le_refl _) (by simp) ?_
  case hr=>first|(go_simp;done)|(go_simp;rfl)
  case hp=>exact Reps.one (show Kd.M Kd.string _ _ _ (s.f0) [.string (s.f0)] from rfl) (Reps.one (show Kd.M Kd.string _ _ _ ((lit [32])) [.string ((lit [32]))] from rfl) (Reps.one (show Kd.M Kd.string _ _ _ ((nth (textEs s.f2) 0)) [.string ((nth (textEs s.f2) 0))] from rfl) (Reps.one (show Kd.M Kd.string _ _ _ ((lit [59])) [.string ((lit [59]))] from rfl) (Reps.none _ _))))
  intro vrow w4 hrow hb hg_ hnew_
  clear hg_ hnew_
  obtain ⟨Ao,co,rfl⟩:=Kd.R_slice hrow
  have hro:=(Kd.R_reads' hrow).2
  obtain ⟨t0,t1,t2,t3⟩:=hHeld
  have hHeld:w4.cell? ⟨gb,0,none⟩=some (.string s.f0)∧w4.cell? ⟨gb,1,none⟩=some (.string s.f1)∧w4.cell? ⟨gb,2,none⟩=some (.slice A2 (convEs s.f2).length c2)∧Below w1.heap.size w1 w4:=⟨(hb.cell (World.block_lt_of_cell? w3 _ t0)).trans t0,(hb.cell (World.block_lt_of_cell? w3 _ t1)).trans t1,(hb.cell (World.block_lt_of_cell? w3 _ t2)).trans t2,t3.trans (hb.mono t3.size)⟩
  refine hK.out _ _ hHeld (fun hHeld=>?_)
  clear hK K t0 t1 t2 t3 hb hrow
  refine norm_ (a':=?_) ?_ ?_
  rotate_left
  · show Act.put _ (some 99) _=_
    simp only [Act.put,List.setIfInBounds_toArray,List.set_cons_zero,List.set_cons_succ,i64_w,i32_w]
    rfl
  have e4:Below w.heap.size w w4:=HB1.out.trans (hHeld.2.2.2.mono HB1.out.size)
  refine last_ (i:=7) (N:=some 100) #[true,true,true,true,true,true,true,true] rfl rfl (by kernel_rfl) (by decide) (fun K hK=>?_)
  refine goes_ Tryd.func38 (by kernel_rfl) rfl #[.pointer (some ⟨b,0,none⟩),.slice Ao 4 co] (by rfl) rfl rfl (by (try simp only [List.map_toArray,List.map_cons,List.map_nil]);first|done|rfl) ?_
  refine (line_pr w0.heap.size b t d Ao co [s.f0,(lit [32]),(nth (textEs s.f2) 0),(lit [59])] w4 (HP.out.kept e4) hro.2 hro.1 hd0 (by have:=HD.out;omega) (by simp) HLEN.out (Nat.le_trans HB0.out.size e4.size)).mono ?_
  rintro e w5 ⟨rfl,hP5,hb,hs5⟩
  refine ⟨_,rfl,?_⟩
  refine hK.out _ _ ?_
  refine done_ (by kernel_rfl) ?_
  try go_wp2
  go_end0
  exact ⟨rfl,.inr hP5,(e4.mono HB0.out.size).trans hb,(Beside.of e4).trans hs5⟩
end Go.Proofs.YtnnbbeloifhofaaDoor.P
end
section
namespace Go.Proofs.YtnnbbeloifhofaaDoor.P
open Go Go.RowKit Go.Proofs
open Go.Proofs.YtnnbbeloifhofaaDoorW.PrintWords Go.Proofs.YtnnbbeloifhofaaDoorW.PrintLast Go.Proofs.YtnnbbeloifhofaaDoorW.PrintMore
set_option linter.unusedVariables false
set_option linter.unusedSimpArgs false
set_option maxHeartbeats 2000000 in
set_option maxRecDepth 100000 in
theorem stmt_assume (s:RS) (n0 : ¬ s.f0.toList=oSet) (n1 : ¬ s.f0.toList=oPut) (n2 : ¬ s.f0.toList=oInput) (n3 : ¬ s.f0.toList=oIf) (n4 : ¬ s.f0.toList=oWhile) (n5 : ¬ s.f0.toList=oAssert) (c1:s.f0.toList=oAssume):StmtOk s:=by
  intro b t d A2 A3 A4 c2 c3 c4 w0 w hP hB hT g2 l2 g3 l3 g4 l4 ho hd0 hd hlen
  rw [okS_eq] at ho
  rw [bulkS_eq] at hd
  rw [stmtB_eq] at hlen ⊢
  unfold stmtF at hlen ⊢
  rw [if_neg n0,if_neg n1,if_neg n2,if_neg (by simp only [n3,n4,or_false,not_false_iff]),if_pos (.inr c1)] at hlen ⊢
  obtain ⟨k,hp⟩:=part_k s.f2 0 ho.1 (by omega)
  obtain ⟨k',hp'⟩:=part_k s.f2 1 ho.1 (by omega)
  have m0:=opNo n0
  clear n0
  have m1:=opNo n1
  clear n1
  have m2:=opNo n2
  clear n2
  have m3:=opNo n3
  clear n3
  have m4:=opNo n4
  clear n4
  have m5:=opNo n5
  clear n5
  have c1b:=opIs c1
  clear c1
  have G2:=Aside0.mk g2
  have L2:=Aside0.mk l2
  have HB0:=Aside0.mk hB
  have HLEN:=Aside0.mk hlen
  have HD:=Aside0.mk hd
  have HPP:=Aside0.mk hp
  have HQQ:=Aside0.mk hp'
  have HP:=Aside0.mk hP
  clear g2 l2 g3 l3 g4 l4 hB hlen hd hp hp' hP
  go_enter Tryd.func61,Tryd.ntmps61
  go_wp2_with (first|((with_reducible refine gate_dst (N:=3) rfl ?_);refine box_event ?hg (N:=3) ?hd (cs:=#[.string s.f0,.string s.f1,.slice A2 (convEs s.f2).length c2,.slice A3 (convSs s.f3).length c3,.slice A4 (convSs s.f4).length c4,.int .i64 s.f5]) (t:=76) ?hr ?_;(case hd=>rfl);(case hg=>rfl);(case hr=>first|(go_simp;done)|(go_simp;rfl));intro gb hg w1 hbox hb;have BK:=Aside0.mk hbox;have GW:=Aside0.mk hg;have HB1:=Aside0.mk hb;clear hb hbox hg;have z0:w1.cell? ⟨gb,0,none⟩=some (.string s.f0):=(blk_cell BK.out 0).trans rfl;have z1:w1.cell? ⟨gb,1,none⟩=some (.string s.f1):=(blk_cell BK.out 1).trans rfl;have z2:w1.cell? ⟨gb,2,none⟩=some (.slice A2 (convEs s.f2).length c2):=(blk_cell BK.out 2).trans rfl;have z3:w1.cell? ⟨gb,3,none⟩=some (.slice A3 (convSs s.f3).length c3):=(blk_cell BK.out 3).trans rfl;have z4:w1.cell? ⟨gb,4,none⟩=some (.slice A4 (convSs s.f4).length c4):=(blk_cell BK.out 4).trans rfl))
  have hHeld0:w1.drew.cell? ⟨gb,0,none⟩=some (.string s.f0)∧w1.drew.cell? ⟨gb,1,none⟩=some (.string s.f1)∧w1.drew.cell? ⟨gb,2,none⟩=some (.slice A2 (convEs s.f2).length c2)∧Below w1.heap.size w1 w1.drew:=⟨z0,z1,z2,Below.drew (Below.refl _ w1)⟩
  refine start_ (n:=8) (ds:=[7]) (S:=fun w'=>w'.cell? ⟨gb,0,none⟩=some (.string s.f0)∧w'.cell? ⟨gb,1,none⟩=some (.string s.f1)∧w'.cell? ⟨gb,2,none⟩=some (.slice A2 (convEs s.f2).length c2)∧Below w1.heap.size w1 w') #[false,false,false,false,false,false,false,false] (by kernel_rfl) rfl rfl hHeld0 (fun hHeld=>?_)
  generalize w1.drew=w2 at hHeld ⊢
  refine pure_ (i:=0) (N:=some 93) (v:=?_) (a':=?_) #[true,false,false,false,false,false,false,false] rfl rfl (by kernel_rfl) (fun _ _ _ h=>h) (Or.inl ⟨by rfl,?_⟩) ?_ ?_
  rotate_left
  · intro w'
    go_simp
    with_reducible rfl
  rotate_left
  · simp only [Act.put,List.setIfInBounds_toArray,List.set_cons_zero,List.set_cons_succ,i64_w,i32_w]
    rfl
  refine pure_ (i:=1) (N:=some 94) (v:=?_) (a':=?_) #[true,true,false,false,false,false,false,false] rfl rfl (by kernel_rfl) (fun _ _ _ h=>h) (Or.inl ⟨by rfl,?_⟩) ?_ ?_
  rotate_left
  · intro w'
    go_simp
    with_reducible rfl
  rotate_left
  · simp only [Act.put,List.setIfInBounds_toArray,List.set_cons_zero,List.set_cons_succ,i64_w,i32_w]
    rfl
  refine pure_ (i:=3) (N:=some 96) (v:=?_) (a':=?_) #[true,true,false,true,false,false,false,false] rfl rfl (by kernel_rfl) (fun _ _ _ h=>h) (Or.inl ⟨by rfl,?_⟩) ?_ ?_
  rotate_left
  · intro w'
    go_simp
    with_reducible rfl
  rotate_left
  · simp only [Act.put,List.setIfInBounds_toArray,List.set_cons_zero,List.set_cons_succ,i64_w,i32_w]
    rfl
  refine take_ (i:=2) (N:=some 95) (v:=?_) (a':=?_) #[true,true,true,true,false,false,false,false] rfl rfl (by kernel_rfl) (fun _ _ _ h=>h) (Or.inl ⟨by rfl,?_⟩) hHeld ?_ ?_
  rotate_left
  · rintro w' ⟨s0,s1,s2,s3⟩
    go_simp
    with_reducible rfl
  rotate_left
  · simp only [Act.put,List.setIfInBounds_toArray,List.set_cons_zero,List.set_cons_succ,i64_w,i32_w]
    rfl
  refine take_ (i:=4) (N:=some 97) (v:=?_) (a':=?_) #[true,true,true,true,true,false,false,false] rfl rfl (by kernel_rfl) (fun _ _ _ h=>h) (Or.inl ⟨by rfl,?_⟩) hHeld ?_ ?_
  rotate_left
  · rintro w' ⟨s0,s1,s2,s3⟩
    go_simp
    with_reducible rfl
  rotate_left
  · simp only [Act.put,List.setIfInBounds_toArray,List.set_cons_zero,List.set_cons_succ,i64_w,i32_w]
    rfl
  refine one_ (i:=5) (N:=some 98) #[true,true,true,true,true,true,false,false] rfl rfl (by kernel_rfl) (by decide) (fun K hK=>?_)
  refine goes_ Tryd.func32 (by kernel_rfl) rfl #[.slice A2 (convEs s.f2).length c2,.int .i64 0] (by rfl) rfl rfl (by (try simp only [List.map_toArray,List.map_cons,List.map_nil]);first|done|rfl) ?_
  have hb2:Below w0.heap.size w0 w2:=HB0.out.trans ((HB1.out.trans (hHeld.2.2.2.mono HB1.out.size)).mono HB0.out.size)
  refine (tree_part.calls k A2 c2 (convEs s.f2) 0 _ w2 (hT.later hb2) (Kd.C_below G2.out hb2) L2.out HPP.out).mono ?_
  clear hb2
  rintro e w3 ⟨rfl,hb⟩
  refine ⟨_,rfl,?_⟩
  obtain ⟨t0,t1,t2,t3⟩:=hHeld
  have hHeld:w3.cell? ⟨gb,0,none⟩=some (.string s.f0)∧w3.cell? ⟨gb,1,none⟩=some (.string s.f1)∧w3.cell? ⟨gb,2,none⟩=some (.slice A2 (convEs s.f2).length c2)∧Below w1.heap.size w1 w3:=⟨(hb.cell (World.block_lt_of_cell? w2 _ t0)).trans t0,(hb.cell (World.block_lt_of_cell? w2 _ t1)).trans t1,(hb.cell (World.block_lt_of_cell? w2 _ t2)).trans t2,t3.trans (hb.mono t3.size)⟩
  refine hK.out _ _ hHeld (fun hHeld=>?_)
  clear hK K t0 t1 t2 t3 hb
  refine norm_ (a':=?_) ?_ ?_
  rotate_left
  · show Act.put _ (some 98) _=_
    simp only [Act.put,List.setIfInBounds_toArray,List.set_cons_zero,List.set_cons_succ,i64_w,i32_w]
    rfl
  refine one_ (i:=6) (N:=some 99) #[true,true,true,true,true,true,true,false] rfl rfl (by kernel_rfl) (by decide) (fun K hK=>?_)
  refine Kd.R_lit_step Kd.string (w0:=w3) w3.heap.size 9 (by rfl) (N:=99) rfl (xs:=[s.f0,(lit [32]),(nth (textEs s.f2) 0),(lit [59])]) (inner:=[.string s.f0,.string (lit [32]),.string (nth (textEs s.f2) 0),.string (lit [59])]) (ok:=fun _=>True) (okp:=fun _=>True) ?hr ?hp (fun _ hk=>hk) trivial (Below.refl _ _) (Nat.le_refl _) (by simp) ?_
  case hr=>first|(go_simp;done)|(go_simp;rfl)
  case hp=>exact Reps.one (show Kd.M Kd.string _ _ _ (s.f0) [.string (s.f0)] from rfl) (Reps.one (show Kd.M Kd.string _ _ _ ((lit [32])) [.string ((lit [32]))] from rfl) (Reps.one (show Kd.M Kd.string _ _ _ ((nth (textEs s.f2) 0)) [.string ((nth (textEs s.f2) 0))] from rfl) (Reps.one (show Kd.M Kd.string _ _ _ ((lit [59])) [.string ((lit [59]))] from rfl) (Reps.none _ _))))
  intro vrow w4 hrow hb hg_ hnew_
  clear hg_ hnew_
  obtain ⟨Ao,co,rfl⟩:=Kd.R_slice hrow
  have hro:=(Kd.R_reads' hrow).2
  obtain ⟨t0,t1,t2,t3⟩:=hHeld
  have hHeld:w4.cell? ⟨gb,0,none⟩=some (.string s.f0)∧w4.cell? ⟨gb,1,none⟩=some (.string s.f1)∧w4.cell? ⟨gb,2,none⟩=some (.slice A2 (convEs s.f2).length c2)∧Below w1.heap.size w1 w4:=⟨(hb.cell (World.block_lt_of_cell? w3 _ t0)).trans t0,(hb.cell (World.block_lt_of_cell? w3 _ t1)).trans t1,(hb.cell (World.block_lt_of_cell? w3 _ t2)).trans t2,t3.trans (hb.mono t3.size)⟩
  refine hK.out _ _ hHeld (fun hHeld=>?_)
  clear hK K t0 t1 t2 t3 hb hrow
  refine norm_ (a':=?_) ?_ ?_
  rotate_left
  · show Act.put _ (some 99) _=_
    simp only [Act.put,List.setIfInBounds_toArray,List.set_cons_zero,List.set_cons_succ,i64_w,i32_w]
    rfl
  have e4:Below w.heap.size w w4:=HB1.out.trans (hHeld.2.2.2.mono HB1.out.size)
  refine last_ (i:=7) (N:=some 100) #[true,true,true,true,true,true,true,true] rfl rfl (by kernel_rfl) (by decide) (fun K hK=>?_)
  refine goes_ Tryd.func38 (by kernel_rfl) rfl #[.pointer (some ⟨b,0,none⟩),.slice Ao 4 co] (by rfl) rfl rfl (by (try simp only [List.map_toArray,List.map_cons,List.map_nil]);first|done|rfl) ?_
  refine (line_pr w0.heap.size b t d Ao co [s.f0,(lit [32]),(nth (textEs s.f2) 0),(lit [59])] w4 (HP.out.kept e4) hro.2 hro.1 hd0 (by have:=HD.out;omega) (by simp) HLEN.out (Nat.le_trans HB0.out.size e4.size)).mono ?_
  rintro e w5 ⟨rfl,hP5,hb,hs5⟩
  refine ⟨_,rfl,?_⟩
  refine hK.out _ _ ?_
  refine done_ (by kernel_rfl) ?_
  try go_wp2
  go_end0
  exact ⟨rfl,.inr hP5,(e4.mono HB0.out.size).trans hb,(Beside.of e4).trans hs5⟩
end Go.Proofs.YtnnbbeloifhofaaDoor.P
end
section
namespace Go.Proofs.YtnnbbeloifhofaaDoor.P
open Go Go.RowKit Go.Proofs
open Go.Proofs.YtnnbbeloifhofaaDoorW.PrintWords Go.Proofs.YtnnbbeloifhofaaDoorW.PrintLast Go.Proofs.YtnnbbeloifhofaaDoorW.PrintMore
set_option linter.unusedVariables false
set_option linter.unusedSimpArgs false
set_option maxHeartbeats 2000000 in
set_option maxRecDepth 100000 in
theorem stmt_call (s:RS) (n0 : ¬ s.f0.toList=oSet) (n1 : ¬ s.f0.toList=oPut) (n2 : ¬ s.f0.toList=oInput) (n3 : ¬ s.f0.toList=oIf) (n4 : ¬ s.f0.toList=oWhile) (n5 : ¬ s.f0.toList=oAssert) (n6 : ¬ s.f0.toList=oAssume) (c1:s.f0.toList=oCall):StmtOk s:=by
  intro b t d A2 A3 A4 c2 c3 c4 w0 w hP hB hT g2 l2 g3 l3 g4 l4 ho hd0 hd hlen
  rw [okS_eq] at ho
  rw [bulkS_eq] at hd
  rw [stmtB_eq] at hlen ⊢
  unfold stmtF at hlen ⊢
  rw [if_neg n0,if_neg n1,if_neg n2,if_neg (by simp only [n3,n4,or_false,not_false_iff]),if_neg (by simp only [n5,n6,or_false,not_false_iff]),if_pos c1] at hlen ⊢
  obtain ⟨k,hp⟩:=part_k s.f2 0 ho.1 (by omega)
  obtain ⟨k',hp'⟩:=part_k s.f2 1 ho.1 (by omega)
  have m0:=opNo n0
  clear n0
  have m1:=opNo n1
  clear n1
  have m2:=opNo n2
  clear n2
  have m3:=opNo n3
  clear n3
  have m4:=opNo n4
  clear n4
  have m5:=opNo n5
  clear n5
  have m6:=opNo n6
  clear n6
  have c1b:=opIs c1
  clear c1
  have G2:=Aside0.mk g2
  have L2:=Aside0.mk l2
  have HB0:=Aside0.mk hB
  have HLEN:=Aside0.mk hlen
  have HD:=Aside0.mk hd
  have HPP:=Aside0.mk hp
  have HQQ:=Aside0.mk hp'
  have HP:=Aside0.mk hP
  clear g2 l2 g3 l3 g4 l4 hB hlen hd hp hp' hP
  go_enter Tryd.func61,Tryd.ntmps61
  go_wp2_with (first|((with_reducible refine gate_dst (N:=3) rfl ?_);refine box_event ?hg (N:=3) ?hd (cs:=#[.string s.f0,.string s.f1,.slice A2 (convEs s.f2).length c2,.slice A3 (convSs s.f3).length c3,.slice A4 (convSs s.f4).length c4,.int .i64 s.f5]) (t:=76) ?hr ?_;(case hd=>rfl);(case hg=>rfl);(case hr=>first|(go_simp;done)|(go_simp;rfl));intro gb hg w1 hbox hb;have BK:=Aside0.mk hbox;have GW:=Aside0.mk hg;have HB1:=Aside0.mk hb;clear hb hbox hg;have z0:w1.cell? ⟨gb,0,none⟩=some (.string s.f0):=(blk_cell BK.out 0).trans rfl;have z1:w1.cell? ⟨gb,1,none⟩=some (.string s.f1):=(blk_cell BK.out 1).trans rfl;have z2:w1.cell? ⟨gb,2,none⟩=some (.slice A2 (convEs s.f2).length c2):=(blk_cell BK.out 2).trans rfl;have z3:w1.cell? ⟨gb,3,none⟩=some (.slice A3 (convSs s.f3).length c3):=(blk_cell BK.out 3).trans rfl;have z4:w1.cell? ⟨gb,4,none⟩=some (.slice A4 (convSs s.f4).length c4):=(blk_cell BK.out 4).trans rfl)|((with_reducible refine gate_dst (N:=106) rfl ?_);(try (refine gate_guard (by rfl) ?_;dsimp only));refine Kd.R_lit Kd.string (w0:=w1) w1.heap.size 9 ?hg (N:=106) ?hd (xs:=[(lit [99,97,108,108,32]),s.f1,(lit [59])]) (inner:=[.string (lit [99,97,108,108,32]),.string s.f1,.string (lit [59])]) (ok:=fun _=>True) (okp:=fun _=>True) ?hr ?hp (fun _ hk=>hk) trivial (Below.refl _ _) (Nat.le_refl _) (by simp) ?_;(case hd=>rfl);(case hg=>rfl);(case hr=>first|(go_simp;done)|(go_simp;rfl));(case hp=>exact Reps.one (show Kd.M Kd.string _ _ _ ((lit [99,97,108,108,32])) [.string ((lit [99,97,108,108,32]))] from rfl) (Reps.one (show Kd.M Kd.string _ _ _ (s.f1) [.string (s.f1)] from rfl) (Reps.one (show Kd.M Kd.string _ _ _ ((lit [59])) [.string ((lit [59]))] from rfl) (Reps.none _ _))));intro vrow w2 hrow hb hg_ hnew_;have HB2:=Aside0.mk hb;clear hg_ hnew_ hb;obtain ⟨Ao,co,rfl⟩:=Kd.R_slice hrow;have hro:=(Kd.R_reads' hrow).2;have HRO:=Aside0.mk hro;clear hro hrow))
  have e4:Below w.heap.size w w2:=HB1.out.trans (HB2.out.mono HB1.out.size)
  refine (line_pr w0.heap.size b t d Ao co [(lit [99,97,108,108,32]),s.f1,(lit [59])] w2 (HP.out.kept e4) HRO.out.2 HRO.out.1 hd0 (by have:=HD.out;omega) (by simp) HLEN.out (Nat.le_trans HB0.out.size e4.size)).mono ?_
  rintro e w5 ⟨rfl,hP5,hb,hs5⟩
  try go_wp2
  go_end0
  exact ⟨rfl,.inr hP5,(e4.mono HB0.out.size).trans hb,(Beside.of e4).trans hs5⟩
end Go.Proofs.YtnnbbeloifhofaaDoor.P
end
section
namespace Go.Proofs.YtnnbbeloifhofaaDoor.P
open Go Go.RowKit Go.Proofs
open Go.Proofs.YtnnbbeloifhofaaDoorW.PrintWords Go.Proofs.YtnnbbeloifhofaaDoorW.PrintLast Go.Proofs.YtnnbbeloifhofaaDoorW.PrintMore
set_option linter.unusedVariables false
set_option linter.unusedSimpArgs false
set_option maxHeartbeats 2000000 in
set_option maxRecDepth 100000 in
theorem stmt_else (s:RS) (n0 : ¬ s.f0.toList=oSet) (n1 : ¬ s.f0.toList=oPut) (n2 : ¬ s.f0.toList=oInput) (n3 : ¬ s.f0.toList=oIf) (n4 : ¬ s.f0.toList=oWhile) (n5 : ¬ s.f0.toList=oAssert) (n6 : ¬ s.f0.toList=oAssume) (n7 : ¬ s.f0.toList=oCall)  : StmtOk s:=by
  intro b t d A2 A3 A4 c2 c3 c4 w0 w hP hB hT g2 l2 g3 l3 g4 l4 ho hd0 hd hlen
  rw [okS_eq] at ho
  rw [bulkS_eq] at hd
  rw [stmtB_eq] at hlen ⊢
  unfold stmtF at hlen ⊢
  rw [if_neg n0,if_neg n1,if_neg n2,if_neg (by simp only [n3,n4,or_false,not_false_iff]),if_neg (by simp only [n5,n6,or_false,not_false_iff]),if_neg n7] at hlen ⊢
  obtain ⟨k,hp⟩:=part_k s.f2 0 ho.1 (by omega)
  obtain ⟨k',hp'⟩:=part_k s.f2 1 ho.1 (by omega)
  have m0:=opNo n0
  clear n0
  have m1:=opNo n1
  clear n1
  have m2:=opNo n2
  clear n2
  have m3:=opNo n3
  clear n3
  have m4:=opNo n4
  clear n4
  have m5:=opNo n5
  clear n5
  have m6:=opNo n6
  clear n6
  have m7:=opNo n7
  clear n7
  have G2:=Aside0.mk g2
  have L2:=Aside0.mk l2
  have HB0:=Aside0.mk hB
  have HLEN:=Aside0.mk hlen
  have HD:=Aside0.mk hd
  have HPP:=Aside0.mk hp
  have HQQ:=Aside0.mk hp'
  have HP:=Aside0.mk hP
  clear g2 l2 g3 l3 g4 l4 hB hlen hd hp hp' hP
  go_enter Tryd.func61,Tryd.ntmps61
  go_wp2_with (first|((with_reducible refine gate_dst (N:=3) rfl ?_);refine box_event ?hg (N:=3) ?hd (cs:=#[.string s.f0,.string s.f1,.slice A2 (convEs s.f2).length c2,.slice A3 (convSs s.f3).length c3,.slice A4 (convSs s.f4).length c4,.int .i64 s.f5]) (t:=76) ?hr ?_;(case hd=>rfl);(case hg=>rfl);(case hr=>first|(go_simp;done)|(go_simp;rfl));intro gb hg w1 hbox hb;have BK:=Aside0.mk hbox;have GW:=Aside0.mk hg;have HB1:=Aside0.mk hb;clear hb hbox hg;have z0:w1.cell? ⟨gb,0,none⟩=some (.string s.f0):=(blk_cell BK.out 0).trans rfl;have z1:w1.cell? ⟨gb,1,none⟩=some (.string s.f1):=(blk_cell BK.out 1).trans rfl;have z2:w1.cell? ⟨gb,2,none⟩=some (.slice A2 (convEs s.f2).length c2):=(blk_cell BK.out 2).trans rfl;have z3:w1.cell? ⟨gb,3,none⟩=some (.slice A3 (convSs s.f3).length c3):=(blk_cell BK.out 3).trans rfl;have z4:w1.cell? ⟨gb,4,none⟩=some (.slice A4 (convSs s.f4).length c4):=(blk_cell BK.out 4).trans rfl)|((with_reducible refine gate_dst (N:=9) rfl ?_);(try (refine gate_guard (by rfl) ?_;dsimp only));refine Kd.R_lit Kd.string (w0:=w1) w1.heap.size 9 ?hg (N:=9) ?hd (xs:=[s.f0,(lit [59])]) (inner:=[.string s.f0,.string (lit [59])]) (ok:=fun _=>True) (okp:=fun _=>True) ?hr ?hp (fun _ hk=>hk) trivial (Below.refl _ _) (Nat.le_refl _) (by simp) ?_;(case hd=>rfl);(case hg=>rfl);(case hr=>first|(go_simp;done)|(go_simp;rfl));(case hp=>exact Reps.one (show Kd.M Kd.string _ _ _ (s.f0) [.string (s.f0)] from rfl) (Reps.one (show Kd.M Kd.string _ _ _ ((lit [59])) [.string ((lit [59]))] from rfl) (Reps.none _ _)));intro vrow w2 hrow hb hg_ hnew_;have HB2:=Aside0.mk hb;clear hg_ hnew_ hb;obtain ⟨Ao,co,rfl⟩:=Kd.R_slice hrow;have hro:=(Kd.R_reads' hrow).2;have HRO:=Aside0.mk hro;clear hro hrow))
  have e4:Below w.heap.size w w2:=HB1.out.trans (HB2.out.mono HB1.out.size)
  refine (line_pr w0.heap.size b t d Ao co [s.f0,(lit [59])] w2 (HP.out.kept e4) HRO.out.2 HRO.out.1 hd0 (by have:=HD.out;omega) (by simp) HLEN.out (Nat.le_trans HB0.out.size e4.size)).mono ?_
  rintro e w5 ⟨rfl,hP5,hb,hs5⟩
  try go_wp2
  go_end0
  exact ⟨rfl,.inr hP5,(e4.mono HB0.out.size).trans hb,(Beside.of e4).trans hs5⟩
end Go.Proofs.YtnnbbeloifhofaaDoor.P
end
section
namespace Go.Proofs.YtnnbbeloifhofaaDoor.P
open Go Go.RowKit Go.Proofs
theorem stmt_pr : ∀ s:RS,StmtOk s:=RS.all fun s iha ihb=>by
  by_cases n0:s.f0.toList=oSet
  · exact stmt_set s n0
  by_cases n1:s.f0.toList=oPut
  · exact stmt_put s n0 n1
  by_cases n2:s.f0.toList=oInput
  · by_cases ce:s.f2.length=0
    · exact stmt_input0 s n0 n1 n2 ce
    · exact stmt_input s n0 n1 n2 ce
  by_cases n3:s.f0.toList=oIf
  · by_cases ce:s.f4.length=0
    · exact stmt_if0 s n0 n1 n2 n3 ce iha ihb
    · exact stmt_if1 s n0 n1 n2 n3 (by omega) iha ihb
  by_cases n4:s.f0.toList=oWhile
  · exact stmt_while s n0 n1 n2 n3 n4 iha ihb
  by_cases n5:s.f0.toList=oAssert
  · exact stmt_assert s n0 n1 n2 n3 n4 n5
  by_cases n6:s.f0.toList=oAssume
  · exact stmt_assume s n0 n1 n2 n3 n4 n5 n6
  by_cases n7:s.f0.toList=oCall
  · exact stmt_call s n0 n1 n2 n3 n4 n5 n6 n7
  · exact stmt_else s n0 n1 n2 n3 n4 n5 n6 n7
end Go.Proofs.YtnnbbeloifhofaaDoor.P
end
section
namespace Go.Proofs.YtnnbbeloifhofaaDoor.P
open Go Go.RowKit Go.Proofs
open Go.Proofs.YtnnbbeloifhofaaDoorW.PrintWords Go.Proofs.YtnnbbeloifhofaaDoorW.PrintLast Go.Proofs.YtnnbbeloifhofaaDoorW.PrintMore
set_option linter.unusedVariables false
theorem cellsByte:Tryd.prog.cellsOf 5=1:=by kernel_rfl
set_option maxHeartbeats 2000000 in
set_option maxRecDepth 100000 in
theorem string_pr (B b:Nat) (l:List UInt8) (d:Int) (w:World) (h:IsPr B b (Lib.byteCells l) d w) (h0:l≠[]) :
    Calls Tryd.prog 41 #[.pointer (some ⟨b,0,none⟩)] w fun e w'=>e=.returned (.string ⟨l.toArray⟩)∧Below B w w':=by
  obtain ⟨p,hB,v,hbk,hown,hne⟩ : ∃ p,PrAt B b p (Lib.byteCells l) d w:=by
    rcases h with h|h
    · exact ⟨_,h⟩
    · exact ⟨_,h⟩
  have hl0:l.length≠0:=by simpa using h0
  rw [Lib.byteCells_length] at hown
  obtain ⟨g,cap,cur,rfl,hbg,hg,hnc,hcm,hcs,htake⟩ : ∃ g cap cur,v=.slice (some ⟨g,0,none⟩) l.length cap∧B≤g∧w.heap[g]?=some (.cells cur 5 (0,0))∧l.length≤cap∧cap≤maxLen∧cur.size=cap * 1∧cur.toList.take (l.length * 1)=Lib.byteCells l:=by
    rcases hown.2 with ⟨_,hz⟩ | ⟨g,cap,cur,hv,r⟩
    · exact absurd hz hl0
    · exact ⟨g,cap,cur,hv,r⟩
  have c1:w.drew.cell? ⟨b,1,none⟩=some (.slice (some ⟨g,0,none⟩) l.length cap):=by
    have:w.drew.heap[b]?=some (.cells #[p,.slice (some ⟨g,0,none⟩) l.length cap,.int .i64 d] 88 (0,0)):=hbk
    rw [Lib.cell_of_heap this];rfl
  have hSD:(Builtin.unsafeSliceData_ #[84] 113 #[.slice (some ⟨g,0,none⟩) l.length cap]).run Tryd.prog w.drew=.ok (.pointer (some ⟨g,0,none⟩)) w.drew:=
    Lib.run_unsafeSliceData_row _ _ _ _ _ _ (by omega)
  have hUS:(Builtin.unsafeString_ #[113,3] 9 #[.pointer (some ⟨g,0,none⟩),.int .i64 l.length]).run Tryd.prog w.drew=.ok (.string ⟨l.toArray⟩) (w.drew.freeze ⟨g,0,none⟩ l.length):=by
    refine Lib.run_unsafeString_row w.drew 113 3 9 5 Tryd.underlying113 cellsByte g cur.size (by have hg':w.drew.heap[g]?=some (.cells cur 5 (0,0)):=hg;simp [World.shape?,hg']) l h0 (by omega) (by unfold maxLen at hcm;omega) ?_
    intro j x hx
    have:=hown.cells (g:=g) rfl j (.int .u8 x.toNat) (by simp [Lib.byteCells,hx])
    exact this
  clear hown htake hcs hcm hnc hg hbk hne
  go_enter Tryd.func41,Tryd.ntmps41
  go_wp2
  go_region
  all_goals (go_wp2;go_ret;exact ⟨rfl,Lib.below_freeze (Below.drew (Below.refl B w)) (p:=⟨g,0,none⟩) hbg _⟩)
end Go.Proofs.YtnnbbeloifhofaaDoor.P
end
section
namespace Go.Proofs.YtnnbbeloifhofaaDoor.P
open Go Go.RowKit Go.Proofs
open Go.Proofs.YtnnbbeloifhofaaDoorW.PrintWords Go.Proofs.YtnnbbeloifhofaaDoorW.PrintLast Go.Proofs.YtnnbbeloifhofaaDoorW.PrintMore
abbrev ES:=S79
abbrev VS:=S80
abbrev TP:=S66
abbrev RP:=S69
def convP (x:RP):TP:=⟨x.f0,convSs x.f1⟩
def convPs (l:List RP):List TP:=l.map convP
def enumB (e:ES):List UInt8:=lineB 0 [lit [101,110,117,109,32],e.f0,lit [32,123,32],strOf (joinF e.f1 (lit [44,32])),lit [32,125]]
def enumsB:List ES→List UInt8
  | []=>[]
  | x :: xs=>enumB x++enumsB xs
def manyT (n:Int):ByteArray:=if 0 < n then (lit [91]++itoaB n)++lit [93] else lit []
def varB (v:VS):List UInt8:=lineB 0 [lit [118,97,114,32],v.f0,lit [58,32],v.f1,manyT v.f2,lit [59]]
def varsB:List VS→List UInt8
  | []=>[]
  | x :: xs=>varB x++varsB xs
def procB (x:RP):List UInt8:=lineB 0 [lit [112,114,111,99,32],x.f0,lit [32,123]]++stmtsB x.f1 1++lineB 0 [lit [125]]
def procsB:List RP→List UInt8
  | []=>[]
  | x :: xs=>procB x++procsB xs
def mainB (m:List RS):List UInt8:=lineB 0 [lit [109,97,105,110,32,123]]++stmtsB m 1++lineB 0 [lit [125]]
def printB (ens:List ES) (vs:List VS) (ps:List RP) (m:List RS):List UInt8:=enumsB ens++varsB vs++procsB ps++mainB m
theorem printB_eq (ens:List ES) (vs:List VS) (ps:List RP) (m:List RS):printB ens vs ps m=enumsB ens++varsB vs++procsB ps++(lineB 0 [lit [109,97,105,110,32,123]]++stmtsB m 1++lineB 0 [lit [125]]):=rfl
theorem enumsB_app (l m:List ES):enumsB (l++m)=enumsB l++enumsB m:=by
  induction l with
  | nil=>rfl
  | cons x xs ih=>rw [List.cons_append,enumsB,enumsB,ih,List.append_assoc]
theorem varsB_app (l m:List VS):varsB (l++m)=varsB l++varsB m:=by
  induction l with
  | nil=>rfl
  | cons x xs ih=>rw [List.cons_append,varsB,varsB,ih,List.append_assoc]
theorem procsB_app (l m:List RP):procsB (l++m)=procsB l++procsB m:=by
  induction l with
  | nil=>rfl
  | cons x xs ih=>rw [List.cons_append,procsB,procsB,ih,List.append_assoc]
structure PrintOk (ens:List ES) (vs:List VS) (ps:List RP) (m:List RS):Prop where
  hE:ens.length≤1099511627776
  hV:vs.length≤1099511627776
  hP:ps.length≤1099511627776
  hJ : ∀ e ∈ ens,e.f1.length≤140737488355328
  hI : ∀ v ∈ vs,okI v.f2
  hB : ∀ x ∈ ps,okSs x.f1∧1+bulkSs x.f1≤1099511627770
  hM:okSs m
  hMb:1+bulkSs m≤1099511627770
  hlen:(printB ens vs ps m).length≤140737488355328
theorem take_app {α:Type} (f:List α→List UInt8) (happ : ∀ l m,f (l++m)=f l++f m) (l:List α) (i:Nat) (h:i < l.length):f (l.take (i+1))=f (l.take i)++f [l[i]]∧(f (l.take (i+1))).length≤(f l).length:=by
  refine ⟨by rw [List.take_succ_eq_append_getElem h,happ],?_⟩
  conv=>rhs;rw [← List.take_append_drop (i+1) l,happ,List.length_append]
  omega
theorem convPs_len (l:List RP):(convPs l).length=l.length:=List.length_map ..
theorem rd_ens {l:List ES} {i:Nat} (h:i < l.length):rd_T79 l (i:Int)=l[i]:=by
  rw [show rd_T79 l (i:Int)=l.getD i z79 from rfl,List.getD_eq_getElem?_getD,List.getElem?_eq_getElem h];rfl
theorem rd_vs {l:List VS} {i:Nat} (h:i < l.length):rd_T80 l (i:Int)=l[i]:=by
  rw [show rd_T80 l (i:Int)=l.getD i z80 from rfl,List.getD_eq_getElem?_getD,List.getElem?_eq_getElem h];rfl
theorem rd_ps {l:List RP} {i:Nat} (h:i < l.length):rd_T66 (convPs l) (i:Int)=convP l[i]:=by
  rw [show rd_T66 (convPs l) (i:Int)=(convPs l).getD i z66 from rfl,convPs,List.getD_eq_getElem?_getD,List.getElem?_map,List.getElem?_eq_getElem h];rfl
theorem joinE_cons (x:ByteArray) (xs:List ByteArray):joinF (x :: xs) ⟨#[]⟩=x.data.toList++joinF xs ⟨#[]⟩:=by
  cases xs with
  | nil=>unfold joinF;simp [Lib.join]
  | cons y ys=>unfold joinF;simp [Lib.join]
theorem join_in_enum (e:ES):(joinF e.f1 (lit [44,32])).length≤(enumB e).length:=by
  unfold enumB lineB
  rw [joinE_cons,joinE_cons,joinE_cons,joinE_cons]
  simp only [List.length_append,strOf_list]
  omega
end Go.Proofs.YtnnbbeloifhofaaDoor.P
end
section
namespace Go.Proofs.YtnnbbeloifhofaaDoor.P
open Go Go.RowKit Go.Proofs
open Go.Proofs.YtnnbbeloifhofaaDoorW.PrintWords Go.Proofs.YtnnbbeloifhofaaDoorW.PrintLast Go.Proofs.YtnnbbeloifhofaaDoorW.PrintMore
set_option linter.unusedVariables false
set_option linter.unusedSimpArgs false
set_option maxHeartbeats 4000000 in
set_option maxRecDepth 100000 in
theorem print_pr (ens:List ES) (vs:List VS) (ps:List RP) (m:List RS) (A0 A1 A2 A3:Option Addr) (c0 c1 c2 c3:Nat) (w:World) (hT:TabT w)
    (hC0:Kd.C k79 w A0 ens.length ens) (hC1:Kd.C k80 w A1 vs.length vs) (hC2:Kd.C k66 w A2 (convPs ps).length (convPs ps)) (hl2:(convPs ps).length≤c2) (hC3:Kd.C k76 w A3 (convSs m).length (convSs m)) (hl3:(convSs m).length≤c3) (hok:PrintOk ens vs ps m) :
    Calls Tryd.prog 22 #[.agg #[.slice A0 ens.length c0,.slice A1 vs.length c1,.slice A2 (convPs ps).length c2,.slice A3 (convSs m).length c3]] w fun e w'=>e=.returned (.string (strOf (printB ens vs ps m)))∧Below w.heap.size w w':=by
  obtain ⟨hE,hV,hP,hJ,hI,hB,hM,hMb,hlen⟩:=hok
  have HE:=Aside0.mk hE
  have HV:=Aside0.mk hV
  have HPs:=Aside0.mk hP
  have HJ:=Aside0.mk hJ
  have HI:=Aside0.mk hI
  have HBd:=Aside0.mk hB
  have HM:=Aside0.mk (And.intro hM hMb)
  have HC0:=Aside0.mk hC0
  have HC1:=Aside0.mk hC1
  have HC2:=Aside0.mk (And.intro hC2 hl2)
  have HC3:=Aside0.mk (And.intro hC3 hl3)
  rw [printB_eq] at hlen
  have HLEN:=Aside0.mk hlen
  clear hE hV hP hJ hI hB hM hMb hC0 hC1 hC2 hC3 hlen hl2 hl3
  go_enter Tryd.func22,Tryd.ntmps22
  go_wp2_with (first|((with_reducible refine gate_dst (N:=1) rfl ?_);refine box_event ?hgP (N:=1) ?hdP (cs:=#[.slice A0 ens.length c0,.slice A1 vs.length c1,.slice A2 (convPs ps).length c2,.slice A3 (convSs m).length c3]) (t:=50) ?hrP ?_;(case hdP=>rfl);(case hgP=>rfl);(case hrP=>first|(go_simp;done)|(go_simp;rfl));intro gA hg w1 hbox hb;have BKP:=Aside0.mk hbox;have GWP:=Aside0.mk hg;have HBP:=Aside0.mk hb;clear hb hbox hg;have zP0:w1.cell? ⟨gA,0,none⟩=some (.slice A0 ens.length c0):=(blk_cell BKP.out 0).trans rfl;have yP0:=blk_frozen BKP.out 0;have zP1:w1.cell? ⟨gA,1,none⟩=some (.slice A1 vs.length c1):=(blk_cell BKP.out 1).trans rfl;have yP1:=blk_frozen BKP.out 1;have zP2:w1.cell? ⟨gA,2,none⟩=some (.slice A2 (convPs ps).length c2):=(blk_cell BKP.out 2).trans rfl;have yP2:=blk_frozen BKP.out 2;have zP3:w1.cell? ⟨gA,3,none⟩=some (.slice A3 (convSs m).length c3):=(blk_cell BKP.out 3).trans rfl;have yP3:=blk_frozen BKP.out 3)|((with_reducible refine gate_dst (N:=12) rfl ?_);refine box_event ?hgQ (N:=12) ?hdQ (cs:=#[.pointer none,.slice none 0 0,.int .i64 0]) (t:=88) ?hrQ ?_;(case hdQ=>rfl);(case hgQ=>rfl);(case hrQ=>first|(go_simp;done)|(go_simp;rfl));intro b hg w2 hbox hb;have BKQ:=Aside0.mk hbox;have GWQ:=Aside0.mk hg;have HBQ:=Aside0.mk hb;clear hb hbox hg;have zQ0:w2.cell? ⟨b,0,none⟩=some (.pointer none):=(blk_cell BKQ.out 0).trans rfl;have yQ0:=blk_frozen BKQ.out 0;have zQ1:w2.cell? ⟨b,1,none⟩=some (.slice none 0 0):=(blk_cell BKQ.out 1).trans rfl;have yQ1:=blk_frozen BKQ.out 1;have zQ2:w2.cell? ⟨b,2,none⟩=some (.int .i64 0):=(blk_cell BKQ.out 2).trans rfl;have yQ2:=blk_frozen BKQ.out 2;have BKP2:=Aside0.mk (blk_below BKP.out HBQ.out);have p0:w2.cell? ⟨gA,0,none⟩=some (.slice A0 ens.length c0):=(blk_cell BKP2.out 0).trans rfl;have p1:w2.cell? ⟨gA,1,none⟩=some (.slice A1 vs.length c1):=(blk_cell BKP2.out 1).trans rfl;have p2:w2.cell? ⟨gA,2,none⟩=some (.slice A2 (convPs ps).length c2):=(blk_cell BKP2.out 2).trans rfl;have p3:w2.cell? ⟨gA,3,none⟩=some (.slice A3 (convSs m).length c3):=(blk_cell BKP2.out 3).trans rfl))
  have HNE:Aside0 (gA≠b):=⟨fun e=>by have h1:=blk_lt BKP.out;have h2:=GWQ.out;omega⟩
  have HG:Aside0 (w.heap.size≤b):=⟨by have h1:=HBP.out.size;have h2:=GWQ.out;omega⟩
  have HP0:Aside0 (IsPr w.heap.size b (Lib.byteCells []) 0 w2):=⟨.inl ⟨HG.out,.slice none 0 0,BKQ.out,own_nil _ _ _ _,by simp [Value.ownBlock]⟩⟩
  have HB0:Aside0 (Below w.heap.size w w2):=⟨HBP.out.trans (HBQ.out.mono HBP.out.size)⟩
  have BKP:=BKP2
  clear BKP2 zP0 zP1 zP2 zP3 zQ0 zQ1 zQ2 yP0 yP1 yP2 yP3 yQ0 yQ1 yQ2 BKQ HBP HBQ
  clear p0 p1 p2 p3
  go_loopg [16] (ens.length+1) (fun kq v16 w'=>∃ i:Nat,v16=.int .i64 (i:Int)∧Aside0 (i+kq=ens.length+1∧i≤ens.length)∧Aside0 (IsPr w.heap.size b (Lib.byteCells (enumsB (ens.take i))) 0 w')∧Aside0 (Below w.heap.size w w')∧Aside0 (Beside b w2 w'))
  case atStart=>exact ⟨0,rfl,⟨by omega,by omega⟩,HP0,HB0,⟨Beside.refl b w2⟩⟩
  case round=>
    obtain ⟨i,rfl,HIq,HPi,HBi,HSi⟩:=hrel
    by_cases hi:i < ens.length
    · have cc:decide ((i:Int) < (ens.length:Int))=true:=decide_eq_true (by omega)
      cases gk with
      | zero=>exact absurd HIq.out (by omega)
      | succ k1=>
      obtain ⟨ad,A5,c5,rfl,x0,x1,l1,g1⟩:=at_T79 HC0.out (i:Int) (by omega) (by omega)
      have hm:ens[i] ∈ ens:=List.getElem_mem hi
      rw [rd_ens hi] at x0 x1 l1 g1
      obtain ⟨hnx,hle⟩:=take_app enumsB enumsB_app ens i hi
      have hje:=HJ.out _ hm
      generalize hse:ens[i]=e at x0 x1 l1 g1 hnx hle hje hm
      clear hse hm
      simp only [Int.toNat_natCast] at x0 x1
      replace x0:=(HBi.out.cell (World.block_lt_of_cell? w _ x0)).trans x0
      replace x1:=(HBi.out.cell (World.block_lt_of_cell? w _ x1)).trans x1
      have p0:(0≤(i:Int))=True:=eq_true (by omega)
      have q0:((i:Int) < (ens.length:Int))=True:=eq_true (by omega)
      rw [enumsB,enumsB,List.append_nil] at hnx
      have HLN:Aside0 ((enumsB (ens.take i)).length+(enumB e).length≤140737488355328):=⟨by have h1:=HLEN.out;rw [hnx] at hle;simp only [List.length_append] at hle h1;omega⟩
      have HJN:Aside0 (strings_Join.f e.f1 (lit [44,32])=some (strOf (joinF e.f1 (lit [44,32])))):=⟨by
        unfold strings_Join.f
        have h1:=HLN.out
        have h2:(joinF e.f1 (lit [44,32])).length≤(enumB e).length:=join_in_enum e
        rw [if_pos ⟨by omega,hje⟩]⟩
      have HNX:=Aside0.mk hnx
      have HG1:=Aside0.mk (And.intro g1 l1)
      have HWI:Aside0 (wrap64 ((i:Int)+1)=((i+1:Nat):Int)):=⟨by rw [wrap64_small (by omega) (by have:=HE.out;omega)];rfl⟩
      clear hnx hle hje l1 g1
      go_wp2_with (first|((with_reducible refine gate_dst (N:=5) rfl ?_);refine box_event ?hgE (N:=5) ?hdE (cs:=#[.string (⟨#[]⟩:ByteArray),.slice none 0 0]) (t:=79) ?hrE ?_;(case hdE=>rfl);(case hgE=>rfl);(case hrE=>first|(go_simp;done)|(go_simp;rfl));intro gb hg w8 hbox hb;have BKE:=Aside0.mk hbox;have GWE:=Aside0.mk hg;have HBE:=Aside0.mk hb;clear hb hbox hg;have zE0:w8.cell? ⟨gb,0,none⟩=some (.string (⟨#[]⟩:ByteArray)):=(blk_cell BKE.out 0).trans rfl;have yE0:=blk_frozen BKE.out 0;have zE1:w8.cell? ⟨gb,1,none⟩=some (.slice none 0 0):=(blk_cell BKE.out 1).trans rfl;have yE1:=blk_frozen BKE.out 1))
      have hge:wr.heap.size≤gb:=Nat.le_of_eq GWE.out.symm
      have BK9:=blk_set (blk_set BKE.out 0 (.string e.f0)) 1 (.slice A5 e.f1.length c5)
      have e9:Below wr.heap.size wr ((w8.setCell ⟨gb,0,none⟩ (.string e.f0)).setCell ⟨gb,1,none⟩ (.slice A5 e.f1.length c5)):=(HBE.out.setCell (p:=⟨gb,0,none⟩) hge _).setCell (p:=⟨gb,1,none⟩) hge _
      generalize ((w8.setCell ⟨gb,0,none⟩ (.string e.f0)).setCell ⟨gb,1,none⟩ (.slice A5 e.f1.length c5))=w9 at BK9 e9 ⊢
      have z0:w9.cell? ⟨gb,0,none⟩=some (.string e.f0):=(blk_cell BK9 0).trans rfl
      have z1:w9.cell? ⟨gb,1,none⟩=some (.slice A5 e.f1.length c5):=(blk_cell BK9 1).trans rfl
      have HE9:=Aside0.mk e9
      clear e9 BK9 zE0 zE1 yE0 yE1 BKE HBE GWE hge x0 x1
      have hHeld0:w9.drew.cell? ⟨gb,0,none⟩=some (.string e.f0)∧w9.drew.cell? ⟨gb,1,none⟩=some (.slice A5 e.f1.length c5)∧Below w9.heap.size w9 w9.drew:=⟨z0,z1,Below.drew (Below.refl _ w9)⟩
      refine start_ (n:=8) (ds:=[7]) (S:=fun w'=>w'.cell? ⟨gb,0,none⟩=some (.string e.f0)∧w'.cell? ⟨gb,1,none⟩=some (.slice A5 e.f1.length c5)∧Below w9.heap.size w9 w') #[false,false,false,false,false,false,false,false] (by kernel_rfl) rfl rfl hHeld0 (fun hHeld=>?_)
      clear hHeld0 z0 z1
      generalize w9.drew=wa at hHeld ⊢
      refine pure_ (i:=0) (N:=some 20) (v:=?_) (a':=?_) #[true,false,false,false,false,false,false,false] rfl rfl (by kernel_rfl) (fun _ _ _ h=>h) (Or.inl ⟨by rfl,?_⟩) ?_ ?_
      rotate_left
      · intro w'
        go_simp
        with_reducible rfl
      rotate_left
      · simp only [Act.put,List.setIfInBounds_toArray,List.set_cons_zero,List.set_cons_succ,i64_w,i32_w]
        rfl
      refine pure_ (i:=1) (N:=some 21) (v:=?_) (a':=?_) #[true,true,false,false,false,false,false,false] rfl rfl (by kernel_rfl) (fun _ _ _ h=>h) (Or.inl ⟨by rfl,?_⟩) ?_ ?_
      rotate_left
      · intro w'
        go_simp
        with_reducible rfl
      rotate_left
      · simp only [Act.put,List.setIfInBounds_toArray,List.set_cons_zero,List.set_cons_succ,i64_w,i32_w]
        rfl
      refine pure_ (i:=3) (N:=some 23) (v:=?_) (a':=?_) #[true,true,false,true,false,false,false,false] rfl rfl (by kernel_rfl) (fun _ _ _ h=>h) (Or.inl ⟨by rfl,?_⟩) ?_ ?_
      rotate_left
      · intro w'
        go_simp
        with_reducible rfl
      rotate_left
      · simp only [Act.put,List.setIfInBounds_toArray,List.set_cons_zero,List.set_cons_succ,i64_w,i32_w]
        rfl
      refine take_ (i:=2) (N:=some 22) (v:=?_) (a':=?_) #[true,true,true,true,false,false,false,false] rfl rfl (by kernel_rfl) (fun _ _ _ h=>h) (Or.inl ⟨by rfl,?_⟩) hHeld ?_ ?_
      rotate_left
      · rintro w' ⟨s0,s1,s2⟩
        go_simp
        with_reducible rfl
      rotate_left
      · simp only [Act.put,List.setIfInBounds_toArray,List.set_cons_zero,List.set_cons_succ,i64_w,i32_w]
        rfl
      refine take_ (i:=4) (N:=some 24) (v:=?_) (a':=?_) #[true,true,true,true,true,false,false,false] rfl rfl (by kernel_rfl) (fun _ _ _ h=>h) (Or.inl ⟨by rfl,?_⟩) hHeld ?_ ?_
      rotate_left
      · rintro w' ⟨s0,s1,s2⟩
        go_simp
        with_reducible rfl
      rotate_left
      · simp only [Act.put,List.setIfInBounds_toArray,List.set_cons_zero,List.set_cons_succ,i64_w,i32_w]
        rfl
      refine one_ (i:=5) (N:=some 25) #[true,true,true,true,true,true,false,false] rfl rfl (by kernel_rfl) (by decide) (fun K hK=>?_)
      refine goes_ Tryd.func39 (by kernel_rfl) rfl #[.slice A5 e.f1.length c5,.string ⟨#[44,32]⟩] (by rfl) rfl rfl (by (try simp only [List.map_toArray,List.map_cons,List.map_nil]);first|done|rfl) ?_
      have hb2:Below w.heap.size w wa:=HBi.out.trans ((HE9.out.trans (hHeld.2.2.mono HE9.out.size)).mono HBi.out.size)
      refine (strings_Join.calls A5 c5 e.f1 _ _ wa (Kd.C_below HG1.out.1 hb2) HG1.out.2 HJN.out).mono ?_
      clear hb2
      rintro e_ wb ⟨rfl,hb⟩
      refine ⟨_,rfl,?_⟩
      obtain ⟨t0,t1,t2⟩:=hHeld
      have hHeld:wb.cell? ⟨gb,0,none⟩=some (.string e.f0)∧wb.cell? ⟨gb,1,none⟩=some (.slice A5 e.f1.length c5)∧Below w9.heap.size w9 wb:=⟨(hb.cell (World.block_lt_of_cell? wa _ t0)).trans t0,(hb.cell (World.block_lt_of_cell? wa _ t1)).trans t1,t2.trans (hb.mono t2.size)⟩
      refine hK.out _ _ hHeld (fun hHeld=>?_)
      clear hK K hb t0 t1 t2
      refine norm_ (a':=?_) ?_ ?_
      rotate_left
      · show Act.put _ (some 25) _=_
        simp only [Act.put,List.setIfInBounds_toArray,List.set_cons_zero,List.set_cons_succ,i64_w,i32_w]
        rfl
      refine one_ (i:=6) (N:=some 26) #[true,true,true,true,true,true,true,false] rfl rfl (by kernel_rfl) (by decide) (fun K hK=>?_)
      refine Kd.R_lit_step Kd.string (w0:=wb) wb.heap.size 9 (by rfl) (N:=26) rfl (xs:=[(lit [101,110,117,109,32]),e.f0,(lit [32,123,32]),(strOf (joinF e.f1 (lit [44,32]))),(lit [32,125])]) (inner:=[.string (lit [101,110,117,109,32]),.string e.f0,.string (lit [32,123,32]),.string (strOf (joinF e.f1 (lit [44,32]))),.string (lit [32,125])]) (ok:=fun _=>True) (okp:=fun _=>True) ?hrD ?hpD (fun _ hk=>hk) trivial (Below.refl _ _) (Nat.le_refl _) (by simp) ?_
      case hrD=>first|(go_simp;done)|(go_simp;rfl)
      case hpD=>exact Reps.one (show Kd.M Kd.string _ _ _ ((lit [101,110,117,109,32])) [.string ((lit [101,110,117,109,32]))] from rfl) (Reps.one (show Kd.M Kd.string _ _ _ (e.f0) [.string (e.f0)] from rfl) (Reps.one (show Kd.M Kd.string _ _ _ ((lit [32,123,32])) [.string ((lit [32,123,32]))] from rfl) (Reps.one (show Kd.M Kd.string _ _ _ ((strOf (joinF e.f1 (lit [44,32])))) [.string ((strOf (joinF e.f1 (lit [44,32]))))] from rfl) (Reps.one (show Kd.M Kd.string _ _ _ ((lit [32,125])) [.string ((lit [32,125]))] from rfl) (Reps.none _ _)))))
      intro vrow wc hrow hb hg_ hnew_
      clear hg_ hnew_
      obtain ⟨Ao,co,rfl⟩:=Kd.R_slice hrow
      have hro:=(Kd.R_reads' hrow).2
      obtain ⟨t0,t1,t2⟩:=hHeld
      have hHeld:wc.cell? ⟨gb,0,none⟩=some (.string e.f0)∧wc.cell? ⟨gb,1,none⟩=some (.slice A5 e.f1.length c5)∧Below w9.heap.size w9 wc:=⟨(hb.cell (World.block_lt_of_cell? wb _ t0)).trans t0,(hb.cell (World.block_lt_of_cell? wb _ t1)).trans t1,t2.trans (hb.mono t2.size)⟩
      refine hK.out _ _ hHeld (fun hHeld=>?_)
      clear hK K hb t0 t1 t2
      clear hrow
      refine norm_ (a':=?_) ?_ ?_
      rotate_left
      · show Act.put _ (some 26) _=_
        simp only [Act.put,List.setIfInBounds_toArray,List.set_cons_zero,List.set_cons_succ,i64_w,i32_w]
        rfl
      have e4:Below wr.heap.size wr wc:=HE9.out.trans (hHeld.2.2.mono HE9.out.size)
      refine last_ (i:=7) (N:=some 27) #[true,true,true,true,true,true,true,true] rfl rfl (by kernel_rfl) (by decide) (fun K hK=>?_)
      refine goes_ Tryd.func38 (by kernel_rfl) rfl #[.pointer (some ⟨b,0,none⟩),.slice Ao 5 co] (by rfl) rfl rfl (by (try simp only [List.map_toArray,List.map_cons,List.map_nil]);first|done|rfl) ?_
      refine (line_pr w.heap.size b (enumsB (ens.take i)) 0 Ao co [(lit [101,110,117,109,32]),e.f0,(lit [32,123,32]),(strOf (joinF e.f1 (lit [44,32]))),(lit [32,125])] wc (HPi.out.kept e4) hro.2 hro.1 (by decide) (by decide) (by simp) HLN.out (Nat.le_trans HBi.out.size e4.size)).mono ?_
      rintro e_ wd ⟨rfl,hP',hb',hs'⟩
      have HPn:Aside0 (IsPr w.heap.size b (Lib.byteCells ((enumsB (ens.take i))++lineB 0 [(lit [101,110,117,109,32]),e.f0,(lit [32,123,32]),(strOf (joinF e.f1 (lit [44,32]))),(lit [32,125])])) 0 wd):=⟨.inr hP'⟩
      have HBn:=Aside0.mk (HBi.out.trans ((e4.mono HBi.out.size).trans hb'))
      have HSn:=Aside0.mk (HSi.out.trans ((Beside.of e4).trans hs'))
      clear hP' hb' hs' e4 hro hHeld
      refine ⟨_,rfl,?_⟩
      refine hK.out _ _ ?_
      refine done_ (by kernel_rfl) ?_
      clear hK K
      go_wp2
      go_roundg k1
      case measure=>omega
      case rel=>exact ⟨i+1,congrArg (Value.int IntKind.i64) HWI.out,⟨by have:=HIq.out;omega,by omega⟩,⟨by rw [HNX.out];exact HPn.out⟩,HBn,HSn⟩
    · have cA:decide ((i:Int) < (ens.length:Int))=false:=decide_eq_false (by omega)
      have cB:decide (i < ens.length)=false:=decide_eq_false (by omega)
      have cC:(i < ens.length)=False:=eq_false (by omega)
      rw [List.take_of_length_le (by omega)] at HPi
      have BP:=(HSi.out gA _ _ _ HNE.out (by decide) BKP.out)
      have p0:wr.cell? ⟨gA,0,none⟩=some (.slice A0 ens.length c0):=by rw [Lib.cell_of_heap BP];rfl
      have p1:wr.cell? ⟨gA,1,none⟩=some (.slice A1 vs.length c1):=by rw [Lib.cell_of_heap BP];rfl
      have p2:wr.cell? ⟨gA,2,none⟩=some (.slice A2 (convPs ps).length c2):=by rw [Lib.cell_of_heap BP];rfl
      have p3:wr.cell? ⟨gA,3,none⟩=some (.slice A3 (convSs m).length c3):=by rw [Lib.cell_of_heap BP];rfl
      clear BP
      have HP1:=HPi
      have HB1:=HBi
      have HS1:=HSi
      clear HPi HBi HSi cA cB cC
      go_wp2
      clear p0 p1 p2 p3
      go_loopg [32] (vs.length+1) (fun kq v32 w'=>∃ i:Nat,v32=.int .i64 (i:Int)∧Aside0 (i+kq=vs.length+1∧i≤vs.length)∧Aside0 (IsPr w.heap.size b (Lib.byteCells (enumsB ens++varsB (vs.take i))) 0 w')∧Aside0 (Below w.heap.size w w')∧Aside0 (Beside b w2 w'))
      case atStart=>exact ⟨0,rfl,⟨by omega,by omega⟩,⟨by rw [List.take_zero,varsB,List.append_nil];exact HP1.out⟩,HB1,HS1⟩
      case round=>
        clear HP1 HB1 HS1
        obtain ⟨i,rfl,HIq,HPi,HBi,HSi⟩:=hrel
        by_cases hi:i < vs.length
        · have cc:decide ((i:Int) < (vs.length:Int))=true:=decide_eq_true (by omega)
          cases gk with
          | zero=>exact absurd HIq.out (by omega)
          | succ k1=>
          obtain ⟨ad,rfl,x0,x1,x2⟩:=at_T80 HC1.out (i:Int) (by omega) (by omega)
          have hm:vs[i] ∈ vs:=List.getElem_mem hi
          rw [rd_vs hi] at x0 x1 x2
          obtain ⟨hnx,hle⟩:=take_app varsB varsB_app vs i hi
          have hje:=HI.out _ hm
          generalize hse:vs[i]=v at x0 x1 x2 hnx hle hje hm
          clear hse hm
          simp only [Int.toNat_natCast] at x0 x1 x2
          replace x0:=(HBi.out.cell (World.block_lt_of_cell? w _ x0)).trans x0
          replace x1:=(HBi.out.cell (World.block_lt_of_cell? w _ x1)).trans x1
          replace x2:=(HBi.out.cell (World.block_lt_of_cell? w _ x2)).trans x2
          have p0:(0≤(i:Int))=True:=eq_true (by omega)
          have q0:((i:Int) < (vs.length:Int))=True:=eq_true (by omega)
          rw [varsB,varsB,List.append_nil] at hnx
          have hln:(enumsB ens++varsB (vs.take i)).length+(varB v).length≤140737488355328:=by have h1:=HLEN.out;rw [hnx] at hle;simp only [List.length_append] at hle h1 ⊢;omega
          have HNX:=Aside0.mk hnx
          have HWI:Aside0 (wrap64 ((i:Int)+1)=((i+1:Nat):Int)):=⟨by rw [wrap64_small (by omega) (by have:=HV.out;omega)];rfl⟩
          have hrs:=itoaB_size hje
          have his:=itoa_some v.f2 hje
          clear hnx hle hje
          unfold varB at hln HNX
          by_cases hL:0 < v.f2
          · rw [manyT,if_pos hL] at hln HNX
            generalize itoaB v.f2=r at hln HNX hrs his
            have HLN:=Aside0.mk hln
            have HIS:=Aside0.mk his
            have cL:decide (0 < v.f2)=true:=decide_eq_true hL
            have k1_:(9223372036854775807 < 1+r.size)=False:=eq_false (by omega)
            have k2_:(9223372036854775807 < 1+r.size+1)=False:=eq_false (by omega)
            clear hln his hL hrs
            go_wp2_with (first|((with_reducible refine gate_dst (N:=7) rfl ?_);refine box_event ?hgV (N:=7) ?hdV (cs:=#[.string (⟨#[]⟩:ByteArray),.string (⟨#[]⟩:ByteArray),.int .i64 0]) (t:=80) ?hrV ?_;(case hdV=>rfl);(case hgV=>rfl);(case hrV=>first|(go_simp;done)|(go_simp;rfl));intro gb hg w8 hbox hb;have BKV:=Aside0.mk hbox;have GWV:=Aside0.mk hg;have HBV:=Aside0.mk hb;clear hb hbox hg;have zV0:w8.cell? ⟨gb,0,none⟩=some (.string (⟨#[]⟩:ByteArray)):=(blk_cell BKV.out 0).trans rfl;have yV0:=blk_frozen BKV.out 0;have zV1:w8.cell? ⟨gb,1,none⟩=some (.string (⟨#[]⟩:ByteArray)):=(blk_cell BKV.out 1).trans rfl;have yV1:=blk_frozen BKV.out 1;have zV2:w8.cell? ⟨gb,2,none⟩=some (.int .i64 0):=(blk_cell BKV.out 2).trans rfl;have yV2:=blk_frozen BKV.out 2))
            have hge:wr.heap.size≤gb:=Nat.le_of_eq GWV.out.symm
            have BK9:=blk_set (blk_set (blk_set BKV.out 0 (.string v.f0)) 1 (.string v.f1)) 2 (.int .i64 v.f2)
            have e9:Below wr.heap.size wr (((w8.setCell ⟨gb,0,none⟩ (.string v.f0)).setCell ⟨gb,1,none⟩ (.string v.f1)).setCell ⟨gb,2,none⟩ (.int .i64 v.f2)):=((HBV.out.setCell (p:=⟨gb,0,none⟩) hge _).setCell (p:=⟨gb,1,none⟩) hge _).setCell (p:=⟨gb,2,none⟩) hge _
            clear zV0 zV1 zV2 yV0 yV1 yV2 BKV HBV GWV x0 x1 x2
            generalize (((w8.setCell ⟨gb,0,none⟩ (.string v.f0)).setCell ⟨gb,1,none⟩ (.string v.f1)).setCell ⟨gb,2,none⟩ (.int .i64 v.f2))=w9 at BK9 e9 ⊢
            refine (strconv_Itoa_31.calls v.f2 r w9 (hT.later (HBi.out.trans (e9.mono HBi.out.size))) HIS.out).mono ?_
            rintro e_ wb ⟨rfl,hb⟩
            have e9:=e9.trans (hb.mono e9.size)
            have BK9:=blk_below BK9 hb
            have z0:wb.cell? ⟨gb,0,none⟩=some (.string v.f0):=(blk_cell BK9 0).trans rfl
            have z1:wb.cell? ⟨gb,1,none⟩=some (.string v.f1):=(blk_cell BK9 1).trans rfl
            have HE9:=Aside0.mk e9
            clear e9 BK9 hb
            go_wp2_with (first|((with_reducible refine gate_dst (N:=50) rfl ?_);(try (refine gate_guard (by rfl) ?_;dsimp only));refine Kd.R_lit Kd.string (w0:=_) _ 9 ?hg_ (N:=50) ?hd_ (xs:=[(lit [118,97,114,32]),v.f0,(lit [58,32]),v.f1,((lit [91]++r)++lit [93]),(lit [59])]) (inner:=[.string (lit [118,97,114,32]),.string v.f0,.string (lit [58,32]),.string v.f1,.string ((lit [91]++r)++lit [93]),.string (lit [59])]) (ok:=fun _=>True) (okp:=fun _=>True) ?hr_ ?hp_ (fun _ hk=>hk) trivial (Below.refl _ _) (Nat.le_refl _) (by simp) ?_;(case hd_=>rfl);(case hg_=>rfl);(case hr_=>first|(go_simp;done)|(go_simp;rfl));(case hp_=>exact Reps.one (show Kd.M Kd.string _ _ _ ((lit [118,97,114,32])) [.string ((lit [118,97,114,32]))] from rfl) (Reps.one (show Kd.M Kd.string _ _ _ (v.f0) [.string (v.f0)] from rfl) (Reps.one (show Kd.M Kd.string _ _ _ ((lit [58,32])) [.string ((lit [58,32]))] from rfl) (Reps.one (show Kd.M Kd.string _ _ _ (v.f1) [.string (v.f1)] from rfl) (Reps.one (show Kd.M Kd.string _ _ _ (((lit [91]++r)++lit [93])) [.string (((lit [91]++r)++lit [93]))] from rfl) (Reps.one (show Kd.M Kd.string _ _ _ ((lit [59])) [.string ((lit [59]))] from rfl) (Reps.none _ _)))))));intro vrow wc hrow hb hg_ hnew_;have HL:=Aside0.mk hb;clear hg_ hnew_ hb;obtain ⟨Ao,co,rfl⟩:=Kd.R_slice hrow;have hro:=(Kd.R_reads' hrow).2;have HR:=Aside0.mk hro;clear hro hrow))
            have e4:=HE9.out.trans (HL.out.mono HE9.out.size)
            clear HE9 HL z0 z1
            refine (line_pr w.heap.size b (enumsB ens++varsB (vs.take i)) 0 Ao co [(lit [118,97,114,32]),v.f0,(lit [58,32]),v.f1,((lit [91]++r)++lit [93]),(lit [59])] wc (HPi.out.kept e4) HR.out.2 HR.out.1 (by decide) (by decide) (by simp) HLN.out (Nat.le_trans HBi.out.size e4.size)).mono ?_
            rintro e_ wd ⟨rfl,hP',hb',hs'⟩
            have HPn:Aside0 (IsPr w.heap.size b (Lib.byteCells ((enumsB ens++varsB (vs.take i))++lineB 0 [(lit [118,97,114,32]),v.f0,(lit [58,32]),v.f1,((lit [91]++r)++lit [93]),(lit [59])])) 0 wd):=⟨.inr hP'⟩
            have HBn:=Aside0.mk (HBi.out.trans ((e4.mono HBi.out.size).trans hb'))
            have HSn:=Aside0.mk (HSi.out.trans ((Beside.of e4).trans hs'))
            clear hP' hb' hs' e4 HR
            go_wp2
            go_roundg k1
            case measure=>omega
            case rel=>exact ⟨i+1,congrArg (Value.int IntKind.i64) HWI.out,⟨by have:=HIq.out;omega,by omega⟩,⟨by rw [HNX.out];simpa only [List.append_assoc] using HPn.out⟩,HBn,HSn⟩
          · rw [manyT,if_neg hL] at hln HNX
            have HLN:=Aside0.mk hln
            have cL:decide (0 < v.f2)=false:=decide_eq_false hL
            clear hln his hL hrs
            go_wp2_with (first|((with_reducible refine gate_dst (N:=7) rfl ?_);refine box_event ?hgV (N:=7) ?hdV (cs:=#[.string (⟨#[]⟩:ByteArray),.string (⟨#[]⟩:ByteArray),.int .i64 0]) (t:=80) ?hrV ?_;(case hdV=>rfl);(case hgV=>rfl);(case hrV=>first|(go_simp;done)|(go_simp;rfl));intro gb hg w8 hbox hb;have BKV:=Aside0.mk hbox;have GWV:=Aside0.mk hg;have HBV:=Aside0.mk hb;clear hb hbox hg;have zV0:w8.cell? ⟨gb,0,none⟩=some (.string (⟨#[]⟩:ByteArray)):=(blk_cell BKV.out 0).trans rfl;have yV0:=blk_frozen BKV.out 0;have zV1:w8.cell? ⟨gb,1,none⟩=some (.string (⟨#[]⟩:ByteArray)):=(blk_cell BKV.out 1).trans rfl;have yV1:=blk_frozen BKV.out 1;have zV2:w8.cell? ⟨gb,2,none⟩=some (.int .i64 0):=(blk_cell BKV.out 2).trans rfl;have yV2:=blk_frozen BKV.out 2)|((with_reducible refine gate_dst (N:=50) rfl ?_);(try (refine gate_guard (by rfl) ?_;dsimp only));refine Kd.R_lit Kd.string (w0:=_) _ 9 ?hg_ (N:=50) ?hd_ (xs:=[(lit [118,97,114,32]),v.f0,(lit [58,32]),v.f1,(lit []),(lit [59])]) (inner:=[.string (lit [118,97,114,32]),.string v.f0,.string (lit [58,32]),.string v.f1,.string (lit []),.string (lit [59])]) (ok:=fun _=>True) (okp:=fun _=>True) ?hr_ ?hp_ (fun _ hk=>hk) trivial (Below.refl _ _) (Nat.le_refl _) (by simp) ?_;(case hd_=>rfl);(case hg_=>rfl);(case hr_=>first|(go_simp;done)|(go_simp;rfl));(case hp_=>exact Reps.one (show Kd.M Kd.string _ _ _ ((lit [118,97,114,32])) [.string ((lit [118,97,114,32]))] from rfl) (Reps.one (show Kd.M Kd.string _ _ _ (v.f0) [.string (v.f0)] from rfl) (Reps.one (show Kd.M Kd.string _ _ _ ((lit [58,32])) [.string ((lit [58,32]))] from rfl) (Reps.one (show Kd.M Kd.string _ _ _ (v.f1) [.string (v.f1)] from rfl) (Reps.one (show Kd.M Kd.string _ _ _ ((lit [])) [.string ((lit []))] from rfl) (Reps.one (show Kd.M Kd.string _ _ _ ((lit [59])) [.string ((lit [59]))] from rfl) (Reps.none _ _)))))));intro vrow wc hrow hb hg_ hnew_;have HL:=Aside0.mk hb;clear hg_ hnew_ hb;obtain ⟨Ao,co,rfl⟩:=Kd.R_slice hrow;have hro:=(Kd.R_reads' hrow).2;have HR:=Aside0.mk hro;clear hro hrow))
            have hge:wr.heap.size≤gb:=Nat.le_of_eq GWV.out.symm
            have e9:Below wr.heap.size wr (((w8.setCell ⟨gb,0,none⟩ (.string v.f0)).setCell ⟨gb,1,none⟩ (.string v.f1)).setCell ⟨gb,2,none⟩ (.int .i64 v.f2)):=((HBV.out.setCell (p:=⟨gb,0,none⟩) hge _).setCell (p:=⟨gb,1,none⟩) hge _).setCell (p:=⟨gb,2,none⟩) hge _
            have e4:=e9.trans (HL.out.mono e9.size)
            clear zV0 zV1 zV2 yV0 yV1 yV2 BKV HBV GWV x0 x1 x2 e9 HL
            refine (line_pr w.heap.size b (enumsB ens++varsB (vs.take i)) 0 Ao co [(lit [118,97,114,32]),v.f0,(lit [58,32]),v.f1,(lit []),(lit [59])] wc (HPi.out.kept e4) HR.out.2 HR.out.1 (by decide) (by decide) (by simp) HLN.out (Nat.le_trans HBi.out.size e4.size)).mono ?_
            rintro e_ wd ⟨rfl,hP',hb',hs'⟩
            have HPn:Aside0 (IsPr w.heap.size b (Lib.byteCells ((enumsB ens++varsB (vs.take i))++lineB 0 [(lit [118,97,114,32]),v.f0,(lit [58,32]),v.f1,(lit []),(lit [59])])) 0 wd):=⟨.inr hP'⟩
            have HBn:=Aside0.mk (HBi.out.trans ((e4.mono HBi.out.size).trans hb'))
            have HSn:=Aside0.mk (HSi.out.trans ((Beside.of e4).trans hs'))
            clear hP' hb' hs' e4 HR
            go_wp2
            go_roundg k1
            case measure=>omega
            case rel=>exact ⟨i+1,congrArg (Value.int IntKind.i64) HWI.out,⟨by have:=HIq.out;omega,by omega⟩,⟨by rw [HNX.out];simpa only [List.append_assoc] using HPn.out⟩,HBn,HSn⟩
        · have cA:decide ((i:Int) < (vs.length:Int))=false:=decide_eq_false (by omega)
          have cB:decide (i < vs.length)=false:=decide_eq_false (by omega)
          have cC:(i < vs.length)=False:=eq_false (by omega)
          rw [List.take_of_length_le (by omega)] at HPi
          have BP:=(HSi.out gA _ _ _ HNE.out (by decide) BKP.out)
          have p0:wr.cell? ⟨gA,0,none⟩=some (.slice A0 ens.length c0):=by rw [Lib.cell_of_heap BP];rfl
          have p1:wr.cell? ⟨gA,1,none⟩=some (.slice A1 vs.length c1):=by rw [Lib.cell_of_heap BP];rfl
          have p2:wr.cell? ⟨gA,2,none⟩=some (.slice A2 (convPs ps).length c2):=by rw [Lib.cell_of_heap BP];rfl
          have p3:wr.cell? ⟨gA,3,none⟩=some (.slice A3 (convSs m).length c3):=by rw [Lib.cell_of_heap BP];rfl
          clear BP
          have HP1:=HPi
          have HB1:=HBi
          have HS1:=HSi
          clear HPi HBi HSi cA cB cC
          go_wp2
          clear p0 p1 p2 p3
          go_loopg [56] (ps.length+1) (fun kq v56 w'=>∃ i:Nat,v56=.int .i64 (i:Int)∧Aside0 (i+kq=ps.length+1∧i≤ps.length)∧Aside0 (IsPr w.heap.size b (Lib.byteCells (enumsB ens++varsB vs++procsB (ps.take i))) 0 w')∧Aside0 (Below w.heap.size w w')∧Aside0 (Beside b w2 w'))
          case atStart=>exact ⟨0,rfl,⟨by omega,by omega⟩,⟨by rw [List.take_zero,procsB,List.append_nil];exact HP1.out⟩,HB1,HS1⟩
          case round=>
            clear HP1 HB1 HS1
            obtain ⟨i,rfl,HIq,HPi,HBi,HSi⟩:=hrel
            by_cases hi:i < ps.length
            · have cc:decide ((i:Int) < ((convPs ps).length:Int))=true:=decide_eq_true (by rw [convPs_len];omega)
              cases gk with
              | zero=>exact absurd HIq.out (by omega)
              | succ k1=>
              obtain ⟨ad,A5,c5,rfl,x0,x1,l1,g1⟩:=at_T66 HC2.out.1 (i:Int) (by omega) (by rw [convPs_len];omega)
              have hm:ps[i] ∈ ps:=List.getElem_mem hi
              rw [rd_ps hi] at x0 x1 l1 g1
              obtain ⟨hnx,hle⟩:=take_app procsB procsB_app ps i hi
              have hje:=HBd.out _ hm
              generalize hse:ps[i]=x at x0 x1 l1 g1 hnx hle hje hm
              clear hse hm
              simp only [Int.toNat_natCast,convP] at x0 x1 l1 g1
              replace x0:=(HBi.out.cell (World.block_lt_of_cell? w _ x0)).trans x0
              replace x1:=(HBi.out.cell (World.block_lt_of_cell? w _ x1)).trans x1
              have p0:(0≤(i:Int))=True:=eq_true (by omega)
              have q0:((i:Int) < ((convPs ps).length:Int))=True:=eq_true (by rw [convPs_len];omega)
              rw [procsB,procsB,List.append_nil] at hnx
              have hln:(enumsB ens++varsB vs++procsB (ps.take i)).length+(procB x).length≤140737488355328:=by have h1:=HLEN.out;rw [hnx] at hle;simp only [List.length_append] at hle h1 ⊢;omega
              unfold procB at hln hnx
              have HLN:=Aside0.mk hln
              have HNX:=Aside0.mk hnx
              have HG1:=Aside0.mk (And.intro g1 l1)
              have HJE:=Aside0.mk hje
              have HWI:Aside0 (wrap64 ((i:Int)+1)=((i+1:Nat):Int)):=⟨by rw [wrap64_small (by omega) (by have:=HPs.out;omega)];rfl⟩
              clear hnx hle hje hln l1 g1
              go_wp2_with (first|((with_reducible refine gate_dst (N:=10) rfl ?_);refine box_event ?hgX (N:=10) ?hdX (cs:=#[.string (⟨#[]⟩:ByteArray),.slice none 0 0]) (t:=66) ?hrX ?_;(case hdX=>rfl);(case hgX=>rfl);(case hrX=>first|(go_simp;done)|(go_simp;rfl));intro gb hg w8 hbox hb;have BKX:=Aside0.mk hbox;have GWX:=Aside0.mk hg;have HBX:=Aside0.mk hb;clear hb hbox hg;have zX0:w8.cell? ⟨gb,0,none⟩=some (.string (⟨#[]⟩:ByteArray)):=(blk_cell BKX.out 0).trans rfl;have yX0:=blk_frozen BKX.out 0;have zX1:w8.cell? ⟨gb,1,none⟩=some (.slice none 0 0):=(blk_cell BKX.out 1).trans rfl;have yX1:=blk_frozen BKX.out 1)|((with_reducible refine gate_dst (N:=63) rfl ?_);(try (refine gate_guard (by rfl) ?_;dsimp only));refine Kd.R_lit Kd.string (w0:=_) _ 9 ?hg_ (N:=63) ?hd_ (xs:=[(lit [112,114,111,99,32]),x.f0,(lit [32,123])]) (inner:=[.string (lit [112,114,111,99,32]),.string x.f0,.string (lit [32,123])]) (ok:=fun _=>True) (okp:=fun _=>True) ?hr_ ?hp_ (fun _ hk=>hk) trivial (Below.refl _ _) (Nat.le_refl _) (by simp) ?_;(case hd_=>rfl);(case hg_=>rfl);(case hr_=>first|(go_simp;done)|(go_simp;rfl));(case hp_=>exact Reps.one (show Kd.M Kd.string _ _ _ ((lit [112,114,111,99,32])) [.string ((lit [112,114,111,99,32]))] from rfl) (Reps.one (show Kd.M Kd.string _ _ _ (x.f0) [.string (x.f0)] from rfl) (Reps.one (show Kd.M Kd.string _ _ _ ((lit [32,123])) [.string ((lit [32,123]))] from rfl) (Reps.none _ _))));intro vrow wc hrow hb hg_ hnew_;have HL:=Aside0.mk hb;clear hg_ hnew_ hb;obtain ⟨Ao,co,rfl⟩:=Kd.R_slice hrow;have hro:=(Kd.R_reads' hrow).2;have HR:=Aside0.mk hro;clear hro hrow))
              have hge:wr.heap.size≤gb:=Nat.le_of_eq GWX.out.symm
              have BK9:=blk_set (blk_set BKX.out 0 (.string x.f0)) 1 (.slice A5 (convSs x.f1).length c5)
              have e9:Below wr.heap.size wr ((w8.setCell ⟨gb,0,none⟩ (.string x.f0)).setCell ⟨gb,1,none⟩ (.slice A5 (convSs x.f1).length c5)):=(HBX.out.setCell (p:=⟨gb,0,none⟩) hge _).setCell (p:=⟨gb,1,none⟩) hge _
              have e4:=e9.trans (HL.out.mono e9.size)
              have BK9:=Aside0.mk (blk_below BK9 HL.out)
              have hgb:gb≠b:=fun e=>by have:=HPi.out.lt;have:=GWX.out;omega
              clear zX0 zX1 yX0 yX1 BKX HBX GWX x0 x1 e9 HL hge
              have BQ:=Aside0.mk (fun (w':World) (h:Beside b wc w')=>h gb _ _ _ hgb (by decide) BK9.out)
              have HWC:=Aside0.mk (Below.refl wc.heap.size wc)
              refine (line_pr w.heap.size b (enumsB ens++varsB vs++procsB (ps.take i)) 0 Ao co [(lit [112,114,111,99,32]),x.f0,(lit [32,123])] wc (HPi.out.kept e4) HR.out.2 HR.out.1 (by decide) (by decide) (by simp) (by have h1:=HLN.out;simp only [List.length_append,Int.zero_add] at h1 ⊢;omega) (Nat.le_trans HBi.out.size e4.size)).mono ?_
              rintro e_ wd ⟨rfl,hP',hb',hs'⟩
              have HPA:Aside0 (IsPr w.heap.size b (Lib.byteCells ((enumsB ens++varsB vs++procsB (ps.take i))++lineB 0 [(lit [112,114,111,99,32]),x.f0,(lit [32,123])])) 0 wd):=⟨.inr hP'⟩
              have HBA:=Aside0.mk (HBi.out.trans ((e4.mono HBi.out.size).trans hb'))
              have HSA:=Aside0.mk (HSi.out.trans ((Beside.of e4).trans hs'))
              have hsx:=trivial
              have HWD:=hs'
              clear hP' hb' hs' e4 HR HPi HBi HSi
              have BQ2:=Aside0.mk (BQ.out wd HWD)
              clear BQ HWC hsx HWD BK9 hgb
              have z1:wd.cell? ⟨gb,1,none⟩=some (.slice A5 (convSs x.f1).length c5):=(blk_cell BQ2.out 1).trans rfl
              clear BQ2
              go_wp2_with fail
              clear z1
              refine (block_pr x.f1 (fun s _=>stmt_pr s) b ((enumsB ens++varsB vs++procsB (ps.take i))++lineB 0 [lit [112,114,111,99,32],x.f0,lit [32,123]]) 0 A5 c5 w wd HPA.out HBA.out hT HG1.out.1 HG1.out.2 HJE.out.1 (by decide) (by have:=HJE.out.2;omega) (by have h1:=HLN.out;simp only [List.length_append,Int.zero_add] at h1 ⊢;omega)).mono ?_
              rintro e_ we ⟨rfl,hP',hb',hs'⟩
              have HPB:Aside0 (IsPr w.heap.size b (Lib.byteCells (((enumsB ens++varsB vs++procsB (ps.take i))++lineB 0 [lit [112,114,111,99,32],x.f0,lit [32,123]])++stmtsB x.f1 1)) 0 we):=⟨hP'⟩
              have HBB:=Aside0.mk (HBA.out.trans hb')
              have HSB:=Aside0.mk (HSA.out.trans hs')
              clear hP' hb' hs' HPA HBA HSA
              go_wp2_with (first|((with_reducible refine gate_dst (N:=70) rfl ?_);(try (refine gate_guard (by rfl) ?_;dsimp only));refine Kd.R_lit Kd.string (w0:=_) _ 9 ?hg_ (N:=70) ?hd_ (xs:=[(lit [125])]) (inner:=[.string (lit [125])]) (ok:=fun _=>True) (okp:=fun _=>True) ?hr_ ?hp_ (fun _ hk=>hk) trivial (Below.refl _ _) (Nat.le_refl _) (by simp) ?_;(case hd_=>rfl);(case hg_=>rfl);(case hr_=>first|(go_simp;done)|(go_simp;rfl));(case hp_=>exact Reps.one (show Kd.M Kd.string _ _ _ ((lit [125])) [.string ((lit [125]))] from rfl) (Reps.none _ _));intro vrow wc hrow hb hg_ hnew_;have HL:=Aside0.mk hb;clear hg_ hnew_ hb;obtain ⟨Ao,co,rfl⟩:=Kd.R_slice hrow;have hro:=(Kd.R_reads' hrow).2;have HR:=Aside0.mk hro;clear hro hrow))
              have e4:=HL.out
              clear HL
              refine (line_pr w.heap.size b (((enumsB ens++varsB vs++procsB (ps.take i))++lineB 0 [lit [112,114,111,99,32],x.f0,lit [32,123]])++stmtsB x.f1 1) 0 Ao co [(lit [125])] wc (HPB.out.kept e4) HR.out.2 HR.out.1 (by decide) (by decide) (by simp) (by have h1:=HLN.out;simp only [List.length_append,Int.zero_add] at h1 ⊢;omega) (Nat.le_trans HBB.out.size e4.size)).mono ?_
              rintro e_ wf ⟨rfl,hP',hb',hs'⟩
              have HPC:Aside0 (IsPr w.heap.size b (Lib.byteCells ((((enumsB ens++varsB vs++procsB (ps.take i))++lineB 0 [lit [112,114,111,99,32],x.f0,lit [32,123]])++stmtsB x.f1 1)++lineB 0 [(lit [125])])) 0 wf):=⟨.inr hP'⟩
              have HBC:=Aside0.mk (HBB.out.trans ((e4.mono HBB.out.size).trans hb'))
              have HSC:=Aside0.mk (HSB.out.trans ((Beside.of e4).trans hs'))
              have hsx:=(Beside.of e4).trans hs'
              clear hP' hb' hs' e4 HR HPB HBB HSB
              clear hsx
              go_wp2
              go_roundg k1
              case measure=>omega
              case rel=>exact ⟨i+1,congrArg (Value.int IntKind.i64) HWI.out,⟨by have:=HIq.out;omega,by omega⟩,⟨by rw [HNX.out];simpa only [List.append_assoc] using HPC.out⟩,HBC,HSC⟩
            · have cA:decide ((i:Int) < ((convPs ps).length:Int))=false:=decide_eq_false (by rw [convPs_len];omega)
              have cB:decide (i < (convPs ps).length)=false:=decide_eq_false (by rw [convPs_len];omega)
              have cC:(i < (convPs ps).length)=False:=eq_false (by rw [convPs_len];omega)
              rw [List.take_of_length_le (by omega)] at HPi
              have HP1:=HPi
              have HB1:=HBi
              have HS1:=HSi
              clear HPi HBi HSi
              go_wp2_with (first|((with_reducible refine gate_dst (N:=74) rfl ?_);(try (refine gate_guard (by rfl) ?_;dsimp only));refine Kd.R_lit Kd.string (w0:=_) _ 9 ?hg_ (N:=74) ?hd_ (xs:=[(lit [109,97,105,110,32,123])]) (inner:=[.string (lit [109,97,105,110,32,123])]) (ok:=fun _=>True) (okp:=fun _=>True) ?hr_ ?hp_ (fun _ hk=>hk) trivial (Below.refl _ _) (Nat.le_refl _) (by simp) ?_;(case hd_=>rfl);(case hg_=>rfl);(case hr_=>first|(go_simp;done)|(go_simp;rfl));(case hp_=>exact Reps.one (show Kd.M Kd.string _ _ _ ((lit [109,97,105,110,32,123])) [.string ((lit [109,97,105,110,32,123]))] from rfl) (Reps.none _ _));intro vrow wc hrow hb hg_ hnew_;have HL:=Aside0.mk hb;clear hg_ hnew_ hb;obtain ⟨Ao,co,rfl⟩:=Kd.R_slice hrow;have hro:=(Kd.R_reads' hrow).2;have HR:=Aside0.mk hro;clear hro hrow))
              have e4:=HL.out
              clear HL
              refine (line_pr w.heap.size b (enumsB ens++varsB vs++procsB ps) 0 Ao co [(lit [109,97,105,110,32,123])] wc (HP1.out.kept e4) HR.out.2 HR.out.1 (by decide) (by decide) (by simp) (by have h1:=HLEN.out;simp only [List.length_append,Int.zero_add] at h1 ⊢;omega) (Nat.le_trans HB1.out.size e4.size)).mono ?_
              rintro e_ wd ⟨rfl,hP',hb',hs'⟩
              have HPA:Aside0 (IsPr w.heap.size b (Lib.byteCells ((enumsB ens++varsB vs++procsB ps)++lineB 0 [(lit [109,97,105,110,32,123])])) 0 wd):=⟨.inr hP'⟩
              have HBA:=Aside0.mk (HB1.out.trans ((e4.mono HB1.out.size).trans hb'))
              have HSA:=Aside0.mk (HS1.out.trans ((Beside.of e4).trans hs'))
              have hsx:=(Beside.of e4).trans hs'
              clear hP' hb' hs' e4 HR HP1 HB1 HS1
              have BP:=(HSA.out gA _ _ _ HNE.out (by decide) BKP.out)
              have p3:wd.cell? ⟨gA,3,none⟩=some (.slice A3 (convSs m).length c3):=by rw [Lib.cell_of_heap BP];rfl
              clear BP hsx
              go_wp2_with fail
              clear p3
              refine (block_pr m (fun s _=>stmt_pr s) b ((enumsB ens++varsB vs++procsB ps)++lineB 0 [lit [109,97,105,110,32,123]]) 0 A3 c3 w wd HPA.out HBA.out hT HC3.out.1 HC3.out.2 HM.out.1 (by decide) (by have:=HM.out.2;omega) (by have h1:=HLEN.out;simp only [List.length_append,Int.zero_add] at h1 ⊢;omega)).mono ?_
              rintro e_ we ⟨rfl,hP',hb',hs'⟩
              have HPB:Aside0 (IsPr w.heap.size b (Lib.byteCells (((enumsB ens++varsB vs++procsB ps)++lineB 0 [lit [109,97,105,110,32,123]])++stmtsB m 1)) 0 we):=⟨hP'⟩
              have HBB:=Aside0.mk (HBA.out.trans hb')
              have HSB:=Aside0.mk (HSA.out.trans hs')
              clear hP' hb' hs' HPA HBA HSA
              go_wp2_with (first|((with_reducible refine gate_dst (N:=81) rfl ?_);(try (refine gate_guard (by rfl) ?_;dsimp only));refine Kd.R_lit Kd.string (w0:=_) _ 9 ?hg_ (N:=81) ?hd_ (xs:=[(lit [125])]) (inner:=[.string (lit [125])]) (ok:=fun _=>True) (okp:=fun _=>True) ?hr_ ?hp_ (fun _ hk=>hk) trivial (Below.refl _ _) (Nat.le_refl _) (by simp) ?_;(case hd_=>rfl);(case hg_=>rfl);(case hr_=>first|(go_simp;done)|(go_simp;rfl));(case hp_=>exact Reps.one (show Kd.M Kd.string _ _ _ ((lit [125])) [.string ((lit [125]))] from rfl) (Reps.none _ _));intro vrow wc hrow hb hg_ hnew_;have HL:=Aside0.mk hb;clear hg_ hnew_ hb;obtain ⟨Ao,co,rfl⟩:=Kd.R_slice hrow;have hro:=(Kd.R_reads' hrow).2;have HR:=Aside0.mk hro;clear hro hrow))
              have e4:=HL.out
              clear HL
              refine (line_pr w.heap.size b (((enumsB ens++varsB vs++procsB ps)++lineB 0 [lit [109,97,105,110,32,123]])++stmtsB m 1) 0 Ao co [(lit [125])] wc (HPB.out.kept e4) HR.out.2 HR.out.1 (by decide) (by decide) (by simp) (by have h1:=HLEN.out;simp only [List.length_append,Int.zero_add] at h1 ⊢;omega) (Nat.le_trans HBB.out.size e4.size)).mono ?_
              rintro e_ wf ⟨rfl,hP',hb',hs'⟩
              have HPC:Aside0 (IsPr w.heap.size b (Lib.byteCells ((((enumsB ens++varsB vs++procsB ps)++lineB 0 [lit [109,97,105,110,32,123]])++stmtsB m 1)++lineB 0 [(lit [125])])) 0 wf):=⟨.inr hP'⟩
              have HBC:=Aside0.mk (HBB.out.trans ((e4.mono HBB.out.size).trans hb'))
              have HSC:=Aside0.mk (HSB.out.trans ((Beside.of e4).trans hs'))
              have hsx:=(Beside.of e4).trans hs'
              clear hP' hb' hs' e4 HR HPB HBB HSB
              clear hsx
              go_wp2_with fail
              refine (string_pr w.heap.size b _ 0 wf HPC.out (by intro h;have h2:=congrArg List.length h;simp only [lineB,List.length_append,List.length_cons,List.length_nil] at h2;omega)).mono ?_
              rintro e_ wg ⟨rfl,hb'⟩
              have HBD:=HBC.out.trans hb'
              go_wp2
              go_ret
              refine ⟨?_,HBD⟩
              rw [printB_eq]
              simp only [List.append_assoc]
              rfl
end Go.Proofs.YtnnbbeloifhofaaDoor.P
end
section
namespace Go.Proofs.YtnnbbeloifhofaaDoor.P
open Go Go.RowKit Go.Proofs
open Go.Proofs.YtnnbbeloifhofaaDoorW.PrintWords Go.Proofs.YtnnbbeloifhofaaDoorW.PrintLast Go.Proofs.YtnnbbeloifhofaaDoorW.PrintMore
set_option linter.unusedVariables false
mutual
def backE:TE→RE
  | ⟨a,b,n,l,t⟩=>⟨a,b,n,backEs l,t⟩
def backEs:List TE→List RE
  | []=>[]
  | x :: xs=>backE x :: backEs xs
end
mutual
def backS:TS→RS
  | ⟨a,b,e,l,m,t⟩=>⟨a,b,backEs e,backSs l,backSs m,t⟩
def backSs:List TS→List RS
  | []=>[]
  | x :: xs=>backS x :: backSs xs
end
def backP (x:TP):RP:=⟨x.f0,backSs x.f1⟩
def backPs (l:List TP):List RP:=l.map backP
mutual
theorem conv_backE : ∀ x:TE,convE (backE x)=x
  | ⟨a,b,n,l,t⟩=>by rw [backE,convE,conv_backEs l]
theorem conv_backEs : ∀ l:List TE,convEs (backEs l)=l
  | []=>rfl
  | x :: xs=>by rw [backEs,convEs,conv_backE x,conv_backEs xs]
end
mutual
theorem conv_backS : ∀ x:TS,convS (backS x)=x
  | ⟨a,b,e,l,m,t⟩=>by rw [backS,convS,conv_backEs e,conv_backSs l,conv_backSs m]
theorem conv_backSs : ∀ l:List TS,convSs (backSs l)=l
  | []=>rfl
  | x :: xs=>by rw [backSs,convSs,conv_backS x,conv_backSs xs]
end
mutual
theorem back_convE : ∀ x:RE,backE (convE x)=x
  | ⟨a,b,n,l,t⟩=>by rw [convE,backE,back_convEs l]
theorem back_convEs : ∀ l:List RE,backEs (convEs l)=l
  | []=>rfl
  | x :: xs=>by rw [convEs,backEs,back_convE x,back_convEs xs]
end
mutual
theorem back_convS : ∀ x:RS,backS (convS x)=x
  | ⟨a,b,e,l,m,t⟩=>by rw [convS,backS,back_convEs e,back_convSs l,back_convSs m]
theorem back_convSs : ∀ l:List RS,backSs (convSs l)=l
  | []=>rfl
  | x :: xs=>by rw [convSs,backSs,back_convS x,back_convSs xs]
end
theorem conv_backPs (l:List TP):convPs (backPs l)=l:=by
  induction l with
  | nil=>rfl
  | cons x xs ih=>
    show convP (backP x) :: convPs (backPs xs)=_
    rw [ih,convP,backP,conv_backSs]
theorem back_convPs (l:List RP):backPs (convPs l)=l:=by
  induction l with
  | nil=>rfl
  | cons x xs ih=>
    show backP (convP x) :: backPs (convPs xs)=_
    rw [ih,convP,backP,back_convSs]
def okIB (n:Int):Bool:=decide (-9223372036854775808≤n) && decide (n≤9223372036854775807)
theorem okIB_iff (n:Int):okIB n=true↔okI n:=by unfold okIB okI;simp
mutual
def okEB:RE→Bool
  | ⟨_,_,n,l,_⟩=>okIB n && okEsB l
def okEsB:List RE→Bool
  | []=>true
  | x :: xs=>okEB x && okEsB xs
end
mutual
def okSB:RS→Bool
  | ⟨_,_,e,a,m,_⟩=>okEsB e && okSsB a && okSsB m
def okSsB:List RS→Bool
  | []=>true
  | x :: xs=>okSB x && okSsB xs
end
mutual
theorem okEB_iff : ∀ x:RE,okEB x=true↔okE x
  | ⟨_,_,n,l,_⟩=>by rw [okEB,okE,Bool.and_eq_true,okIB_iff,okEsB_iff l]
theorem okEsB_iff : ∀ l:List RE,okEsB l=true↔okEs l
  | []=>by rw [okEsB,okEs];simp
  | x :: xs=>by rw [okEsB,okEs,Bool.and_eq_true,okEB_iff x,okEsB_iff xs]
end
mutual
theorem okSB_iff : ∀ x:RS,okSB x=true↔okS x
  | ⟨_,_,e,a,m,_⟩=>by rw [okSB,okS,Bool.and_eq_true,Bool.and_eq_true,okEsB_iff e,okSsB_iff a,okSsB_iff m,and_assoc]
theorem okSsB_iff : ∀ l:List RS,okSsB l=true↔okSs l
  | []=>by rw [okSsB,okSs];simp
  | x :: xs=>by rw [okSsB,okSs,Bool.and_eq_true,okSB_iff x,okSsB_iff xs]
end
def printOkB (ens:List ES) (vs:List VS) (ps:List RP) (m:List RS):Bool:=
  decide (ens.length≤1099511627776) && decide (vs.length≤1099511627776) && decide (ps.length≤1099511627776) && ens.all (fun e=>decide (e.f1.length≤140737488355328)) && vs.all (fun v=>okIB v.f2) &&
  ps.all (fun x=>okSsB x.f1 && decide (1+bulkSs x.f1≤1099511627770)) && okSsB m && decide (1+bulkSs m≤1099511627770) && decide ((printB ens vs ps m).length≤140737488355328)
theorem printOkB_iff (ens:List ES) (vs:List VS) (ps:List RP) (m:List RS):printOkB ens vs ps m=true↔PrintOk ens vs ps m:=by
  unfold printOkB
  simp only [Bool.and_eq_true,decide_eq_true_eq,List.all_eq_true,okIB_iff,okSsB_iff]
  constructor
  · rintro ⟨⟨⟨⟨⟨⟨⟨⟨h1,h2⟩,h3⟩,h4⟩,h5⟩,h6⟩,h7⟩,h8⟩,h9⟩
    exact ⟨h1,h2,h3,h4,h5,h6,h7,h8,h9⟩
  · rintro ⟨h1,h2,h3,h4,h5,h6,h7,h8,h9⟩
    exact ⟨⟨⟨⟨⟨⟨⟨⟨h1,h2⟩,h3⟩,h4⟩,h5⟩,h6⟩,h7⟩,h8⟩,h9⟩
def tree_Print.f (l0_0:List ES) (l0_1:List VS) (l0_2:List TP) (l0_3:List TS):Option ByteArray:=
  if printOkB l0_0 l0_1 (backPs l0_2) (backSs l0_3)=true then some (strOf (printB l0_0 l0_1 (backPs l0_2) (backSs l0_3))) else none
theorem tree_Print.some (l0_0:List ES) (l0_1:List VS) (l0_2:List RP) (l0_3:List RS) (h:PrintOk l0_0 l0_1 l0_2 l0_3):tree_Print.f l0_0 l0_1 (convPs l0_2) (convSs l0_3)=.some (strOf (printB l0_0 l0_1 l0_2 l0_3)):=by
  unfold tree_Print.f
  rw [back_convPs,back_convSs,if_pos ((printOkB_iff ..).2 h)]
theorem tree_Print.calls (A0_0:Option Addr) (c0_0:Nat) (l0_0:List ES) (A0_1:Option Addr) (c0_1:Nat) (l0_1:List VS) (A0_2:Option Addr) (c0_2:Nat) (l0_2:List TP) (A0_3:Option Addr) (c0_3:Nat) (l0_3:List TS) (r:ByteArray) (w:World) (hT:TabT w)
    (hr0_0:Kd.C k79 w A0_0 l0_0.length l0_0) (hc0_0:l0_0.length≤c0_0) (hr0_1:Kd.C k80 w A0_1 l0_1.length l0_1) (hc0_1:l0_1.length≤c0_1) (hr0_2:Kd.C k66 w A0_2 l0_2.length l0_2) (hc0_2:l0_2.length≤c0_2) (hr0_3:Kd.C k76 w A0_3 l0_3.length l0_3) (hc0_3:l0_3.length≤c0_3)
    (h:tree_Print.f l0_0 l0_1 l0_2 l0_3=.some r) :
    Calls Tryd.prog 22 #[.agg #[.slice A0_0 l0_0.length c0_0,.slice A0_1 l0_1.length c0_1,.slice A0_2 l0_2.length c0_2,.slice A0_3 l0_3.length c0_3]] w fun e w'=>e=.returned (.string r)∧Below w.heap.size w w':=by
  unfold tree_Print.f at h
  split at h
  · rename_i hok
    rw [printOkB_iff] at hok
    obtain rfl:=Option.some.inj h
    have:=print_pr l0_0 l0_1 (backPs l0_2) (backSs l0_3) A0_0 A0_1 A0_2 A0_3 c0_0 c0_1 c0_2 c0_3 w hT hr0_0 hr0_1 (by rw [conv_backPs];exact hr0_2) (by rw [conv_backPs];exact hc0_2) (by rw [conv_backSs];exact hr0_3) (by rw [conv_backSs];exact hc0_3) hok
    rw [conv_backPs,conv_backSs] at this
    exact this
  · cases h
end Go.Proofs.YtnnbbeloifhofaaDoor.P
end
section
namespace Go.Proofs.YtnnbbeloifhofaaDoor.P
open Go Go.RowKit Go.Proofs
open Go.Proofs.YtnnbbeloifhofaaDoorW.PrintWords Go.Proofs.YtnnbbeloifhofaaDoorW.PrintLast Go.Proofs.YtnnbbeloifhofaaDoorW.PrintMore
set_option linter.unusedVariables false
abbrev REn:=S72
abbrev RV:=S56
def bulkN (l:List ByteArray):Nat:=(l.map fun x=>x.size+1).sum
def bulkEn (x:REn):Nat:=x.f0.size+bulkN x.f1+1
def bulkV (x:RV):Nat:=x.f0.size+x.f1.size+1
def bulkPr (x:RP):Nat:=x.f0.size+bulkSs x.f1+1
def bulkP (e:List REn) (v:List RV) (p:List RP) (m:List RS):Nat:=(e.map bulkEn).sum+(v.map bulkV).sum+(p.map bulkPr).sum+bulkSs m
theorem mem_sum {α:Type} (f:α→Nat) {l:List α} {x:α} (h:x ∈ l):f x≤(l.map f).sum:=by
  induction l with
  | nil=>cases h
  | cons y ys ih=>
    rw [List.map_cons,List.sum_cons]
    rcases List.mem_cons.1 h with e|h
    · subst e;omega
    · have:=ih h;omega
theorem len_sum {α:Type} (f:α→Nat) (h : ∀ x,1≤f x) (l:List α):l.length≤(l.map f).sum:=by
  induction l with
  | nil=>exact Nat.zero_le _
  | cons y ys ih=>rw [List.map_cons,List.sum_cons,List.length_cons];have:=h y;omega
theorem len_bulkN (l:List ByteArray):l.length≤bulkN l:=len_sum _ (fun x=>by omega) l
theorem join_cons (a b:List UInt8) (l:List (List UInt8)) (s:List UInt8):Lib.join (a :: b :: l) s=a++s++Lib.join (b :: l) s:=by simp [Lib.join]
theorem join_one (a:List UInt8) (s:List UInt8):Lib.join [a] s=a:=by simp [Lib.join]
theorem joinF_len (l:List ByteArray) (s:ByteArray):(joinF l s).length≤(l.map fun x=>x.size+s.size).sum:=by
  have hsz : ∀ x:ByteArray,x.data.toList.length=x.size:=fun x=>by rw [Array.length_toList];rfl
  unfold joinF
  induction l with
  | nil=>exact Nat.zero_le _
  | cons x xs ih=>
    cases xs with
    | nil=>rw [List.map_cons,List.map_nil,join_one,List.map_cons,List.map_nil,List.sum_cons,List.sum_nil,hsz];omega
    | cons y ys=>
      rw [List.map_cons,List.map_cons,join_cons,List.length_append,List.length_append,List.map_cons,List.sum_cons,hsz,hsz]
      rw [List.map_cons] at ih
      omega
theorem lineB_len (d:Nat) (ws:List ByteArray):(lineB (d:Int) ws).length≤2 * d+(ws.map ByteArray.size).sum+1:=by
  unfold lineB
  have h:=joinF_len ws ⟨#[]⟩
  have h0 : ∀ l:List ByteArray,(l.map fun x=>x.size+(⟨#[]⟩:ByteArray).size)=l.map ByteArray.size:=fun l=>rfl
  rw [h0] at h
  rw [List.length_append,List.length_append,Lib.repeatL_length]
  simp only [List.length_cons,List.length_nil,Int.toNat_natCast]
  omega
theorem nth_size {l:List RE} {f:RE→ByteArray} {c:Nat} (h : ∀ x ∈ l,(f x).size≤c * bulkE x) (i:Nat):(nth (l.map f) i).size≤c * bulkEs l:=by
  by_cases hi:i < l.length
  · rw [nth_map hi]
    exact Nat.le_trans (h _ (List.getElem_mem hi)) (Nat.mul_le_mul_left c (mem_bulkEs (List.getElem_mem hi)))
  · rw [nth_none (by rw [List.length_map];exact hi)];exact Nat.zero_le _
theorem nth_text (l:List RE) (ho:okEs l) (i:Nat):(nth (textEs l) i).size≤24 * bulkEs l:=by
  rw [textEs_map]
  exact nth_size (fun x hx=>by have:=textE_size x (okEs_mem ho hx);omega) i
theorem stmtF_len (d:Nat) (op name:ByteArray) (e:List RE) (ho:okEs e) (a m:List UInt8) (els:Bool):(stmtF (d:Int) op name e a m els).length≤6 * d+60+2 * op.size+2 * name.size+48 * bulkEs e+a.length+m.length:=by
  have h0:=nth_text e ho 0
  have h1:=nth_text e ho 1
  have hz : ∀ l:List UInt8,(lit l).size=l.length:=size_lit
  unfold stmtF
  repeat' split
  all_goals try simp only [List.length_append]
  · have:=lineB_len d [name,lit [32,61,32],nth (textEs e) 0,lit [59]]
    simp only [List.map_cons,List.map_nil,List.sum_cons,List.sum_nil,hz,List.length_cons,List.length_nil] at this;omega
  · have:=lineB_len d [name,lit [91],nth (textEs e) 0,lit [93,32,61,32],nth (textEs e) 1,lit [59]]
    simp only [List.map_cons,List.map_nil,List.sum_cons,List.sum_nil,hz,List.length_cons,List.length_nil] at this;omega
  · have:=lineB_len d [name,lit [32,61,32,105,110,112,117,116,59]]
    simp only [List.map_cons,List.map_nil,List.sum_cons,List.sum_nil,hz,List.length_cons,List.length_nil] at this;omega
  · have:=lineB_len d [name,lit [32,61,32,105,110,112,117,116,40],nth (textEs e) 0,lit [44,32],nth (textEs e) 1,lit [41,59]]
    simp only [List.map_cons,List.map_nil,List.sum_cons,List.sum_nil,hz,List.length_cons,List.length_nil] at this;omega
  · have h2:=lineB_len d [op,lit [32],nth (textEs e) 0,lit [32,123]]
    have h3:=lineB_len d [lit [125,32,101,108,115,101,32,123]]
    have h4:=lineB_len d [lit [125]]
    simp only [List.map_cons,List.map_nil,List.sum_cons,List.sum_nil,hz,List.length_cons,List.length_nil] at h2 h3 h4;omega
  · have h2:=lineB_len d [op,lit [32],nth (textEs e) 0,lit [32,123]]
    have h4:=lineB_len d [lit [125]]
    simp only [List.map_cons,List.map_nil,List.sum_cons,List.sum_nil,hz,List.length_cons,List.length_nil] at h2 h4 ⊢;omega
  · have:=lineB_len d [op,lit [32],nth (textEs e) 0,lit [59]]
    simp only [List.map_cons,List.map_nil,List.sum_cons,List.sum_nil,hz,List.length_cons,List.length_nil] at this;omega
  · have:=lineB_len d [lit [99,97,108,108,32],name,lit [59]]
    simp only [List.map_cons,List.map_nil,List.sum_cons,List.sum_nil,hz,List.length_cons,List.length_nil] at this;omega
  · have:=lineB_len d [op,lit [59]]
    simp only [List.map_cons,List.map_nil,List.sum_cons,List.sum_nil,hz,List.length_cons,List.length_nil] at this;omega
theorem stmtB_len (C:Nat) : ∀ s:RS,okS s→∀ d:Nat,6 * (d+bulkS s)+60≤C→(stmtB s (d:Int)).length≤bulkS s * C:=RS.all fun s iha ihb ho d hd=>by
  rw [okS_eq] at ho
  rw [bulkS_eq] at hd
  have gen : ∀ l:List RS,(∀ y ∈ l,okS y→∀ d:Nat,6 * (d+bulkS y)+60≤C→(stmtB y (d:Int)).length≤bulkS y * C)→okSs l→∀ d:Nat,6 * (d+bulkSs l)+60≤C→(stmtsB l (d:Int)).length≤bulkSs l * C:=by
    intro l
    induction l with
    | nil=>intro _ _ d _;rw [stmtsB,bulkSs];exact Nat.zero_le _
    | cons y ys ih=>
      intro h ho d hd
      rw [bulkSs] at hd ⊢
      rw [stmtsB,List.length_append,Nat.add_mul]
      exact Nat.add_le_add (h y (List.mem_cons_self ..) ho.1 d (by omega)) (ih (fun z hz=>h z (List.mem_cons_of_mem _ hz)) ho.2 d (by omega))
  have ha:=gen s.f3 iha ho.2.1 (d+1) (by omega)
  have hb:=gen s.f4 ihb ho.2.2 (d+1) (by omega)
  have hf:=stmtF_len d s.f0 s.f1 s.f2 ho.1 (stmtsB s.f3 ((d+1:Nat):Int)) (stmtsB s.f4 ((d+1:Nat):Int)) (decide (s.f4.length > 0))
  rw [stmtB_eq,show ((d:Int)+1)=((d+1:Nat):Int) from rfl]
  rw [bulkS_eq,Nat.add_mul,Nat.add_mul,Nat.add_mul,Nat.add_mul,Nat.add_mul]
  have e1:2 * s.f0.size≤s.f0.size * C:=by rw [Nat.mul_comm 2];exact Nat.mul_le_mul_left _ (by omega)
  have e2:2 * s.f1.size≤s.f1.size * C:=by rw [Nat.mul_comm 2];exact Nat.mul_le_mul_left _ (by omega)
  have e3:48 * bulkEs s.f2≤bulkEs s.f2 * C:=by rw [Nat.mul_comm 48];exact Nat.mul_le_mul_left _ (by omega)
  omega
theorem stmtsB_len (C:Nat) : ∀ l:List RS,okSs l→∀ d:Nat,6 * (d+bulkSs l)+60≤C→(stmtsB l (d:Int)).length≤bulkSs l * C
  | [],_,d,_=>by rw [stmtsB,bulkSs];exact Nat.zero_le _
  | y :: ys,ho,d,hd=>by
    rw [bulkSs] at hd ⊢
    rw [stmtsB,List.length_append,Nat.add_mul]
    exact Nat.add_le_add (stmtB_len C y ho.1 d (by omega)) (stmtsB_len C ys ho.2 d (by omega))
def convEn (x:REn):ES:=⟨x.f0,x.f1⟩
def convV (x:RV):VS:=⟨x.f0,x.f1,x.f2⟩
def okP (v:List RV) (p:List RP) (m:List RS):Prop:=(∀ x ∈ v,okI x.f2)∧(∀ x ∈ p,okSs x.f1)∧okSs m
theorem enumB_len (x:REn):(enumB (convEn x)).length≤20 * bulkEn x:=by
  unfold enumB
  have h:=lineB_len 0 [lit [101,110,117,109,32],(convEn x).f0,lit [32,123,32],strOf (joinF (convEn x).f1 (lit [44,32])),lit [32,125]]
  have hj:=joinF_len x.f1 (lit [44,32])
  have hz : ∀ l:List UInt8,(lit l).size=l.length:=size_lit
  have hb:(x.f1.map fun y=>y.size+(lit [44,32]).size).sum≤2 * bulkN x.f1:=by
    unfold bulkN
    generalize x.f1=l
    induction l with
    | nil=>exact Nat.zero_le _
    | cons y ys ih=>rw [List.map_cons,List.map_cons,List.sum_cons,List.sum_cons];rw [hz] at ih ⊢;simp only [List.length_cons,List.length_nil] at ih ⊢;omega
  simp only [List.map_cons,List.map_nil,List.sum_cons,List.sum_nil,hz,List.length_cons,List.length_nil,strOf_size,convEn] at h ⊢
  unfold bulkEn
  rw [show (((0:Nat)):Int)=0 from rfl] at h
  omega
theorem manyT_size (n:Int) (h:okI n):(manyT n).size≤23:=by
  unfold manyT
  have:=itoaB_size h
  split
  · have hz : ∀ l:List UInt8,(lit l).size=l.length:=size_lit
    rw [ByteArray.size_append,ByteArray.size_append,hz,hz];simp only [List.length_cons,List.length_nil];omega
  · exact Nat.zero_le _
theorem varB_len (x:RV) (h:okI x.f2):(varB (convV x)).length≤40 * bulkV x:=by
  unfold varB
  have h1:=lineB_len 0 [lit [118,97,114,32],(convV x).f0,lit [58,32],(convV x).f1,manyT (convV x).f2,lit [59]]
  have hz : ∀ l:List UInt8,(lit l).size=l.length:=size_lit
  have hm:=manyT_size _ h
  simp only [List.map_cons,List.map_nil,List.sum_cons,List.sum_nil,hz,List.length_cons,List.length_nil,convV] at h1 ⊢
  unfold bulkV
  rw [show (((0:Nat)):Int)=0 from rfl] at h1
  omega
theorem procB_len (C:Nat) (x:RP) (ho:okSs x.f1) (hC:6 * (1+bulkPr x)+60≤C):(procB x).length≤bulkPr x * C:=by
  unfold procB
  have h1:=lineB_len 0 [lit [112,114,111,99,32],x.f0,lit [32,123]]
  have h2:=lineB_len 0 [lit [125]]
  have hz : ∀ l:List UInt8,(lit l).size=l.length:=size_lit
  unfold bulkPr at hC ⊢
  have h3:=stmtsB_len C x.f1 ho 1 (by omega)
  simp only [List.map_cons,List.map_nil,List.sum_cons,List.sum_nil,hz,List.length_cons,List.length_nil] at h1 h2
  rw [show (((0:Nat)):Int)=0 from rfl] at h1 h2
  rw [List.length_append,List.length_append,Nat.add_mul,Nat.add_mul]
  have e1:x.f0.size≤x.f0.size * C:=Nat.le_mul_of_pos_right _ (by omega)
  rw [show (((1:Nat)):Int)=1 from rfl] at h3
  omega
theorem mainB_len (C:Nat) (m:List RS) (ho:okSs m) (hC:6 * (1+bulkSs m)+60≤C):(mainB m).length≤bulkSs m * C+20:=by
  unfold mainB
  have h1:=lineB_len 0 [lit [109,97,105,110,32,123]]
  have h2:=lineB_len 0 [lit [125]]
  have hz : ∀ l:List UInt8,(lit l).size=l.length:=size_lit
  have h3:=stmtsB_len C m ho 1 (by omega)
  simp only [List.map_cons,List.map_nil,List.sum_cons,List.sum_nil,hz,List.length_cons,List.length_nil] at h1 h2
  rw [show (((0:Nat)):Int)=0 from rfl] at h1 h2
  rw [show (((1:Nat)):Int)=1 from rfl] at h3
  rw [List.length_append,List.length_append]
  omega
theorem enumsB_len : ∀ l:List REn,(enumsB (l.map convEn)).length≤20 * (l.map bulkEn).sum
  | []=>Nat.zero_le _
  | x :: xs=>by
    rw [List.map_cons,enumsB,List.length_append,List.map_cons,List.sum_cons]
    have:=enumB_len x;have:=enumsB_len xs;omega
theorem varsB_len : ∀ l:List RV,(∀ x ∈ l,okI x.f2)→(varsB (l.map convV)).length≤40 * (l.map bulkV).sum
  | [],_=>Nat.zero_le _
  | x :: xs,h=>by
    rw [List.map_cons,varsB,List.length_append,List.map_cons,List.sum_cons]
    have:=varB_len x (h x (List.mem_cons_self ..));have:=varsB_len xs (fun y hy=>h y (List.mem_cons_of_mem _ hy));omega
theorem procsB_len (C:Nat) : ∀ l:List RP,(∀ x ∈ l,okSs x.f1)→6 * (1+(l.map bulkPr).sum)+60≤C→(procsB l).length≤(l.map bulkPr).sum * C
  | [],_,_=>Nat.zero_le _
  | x :: xs,h,hC=>by
    rw [List.map_cons,List.sum_cons] at hC
    rw [procsB,List.length_append,List.map_cons,List.sum_cons,Nat.add_mul]
    exact Nat.add_le_add (procB_len C x (h x (List.mem_cons_self ..)) (by omega)) (procsB_len C xs (fun y hy=>h y (List.mem_cons_of_mem _ hy)) (by omega))
theorem printOk_small (e:List REn) (v:List RV) (p:List RP) (m:List RS) (ho:okP v p m) (hb:bulkP e v p m≤2097152):PrintOk (e.map convEn) (v.map convV) p m:=by
  obtain ⟨hv,hp,hm⟩:=ho
  unfold bulkP at hb
  have l1:=len_sum bulkEn (fun x=>by unfold bulkEn;omega) e
  have l2:=len_sum bulkV (fun x=>by unfold bulkV;omega) v
  have l3:=len_sum bulkPr (fun x=>by unfold bulkPr;omega) p
  refine ⟨by rw [List.length_map];omega,by rw [List.length_map];omega,by omega,fun x hx=>?_,fun x hx=>?_,fun x hx=>⟨hp x hx,?_⟩,hm,by omega,?_⟩
  · obtain ⟨y,hy,rfl⟩:=List.mem_map.1 hx
    have:=mem_sum bulkEn hy
    have e1:bulkEn y=y.f0.size+bulkN y.f1+1:=rfl
    have h2:=len_bulkN y.f1
    show y.f1.length≤_
    omega
  · obtain ⟨y,hy,rfl⟩:=List.mem_map.1 hx
    exact hv y hy
  · have:=mem_sum bulkPr hx
    have e1:bulkPr x=x.f0.size+bulkSs x.f1+1:=rfl
    omega
  · unfold printB
    have a1:=enumsB_len e
    have a2:=varsB_len v hv
    have a3:=procsB_len 12583000 p hp (by omega)
    have a4:=mainB_len 12583000 m hm (by omega)
    simp only [List.length_append]
    omega
end Go.Proofs.YtnnbbeloifhofaaDoor.P
end
section
namespace Go.Proofs.YtnnbbeloifhofaaDoor.P
open Go Go.RowKit Go.Proofs
open Go.Proofs.YtnnbbeloifhofaaDoorW.PrintWords
open Go.Proofs.YtnnbbeloifhofaaDoor.Rows (uptoBulk uptoBulkAll)
set_option linter.unusedVariables false
section
variable {H:Type} {enc:TypeId × Value→H} {w:World} {base:Nat} {spare:Nat→Bool} {held:Bool}
theorem rd_int {t:TypeId} {k:IntKind} {fuel:Nat} {cs:List Value} {r:DataW H × List MemPlace} (ht:Tryd.prog.underlying t=some (.int k)) (h:DataW.trod enc Tryd.prog w base spare held fuel t cs=some r) :
    ∃ x:Int,cs=[.int k x]∧r.1=.lit (.int k x)∧(Lit.int k x).wf=true:=by
  obtain ⟨x,hc,hr,hw⟩:=DataW.trod_int ht h
  exact ⟨x,hc,by rw [hr],hw⟩
theorem rd_str {t:TypeId} {fuel:Nat} {cs:List Value} {r:DataW H × List MemPlace} (ht:Tryd.prog.underlying t=some .string) (h:DataW.trod enc Tryd.prog w base spare held fuel t cs=some r) :
    ∃ x:ByteArray,cs=[.string x]∧r.1=.lit (.string x.data.toList):=by
  obtain ⟨x,hc,hr,hw⟩:=DataW.trod_string ht h
  exact ⟨x,hc,by rw [hr]⟩
theorem rd_row {α:Type} {d:Kd α} {t e:TypeId} {R:α→DataW H→Prop} {fuel:Nat} {cs:List Value} {r:DataW H × List MemPlace} (ht:Tryd.prog.underlying t=some (.slice e)) (hc:Tryd.prog.cellsOf e=d.sz)
    (hel : ∀ n,n < fuel→∀ (cs:List Value) (r:DataW H × List MemPlace),DataW.trod enc Tryd.prog w base spare held n e cs=some r→∃ x,d.K w x cs∧R x r.1)
    (h:DataW.trod enc Tryd.prog w base spare held fuel t cs=some r) :
    ∃ (xs:List α) (A:Option Addr) (c:Nat),cs=[.slice A xs.length c]∧xs.length≤c∧d.C w A xs.length xs∧
      ((r.1=.nil∧xs=[])∨∃ ys zs,r.1=.slice ys zs∧ys.length=xs.length∧∀ (i:Nat) x y,xs[i]?=some x→ys[i]?=some y→R x y):=by
  rcases DataW.trod_slice ht h with ⟨rfl,rfl⟩ | ⟨a,len,cap,elems,rest,n,rfl,rfl,rfl,hb,hl,hm,hlen,hel2,hsp,hns⟩
  · exact ⟨[],none,0,rfl,Nat.le_refl _,Kd.C_nil _ _,.inl ⟨rfl,rfl⟩⟩
  · have hx : ∀ i,i < len→∃ x cs' q,w.cells? base (a.add (i * Tryd.prog.cellsOf e)) (Tryd.prog.cellsOf e)=some cs'∧d.K w x cs'∧elems[i]?=some q∧R x q.1:=fun i h=>by
      have h1:=hel2 i h
      rw [List.getElem?_eq_getElem (by omega)] at h1
      obtain ⟨cs',hcs,htr⟩:=Option.bind_eq_some_iff.1 h1
      obtain ⟨x,hK,hR⟩:=hel n (by omega) cs' _ htr
      exact ⟨x,cs',_,hcs,hK,List.getElem?_eq_getElem (by omega),hR⟩
    obtain ⟨xs,hlx,hxs⟩ : ∃ xs:List α,xs.length=len∧∀ i x,xs[i]?=some x→∃ cs' q,w.cells? base (a.add (i * Tryd.prog.cellsOf e)) (Tryd.prog.cellsOf e)=some cs'∧d.K w x cs'∧elems[i]?=some q∧R x q.1:=by
      clear hel2 h hm hl hlen hsp hns
      induction len with
      | zero=>exact ⟨[],rfl,fun i x h=>by simp at h⟩
      | succ k ih=>
        obtain ⟨xs,h1,h2⟩:=ih (fun i h=>hx i (by omega))
        obtain ⟨x,hxk⟩:=hx k (by omega)
        refine ⟨xs++[x],by simp [h1],fun i y hy=>?_⟩
        rcases Nat.lt_or_ge i k with hlt|hge
        · rw [List.getElem?_append_left (by omega)] at hy;exact h2 i y hy
        · rw [List.getElem?_append_right (by omega)] at hy
          have:i - xs.length=0:=by
            rcases Nat.eq_zero_or_pos (i - xs.length) with h|h
            · exact h
            · rw [List.getElem?_eq_none (by simp;omega)] at hy;cases hy
          obtain rfl:i=k:=by omega
          rw [this] at hy
          simp at hy
          subst hy
          exact hxk
    refine ⟨xs,some a,cap,by rw [hlx],by omega,?_,.inr ⟨_,_,rfl,by simp [hlx,hlen],?_⟩⟩
    · refine ⟨rfl,by unfold maxLen at hm;omega,fun _=>⟨a,rfl,fun j p hj=>?_⟩⟩
      obtain ⟨cs',_,hcs,hK,_⟩:=hxs j p hj
      obtain ⟨_,hl2,hcell⟩:=World.cells?_some hcs
      refine ⟨cs',by rw [hl2,hc],hK,fun i u hu=>?_⟩
      have hlt:i < Tryd.prog.cellsOf e:=by rw [← hl2];exact (List.getElem?_eq_some_iff.mp hu).1
      have:=hcell i hlt
      rw [Go.Deep.add_add a,hc] at this
      rw [this];exact hu
    · intro i x y hx hy
      obtain ⟨_,q,_,_,hq,hR⟩:=hxs i x hx
      rw [List.getElem?_map,hq] at hy
      obtain rfl:=Option.some.inj hy
      exact hR
theorem sum_bulk {α:Type} {f:α→Nat} {Q:α→Prop} : ∀ {xs:List α} {ys:List (DataW H)},ys.length=xs.length→(∀ (i:Nat) x y,xs[i]?=some x→ys[i]?=some y→f x≤uptoBulk y∧Q x)→(xs.map f).sum≤uptoBulkAll ys∧∀ x ∈ xs,Q x
  | [],ys,_,_=>⟨Nat.zero_le _,fun x h=>by cases h⟩
  | x :: xs,[],h,_=>by simp at h
  | x :: xs,y :: ys,h,hR=>by
    have h0:=hR 0 x y rfl rfl
    obtain ⟨h1,h2⟩:=sum_bulk (f:=f) (Q:=Q) (xs:=xs) (ys:=ys) (by simpa using h) (fun i a b ha hb=>hR (i+1) a b ha hb)
    refine ⟨?_,fun z hz=>?_⟩
    · rw [List.map_cons,List.sum_cons]
      show _≤uptoBulk y+uptoBulkAll ys
      omega
    · rcases List.mem_cons.1 hz with e|hz
      · exact e ▸ h0.2
      · exact h2 z hz
theorem rd_rowB {α:Type} {d:Kd α} {t e:TypeId} {f:α→Nat} {Q:α→Prop} {fuel:Nat} {cs:List Value} {r:DataW H × List MemPlace} (ht:Tryd.prog.underlying t=some (.slice e)) (hc:Tryd.prog.cellsOf e=d.sz)
    (hel : ∀ n,n < fuel→∀ (cs:List Value) (r:DataW H × List MemPlace),DataW.trod enc Tryd.prog w base spare held n e cs=some r→∃ x,d.K w x cs∧f x≤uptoBulk r.1∧Q x)
    (h:DataW.trod enc Tryd.prog w base spare held fuel t cs=some r) :
    ∃ (xs:List α) (A:Option Addr) (c:Nat),cs=[.slice A xs.length c]∧xs.length≤c∧d.C w A xs.length xs∧(xs.map f).sum+1≤uptoBulk r.1∧∀ x ∈ xs,Q x:=by
  obtain ⟨xs,A,c,h1,h2,h3,h4⟩:=rd_row (R:=fun x y=>f x≤uptoBulk y∧Q x) ht hc hel h
  refine ⟨xs,A,c,h1,h2,h3,?_⟩
  rcases h4 with ⟨e1,rfl⟩ | ⟨ys,zs,e1,hl,hR⟩
  · rw [e1];exact ⟨Nat.le_refl _,fun x h=>by cases h⟩
  · obtain ⟨h5,h6⟩:=sum_bulk hl hR
    rw [e1]
    refine ⟨?_,h6⟩
    show _≤uptoBulkAll ys+uptoBulkAll zs+1
    omega
theorem bulkEs_sum (l:List RE):bulkEs l=(l.map bulkE).sum:=by
  induction l with
  | nil=>rfl
  | cons x xs ih=>rw [bulkEs,List.map_cons,List.sum_cons,ih]
theorem bulkSs_sum (l:List RS):bulkSs l=(l.map bulkS).sum:=by
  induction l with
  | nil=>rfl
  | cons x xs ih=>rw [bulkSs,List.map_cons,List.sum_cons,ih]
theorem okEs_all {l:List RE} (h : ∀ x ∈ l,okE x):okEs l:=by
  induction l with
  | nil=>trivial
  | cons x xs ih=>exact ⟨h x (List.mem_cons_self ..),ih (fun y hy=>h y (List.mem_cons_of_mem _ hy))⟩
theorem okSs_all {l:List RS} (h : ∀ x ∈ l,okS x):okSs l:=by
  induction l with
  | nil=>trivial
  | cons x xs ih=>exact ⟨h x (List.mem_cons_self ..),ih (fun y hy=>h y (List.mem_cons_of_mem _ hy))⟩
theorem okI_wf {x:Int} (h:(Lit.int .i64 x).wf=true):okI x:=by
  have h2:IntKind.i64.min≤x∧x≤9223372036854775807:=by simpa [Lit.wf] using h
  rw [show IntKind.i64.min = -9223372036854775808 by decide +kernel] at h2
  exact h2
theorem str_bulk (x:ByteArray):uptoBulk (.lit (.string x.data.toList):DataW H)=x.size+1:=by
  show x.data.toList.length+1=_
  rw [Array.length_toList];rfl
theorem cRE:Tryd.prog.cellsOf 24=5:=by kernel_rfl
theorem cRS:Tryd.prog.cellsOf 29=6:=by kernel_rfl
theorem cREn:Tryd.prog.cellsOf 72=2:=by kernel_rfl
theorem cRV:Tryd.prog.cellsOf 56=3:=by kernel_rfl
theorem cRP:Tryd.prog.cellsOf 69=2:=by kernel_rfl
theorem cRG:Tryd.prog.cellsOf 43=4:=by kernel_rfl
theorem cI:Tryd.prog.cellsOf 3=1:=by kernel_rfl
theorem cS:Tryd.prog.cellsOf 9=1:=by kernel_rfl
theorem cLE:Tryd.prog.cellsOf 22=1:=by kernel_rfl
theorem cLS:Tryd.prog.cellsOf 27=1:=by kernel_rfl
theorem cLT:Tryd.prog.cellsOf 70=1:=by kernel_rfl
theorem cLEn:Tryd.prog.cellsOf 39=1:=by kernel_rfl
theorem cLV:Tryd.prog.cellsOf 40=1:=by kernel_rfl
theorem cLP:Tryd.prog.cellsOf 41=1:=by kernel_rfl
set_option maxRecDepth 100000 in
theorem readE : ∀ (fuel:Nat) (cs:List Value) (r:DataW H × List MemPlace),DataW.trod enc Tryd.prog w base spare held fuel 24 cs=some r→
    ∃ x:RE,(∃ A c,cs=[.string x.f0,.string x.f1,.int .i64 x.f2,.slice A x.f3.length c,.int .i64 x.f4]∧x.f3.length≤c∧Kd.C k24 w A x.f3.length x.f3)∧bulkE x≤uptoBulk r.1∧okE x:=by
  intro fuel
  induction fuel using Nat.strongRecOn with
  | _ fuel ih=>
  intro cs r h
  obtain ⟨xs,n,rfl,rfl,hl,hx,hf⟩:=DataW.trod_struct Tryd.underlying24 h
  rw [cRE] at hl
  match cs,hl with
  | [c0,c1,c2,c3,c4],_=>
    match xs,hx with
    | [y0,y1,y2,y3,y4],_=>
      have h0:DataW.trod enc Tryd.prog w base spare held n 9 [c0]=some y0:=by
        have h:DataW.trod enc Tryd.prog w base spare held n 9 (List.take (Tryd.prog.cellsOf 9) (List.drop 0 [c0,c1,c2,c3,c4]))=some y0:=hf 0 _ rfl
        rw [cS] at h;exact h
      have h1:DataW.trod enc Tryd.prog w base spare held n 9 [c1]=some y1:=by
        have h:DataW.trod enc Tryd.prog w base spare held n 9 (List.take (Tryd.prog.cellsOf 9) (List.drop 1 [c0,c1,c2,c3,c4]))=some y1:=hf 1 _ rfl
        rw [cS] at h;exact h
      have h2:DataW.trod enc Tryd.prog w base spare held n 3 [c2]=some y2:=by
        have h:DataW.trod enc Tryd.prog w base spare held n 3 (List.take (Tryd.prog.cellsOf 3) (List.drop 2 [c0,c1,c2,c3,c4]))=some y2:=hf 2 _ rfl
        rw [cI] at h;exact h
      have h3:DataW.trod enc Tryd.prog w base spare held n 22 [c3]=some y3:=by
        have h:DataW.trod enc Tryd.prog w base spare held n 22 (List.take (Tryd.prog.cellsOf 22) (List.drop 3 [c0,c1,c2,c3,c4]))=some y3:=hf 3 _ rfl
        rw [cLE] at h;exact h
      have h4:DataW.trod enc Tryd.prog w base spare held n 3 [c4]=some y4:=by
        have h:DataW.trod enc Tryd.prog w base spare held n 3 (List.take (Tryd.prog.cellsOf 3) (List.drop 4 [c0,c1,c2,c3,c4]))=some y4:=hf 4 _ rfl
        rw [cI] at h;exact h
      obtain ⟨x0,e0,d0⟩:=rd_str Tryd.underlying9 h0
      obtain ⟨x1,e1,d1⟩:=rd_str Tryd.underlying9 h1
      obtain ⟨x2,e2,d2,w2⟩:=rd_int Tryd.underlying3 h2
      obtain ⟨x3,A3,k3,e3,l3,g3,b3,o3⟩:=rd_rowB (d:=k24) (f:=bulkE) (Q:=okE) Tryd.underlying22 (by rw [cRE];rfl) (fun m hm cs r hr=>by
        obtain ⟨x,⟨A,c,rfl,hl,hC⟩,hb,ho⟩:=ih m (by omega) cs r hr
        exact ⟨x,k24_mk w x hl hC,hb,ho⟩) h3
      obtain ⟨x4,e4,d4,w4⟩:=rd_int Tryd.underlying3 h4
      simp only [List.cons.injEq,and_true] at e0 e1 e2 e3 e4
      subst e0 e1 e2 e3 e4
      refine ⟨⟨x0,x1,x2,x3,x4⟩,⟨A3,k3,rfl,l3,g3⟩,?_,⟨okI_wf w2,okEs_all o3⟩⟩
      rw [bulkE,bulkEs_sum]
      show _≤(uptoBulk y0.1+(uptoBulk y1.1+(uptoBulk y2.1+(uptoBulk y3.1+(uptoBulk y4.1+0)))))+1
      rw [d0,d1,str_bulk,str_bulk]
      omega
theorem readEs (fuel:Nat) (cs:List Value) (r:DataW H × List MemPlace) (h:DataW.trod enc Tryd.prog w base spare held fuel 22 cs=some r) :
    ∃ (l:List RE) (A:Option Addr) (c:Nat),cs=[.slice A l.length c]∧l.length≤c∧Kd.C k24 w A l.length l∧bulkEs l+1≤uptoBulk r.1∧okEs l:=by
  obtain ⟨x3,A3,k3,e3,l3,g3,b3,o3⟩:=rd_rowB (d:=k24) (f:=bulkE) (Q:=okE) Tryd.underlying22 (by rw [cRE];rfl) (fun m hm cs r hr=>by
    obtain ⟨x,⟨A,c,rfl,hl,hC⟩,hb,ho⟩:=readE m cs r hr
    exact ⟨x,k24_mk w x hl hC,hb,ho⟩) h
  exact ⟨x3,A3,k3,e3,l3,g3,by rw [bulkEs_sum];exact b3,okEs_all o3⟩
set_option maxRecDepth 100000 in
theorem readS : ∀ (fuel:Nat) (cs:List Value) (r:DataW H × List MemPlace),DataW.trod enc Tryd.prog w base spare held fuel 29 cs=some r→
    ∃ x:RS,Kd.K k29 w x cs∧bulkS x≤uptoBulk r.1∧okS x:=by
  intro fuel
  induction fuel using Nat.strongRecOn with
  | _ fuel ih=>
  intro cs r h
  obtain ⟨xs,n,rfl,rfl,hl,hx,hf⟩:=DataW.trod_struct Tryd.underlying29 h
  rw [cRS] at hl
  match cs,hl with
  | [c0,c1,c2,c3,c4,c5],_=>
    match xs,hx with
    | [y0,y1,y2,y3,y4,y5],_=>
      have h0:DataW.trod enc Tryd.prog w base spare held n 9 [c0]=some y0:=by
        have h:DataW.trod enc Tryd.prog w base spare held n 9 (List.take (Tryd.prog.cellsOf 9) (List.drop 0 [c0,c1,c2,c3,c4,c5]))=some y0:=hf 0 _ rfl
        rw [cS] at h;exact h
      have h1:DataW.trod enc Tryd.prog w base spare held n 9 [c1]=some y1:=by
        have h:DataW.trod enc Tryd.prog w base spare held n 9 (List.take (Tryd.prog.cellsOf 9) (List.drop 1 [c0,c1,c2,c3,c4,c5]))=some y1:=hf 1 _ rfl
        rw [cS] at h;exact h
      have h2:DataW.trod enc Tryd.prog w base spare held n 22 [c2]=some y2:=by
        have h:DataW.trod enc Tryd.prog w base spare held n 22 (List.take (Tryd.prog.cellsOf 22) (List.drop 2 [c0,c1,c2,c3,c4,c5]))=some y2:=hf 2 _ rfl
        rw [cLE] at h;exact h
      have h3:DataW.trod enc Tryd.prog w base spare held n 27 [c3]=some y3:=by
        have h:DataW.trod enc Tryd.prog w base spare held n 27 (List.take (Tryd.prog.cellsOf 27) (List.drop 3 [c0,c1,c2,c3,c4,c5]))=some y3:=hf 3 _ rfl
        rw [cLS] at h;exact h
      have h4:DataW.trod enc Tryd.prog w base spare held n 27 [c4]=some y4:=by
        have h:DataW.trod enc Tryd.prog w base spare held n 27 (List.take (Tryd.prog.cellsOf 27) (List.drop 4 [c0,c1,c2,c3,c4,c5]))=some y4:=hf 4 _ rfl
        rw [cLS] at h;exact h
      have h5:DataW.trod enc Tryd.prog w base spare held n 3 [c5]=some y5:=by
        have h:DataW.trod enc Tryd.prog w base spare held n 3 (List.take (Tryd.prog.cellsOf 3) (List.drop 5 [c0,c1,c2,c3,c4,c5]))=some y5:=hf 5 _ rfl
        rw [cI] at h;exact h
      obtain ⟨x0,e0,d0⟩:=rd_str Tryd.underlying9 h0
      obtain ⟨x1,e1,d1⟩:=rd_str Tryd.underlying9 h1
      obtain ⟨x2,A2,k2,e2,l2,g2,b2,o2⟩:=readEs n _ _ h2
      obtain ⟨x3,A3,k3,e3,l3,g3,b3,o3⟩:=rd_rowB (d:=k29) (f:=bulkS) (Q:=okS) Tryd.underlying27 (by rw [cRS];rfl) (fun m hm cs r hr=>ih m (by omega) cs r hr) h3
      obtain ⟨x4,A4,k4,e4,l4,g4,b4,o4⟩:=rd_rowB (d:=k29) (f:=bulkS) (Q:=okS) Tryd.underlying27 (by rw [cRS];rfl) (fun m hm cs r hr=>ih m (by omega) cs r hr) h4
      obtain ⟨x5,e5,d5,w5⟩:=rd_int Tryd.underlying3 h5
      simp only [List.cons.injEq,and_true] at e0 e1 e2 e3 e4 e5
      subst e0 e1 e2 e3 e4 e5
      refine ⟨⟨x0,x1,x2,x3,x4,x5⟩,k29_mk w ⟨x0,x1,x2,x3,x4,x5⟩ l2 g2 l3 g3 l4 g4,?_,⟨o2,okSs_all o3,okSs_all o4⟩⟩
      rw [bulkS,bulkSs_sum,bulkSs_sum]
      show _≤(uptoBulk y0.1+(uptoBulk y1.1+(uptoBulk y2.1+(uptoBulk y3.1+(uptoBulk y4.1+(uptoBulk y5.1+0))))))+1
      rw [d0,d1,str_bulk,str_bulk]
      omega
theorem readSs (fuel:Nat) (cs:List Value) (r:DataW H × List MemPlace) (h:DataW.trod enc Tryd.prog w base spare held fuel 27 cs=some r) :
    ∃ (l:List RS) (A:Option Addr) (c:Nat),cs=[.slice A l.length c]∧l.length≤c∧Kd.C k29 w A l.length l∧bulkSs l+1≤uptoBulk r.1∧okSs l:=by
  obtain ⟨x3,A3,k3,e3,l3,g3,b3,o3⟩:=rd_rowB (d:=k29) (f:=bulkS) (Q:=okS) Tryd.underlying27 (by rw [cRS];rfl) (fun m hm cs r hr=>readS m cs r hr) h
  exact ⟨x3,A3,k3,e3,l3,g3,by rw [bulkSs_sum];exact b3,okSs_all o3⟩
theorem readStrs (fuel:Nat) (cs:List Value) (r:DataW H × List MemPlace) (h:DataW.trod enc Tryd.prog w base spare held fuel 70 cs=some r) :
    ∃ (l:List ByteArray) (A:Option Addr) (c:Nat),cs=[.slice A l.length c]∧l.length≤c∧Kd.C Kd.string w A l.length l∧bulkN l+1≤uptoBulk r.1:=by
  obtain ⟨x3,A3,k3,e3,l3,g3,b3,o3⟩:=rd_rowB (d:=Kd.string) (f:=fun x:ByteArray=>x.size+1) (Q:=fun _=>True) Tryd.underlying70 (by rw [cS];rfl) (fun m hm cs r hr=>by
    obtain ⟨x,rfl,hd⟩:=rd_str Tryd.underlying9 hr
    exact ⟨x,rfl,by rw [hd,str_bulk];exact Nat.le_refl _,trivial⟩) h
  exact ⟨x3,A3,k3,e3,l3,g3,b3⟩
set_option maxRecDepth 100000 in
theorem readEn (fuel:Nat) (cs:List Value) (r:DataW H × List MemPlace) (h:DataW.trod enc Tryd.prog w base spare held fuel 72 cs=some r) :
    ∃ x:REn,Kd.K k72 w x cs∧bulkEn x≤uptoBulk r.1:=by
  obtain ⟨xs,n,rfl,rfl,hl,hx,hf⟩:=DataW.trod_struct Tryd.underlying72 h
  rw [cREn] at hl
  match cs,hl with
  | [c0,c1],_=>
    match xs,hx with
    | [y0,y1],_=>
      have h0:DataW.trod enc Tryd.prog w base spare held n 9 [c0]=some y0:=by
        have h:DataW.trod enc Tryd.prog w base spare held n 9 (List.take (Tryd.prog.cellsOf 9) (List.drop 0 [c0,c1]))=some y0:=hf 0 _ rfl
        rw [cS] at h;exact h
      have h1:DataW.trod enc Tryd.prog w base spare held n 70 [c1]=some y1:=by
        have h:DataW.trod enc Tryd.prog w base spare held n 70 (List.take (Tryd.prog.cellsOf 70) (List.drop 1 [c0,c1]))=some y1:=hf 1 _ rfl
        rw [cLT] at h;exact h
      obtain ⟨x0,e0,d0⟩:=rd_str Tryd.underlying9 h0
      obtain ⟨x1,A1,k1,e1,l1,g1,b1⟩:=readStrs n _ _ h1
      simp only [List.cons.injEq,and_true] at e0 e1
      subst e0 e1
      refine ⟨⟨x0,x1⟩,k72_mk w ⟨x0,x1⟩ l1 g1,?_⟩
      show x0.size+bulkN x1+1≤(uptoBulk y0.1+(uptoBulk y1.1+0))+1
      rw [d0,str_bulk]
      omega
set_option maxRecDepth 100000 in
theorem readV (fuel:Nat) (cs:List Value) (r:DataW H × List MemPlace) (h:DataW.trod enc Tryd.prog w base spare held fuel 56 cs=some r) :
    ∃ x:RV,Kd.K k56 w x cs∧bulkV x≤uptoBulk r.1∧okI x.f2:=by
  obtain ⟨xs,n,rfl,rfl,hl,hx,hf⟩:=DataW.trod_struct Tryd.underlying56 h
  rw [cRV] at hl
  match cs,hl with
  | [c0,c1,c2],_=>
    match xs,hx with
    | [y0,y1,y2],_=>
      have h0:DataW.trod enc Tryd.prog w base spare held n 9 [c0]=some y0:=by
        have h:DataW.trod enc Tryd.prog w base spare held n 9 (List.take (Tryd.prog.cellsOf 9) (List.drop 0 [c0,c1,c2]))=some y0:=hf 0 _ rfl
        rw [cS] at h;exact h
      have h1:DataW.trod enc Tryd.prog w base spare held n 9 [c1]=some y1:=by
        have h:DataW.trod enc Tryd.prog w base spare held n 9 (List.take (Tryd.prog.cellsOf 9) (List.drop 1 [c0,c1,c2]))=some y1:=hf 1 _ rfl
        rw [cS] at h;exact h
      have h2:DataW.trod enc Tryd.prog w base spare held n 3 [c2]=some y2:=by
        have h:DataW.trod enc Tryd.prog w base spare held n 3 (List.take (Tryd.prog.cellsOf 3) (List.drop 2 [c0,c1,c2]))=some y2:=hf 2 _ rfl
        rw [cI] at h;exact h
      obtain ⟨x0,e0,d0⟩:=rd_str Tryd.underlying9 h0
      obtain ⟨x1,e1,d1⟩:=rd_str Tryd.underlying9 h1
      obtain ⟨x2,e2,d2,w2⟩:=rd_int Tryd.underlying3 h2
      simp only [List.cons.injEq,and_true] at e0 e1 e2
      subst e0 e1 e2
      refine ⟨⟨x0,x1,x2⟩,k56_mk w ⟨x0,x1,x2⟩,?_,okI_wf w2⟩
      show x0.size+x1.size+1≤(uptoBulk y0.1+(uptoBulk y1.1+(uptoBulk y2.1+0)))+1
      rw [d0,d1,str_bulk,str_bulk]
      omega
set_option maxRecDepth 100000 in
theorem readPr (fuel:Nat) (cs:List Value) (r:DataW H × List MemPlace) (h:DataW.trod enc Tryd.prog w base spare held fuel 69 cs=some r) :
    ∃ x:RP,Kd.K k69 w x cs∧bulkPr x≤uptoBulk r.1∧okSs x.f1:=by
  obtain ⟨xs,n,rfl,rfl,hl,hx,hf⟩:=DataW.trod_struct Tryd.underlying69 h
  rw [cRP] at hl
  match cs,hl with
  | [c0,c1],_=>
    match xs,hx with
    | [y0,y1],_=>
      have h0:DataW.trod enc Tryd.prog w base spare held n 9 [c0]=some y0:=by
        have h:DataW.trod enc Tryd.prog w base spare held n 9 (List.take (Tryd.prog.cellsOf 9) (List.drop 0 [c0,c1]))=some y0:=hf 0 _ rfl
        rw [cS] at h;exact h
      have h1:DataW.trod enc Tryd.prog w base spare held n 27 [c1]=some y1:=by
        have h:DataW.trod enc Tryd.prog w base spare held n 27 (List.take (Tryd.prog.cellsOf 27) (List.drop 1 [c0,c1]))=some y1:=hf 1 _ rfl
        rw [cLS] at h;exact h
      obtain ⟨x0,e0,d0⟩:=rd_str Tryd.underlying9 h0
      obtain ⟨x1,A1,k1,e1,l1,g1,b1,o1⟩:=readSs n _ _ h1
      simp only [List.cons.injEq,and_true] at e0 e1
      subst e0 e1
      refine ⟨⟨x0,x1⟩,k69_mk w ⟨x0,x1⟩ l1 g1,?_,o1⟩
      show x0.size+bulkSs x1+1≤(uptoBulk y0.1+(uptoBulk y1.1+0))+1
      rw [d0,str_bulk]
      omega
set_option maxRecDepth 100000 in
theorem readProg (fuel:Nat) (cs:List Value) (r:DataW H × List MemPlace) (h:DataW.trod enc Tryd.prog w base spare held fuel 43 cs=some r) :
    ∃ (e:List REn) (v:List RV) (p:List RP) (m:List RS) (A0 A1 A2 A3:Option Addr) (c0 c1 c2 c3:Nat),cs=[.slice A0 e.length c0,.slice A1 v.length c1,.slice A2 p.length c2,.slice A3 m.length c3]∧
      Kd.C k72 w A0 e.length e∧e.length≤c0∧Kd.C k56 w A1 v.length v∧v.length≤c1∧Kd.C k69 w A2 p.length p∧p.length≤c2∧Kd.C k29 w A3 m.length m∧m.length≤c3∧
      bulkP e v p m≤uptoBulk r.1∧okP v p m:=by
  obtain ⟨xs,n,rfl,rfl,hl,hx,hf⟩:=DataW.trod_struct Tryd.underlying43 h
  rw [cRG] at hl
  match cs,hl with
  | [c0,c1,c2,c3],_=>
    match xs,hx with
    | [y0,y1,y2,y3],_=>
      have h0:DataW.trod enc Tryd.prog w base spare held n 39 [c0]=some y0:=by
        have h:DataW.trod enc Tryd.prog w base spare held n 39 (List.take (Tryd.prog.cellsOf 39) (List.drop 0 [c0,c1,c2,c3]))=some y0:=hf 0 _ rfl
        rw [cLEn] at h;exact h
      have h1:DataW.trod enc Tryd.prog w base spare held n 40 [c1]=some y1:=by
        have h:DataW.trod enc Tryd.prog w base spare held n 40 (List.take (Tryd.prog.cellsOf 40) (List.drop 1 [c0,c1,c2,c3]))=some y1:=hf 1 _ rfl
        rw [cLV] at h;exact h
      have h2:DataW.trod enc Tryd.prog w base spare held n 41 [c2]=some y2:=by
        have h:DataW.trod enc Tryd.prog w base spare held n 41 (List.take (Tryd.prog.cellsOf 41) (List.drop 2 [c0,c1,c2,c3]))=some y2:=hf 2 _ rfl
        rw [cLP] at h;exact h
      have h3:DataW.trod enc Tryd.prog w base spare held n 27 [c3]=some y3:=by
        have h:DataW.trod enc Tryd.prog w base spare held n 27 (List.take (Tryd.prog.cellsOf 27) (List.drop 3 [c0,c1,c2,c3]))=some y3:=hf 3 _ rfl
        rw [cLS] at h;exact h
      obtain ⟨x0,A0,k0,e0,l0,g0,b0,_⟩:=rd_rowB (d:=k72) (f:=bulkEn) (Q:=fun _=>True) Tryd.underlying39 (by rw [cREn];rfl) (fun m hm cs r hr=>by
        obtain ⟨x,hK,hb⟩:=readEn m cs r hr
        exact ⟨x,hK,hb,trivial⟩) h0
      obtain ⟨x1,A1,k1,e1,l1,g1,b1,o1⟩:=rd_rowB (d:=k56) (f:=bulkV) (Q:=fun x=>okI x.f2) Tryd.underlying40 (by rw [cRV];rfl) (fun m hm cs r hr=>readV m cs r hr) h1
      obtain ⟨x2,A2,k2,e2,l2,g2,b2,o2⟩:=rd_rowB (d:=k69) (f:=bulkPr) (Q:=fun x=>okSs x.f1) Tryd.underlying41 (by rw [cRP];rfl) (fun m hm cs r hr=>readPr m cs r hr) h2
      obtain ⟨x3,A3,k3,e3,l3,g3,b3,o3⟩:=readSs n _ _ h3
      simp only [List.cons.injEq,and_true] at e0 e1 e2 e3
      subst e0 e1 e2 e3
      refine ⟨x0,x1,x2,x3,A0,A1,A2,A3,k0,k1,k2,k3,rfl,g0,l0,g1,l1,g2,l2,g3,l3,?_,⟨o1,o2,o3⟩⟩
      unfold bulkP
      show _≤(uptoBulk y0.1+(uptoBulk y1.1+(uptoBulk y2.1+(uptoBulk y3.1+0))))+1
      omega
end
end Go.Proofs.YtnnbbeloifhofaaDoor.P
end
