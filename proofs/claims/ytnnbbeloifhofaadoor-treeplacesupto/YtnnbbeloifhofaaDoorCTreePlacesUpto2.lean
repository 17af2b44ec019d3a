/- Texts of this claim, joined. -/
import Derived.Test.YtnnbbeloifhofaaDoorCTreePlacesUpto0
import Derived.Test.YtnnbbeloifhofaaDoorCTreePlacesUpto1
import Derived.Lib.ItoaLen
section
namespace Go.Proofs.YtnnbbeloifhofaaDoor.P
open Go.RowKit Go.Proofs.YtnnbbeloifhofaaDoorW.PrintWords Go.Proofs.YtnnbbeloifhofaaDoorW.PrintLast Go.Proofs.YtnnbbeloifhofaaDoorW.PrintMore
attribute [local go_sem] max2_int min2_int max_two min_two max_three min_three max_four min_four
set_option linter.unusedVariables false
set_option linter.unusedSimpArgs false
mutual
def helmsmanlaw12_Stmts.l0:Nat→List (S76)→List (S29)→Int→Int→Option ((List (S76)))
 | 0,_,_,_,_=>none
 | k+1,x3,x9,x10,x11=>if x11 < x10 then (if 0≤x11 then (if x11 < (x9.length:Int) then ((helmsmanlaw12_Stmts.f k ((rd_T29 x9 x11).f3)).bind fun t182=>((helmsmanlaw12_Stmts.f k ((rd_T29 x9 x11).f4)).bind fun t185=>(helmsmanlaw12_Stmts.l1 k x3 x9 x10 x11 ((rd_T29 x9 x11).f2) (((rd_T29 x9 x11).f2).length:Int) 0 ((rd_T29 x9 x11).f0) ((rd_T29 x9 x11).f1) ([]:List (S33)) t182 t185 ((rd_T29 x9 x11).f5)))) else (none)) else (none)) else (some x3)
def helmsmanlaw12_Stmts.l1:Nat→List (S76)→List (S29)→Int→Int→List (S24)→Int→Int→ByteArray→ByteArray→List (S33)→List (S76)→List (S76)→Int→Option ((List (S76)))
 | 0,_,_,_,_,_,_,_,_,_,_,_,_,_=>none
 | k+1,x3,x9,x10,x11,x29,x30,x31,x189000,x189001,x189002,x189003,x189004,x189005=>if x31 < x30 then (if 0≤x31 then (if x31 < (x29.length:Int) then ((helmsmanlaw12_Expr.f k ((rd_T24 x29 x31).f0) ((rd_T24 x29 x31).f1) ((rd_T24 x29 x31).f2) ((rd_T24 x29 x31).f3) ((rd_T24 x29 x31).f4)).bind fun bt191=>(if x189002.length < 1954687338268 then (helmsmanlaw12_Stmts.l1 k x3 x9 x10 x11 x29 x30 (wrap64 (x31+1)) x189000 x189001 (x189002++[(⟨bt191.1,bt191.2.1,bt191.2.2.1,bt191.2.2.2.1,bt191.2.2.2.2⟩:S33)]) x189003 x189004 x189005) else (none))) else (none)) else (none)) else (if x3.length < 1256584717458 then (helmsmanlaw12_Stmts.l0 k (x3++[(⟨x189000,x189001,x189002,x189003,x189004,x189005⟩:S76)]) x9 x10 (wrap64 (x11+1))) else (none))
def helmsmanlaw12_Stmts.f:Nat→List (S29)→Option ((List (S76)))
 | 0,_=>none
 | k+1,l0=>helmsmanlaw12_Stmts.l0 k ([]:List (S76)) l0 (l0.length:Int) 0
end
def helmsmanlaw12_Stmts.T5:Bool × List (List Nat × List Nat):=(true,[([],[]),([0],[0]),([],[]),([2],[2]),([],[]),([4],[4]),([],[]),([6],[6]),([7],[7]),([],[]),([9],[9]),([10,8],[10]),([1,3,5,8,11],[1,3,5,8,11]),([],[]),([13,12,11,0,1,2,3,4,5,6,7,8,9,10,11,12,13],[12,13])])
def helmsmanlaw12_Stmts.B5:List Nat:=[0,1,0,4,0,16,0,64,192,0,512,1984,4095,0,16383]
theorem helmsmanlaw12_Stmts.tab5:rtab .any (opsOf Tryd.f24 5)=helmsmanlaw12_Stmts.T5:=by kernel_rfl
theorem helmsmanlaw12_Stmts.bits5:waitsOk helmsmanlaw12_Stmts.T5.2 helmsmanlaw12_Stmts.B5=true:=by kernel_rfl
def helmsmanlaw12_Stmts.T9:Bool × List (List Nat × List Nat):=(true,[([],[]),([0],[0]),([],[]),([2],[2]),([3],[3]),([1,4,3],[1,4]),([0,1,2,3,4,5],[]),([6,5,5,0,1,2,3,4,5],[5,6])])
def helmsmanlaw12_Stmts.B9:List Nat:=[0,1,0,4,12,31,63,127]
theorem helmsmanlaw12_Stmts.tab9:rtab .any (opsOf Tryd.f24 9)=helmsmanlaw12_Stmts.T9:=by kernel_rfl
theorem helmsmanlaw12_Stmts.bits9:waitsOk helmsmanlaw12_Stmts.T9.2 helmsmanlaw12_Stmts.B9=true:=by kernel_rfl
set_option maxHeartbeats 8000000 in
set_option maxRecDepth 100000 in
theorem helmsmanlaw12_Stmts.calls (k:Nat) : ∀ (A0:Option Addr) (c0:Nat) (l0:List (S29)) (r:List (S76)) (w:World) (hr0:Kd.C k29 w A0 l0.length l0) (hc0:l0.length≤c0) (h:helmsmanlaw12_Stmts.f k l0=some r),
  Calls Tryd.prog 24 #[.slice A0 l0.length c0] w fun e w'=>∃ v0_:Value,e=.returned (v0_)∧Kd.R k76 76 w' w.heap.size (fun _=>True) v0_ r∧Below w.heap.size w w':=by
 induction k using Nat.strongRecOn with
 | _ k ih=>
 intro A0 c0 l0 r w hr0 hc0 h
 cases k with
 | zero=>exact absurd h (by simp [helmsmanlaw12_Stmts.f])
 | succ k=>
 simp only [helmsmanlaw12_Stmts.f] at h
 have hu29:=Tryd.underlying29
 have hu76:=Tryd.underlying76
 have hu24:=Tryd.underlying24
 have HR0:=Aside0.mk hr0
 have HC0:=Aside0.mk hc0
 clear hr0 hc0
 have HB:=Aside0.mk (Below.refl w.heap.size w)
 have H:(helmsmanlaw12_Stmts.l0 k ([]:List (S76)) l0 (l0.length:Int) 0)=some r:=h
 clear h
 have H':=Aside0.mk H
 clear H
 go_enter Tryd.func24,Tryd.ntmps24
 go_wp2
 (try simp only [Act.put,List.setIfInBounds_toArray,List.set_cons_succ,List.set_cons_zero])
 go_loopg [3,11] k (fun kq v3 v11 w'=>∃ (x3_1:List (S76)) (x11_1:Int),v11=.int .i64 x11_1∧Aside0 (helmsmanlaw12_Stmts.l0 kq x3_1 l0 (l0.length:Int) x11_1=some r)∧Aside0 (kq≤k)∧Aside0 (Kd.R k76 76 w' w.heap.size (fun _=>True) v3 x3_1)∧Aside0 (Below w.heap.size w w'))
 case atStart=>exact ⟨(([]:List (S76))),(0),rf_,H',⟨Nat.le_refl _⟩,⟨by first|exact Kd.R_nil _ _ _ _ _|exact Kd.N_nil _ _ _ _ _|exact Kd.V_nil _ _ _ _ _|exact Kd.Q_nil _ _ _ _ _|exact Kd.S_nil _ _ _ _ _⟩,⟨bl_ HB.out⟩⟩
 case round=>
  clear H'
  obtain ⟨x3_1,x11_1,rfl,HA,HK1,HO_3,HB⟩:=hrel
  cases gk with
  | zero=>exact absurd HA.out (by simp [helmsmanlaw12_Stmts.l0])
  | succ k1=>
   have H:=HA.out
   clear HA
   simp only [helmsmanlaw12_Stmts.l0] at H
   by_cases c2:x11_1 < (l0.length:Int)
   ·rw [if_pos c2] at H
    have c2b0:decide (x11_1 < (l0.length:Int))=true:=decide_eq_true c2
    clear c2
    by_cases c3:0≤x11_1
    ·rw [if_pos c3] at H
     have c3b0:decide (0≤x11_1)=true:=decide_eq_true c3
     clear c3
     by_cases c4:x11_1 < (l0.length:Int)
     ·rw [if_pos c4] at H
      have c4b0:decide (x11_1 < (l0.length:Int))=true:=decide_eq_true c4
      clear c4
      replace H:=Option.bind_eq_some_iff.mp H
      obtain ⟨t182,A50,H⟩:=H
      replace H:((helmsmanlaw12_Stmts.f k1 ((rd_T29 l0 x11_1).f4)).bind fun t185=>(helmsmanlaw12_Stmts.l1 k1 x3_1 l0 (l0.length:Int) x11_1 ((rd_T29 l0 x11_1).f2) (((rd_T29 l0 x11_1).f2).length:Int) 0 ((rd_T29 l0 x11_1).f0) ((rd_T29 l0 x11_1).f1) ([]:List (S33)) t182 t185 ((rd_T29 l0 x11_1).f5)))=some r:=H
      have A5:=Aside0.mk A50
      clear A50
      replace H:=Option.bind_eq_some_iff.mp H
      obtain ⟨t185,A60,H⟩:=H
      replace H:(helmsmanlaw12_Stmts.l1 k1 x3_1 l0 (l0.length:Int) x11_1 ((rd_T29 l0 x11_1).f2) (((rd_T29 l0 x11_1).f2).length:Int) 0 ((rd_T29 l0 x11_1).f0) ((rd_T29 l0 x11_1).f1) ([]:List (S33)) t182 t185 ((rd_T29 l0 x11_1).f5))=some r:=H
      have A6:=Aside0.mk A60
      clear A60
      have H':=Aside0.mk H
      clear H
      have p180:0≤(x11_1:Int):=of_decide_eq_true as_
      have q180:x11_1 < (l0.length:Int):=of_decide_eq_true as_
      obtain ⟨ad180,A180_2,c180_2,A180_3,c180_3,A180_4,c180_4,e180,hx180_0,hx180_1,hx180_2,hx180_3,hx180_4,hx180_5,hl180_2,hi180_2,hl180_3,hi180_3,hl180_4,hi180_4⟩:=at_T29 HR0.out x11_1 p180 q180
      cases e180
      replace hx180_0:=(cb_ HB.out hx180_0:_)
      replace hx180_1:=(cb_ HB.out hx180_1:_)
      replace hx180_2:=(cb_ HB.out hx180_2:_)
      replace hx180_3:=(cb_ HB.out hx180_3:_)
      replace hx180_4:=(cb_ HB.out hx180_4:_)
      replace hx180_5:=(cb_ HB.out hx180_5:_)
      have HR180_2:=Aside0.mk hi180_2
      have HC180_2:=Aside0.mk hl180_2
      clear hi180_2 hl180_2
      have HR180_3:=Aside0.mk hi180_3
      have HC180_3:=Aside0.mk hl180_3
      clear hi180_3 hl180_3
      have HR180_4:=Aside0.mk hi180_4
      have HC180_4:=Aside0.mk hl180_4
      clear hi180_4 hl180_4
      replace p180:=eq_true p180
      replace q180:=eq_true q180
      try go_wp2_with (first|((with_reducible refine gate_dst (N:=5) rfl ?_);refine box_event ?hg (N:=5) ?hd (cs:=#[.string (⟨#[]⟩:ByteArray),.string (⟨#[]⟩:ByteArray),.slice none 0 0,.slice none 0 0,.slice none 0 0,.int .i64 0]) (t:=29) ?hr ?_;(case hd=>rfl);(case hg=>rfl);(case hr=>first|(go_simp;done)|(go_simp;rfl));intro gb181 hg w7 hbox hb;have n0_:=Aside0.mk (Kd.R_below (by (with_reducible repeat (first|apply Kd.R_alloc|apply Kd.R_drewN|apply Kd.R_drew));exact HO_3.out) hb);have n1_:=Aside0.mk (below_step (bl_ HB.out) hb);have n2_:=Aside0.mk (hbox);have n3_:=Aside0.mk ((gs_ hg (bl_ HB.out):w.heap.size≤gb181));have n4_:=Aside0.mk ((gs_ hg (bl_ HB.out):w.heap.size≤gb181));clear HO_3;clear HB;have HO_3:=n0_;have HB:=n1_;have BK181:=n2_;have GW181:=n3_;have GE181:=n4_;clear n0_ n1_ n2_ n3_ n4_;clear hb hbox hg;have hcz8_0:w7.cell? ⟨gb181,0,none⟩=some (.string (⟨#[]⟩:ByteArray)):=zc_ BK181.out 0;have hcz8_1:w7.cell? ⟨gb181,1,none⟩=some (.string (⟨#[]⟩:ByteArray)):=zc_ BK181.out 1;have hcz8_2:w7.cell? ⟨gb181,2,none⟩=some (.slice none 0 0):=zc_ BK181.out 2;have hcz8_3:w7.cell? ⟨gb181,3,none⟩=some (.slice none 0 0):=zc_ BK181.out 3;have hcz8_4:w7.cell? ⟨gb181,4,none⟩=some (.slice none 0 0):=zc_ BK181.out 4;have hcz8_5:w7.cell? ⟨gb181,5,none⟩=some (.int .i64 0):=zc_ BK181.out 5;have hfz8_0:=blk_frozen BK181.out 0;have hfz8_1:=blk_frozen BK181.out 1;have hfz8_2:=blk_frozen BK181.out 2;have hfz8_3:=blk_frozen BK181.out 3;have hfz8_4:=blk_frozen BK181.out 4;have hfz8_5:=blk_frozen BK181.out 5))
      have n0_:Aside0 (Kd.R k76 76 ((((((w7.setCell ⟨gb181,0,none⟩ (.string ((rd_T29 l0 x11_1).f0))).setCell ⟨gb181,1,none⟩ (.string ((rd_T29 l0 x11_1).f1))).setCell ⟨gb181,2,none⟩ (.slice A180_2 ((rd_T29 l0 x11_1).f2).length c180_2)).setCell ⟨gb181,3,none⟩ (.slice A180_3 ((rd_T29 l0 x11_1).f3).length c180_3)).setCell ⟨gb181,4,none⟩ (.slice A180_4 ((rd_T29 l0 x11_1).f4).length c180_4)).setCell ⟨gb181,5,none⟩ (.int .i64 ((rd_T29 l0 x11_1).f5))) w.heap.size (fun _=>True) u3 x3_1):=⟨by (with_reducible repeat (first|apply Kd.R_alloc|apply Kd.R_drewN|apply Kd.R_drew));exact Kd.R_mono (Kd.R_far (p:=⟨gb181,5,none⟩) (Kd.R_far (p:=⟨gb181,4,none⟩) (Kd.R_far (p:=⟨gb181,3,none⟩) (Kd.R_far (p:=⟨gb181,2,none⟩) (Kd.R_far (p:=⟨gb181,1,none⟩) (Kd.R_far (p:=⟨gb181,0,none⟩) (Kd.R_types HO_3.out BK181.out (by decide)) (fun _ hk=>hk.2) (.string ((rd_T29 l0 x11_1).f0))) (fun _ hk=>hk.2) (.string ((rd_T29 l0 x11_1).f1))) (fun _ hk=>hk.2) (.slice A180_2 ((rd_T29 l0 x11_1).f2).length c180_2)) (fun _ hk=>hk.2) (.slice A180_3 ((rd_T29 l0 x11_1).f3).length c180_3)) (fun _ hk=>hk.2) (.slice A180_4 ((rd_T29 l0 x11_1).f4).length c180_4)) (fun _ hk=>hk.2) (.int .i64 ((rd_T29 l0 x11_1).f5))) (fun _ hk=>trivial)⟩
      have n1_:Aside0 (((((((w7.setCell ⟨gb181,0,none⟩ (.string ((rd_T29 l0 x11_1).f0))).setCell ⟨gb181,1,none⟩ (.string ((rd_T29 l0 x11_1).f1))).setCell ⟨gb181,2,none⟩ (.slice A180_2 ((rd_T29 l0 x11_1).f2).length c180_2)).setCell ⟨gb181,3,none⟩ (.slice A180_3 ((rd_T29 l0 x11_1).f3).length c180_3)).setCell ⟨gb181,4,none⟩ (.slice A180_4 ((rd_T29 l0 x11_1).f4).length c180_4)).setCell ⟨gb181,5,none⟩ (.int .i64 ((rd_T29 l0 x11_1).f5))).heap[gb181]?=some (.cells #[.string ((rd_T29 l0 x11_1).f0),.string ((rd_T29 l0 x11_1).f1),.slice A180_2 ((rd_T29 l0 x11_1).f2).length c180_2,.slice A180_3 ((rd_T29 l0 x11_1).f3).length c180_3,.slice A180_4 ((rd_T29 l0 x11_1).f4).length c180_4,.int .i64 ((rd_T29 l0 x11_1).f5)] 29 (0,0))):=⟨kbc_ BK181.out⟩
      have n2_:Aside0 (Below w.heap.size w ((((((w7.setCell ⟨gb181,0,none⟩ (.string ((rd_T29 l0 x11_1).f0))).setCell ⟨gb181,1,none⟩ (.string ((rd_T29 l0 x11_1).f1))).setCell ⟨gb181,2,none⟩ (.slice A180_2 ((rd_T29 l0 x11_1).f2).length c180_2)).setCell ⟨gb181,3,none⟩ (.slice A180_3 ((rd_T29 l0 x11_1).f3).length c180_3)).setCell ⟨gb181,4,none⟩ (.slice A180_4 ((rd_T29 l0 x11_1).f4).length c180_4)).setCell ⟨gb181,5,none⟩ (.int .i64 ((rd_T29 l0 x11_1).f5)))):=⟨bl_ HB.out⟩
      (try clear HO_3)
      (try clear BK181)
      (try clear HB)
      generalize ((((((w7.setCell ⟨gb181,0,none⟩ (.string ((rd_T29 l0 x11_1).f0))).setCell ⟨gb181,1,none⟩ (.string ((rd_T29 l0 x11_1).f1))).setCell ⟨gb181,2,none⟩ (.slice A180_2 ((rd_T29 l0 x11_1).f2).length c180_2)).setCell ⟨gb181,3,none⟩ (.slice A180_3 ((rd_T29 l0 x11_1).f3).length c180_3)).setCell ⟨gb181,4,none⟩ (.slice A180_4 ((rd_T29 l0 x11_1).f4).length c180_4)).setCell ⟨gb181,5,none⟩ (.int .i64 ((rd_T29 l0 x11_1).f5)))=w9 at n0_ n1_ n2_ ⊢
      have HO_3:=n0_
      have BK181:=n1_
      have HB:=n2_
      clear n0_ n1_ n2_
      have n0_:=Aside0.mk (Kd.R_drew HO_3.out)
      have n1_:=Aside0.mk (blk_drew BK181.out)
      have n2_:=Aside0.mk (below_drew1 HB.out)
      clear HO_3
      clear BK181
      clear HB
      have HO_3:=n0_
      have BK181:=n1_
      have HB:=n2_
      clear n0_ n1_ n2_
      refine start_ (n:=15) (S:=fun w'=>w'.cell? ⟨gb181,0,none⟩=some (.string ((rd_T29 l0 x11_1).f0))∧w'.cell? ⟨gb181,1,none⟩=some (.string ((rd_T29 l0 x11_1).f1))∧w'.cell? ⟨gb181,2,none⟩=some (.slice A180_2 ((rd_T29 l0 x11_1).f2).length c180_2)∧w'.cell? ⟨gb181,3,none⟩=some (.slice A180_3 ((rd_T29 l0 x11_1).f3).length c180_3)∧w'.cell? ⟨gb181,4,none⟩=some (.slice A180_4 ((rd_T29 l0 x11_1).f4).length c180_4)∧w'.cell? ⟨gb181,5,none⟩=some (.int .i64 ((rd_T29 l0 x11_1).f5))) (ds:=[]) (flg 15 0) (by kernel_rfl) rfl (by kernel_rfl) ⟨zc_ BK181.out 0,zc_ BK181.out 1,zc_ BK181.out 2,zc_ BK181.out 3,zc_ BK181.out 4,zc_ BK181.out 5⟩ (fun hHeld=>?_);refine with_tabW helmsmanlaw12_Stmts.tab5 helmsmanlaw12_Stmts.bits5 (fun HT_ HW_=>?_)
      generalize w9.drew=w10 at HO_3 BK181 HB hHeld ⊢
      refine pur_ 0 15 (flg 15 1) rfl rfl (any_of HT_.out (by kernel_rfl)) (fun _ _ _ h=>h) ?_
      refine pur_ 2 17 (flg 15 5) rfl rfl (any_of HT_.out (by kernel_rfl)) (fun _ _ _ h=>h) ?_
      refine pur_ 4 19 (flg 15 21) rfl rfl (any_of HT_.out (by kernel_rfl)) (fun _ _ _ h=>h) ?_
      refine pur_ 6 21 (flg 15 85) rfl rfl (any_of HT_.out (by kernel_rfl)) (fun _ _ _ h=>h) ?_
      refine pur_ 9 24 (flg 15 597) rfl rfl (any_of HT_.out (by kernel_rfl)) (fun _ _ _ h=>h) ?_
      refine tak_ 1 16 (flg 15 599) rfl rfl (take_ofW HT_.out HW_.out (by kernel_rfl)) (fun _ _ _ h=>h) hHeld ?_
      refine tak_ 3 18 (flg 15 607) rfl rfl (take_ofW HT_.out HW_.out (by kernel_rfl)) (fun _ _ _ h=>h) hHeld ?_
      refine tak_ 5 20 (flg 15 639) rfl rfl (take_ofW HT_.out HW_.out (by kernel_rfl)) (fun _ _ _ h=>h) hHeld ?_
      refine tak_ 7 22 (flg 15 767) rfl rfl (take_ofW HT_.out HW_.out (by kernel_rfl)) (fun _ _ _ h=>h) hHeld ?_
      refine tak_ 10 25 (flg 15 1791) rfl rfl (take_ofW HT_.out HW_.out (by kernel_rfl)) (fun _ _ _ h=>h) hHeld ?_
      refine join_ (σ:=Value × Value × Nat) 1 (flg 15 16383) (fun s_=>[(23,s_.1),(26,s_.2.1),(6,.pointer (some ⟨s_.2.2,0,none⟩)),(27,.agg #[.string ((rd_T29 l0 x11_1).f0),.string ((rd_T29 l0 x11_1).f1),.slice none 0 0,s_.1,s_.2.1,.int .i64 ((rd_T29 l0 x11_1).f5)])]) (fun s_ w'=>(w'.cell? ⟨gb181,0,none⟩=some (.string ((rd_T29 l0 x11_1).f0))∧w'.cell? ⟨gb181,1,none⟩=some (.string ((rd_T29 l0 x11_1).f1))∧w'.cell? ⟨gb181,2,none⟩=some (.slice A180_2 ((rd_T29 l0 x11_1).f2).length c180_2)∧w'.cell? ⟨gb181,3,none⟩=some (.slice A180_3 ((rd_T29 l0 x11_1).f3).length c180_3)∧w'.cell? ⟨gb181,4,none⟩=some (.slice A180_4 ((rd_T29 l0 x11_1).f4).length c180_4)∧w'.cell? ⟨gb181,5,none⟩=some (.int .i64 ((rd_T29 l0 x11_1).f5)))∧(Kd.R k76 76 w' w.heap.size (fun k_=>some k_≠(s_.2.1:Value).ownBlock∧some k_≠(u3:Value).ownBlock∧k_≠s_.2.2) s_.1 t182)∧(Kd.R k76 76 w' w.heap.size (fun k_=>some k_≠(s_.1:Value).ownBlock∧some k_≠(u3:Value).ownBlock∧k_≠s_.2.2) s_.2.1 t185)∧(Kd.R k76 76 w' w.heap.size (fun k_=>some k_≠(s_.1:Value).ownBlock∧some k_≠(s_.2.1:Value).ownBlock∧k_≠s_.2.2) u3 x3_1)∧(w'.heap[gb181]?=some (.cells #[.string ((rd_T29 l0 x11_1).f0),.string ((rd_T29 l0 x11_1).f1),.slice A180_2 ((rd_T29 l0 x11_1).f2).length c180_2,.slice A180_3 ((rd_T29 l0 x11_1).f3).length c180_3,.slice A180_4 ((rd_T29 l0 x11_1).f4).length c180_4,.int .i64 ((rd_T29 l0 x11_1).f5)] 29 (0,0)))∧(w'.heap[s_.2.2]?=some (.cells #[.string (⟨#[]⟩:ByteArray),.string (⟨#[]⟩:ByteArray),.slice none 0 0,.slice none 0 0,.slice none 0 0,.int .i64 0] 76 (0,0)))∧(w.heap.size≤s_.2.2)∧(w.heap.size≤s_.2.2)∧(gb181≠s_.2.2)∧(s_.2.2≠gb181)∧(Below w.heap.size w w')) ?_ ?_
      rotate_left
      ·intro hCont
       refine two_ (i:=8) (j:=13) (Ni:=some 23) (Nj:=some 6) (flg 15 2047) (flg 15 9983) rfl rfl rfl rfl (two_of HT_.out (by kernel_rfl)) (by decide) (by decide) (fun K hK=>?_) (fun K hK=>?_)
       ·skip
        refine goes_ Tryd.func24 (by kernel_rfl) rfl #[.slice A180_3 ((rd_T29 l0 x11_1).f3).length c180_3] (by rfl) rfl rfl ar_ ?_
        with_reducible refine (ih k1 (by have:=HK1.out;omega) _ _ ((rd_T29 l0 x11_1).f3) t182 _ ?side1 ?side2 A5.out).mono ?_
        (case side1=>exact kc_ HR180_3.out HB.out)
        (case side2=>exact HC180_3.out)
        rintro e w11 ⟨v183,rfl,ho0,hb⟩
        refine ⟨_,rfl,?_⟩
        have n0_:=Aside0.mk (Kd.R_elder' (by (with_reducible repeat (first|apply Kd.R_alloc|apply Kd.R_drewN|apply Kd.R_drew));exact HO_3.out) (Kd.R_base ho0) hb)
        have n1_:=Aside0.mk (Kd.R_lower (Kd.R_new' ho0 (Kd.R_lt (by (with_reducible repeat (first|apply Kd.R_alloc|apply Kd.R_drewN|apply Kd.R_drew));exact HO_3.out))) (below_size (bl_ HB.out)))
        have n2_:=Aside0.mk (bb_ BK181.out hb)
        have n3_:=Aside0.mk (below_step (bl_ HB.out) hb)
        clear HO_3
        clear BK181
        clear HB
        have HO_3:=n0_
        have HO184:=n1_
        have BK181:=n2_
        have HB:=n3_
        clear n0_ n1_ n2_ n3_
        (try clear hb)
        (try clear hb2)
        (try clear hk)
        (try clear hi)
        (try clear ho0)
        refine hK.out _ _ ⟨zc_ BK181.out 0,zc_ BK181.out 1,zc_ BK181.out 2,zc_ BK181.out 3,zc_ BK181.out 4,zc_ BK181.out 5⟩ (fun hHeld=>?_)
        clear hK K
        refine norm_ (a':=?_) ?_ ?_
        rotate_left
        ·show Act.put _ (some 23) _=_
         simp only [Act.put,List.setIfInBounds_toArray,List.set_cons_zero,List.set_cons_succ,i64_w,i32_w]
         rfl
        refine two_ (i:=11) (j:=13) (Ni:=some 26) (Nj:=some 6) (flg 15 4095) (flg 15 10239) rfl rfl rfl rfl (two_of HT_.out (by kernel_rfl)) (by decide) (by decide) (fun K hK=>?_) (fun K hK=>?_)
        ·skip
         refine goes_ Tryd.func24 (by kernel_rfl) rfl #[.slice A180_4 ((rd_T29 l0 x11_1).f4).length c180_4] (by rfl) rfl rfl ar_ ?_
         with_reducible refine (ih k1 (by have:=HK1.out;omega) _ _ ((rd_T29 l0 x11_1).f4) t185 _ ?side1 ?side2 A6.out).mono ?_
         (case side1=>exact kc_ HR180_4.out HB.out)
         (case side2=>exact HC180_4.out)
         rintro e w12 ⟨v186,rfl,ho0,hb⟩
         refine ⟨_,rfl,?_⟩
         have n0_:=Aside0.mk (Kd.R_elder' (by (with_reducible repeat (first|apply Kd.R_alloc|apply Kd.R_drewN|apply Kd.R_drew));exact HO_3.out) (Kd.R_base ho0) hb)
         have n1_:=Aside0.mk (Kd.R_elder' (by (with_reducible repeat (first|apply Kd.R_alloc|apply Kd.R_drewN|apply Kd.R_drew));exact HO184.out) (Kd.R_base ho0) hb)
         have n2_:=Aside0.mk (Kd.R_lower (Kd.R_new' (Kd.R_new' ho0 (Kd.R_lt (by (with_reducible repeat (first|apply Kd.R_alloc|apply Kd.R_drewN|apply Kd.R_drew));exact HO_3.out))) (Kd.R_lt (by (with_reducible repeat (first|apply Kd.R_alloc|apply Kd.R_drewN|apply Kd.R_drew));exact HO184.out))) (below_size (bl_ HB.out)))
         have n3_:=Aside0.mk (bb_ BK181.out hb)
         have n4_:=Aside0.mk (below_step (bl_ HB.out) hb)
         clear HO_3
         clear HO184
         clear BK181
         clear HB
         have HO_3:=n0_
         have HO184:=n1_
         have HO187:=n2_
         have BK181:=n3_
         have HB:=n4_
         clear n0_ n1_ n2_ n3_ n4_
         (try clear hb)
         (try clear hb2)
         (try clear hk)
         (try clear hi)
         (try clear ho0)
         obtain ⟨Ao13,co13,eo13⟩:=Kd.R_slice HO187.out
         (first|subst eo13|(injection eo13 with f1_ f2_ f3_;have f4_:=f1_.symm;have f5_:=f3_.symm;clear f1_ f2_ f3_;subst f4_;subst f5_))
         obtain ⟨Ao14,co14,eo14⟩:=Kd.R_slice HO184.out
         (first|subst eo14|(injection eo14 with f1_ f2_ f3_;have f4_:=f1_.symm;have f5_:=f3_.symm;clear f1_ f2_ f3_;subst f4_;subst f5_))
         refine hK.out _ _ ⟨zc_ BK181.out 0,zc_ BK181.out 1,zc_ BK181.out 2,zc_ BK181.out 3,zc_ BK181.out 4,zc_ BK181.out 5⟩ (fun hHeld=>?_)
         clear hK K
         refine norm_ (a':=?_) ?_ ?_
         rotate_left
         ·show Act.put _ (some 26) _=_
          simp only [Act.put,List.setIfInBounds_toArray,List.set_cons_zero,List.set_cons_succ,i64_w,i32_w]
          rfl
         refine pur_ 12 27 (flg 15 8191) rfl rfl (any_of HT_.out (by kernel_rfl)) (fun _ _ _ h=>h) ?_
         refine one_ (i:=13) (N:=some 6) (flg 15 16383) rfl rfl (one_of HT_.out (by kernel_rfl)) (by decide) (fun K hK=>?_)
         refine box_step ?hg (N:=6) ?hd (cs:=#[.string (⟨#[]⟩:ByteArray),.string (⟨#[]⟩:ByteArray),.slice none 0 0,.slice none 0 0,.slice none 0 0,.int .i64 0]) (t:=76) ?hr ?_;(case hd=>rfl);(case hg=>rfl);(case hr=>first|(go_simp;done)|(go_simp;rfl))
         intro gb188 hg w15 hbox hb
         have n0_:=Aside0.mk (Kd.R_below (Kd.R_elderB (by (with_reducible repeat (first|apply Kd.R_alloc|apply Kd.R_drewN|apply Kd.R_drew));exact HO_3.out) gb188 (Nat.le_of_eq hg.symm)) hb)
         have n1_:=Aside0.mk (Kd.R_below (Kd.R_elderB (by (with_reducible repeat (first|apply Kd.R_alloc|apply Kd.R_drewN|apply Kd.R_drew));exact HO184.out) gb188 (Nat.le_of_eq hg.symm)) hb)
         have n2_:=Aside0.mk (Kd.R_below (Kd.R_elderB (by (with_reducible repeat (first|apply Kd.R_alloc|apply Kd.R_drewN|apply Kd.R_drew));exact HO187.out) gb188 (Nat.le_of_eq hg.symm)) hb)
         have n3_:=Aside0.mk (bb_ BK181.out hb)
         have n4_:=Aside0.mk (below_step (bl_ HB.out) hb)
         have n5_:=Aside0.mk (hbox)
         have n6_:=Aside0.mk ((gs_ hg (bl_ HB.out):w.heap.size≤gb188))
         have n7_:=Aside0.mk ((gs_ hg (bl_ HB.out):w.heap.size≤gb188))
         have n8_:=Aside0.mk ((nl_ hg BK181.out:gb181≠gb188))
         have n9_:=Aside0.mk ((nr_ hg BK181.out:gb188≠gb181))
         clear HO_3
         clear HO184
         clear HO187
         clear BK181
         clear HB
         have HO_3:=n0_
         have HO184:=n1_
         have HO187:=n2_
         have BK181:=n3_
         have HB:=n4_
         have BK188:=n5_
         have GW188:=n6_
         have GE188:=n7_
         have NB181_188:=n8_
         have NB188_181:=n9_
         clear n0_ n1_ n2_ n3_ n4_ n5_ n6_ n7_ n8_ n9_
         clear hb hbox hg
         refine hK.out _ _ ⟨zc_ BK181.out 0,zc_ BK181.out 1,zc_ BK181.out 2,zc_ BK181.out 3,zc_ BK181.out 4,zc_ BK181.out 5⟩ (fun hHeld=>?_)
         clear hK K
         refine norm_ (a':=?_) ?_ ?_
         rotate_left
         ·show Act.put _ (some 6) _=_
          simp only [Act.put,List.setIfInBounds_toArray,List.set_cons_zero,List.set_cons_succ,i64_w,i32_w]
          rfl
         exact norm_ (by simp only [putAll,Act.put,List.setIfInBounds_toArray,List.set_cons_zero,List.set_cons_succ]) (hCont (.slice Ao14 t182.length co14,.slice Ao13 t185.length co13,gb188) _ ⟨hHeld,(by (with_reducible repeat (first|apply Kd.R_alloc|apply Kd.R_drewN|apply Kd.R_drew));exact Kd.R_mono HO184.out (fun _ hk=>⟨hk.1.2,⟨hk.1.1.2,hk.2⟩⟩)),(by (with_reducible repeat (first|apply Kd.R_alloc|apply Kd.R_drewN|apply Kd.R_drew));exact Kd.R_mono HO187.out (fun _ hk=>⟨hk.1.2,⟨hk.1.1.2,hk.2⟩⟩)),(by (with_reducible repeat (first|apply Kd.R_alloc|apply Kd.R_drewN|apply Kd.R_drew));exact Kd.R_mono HO_3.out (fun _ hk=>⟨hk.1.1.2,⟨hk.1.2,hk.2⟩⟩)),(kb_ BK181.out),(kb_ BK188.out),GW188.out,GE188.out,NB181_188.out,NB188_181.out,(bl_ HB.out)⟩)
        ·skip
         refine box_step ?hg (N:=6) ?hd (cs:=#[.string (⟨#[]⟩:ByteArray),.string (⟨#[]⟩:ByteArray),.slice none 0 0,.slice none 0 0,.slice none 0 0,.int .i64 0]) (t:=76) ?hr ?_;(case hd=>rfl);(case hg=>rfl);(case hr=>first|(go_simp;done)|(go_simp;rfl))
         intro gb188 hg w12 hbox hb
         have n0_:=Aside0.mk (Kd.R_below (Kd.R_elderB (by (with_reducible repeat (first|apply Kd.R_alloc|apply Kd.R_drewN|apply Kd.R_drew));exact HO_3.out) gb188 (Nat.le_of_eq hg.symm)) hb)
         have n1_:=Aside0.mk (Kd.R_below (Kd.R_elderB (by (with_reducible repeat (first|apply Kd.R_alloc|apply Kd.R_drewN|apply Kd.R_drew));exact HO184.out) gb188 (Nat.le_of_eq hg.symm)) hb)
         have n2_:=Aside0.mk (bb_ BK181.out hb)
         have n3_:=Aside0.mk (below_step (bl_ HB.out) hb)
         have n4_:=Aside0.mk (hbox)
         have n5_:=Aside0.mk ((gs_ hg (bl_ HB.out):w.heap.size≤gb188))
         have n6_:=Aside0.mk ((gs_ hg (bl_ HB.out):w.heap.size≤gb188))
         have n7_:=Aside0.mk ((nl_ hg BK181.out:gb181≠gb188))
         have n8_:=Aside0.mk ((nr_ hg BK181.out:gb188≠gb181))
         clear HO_3
         clear HO184
         clear BK181
         clear HB
         have HO_3:=n0_
         have HO184:=n1_
         have BK181:=n2_
         have HB:=n3_
         have BK188:=n4_
         have GW188:=n5_
         have GE188:=n6_
         have NB181_188:=n7_
         have NB188_181:=n8_
         clear n0_ n1_ n2_ n3_ n4_ n5_ n6_ n7_ n8_
         clear hb hbox hg
         refine hK.out _ _ ⟨zc_ BK181.out 0,zc_ BK181.out 1,zc_ BK181.out 2,zc_ BK181.out 3,zc_ BK181.out 4,zc_ BK181.out 5⟩ (fun hHeld=>?_)
         clear hK K
         refine norm_ (a':=?_) ?_ ?_
         rotate_left
         ·show Act.put _ (some 6) _=_
          simp only [Act.put,List.setIfInBounds_toArray,List.set_cons_zero,List.set_cons_succ,i64_w,i32_w]
          rfl
         refine one_ (i:=11) (N:=some 26) (flg 15 12287) rfl rfl (one_of HT_.out (by kernel_rfl)) (by decide) (fun K hK=>?_)
         refine goes_ Tryd.func24 (by kernel_rfl) rfl #[.slice A180_4 ((rd_T29 l0 x11_1).f4).length c180_4] (by rfl) rfl rfl ar_ ?_
         with_reducible refine (ih k1 (by have:=HK1.out;omega) _ _ ((rd_T29 l0 x11_1).f4) t185 _ ?side1 ?side2 A6.out).mono ?_
         (case side1=>exact kc_ HR180_4.out HB.out)
         (case side2=>exact HC180_4.out)
         rintro e w13 ⟨v186,rfl,ho0,hb⟩
         refine ⟨_,rfl,?_⟩
         have n0_:=Aside0.mk (Kd.R_elder' (by (with_reducible repeat (first|apply Kd.R_alloc|apply Kd.R_drewN|apply Kd.R_drew));exact HO_3.out) (Kd.R_base ho0) hb)
         have n1_:=Aside0.mk (Kd.R_elder' (by (with_reducible repeat (first|apply Kd.R_alloc|apply Kd.R_drewN|apply Kd.R_drew));exact HO184.out) (Kd.R_base ho0) hb)
         have n2_:=Aside0.mk (Kd.R_lower (Kd.R_newB (Kd.R_new' (Kd.R_new' ho0 (Kd.R_lt (by (with_reducible repeat (first|apply Kd.R_alloc|apply Kd.R_drewN|apply Kd.R_drew));exact HO_3.out))) (Kd.R_lt (by (with_reducible repeat (first|apply Kd.R_alloc|apply Kd.R_drewN|apply Kd.R_drew));exact HO184.out))) (g:=gb188) (o:=.cells #[.string (⟨#[]⟩:ByteArray),.string (⟨#[]⟩:ByteArray),.slice none 0 0,.slice none 0 0,.slice none 0 0,.int .i64 0] 76 (0,0)) (kb_ BK188.out)) (below_size (bl_ HB.out)))
         have n3_:=Aside0.mk (bb_ BK181.out hb)
         have n4_:=Aside0.mk (bb_ BK188.out hb)
         have n5_:=Aside0.mk (below_step (bl_ HB.out) hb)
         clear HO_3
         clear HO184
         clear BK181
         clear BK188
         clear HB
         have HO_3:=n0_
         have HO184:=n1_
         have HO187:=n2_
         have BK181:=n3_
         have BK188:=n4_
         have HB:=n5_
         clear n0_ n1_ n2_ n3_ n4_ n5_
         (try clear hb)
         (try clear hb2)
         (try clear hk)
         (try clear hi)
         (try clear ho0)
         obtain ⟨Ao14,co14,eo14⟩:=Kd.R_slice HO187.out
         (first|subst eo14|(injection eo14 with f1_ f2_ f3_;have f4_:=f1_.symm;have f5_:=f3_.symm;clear f1_ f2_ f3_;subst f4_;subst f5_))
         obtain ⟨Ao15,co15,eo15⟩:=Kd.R_slice HO184.out
         (first|subst eo15|(injection eo15 with f1_ f2_ f3_;have f4_:=f1_.symm;have f5_:=f3_.symm;clear f1_ f2_ f3_;subst f4_;subst f5_))
         refine hK.out _ _ ⟨zc_ BK181.out 0,zc_ BK181.out 1,zc_ BK181.out 2,zc_ BK181.out 3,zc_ BK181.out 4,zc_ BK181.out 5⟩ (fun hHeld=>?_)
         clear hK K
         refine norm_ (a':=?_) ?_ ?_
         rotate_left
         ·show Act.put _ (some 26) _=_
          simp only [Act.put,List.setIfInBounds_toArray,List.set_cons_zero,List.set_cons_succ,i64_w,i32_w]
          rfl
         refine pur_ 12 27 (flg 15 16383) rfl rfl (any_of HT_.out (by kernel_rfl)) (fun _ _ _ h=>h) ?_
         exact norm_ (by simp only [putAll,Act.put,List.setIfInBounds_toArray,List.set_cons_zero,List.set_cons_succ]) (hCont (.slice Ao15 t182.length co15,.slice Ao14 t185.length co14,gb188) _ ⟨hHeld,(by (with_reducible repeat (first|apply Kd.R_alloc|apply Kd.R_drewN|apply Kd.R_drew));exact Kd.R_mono HO184.out (fun _ hk=>⟨hk.2,⟨hk.1.1.2,hk.1.2⟩⟩)),(by (with_reducible repeat (first|apply Kd.R_alloc|apply Kd.R_drewN|apply Kd.R_drew));exact Kd.R_mono HO187.out (fun _ hk=>⟨hk.1.2,⟨hk.1.1.2,hk.2⟩⟩)),(by (with_reducible repeat (first|apply Kd.R_alloc|apply Kd.R_drewN|apply Kd.R_drew));exact Kd.R_mono HO_3.out (fun _ hk=>⟨hk.1.1.2,⟨hk.2,hk.1.2⟩⟩)),(kb_ BK181.out),(kb_ BK188.out),GW188.out,GE188.out,NB181_188.out,NB188_181.out,(bl_ HB.out)⟩)
       ·skip
        refine box_step ?hg (N:=6) ?hd (cs:=#[.string (⟨#[]⟩:ByteArray),.string (⟨#[]⟩:ByteArray),.slice none 0 0,.slice none 0 0,.slice none 0 0,.int .i64 0]) (t:=76) ?hr ?_;(case hd=>rfl);(case hg=>rfl);(case hr=>first|(go_simp;done)|(go_simp;rfl))
        intro gb188 hg w11 hbox hb
        have n0_:=Aside0.mk (Kd.R_below (Kd.R_elderB (by (with_reducible repeat (first|apply Kd.R_alloc|apply Kd.R_drewN|apply Kd.R_drew));exact HO_3.out) gb188 (Nat.le_of_eq hg.symm)) hb)
        have n1_:=Aside0.mk (bb_ BK181.out hb)
        have n2_:=Aside0.mk (below_step (bl_ HB.out) hb)
        have n3_:=Aside0.mk (hbox)
        have n4_:=Aside0.mk ((gs_ hg (bl_ HB.out):w.heap.size≤gb188))
        have n5_:=Aside0.mk ((gs_ hg (bl_ HB.out):w.heap.size≤gb188))
        have n6_:=Aside0.mk ((nl_ hg BK181.out:gb181≠gb188))
        have n7_:=Aside0.mk ((nr_ hg BK181.out:gb188≠gb181))
        clear HO_3
        clear BK181
        clear HB
        have HO_3:=n0_
        have BK181:=n1_
        have HB:=n2_
        have BK188:=n3_
        have GW188:=n4_
        have GE188:=n5_
        have NB181_188:=n6_
        have NB188_181:=n7_
        clear n0_ n1_ n2_ n3_ n4_ n5_ n6_ n7_
        clear hb hbox hg
        refine hK.out _ _ ⟨zc_ BK181.out 0,zc_ BK181.out 1,zc_ BK181.out 2,zc_ BK181.out 3,zc_ BK181.out 4,zc_ BK181.out 5⟩ (fun hHeld=>?_)
        clear hK K
        refine norm_ (a':=?_) ?_ ?_
        rotate_left
        ·show Act.put _ (some 6) _=_
         simp only [Act.put,List.setIfInBounds_toArray,List.set_cons_zero,List.set_cons_succ,i64_w,i32_w]
         rfl
        refine one_ (i:=8) (N:=some 23) (flg 15 10239) rfl rfl (one_of HT_.out (by kernel_rfl)) (by decide) (fun K hK=>?_)
        refine goes_ Tryd.func24 (by kernel_rfl) rfl #[.slice A180_3 ((rd_T29 l0 x11_1).f3).length c180_3] (by rfl) rfl rfl ar_ ?_
        with_reducible refine (ih k1 (by have:=HK1.out;omega) _ _ ((rd_T29 l0 x11_1).f3) t182 _ ?side1 ?side2 A5.out).mono ?_
        (case side1=>exact kc_ HR180_3.out HB.out)
        (case side2=>exact HC180_3.out)
        rintro e w12 ⟨v183,rfl,ho0,hb⟩
        refine ⟨_,rfl,?_⟩
        have n0_:=Aside0.mk (Kd.R_elder' (by (with_reducible repeat (first|apply Kd.R_alloc|apply Kd.R_drewN|apply Kd.R_drew));exact HO_3.out) (Kd.R_base ho0) hb)
        have n1_:=Aside0.mk (Kd.R_lower (Kd.R_newB (Kd.R_new' ho0 (Kd.R_lt (by (with_reducible repeat (first|apply Kd.R_alloc|apply Kd.R_drewN|apply Kd.R_drew));exact HO_3.out))) (g:=gb188) (o:=.cells #[.string (⟨#[]⟩:ByteArray),.string (⟨#[]⟩:ByteArray),.slice none 0 0,.slice none 0 0,.slice none 0 0,.int .i64 0] 76 (0,0)) (kb_ BK188.out)) (below_size (bl_ HB.out)))
        have n2_:=Aside0.mk (bb_ BK181.out hb)
        have n3_:=Aside0.mk (bb_ BK188.out hb)
        have n4_:=Aside0.mk (below_step (bl_ HB.out) hb)
        clear HO_3
        clear BK181
        clear BK188
        clear HB
        have HO_3:=n0_
        have HO184:=n1_
        have BK181:=n2_
        have BK188:=n3_
        have HB:=n4_
        clear n0_ n1_ n2_ n3_ n4_
        (try clear hb)
        (try clear hb2)
        (try clear hk)
        (try clear hi)
        (try clear ho0)
        refine hK.out _ _ ⟨zc_ BK181.out 0,zc_ BK181.out 1,zc_ BK181.out 2,zc_ BK181.out 3,zc_ BK181.out 4,zc_ BK181.out 5⟩ (fun hHeld=>?_)
        clear hK K
        refine norm_ (a':=?_) ?_ ?_
        rotate_left
        ·show Act.put _ (some 23) _=_
         simp only [Act.put,List.setIfInBounds_toArray,List.set_cons_zero,List.set_cons_succ,i64_w,i32_w]
         rfl
        refine one_ (i:=11) (N:=some 26) (flg 15 12287) rfl rfl (one_of HT_.out (by kernel_rfl)) (by decide) (fun K hK=>?_)
        refine goes_ Tryd.func24 (by kernel_rfl) rfl #[.slice A180_4 ((rd_T29 l0 x11_1).f4).length c180_4] (by rfl) rfl rfl ar_ ?_
        with_reducible refine (ih k1 (by have:=HK1.out;omega) _ _ ((rd_T29 l0 x11_1).f4) t185 _ ?side1 ?side2 A6.out).mono ?_
        (case side1=>exact kc_ HR180_4.out HB.out)
        (case side2=>exact HC180_4.out)
        rintro e w13 ⟨v186,rfl,ho0,hb⟩
        refine ⟨_,rfl,?_⟩
        have n0_:=Aside0.mk (Kd.R_elder' (by (with_reducible repeat (first|apply Kd.R_alloc|apply Kd.R_drewN|apply Kd.R_drew));exact HO_3.out) (Kd.R_base ho0) hb)
        have n1_:=Aside0.mk (Kd.R_elder' (by (with_reducible repeat (first|apply Kd.R_alloc|apply Kd.R_drewN|apply Kd.R_drew));exact HO184.out) (Kd.R_base ho0) hb)
        have n2_:=Aside0.mk (Kd.R_lower (Kd.R_newB (Kd.R_new' (Kd.R_new' ho0 (Kd.R_lt (by (with_reducible repeat (first|apply Kd.R_alloc|apply Kd.R_drewN|apply Kd.R_drew));exact HO_3.out))) (Kd.R_lt (by (with_reducible repeat (first|apply Kd.R_alloc|apply Kd.R_drewN|apply Kd.R_drew));exact HO184.out))) (g:=gb188) (o:=.cells #[.string (⟨#[]⟩:ByteArray),.string (⟨#[]⟩:ByteArray),.slice none 0 0,.slice none 0 0,.slice none 0 0,.int .i64 0] 76 (0,0)) (kb_ BK188.out)) (below_size (bl_ HB.out)))
        have n3_:=Aside0.mk (bb_ BK181.out hb)
        have n4_:=Aside0.mk (bb_ BK188.out hb)
        have n5_:=Aside0.mk (below_step (bl_ HB.out) hb)
        clear HO_3
        clear HO184
        clear BK181
        clear BK188
        clear HB
        have HO_3:=n0_
        have HO184:=n1_
        have HO187:=n2_
        have BK181:=n3_
        have BK188:=n4_
        have HB:=n5_
        clear n0_ n1_ n2_ n3_ n4_ n5_
        (try clear hb)
        (try clear hb2)
        (try clear hk)
        (try clear hi)
        (try clear ho0)
        obtain ⟨Ao14,co14,eo14⟩:=Kd.R_slice HO187.out
        (first|subst eo14|(injection eo14 with f1_ f2_ f3_;have f4_:=f1_.symm;have f5_:=f3_.symm;clear f1_ f2_ f3_;subst f4_;subst f5_))
        obtain ⟨Ao15,co15,eo15⟩:=Kd.R_slice HO184.out
        (first|subst eo15|(injection eo15 with f1_ f2_ f3_;have f4_:=f1_.symm;have f5_:=f3_.symm;clear f1_ f2_ f3_;subst f4_;subst f5_))
        refine hK.out _ _ ⟨zc_ BK181.out 0,zc_ BK181.out 1,zc_ BK181.out 2,zc_ BK181.out 3,zc_ BK181.out 4,zc_ BK181.out 5⟩ (fun hHeld=>?_)
        clear hK K
        refine norm_ (a':=?_) ?_ ?_
        rotate_left
        ·show Act.put _ (some 26) _=_
         simp only [Act.put,List.setIfInBounds_toArray,List.set_cons_zero,List.set_cons_succ,i64_w,i32_w]
         rfl
        refine pur_ 12 27 (flg 15 16383) rfl rfl (any_of HT_.out (by kernel_rfl)) (fun _ _ _ h=>h) ?_
        exact norm_ (by simp only [putAll,Act.put,List.setIfInBounds_toArray,List.set_cons_zero,List.set_cons_succ]) (hCont (.slice Ao15 t182.length co15,.slice Ao14 t185.length co14,gb188) _ ⟨hHeld,(by (with_reducible repeat (first|apply Kd.R_alloc|apply Kd.R_drewN|apply Kd.R_drew));exact Kd.R_mono HO184.out (fun _ hk=>⟨hk.2,⟨hk.1.1.2,hk.1.2⟩⟩)),(by (with_reducible repeat (first|apply Kd.R_alloc|apply Kd.R_drewN|apply Kd.R_drew));exact Kd.R_mono HO187.out (fun _ hk=>⟨hk.1.2,⟨hk.1.1.2,hk.2⟩⟩)),(by (with_reducible repeat (first|apply Kd.R_alloc|apply Kd.R_drewN|apply Kd.R_drew));exact Kd.R_mono HO_3.out (fun _ hk=>⟨hk.1.2,⟨hk.2,hk.1.1.2⟩⟩)),(kb_ BK181.out),(kb_ BK188.out),GW188.out,GE188.out,NB181_188.out,NB188_181.out,(bl_ HB.out)⟩)
      rintro ⟨v183,v186,gb188⟩ w16 ⟨hS_,h0_,h1_,h2_,h3_,h4_,h5_,h6_,h7_,h8_,h9_⟩
      have n0_:Aside0 (Kd.R k76 76 w16 w.heap.size (fun k_=>some k_≠(v186:Value).ownBlock∧some k_≠(u3:Value).ownBlock∧k_≠gb188) v183 t182):=⟨h0_⟩
      have n1_:Aside0 (Kd.R k76 76 w16 w.heap.size (fun k_=>some k_≠(v183:Value).ownBlock∧some k_≠(u3:Value).ownBlock∧k_≠gb188) v186 t185):=⟨h1_⟩
      have n2_:Aside0 (Kd.R k76 76 w16 w.heap.size (fun k_=>some k_≠(v183:Value).ownBlock∧some k_≠(v186:Value).ownBlock∧k_≠gb188) u3 x3_1):=⟨h2_⟩
      have n3_:Aside0 (w16.heap[gb181]?=some (.cells #[.string ((rd_T29 l0 x11_1).f0),.string ((rd_T29 l0 x11_1).f1),.slice A180_2 ((rd_T29 l0 x11_1).f2).length c180_2,.slice A180_3 ((rd_T29 l0 x11_1).f3).length c180_3,.slice A180_4 ((rd_T29 l0 x11_1).f4).length c180_4,.int .i64 ((rd_T29 l0 x11_1).f5)] 29 (0,0))):=⟨h3_⟩
      have n4_:Aside0 (w16.heap[gb188]?=some (.cells #[.string (⟨#[]⟩:ByteArray),.string (⟨#[]⟩:ByteArray),.slice none 0 0,.slice none 0 0,.slice none 0 0,.int .i64 0] 76 (0,0))):=⟨h4_⟩
      have n5_:Aside0 (w.heap.size≤gb188):=⟨h5_⟩
      have n6_:Aside0 (w.heap.size≤gb188):=⟨h6_⟩
      have n7_:Aside0 (gb181≠gb188):=⟨h7_⟩
      have n8_:Aside0 (gb188≠gb181):=⟨h8_⟩
      have n9_:Aside0 (Below w.heap.size w w16):=⟨h9_⟩
      clear HO_3
      clear BK181
      clear HB
      clear h0_ h1_ h2_ h3_ h4_ h5_ h6_ h7_ h8_ h9_
      have HO184:=n0_
      have HO187:=n1_
      have HO_3:=n2_
      have BK181:=n3_
      have BK188:=n4_
      have GW188:=n5_
      have GE188:=n6_
      have NB181_188:=n7_
      have NB188_181:=n8_
      have HB:=n9_
      clear n0_ n1_ n2_ n3_ n4_ n5_ n6_ n7_ n8_ n9_
      have hHeld:w16.cell? ⟨gb181,0,none⟩=some (.string ((rd_T29 l0 x11_1).f0))∧w16.cell? ⟨gb181,1,none⟩=some (.string ((rd_T29 l0 x11_1).f1))∧w16.cell? ⟨gb181,2,none⟩=some (.slice A180_2 ((rd_T29 l0 x11_1).f2).length c180_2)∧w16.cell? ⟨gb181,3,none⟩=some (.slice A180_3 ((rd_T29 l0 x11_1).f3).length c180_3)∧w16.cell? ⟨gb181,4,none⟩=some (.slice A180_4 ((rd_T29 l0 x11_1).f4).length c180_4)∧w16.cell? ⟨gb181,5,none⟩=some (.int .i64 ((rd_T29 l0 x11_1).f5)):=hS_
      obtain ⟨Ao17,co17,eo17⟩:=Kd.R_slice HO187.out
      (first|subst eo17|(injection eo17 with f1_ f2_ f3_;have f4_:=f1_.symm;have f5_:=f3_.symm;clear f1_ f2_ f3_;subst f4_;subst f5_))
      obtain ⟨Ao18,co18,eo18⟩:=Kd.R_slice HO184.out
      (first|subst eo18|(injection eo18 with f1_ f2_ f3_;have f4_:=f1_.symm;have f5_:=f3_.symm;clear f1_ f2_ f3_;subst f4_;subst f5_))
      refine norm_ (a':=?_) ?_ ?_
      rotate_left
      ·simp only [putAll,Act.put,List.setIfInBounds_toArray,List.set_cons_zero,List.set_cons_succ]
       rfl
      refine one_ (i:=14) (N:=none) (flg 15 32767) rfl rfl (one_of HT_.out (by kernel_rfl)) (by decide) (fun K hK=>?_)
      have hs19:w16.cell? ⟨gb188,0,none⟩=some (.string (⟨#[]⟩:ByteArray)):=zc_ BK188.out 0
      have hfs19:=blk_frozen BK188.out 0
      have hns19_0:=NB181_188.out
      have hms19_0:=NB188_181.out
      have hs20:w16.cell? ⟨gb188,1,none⟩=some (.string (⟨#[]⟩:ByteArray)):=zc_ BK188.out 1
      have hfs20:=blk_frozen BK188.out 1
      have hns20_0:=NB181_188.out
      have hms20_0:=NB188_181.out
      have hs21:w16.cell? ⟨gb188,2,none⟩=some (.slice none 0 0):=zc_ BK188.out 2
      have hfs21:=blk_frozen BK188.out 2
      have hns21_0:=NB181_188.out
      have hms21_0:=NB188_181.out
      have hs22:w16.cell? ⟨gb188,3,none⟩=some (.slice none 0 0):=zc_ BK188.out 3
      have hfs22:=blk_frozen BK188.out 3
      have hns22_0:=NB181_188.out
      have hms22_0:=NB188_181.out
      have hs23:w16.cell? ⟨gb188,4,none⟩=some (.slice none 0 0):=zc_ BK188.out 4
      have hfs23:=blk_frozen BK188.out 4
      have hns23_0:=NB181_188.out
      have hms23_0:=NB188_181.out
      have hs24:w16.cell? ⟨gb188,5,none⟩=some (.int .i64 0):=zc_ BK188.out 5
      have hfs24:=blk_frozen BK188.out 5
      have hns24_0:=NB181_188.out
      have hms24_0:=NB188_181.out
      refine skip_ (w1:=?_) (by rfl) rfl ?_ ?_
      rotate_left
      ·go_simp
       rfl
      refine hK.out _ _ ⟨((cell_far (p:=⟨gb188,_,none⟩) NB181_188.out _).trans (((cell_far (p:=⟨gb188,_,none⟩) NB181_188.out _).trans (((cell_far (p:=⟨gb188,_,none⟩) NB181_188.out _).trans (((cell_far (p:=⟨gb188,_,none⟩) NB181_188.out _).trans (((cell_far (p:=⟨gb188,_,none⟩) NB181_188.out _).trans (((cell_far (p:=⟨gb188,_,none⟩) NB181_188.out _).trans (hHeld.1)))))))))))),((cell_far (p:=⟨gb188,_,none⟩) NB181_188.out _).trans (((cell_far (p:=⟨gb188,_,none⟩) NB181_188.out _).trans (((cell_far (p:=⟨gb188,_,none⟩) NB181_188.out _).trans (((cell_far (p:=⟨gb188,_,none⟩) NB181_188.out _).trans (((cell_far (p:=⟨gb188,_,none⟩) NB181_188.out _).trans (((cell_far (p:=⟨gb188,_,none⟩) NB181_188.out _).trans (hHeld.2.1)))))))))))),((cell_far (p:=⟨gb188,_,none⟩) NB181_188.out _).trans (((cell_far (p:=⟨gb188,_,none⟩) NB181_188.out _).trans (((cell_far (p:=⟨gb188,_,none⟩) NB181_188.out _).trans (((cell_far (p:=⟨gb188,_,none⟩) NB181_188.out _).trans (((cell_far (p:=⟨gb188,_,none⟩) NB181_188.out _).trans (((cell_far (p:=⟨gb188,_,none⟩) NB181_188.out _).trans (hHeld.2.2.1)))))))))))),((cell_far (p:=⟨gb188,_,none⟩) NB181_188.out _).trans (((cell_far (p:=⟨gb188,_,none⟩) NB181_188.out _).trans (((cell_far (p:=⟨gb188,_,none⟩) NB181_188.out _).trans (((cell_far (p:=⟨gb188,_,none⟩) NB181_188.out _).trans (((cell_far (p:=⟨gb188,_,none⟩) NB181_188.out _).trans (((cell_far (p:=⟨gb188,_,none⟩) NB181_188.out _).trans (hHeld.2.2.2.1)))))))))))),((cell_far (p:=⟨gb188,_,none⟩) NB181_188.out _).trans (((cell_far (p:=⟨gb188,_,none⟩) NB181_188.out _).trans (((cell_far (p:=⟨gb188,_,none⟩) NB181_188.out _).trans (((cell_far (p:=⟨gb188,_,none⟩) NB181_188.out _).trans (((cell_far (p:=⟨gb188,_,none⟩) NB181_188.out _).trans (((cell_far (p:=⟨gb188,_,none⟩) NB181_188.out _).trans (hHeld.2.2.2.2.1)))))))))))),((cell_far (p:=⟨gb188,_,none⟩) NB181_188.out _).trans (((cell_far (p:=⟨gb188,_,none⟩) NB181_188.out _).trans (((cell_far (p:=⟨gb188,_,none⟩) NB181_188.out _).trans (((cell_far (p:=⟨gb188,_,none⟩) NB181_188.out _).trans (((cell_far (p:=⟨gb188,_,none⟩) NB181_188.out _).trans (((cell_far (p:=⟨gb188,_,none⟩) NB181_188.out _).trans (hHeld.2.2.2.2.2))))))))))))⟩ (fun hHeld=>?_)
      clear hK K
      refine done_ (done_of HT_.out (by kernel_rfl)) ?_
      have hnb25:=NB181_188.out
      have hnc25:=NB188_181.out
      have hcz26_0:w16.cell? ⟨gb181,0,none⟩=some (.string ((rd_T29 l0 x11_1).f0)):=zc_ BK181.out 0
      have hcz26_1:w16.cell? ⟨gb181,1,none⟩=some (.string ((rd_T29 l0 x11_1).f1)):=zc_ BK181.out 1
      have hcz26_2:w16.cell? ⟨gb181,2,none⟩=some (.slice A180_2 ((rd_T29 l0 x11_1).f2).length c180_2):=zc_ BK181.out 2
      have hcz26_3:w16.cell? ⟨gb181,3,none⟩=some (.slice A180_3 ((rd_T29 l0 x11_1).f3).length c180_3):=zc_ BK181.out 3
      have hcz26_4:w16.cell? ⟨gb181,4,none⟩=some (.slice A180_4 ((rd_T29 l0 x11_1).f4).length c180_4):=zc_ BK181.out 4
      have hcz26_5:w16.cell? ⟨gb181,5,none⟩=some (.int .i64 ((rd_T29 l0 x11_1).f5)):=zc_ BK181.out 5
      have hfz26_0:=blk_frozen BK181.out 0
      have hfz26_1:=blk_frozen BK181.out 1
      have hfz26_2:=blk_frozen BK181.out 2
      have hfz26_3:=blk_frozen BK181.out 3
      have hfz26_4:=blk_frozen BK181.out 4
      have hfz26_5:=blk_frozen BK181.out 5
      try go_wp2
      (try simp only [Act.put,List.setIfInBounds_toArray,List.set_cons_succ,List.set_cons_zero])
      go_loopg [31] k1 (fun kq v31 w'=>∃ (x31_2:Int) (x189002_2:List (S33)) (u189002:Value),v31=.int .i64 x31_2∧Aside0 (helmsmanlaw12_Stmts.l1 kq x3_1 l0 (l0.length:Int) x11_1 ((rd_T29 l0 x11_1).f2) (((rd_T29 l0 x11_1).f2).length:Int) x31_2 ((rd_T29 l0 x11_1).f0) ((rd_T29 l0 x11_1).f1) x189002_2 t182 t185 ((rd_T29 l0 x11_1).f5)=some r)∧Aside0 (kq≤k1)∧Aside0 (Kd.R k76 76 w' w.heap.size (fun k_=>some k_≠(u189002:Value).ownBlock∧some k_≠((.slice Ao18 t182.length co18):Value).ownBlock∧some k_≠((.slice Ao17 t185.length co17):Value).ownBlock∧k_≠gb188) u3 x3_1)∧Aside0 (Kd.R k33 33 w' w.heap.size (fun _=>True) u189002 x189002_2)∧Aside0 (Kd.R k76 76 w' w.heap.size (fun k_=>some k_≠(u3:Value).ownBlock∧some k_≠(u189002:Value).ownBlock∧some k_≠((.slice Ao17 t185.length co17):Value).ownBlock∧k_≠gb188) (.slice Ao18 t182.length co18) t182)∧Aside0 (Kd.R k76 76 w' w.heap.size (fun k_=>some k_≠(u3:Value).ownBlock∧some k_≠(u189002:Value).ownBlock∧some k_≠((.slice Ao18 t182.length co18):Value).ownBlock∧k_≠gb188) (.slice Ao17 t185.length co17) t185)∧Aside0 (w'.heap[gb181]?=some (.cells #[.string ((rd_T29 l0 x11_1).f0),.string ((rd_T29 l0 x11_1).f1),(.slice A180_2 ((rd_T29 l0 x11_1).f2).length c180_2),(.slice A180_3 ((rd_T29 l0 x11_1).f3).length c180_3),(.slice A180_4 ((rd_T29 l0 x11_1).f4).length c180_4),.int .i64 ((rd_T29 l0 x11_1).f5)] 29 (0,0)))∧Aside0 (w'.heap[gb188]?=some (.cells #[.string ((rd_T29 l0 x11_1).f0),.string ((rd_T29 l0 x11_1).f1),u189002,(.slice Ao18 t182.length co18),(.slice Ao17 t185.length co17),.int .i64 ((rd_T29 l0 x11_1).f5)] 76 (0,0)))∧Aside0 (Below w.heap.size w w'))
      case atStart=>exact ⟨(0),(([]:List (S33))),(.slice none 0 0),rf_,H',⟨Nat.le_refl _⟩,⟨by (with_reducible repeat (first|apply Kd.R_alloc|apply Kd.R_drewN|apply Kd.R_drew));exact Kd.R_mono (Kd.R_far (p:=⟨gb188,5,none⟩) (Kd.R_far (p:=⟨gb188,4,none⟩) (Kd.R_far (p:=⟨gb188,3,none⟩) (Kd.R_far (p:=⟨gb188,2,none⟩) (Kd.R_far (p:=⟨gb188,1,none⟩) (Kd.R_far (p:=⟨gb188,0,none⟩) (Kd.R_mono HO_3.out (fun k_ hk=>(⟨hk,hk.2.2⟩:_∧k_≠gb188))) (fun _ hk=>hk.2) (.string ((rd_T29 l0 x11_1).f0))) (fun _ hk=>hk.2) (.string ((rd_T29 l0 x11_1).f1))) (fun _ hk=>hk.2) (.slice none 0 0)) (fun _ hk=>hk.2) (.slice Ao18 t182.length co18)) (fun _ hk=>hk.2) (.slice Ao17 t185.length co17)) (fun _ hk=>hk.2) (.int .i64 ((rd_T29 l0 x11_1).f5))) (fun _ hk=>⟨(by simp [Value.ownBlock]),⟨hk.1.1,⟨hk.1.2.1,hk.1.2.2⟩⟩⟩)⟩,⟨by first|exact Kd.R_nil _ _ _ _ _|exact Kd.N_nil _ _ _ _ _|exact Kd.V_nil _ _ _ _ _|exact Kd.Q_nil _ _ _ _ _|exact Kd.S_nil _ _ _ _ _⟩,⟨by (with_reducible repeat (first|apply Kd.R_alloc|apply Kd.R_drewN|apply Kd.R_drew));exact Kd.R_mono (Kd.R_far (p:=⟨gb188,5,none⟩) (Kd.R_far (p:=⟨gb188,4,none⟩) (Kd.R_far (p:=⟨gb188,3,none⟩) (Kd.R_far (p:=⟨gb188,2,none⟩) (Kd.R_far (p:=⟨gb188,1,none⟩) (Kd.R_far (p:=⟨gb188,0,none⟩) (Kd.R_mono HO184.out (fun k_ hk=>(⟨hk,hk.2.2⟩:_∧k_≠gb188))) (fun _ hk=>hk.2) (.string ((rd_T29 l0 x11_1).f0))) (fun _ hk=>hk.2) (.string ((rd_T29 l0 x11_1).f1))) (fun _ hk=>hk.2) (.slice none 0 0)) (fun _ hk=>hk.2) (.slice Ao18 t182.length co18)) (fun _ hk=>hk.2) (.slice Ao17 t185.length co17)) (fun _ hk=>hk.2) (.int .i64 ((rd_T29 l0 x11_1).f5))) (fun _ hk=>⟨hk.1.2.1,⟨(by simp [Value.ownBlock]),⟨hk.1.1,hk.1.2.2⟩⟩⟩)⟩,⟨by (with_reducible repeat (first|apply Kd.R_alloc|apply Kd.R_drewN|apply Kd.R_drew));exact Kd.R_mono (Kd.R_far (p:=⟨gb188,5,none⟩) (Kd.R_far (p:=⟨gb188,4,none⟩) (Kd.R_far (p:=⟨gb188,3,none⟩) (Kd.R_far (p:=⟨gb188,2,none⟩) (Kd.R_far (p:=⟨gb188,1,none⟩) (Kd.R_far (p:=⟨gb188,0,none⟩) (Kd.R_mono HO187.out (fun k_ hk=>(⟨hk,hk.2.2⟩:_∧k_≠gb188))) (fun _ hk=>hk.2) (.string ((rd_T29 l0 x11_1).f0))) (fun _ hk=>hk.2) (.string ((rd_T29 l0 x11_1).f1))) (fun _ hk=>hk.2) (.slice none 0 0)) (fun _ hk=>hk.2) (.slice Ao18 t182.length co18)) (fun _ hk=>hk.2) (.slice Ao17 t185.length co17)) (fun _ hk=>hk.2) (.int .i64 ((rd_T29 l0 x11_1).f5))) (fun _ hk=>⟨hk.1.2.1,⟨(by simp [Value.ownBlock]),⟨hk.1.1,hk.1.2.2⟩⟩⟩)⟩,⟨kbc_ BK181.out⟩,⟨kbc_ BK188.out⟩,⟨bl_ HB.out⟩⟩
      case round=>
       clear H'
       (try clear c1);(try clear p1);(try clear q1);(try clear hx1);(try clear c2);(try clear c2b0);(try clear p2);(try clear c3);(try clear c3b0);(try clear c4);(try clear c4b0);(try clear c18);(try clear p18);(try clear q18);(try clear hx18);(try clear c24);(try clear c25);(try clear hcz26_0);(try clear hcz26_1);(try clear hcz26_2);(try clear hcz26_3);(try clear hcz26_4);(try clear hcz26_5);(try clear hcz8_0);(try clear hcz8_1);(try clear hcz8_2);(try clear hcz8_3);(try clear hcz8_4);(try clear hcz8_5);(try clear hfz26_0);(try clear hfz26_1);(try clear hfz26_2);(try clear hfz26_3);(try clear hfz26_4);(try clear hfz26_5);(try clear hfz8_0);(try clear hfz8_1);(try clear hfz8_2);(try clear hfz8_3);(try clear hfz8_4);(try clear hfz8_5);(try clear hx180_0);(try clear hx180_1);(try clear hx180_2);(try clear hx180_3);(try clear hx180_4);(try clear hx180_5);(try clear p180);(try clear q180)
       obtain ⟨x31_2,x189002_2,u189002,rfl,HA,HK2,HO_3,HO_189002,HO_189003,HO_189004,BK181,BK188,HB⟩:=hrel
       cases gk with
       | zero=>exact absurd HA.out (by simp [helmsmanlaw12_Stmts.l1])
       | succ k2=>
        have H:=HA.out
        clear HA
        simp only [helmsmanlaw12_Stmts.l1] at H
        by_cases c27:x31_2 < (((rd_T29 l0 x11_1).f2).length:Int)
        ·rw [if_pos c27] at H
         have c27b0:decide (x31_2 < (((rd_T29 l0 x11_1).f2).length:Int))=true:=decide_eq_true c27
         clear c27
         by_cases c28:0≤x31_2
         ·rw [if_pos c28] at H
          have c28b0:decide (0≤x31_2)=true:=decide_eq_true c28
          clear c28
          by_cases c29:x31_2 < (((rd_T29 l0 x11_1).f2).length:Int)
          ·rw [if_pos c29] at H
           have c29b0:decide (x31_2 < (((rd_T29 l0 x11_1).f2).length:Int))=true:=decide_eq_true c29
           clear c29
           replace H:=Option.bind_eq_some_iff.mp H
           obtain ⟨⟨t191,t192,t193,t194,t197⟩,A300,H⟩:=H
           replace H:(if x189002_2.length < 1954687338268 then (helmsmanlaw12_Stmts.l1 k2 x3_1 l0 (l0.length:Int) x11_1 ((rd_T29 l0 x11_1).f2) (((rd_T29 l0 x11_1).f2).length:Int) (wrap64 (x31_2+1)) ((rd_T29 l0 x11_1).f0) ((rd_T29 l0 x11_1).f1) (x189002_2++[(⟨t191,t192,t193,t194,t197⟩:S33)]) t182 t185 ((rd_T29 l0 x11_1).f5)) else (none))=some r:=H
           have A30:=Aside0.mk A300
           clear A300
           by_cases c31:x189002_2.length < 1954687338268
           ·rw [if_pos c31] at H
            have LMc31:=Aside0.mk c31
            clear c31
            obtain ⟨y198,hy198⟩ : ∃ y_:List (S33),y_=(x189002_2++[(⟨t191,t192,t193,t194,t197⟩:S33)]):=⟨_,rfl⟩
            replace H:(helmsmanlaw12_Stmts.l1 k2 x3_1 l0 (l0.length:Int) x11_1 ((rd_T29 l0 x11_1).f2) (((rd_T29 l0 x11_1).f2).length:Int) (wrap64 (x31_2+1)) ((rd_T29 l0 x11_1).f0) ((rd_T29 l0 x11_1).f1) y198 t182 t185 ((rd_T29 l0 x11_1).f5))=some r:=by first|(rw [hy198];with_reducible exact H)|(have H2_:=(Option.bind_some _ _).symm.trans H;rw [hy198];with_reducible exact H2_)|(have H2_:=(Option.bind_some _ _).symm.trans H;with_reducible exact H2_)|with_reducible exact H|(rw [hy198];exact H)|exact H
            have Ny198:=Aside0.mk hy198
            clear hy198
            have H':=Aside0.mk H
            clear H
            have p189:0≤(x31_2:Int):=of_decide_eq_true as_
            have q189:x31_2 < (((rd_T29 l0 x11_1).f2).length:Int):=of_decide_eq_true as_
            obtain ⟨ad189,A189_3,c189_3,e189,hx189_0,hx189_1,hx189_2,hx189_3,hx189_4,hl189_3,hi189_3⟩:=at_T24 HR180_2.out x31_2 p189 q189
            cases e189
            replace hx189_0:=(cb_ HB.out hx189_0:_)
            replace hx189_1:=(cb_ HB.out hx189_1:_)
            replace hx189_2:=(cb_ HB.out hx189_2:_)
            replace hx189_3:=(cb_ HB.out hx189_3:_)
            replace hx189_4:=(cb_ HB.out hx189_4:_)
            have HR189_3:=Aside0.mk hi189_3
            have HC189_3:=Aside0.mk hl189_3
            clear hi189_3 hl189_3
            replace p189:=eq_true p189
            replace q189:=eq_true q189
            try go_wp2_with (first|((with_reducible refine gate_dst (N:=8) rfl ?_);refine box_event ?hg (N:=8) ?hd (cs:=#[.string (⟨#[]⟩:ByteArray),.string (⟨#[]⟩:ByteArray),.int .i64 0,.slice none 0 0,.int .i64 0]) (t:=24) ?hr ?_;(case hd=>rfl);(case hg=>rfl);(case hr=>first|(go_simp;done)|(go_simp;rfl));intro gb190 hg w32 hbox hb;have n0_:=Aside0.mk (Kd.R_below (by (with_reducible repeat (first|apply Kd.R_alloc|apply Kd.R_drewN|apply Kd.R_drew));exact HO_3.out) hb);have n1_:=Aside0.mk (Kd.R_below (by (with_reducible repeat (first|apply Kd.R_alloc|apply Kd.R_drewN|apply Kd.R_drew));exact HO_189002.out) hb);have n2_:=Aside0.mk (Kd.R_below (by (with_reducible repeat (first|apply Kd.R_alloc|apply Kd.R_drewN|apply Kd.R_drew));exact HO_189003.out) hb);have n3_:=Aside0.mk (Kd.R_below (by (with_reducible repeat (first|apply Kd.R_alloc|apply Kd.R_drewN|apply Kd.R_drew));exact HO_189004.out) hb);have n4_:=Aside0.mk (bb_ BK181.out hb);have n5_:=Aside0.mk (bb_ BK188.out hb);have n6_:=Aside0.mk (below_step (bl_ HB.out) hb);have n7_:=Aside0.mk (hbox);have n8_:=Aside0.mk ((gs_ hg (bl_ HB.out):w.heap.size≤gb190));have n9_:=Aside0.mk ((gs_ hg (bl_ HB.out):w.heap.size≤gb190));have n10_:=Aside0.mk ((nl_ hg BK181.out:gb181≠gb190));have n11_:=Aside0.mk ((nr_ hg BK181.out:gb190≠gb181));have n12_:=Aside0.mk ((nl_ hg BK188.out:gb188≠gb190));have n13_:=Aside0.mk ((nr_ hg BK188.out:gb190≠gb188));clear HO_3;clear HO_189002;clear HO_189003;clear HO_189004;clear BK181;clear BK188;clear HB;have HO_3:=n0_;have HO_189002:=n1_;have HO_189003:=n2_;have HO_189004:=n3_;have BK181:=n4_;have BK188:=n5_;have HB:=n6_;have BK190:=n7_;have GW190:=n8_;have GE190:=n9_;have NB181_190:=n10_;have NB190_181:=n11_;have NB188_190:=n12_;have NB190_188:=n13_;clear n0_ n1_ n2_ n3_ n4_ n5_ n6_ n7_ n8_ n9_ n10_ n11_ n12_ n13_;clear hb hbox hg;have hnb33:=NB190_181.out;have hnc33:=NB181_190.out;have hnb34:=NB190_188.out;have hnc34:=NB188_190.out;have hcz35_0:w32.cell? ⟨gb190,0,none⟩=some (.string (⟨#[]⟩:ByteArray)):=zc_ BK190.out 0;have hcz35_1:w32.cell? ⟨gb190,1,none⟩=some (.string (⟨#[]⟩:ByteArray)):=zc_ BK190.out 1;have hcz35_2:w32.cell? ⟨gb190,2,none⟩=some (.int .i64 0):=zc_ BK190.out 2;have hcz35_3:w32.cell? ⟨gb190,3,none⟩=some (.slice none 0 0):=zc_ BK190.out 3;have hcz35_4:w32.cell? ⟨gb190,4,none⟩=some (.int .i64 0):=zc_ BK190.out 4;have hfz35_0:=blk_frozen BK190.out 0;have hfz35_1:=blk_frozen BK190.out 1;have hfz35_2:=blk_frozen BK190.out 2;have hfz35_3:=blk_frozen BK190.out 3;have hfz35_4:=blk_frozen BK190.out 4))
            have n0_:Aside0 (Kd.R k76 76 (((((w32.setCell ⟨gb190,0,none⟩ (.string ((rd_T24 ((rd_T29 l0 x11_1).f2) x31_2).f0))).setCell ⟨gb190,1,none⟩ (.string ((rd_T24 ((rd_T29 l0 x11_1).f2) x31_2).f1))).setCell ⟨gb190,2,none⟩ (.int .i64 ((rd_T24 ((rd_T29 l0 x11_1).f2) x31_2).f2))).setCell ⟨gb190,3,none⟩ (.slice A189_3 ((rd_T24 ((rd_T29 l0 x11_1).f2) x31_2).f3).length c189_3)).setCell ⟨gb190,4,none⟩ (.int .i64 ((rd_T24 ((rd_T29 l0 x11_1).f2) x31_2).f4))) w.heap.size (fun k_=>some k_≠(u189002:Value).ownBlock∧some k_≠(.slice Ao18 t182.length co18:Value).ownBlock∧some k_≠(.slice Ao17 t185.length co17:Value).ownBlock∧k_≠gb188) u3 x3_1):=⟨by (with_reducible repeat (first|apply Kd.R_alloc|apply Kd.R_drewN|apply Kd.R_drew));exact Kd.R_mono (Kd.R_far (p:=⟨gb190,4,none⟩) (Kd.R_far (p:=⟨gb190,3,none⟩) (Kd.R_far (p:=⟨gb190,2,none⟩) (Kd.R_far (p:=⟨gb190,1,none⟩) (Kd.R_far (p:=⟨gb190,0,none⟩) (Kd.R_types HO_3.out BK190.out (by decide)) (fun _ hk=>hk.2) (.string ((rd_T24 ((rd_T29 l0 x11_1).f2) x31_2).f0))) (fun _ hk=>hk.2) (.string ((rd_T24 ((rd_T29 l0 x11_1).f2) x31_2).f1))) (fun _ hk=>hk.2) (.int .i64 ((rd_T24 ((rd_T29 l0 x11_1).f2) x31_2).f2))) (fun _ hk=>hk.2) (.slice A189_3 ((rd_T24 ((rd_T29 l0 x11_1).f2) x31_2).f3).length c189_3)) (fun _ hk=>hk.2) (.int .i64 ((rd_T24 ((rd_T29 l0 x11_1).f2) x31_2).f4))) (fun _ hk=>⟨hk.1.1,⟨hk.1.2.1,⟨hk.1.2.2.1,hk.1.2.2.2⟩⟩⟩)⟩
            have n1_:Aside0 (Kd.R k33 33 (((((w32.setCell ⟨gb190,0,none⟩ (.string ((rd_T24 ((rd_T29 l0 x11_1).f2) x31_2).f0))).setCell ⟨gb190,1,none⟩ (.string ((rd_T24 ((rd_T29 l0 x11_1).f2) x31_2).f1))).setCell ⟨gb190,2,none⟩ (.int .i64 ((rd_T24 ((rd_T29 l0 x11_1).f2) x31_2).f2))).setCell ⟨gb190,3,none⟩ (.slice A189_3 ((rd_T24 ((rd_T29 l0 x11_1).f2) x31_2).f3).length c189_3)).setCell ⟨gb190,4,none⟩ (.int .i64 ((rd_T24 ((rd_T29 l0 x11_1).f2) x31_2).f4))) w.heap.size (fun _=>True) u189002 x189002_2):=⟨by (with_reducible repeat (first|apply Kd.R_alloc|apply Kd.R_drewN|apply Kd.R_drew));exact Kd.R_mono (Kd.R_far (p:=⟨gb190,4,none⟩) (Kd.R_far (p:=⟨gb190,3,none⟩) (Kd.R_far (p:=⟨gb190,2,none⟩) (Kd.R_far (p:=⟨gb190,1,none⟩) (Kd.R_far (p:=⟨gb190,0,none⟩) (Kd.R_types HO_189002.out BK190.out (by decide)) (fun _ hk=>hk.2) (.string ((rd_T24 ((rd_T29 l0 x11_1).f2) x31_2).f0))) (fun _ hk=>hk.2) (.string ((rd_T24 ((rd_T29 l0 x11_1).f2) x31_2).f1))) (fun _ hk=>hk.2) (.int .i64 ((rd_T24 ((rd_T29 l0 x11_1).f2) x31_2).f2))) (fun _ hk=>hk.2) (.slice A189_3 ((rd_T24 ((rd_T29 l0 x11_1).f2) x31_2).f3).length c189_3)) (fun _ hk=>hk.2) (.int .i64 ((rd_T24 ((rd_T29 l0 x11_1).f2) x31_2).f4))) (fun _ hk=>trivial)⟩
            have n2_:Aside0 (Kd.R k76 76 (((((w32.setCell ⟨gb190,0,none⟩ (.string ((rd_T24 ((rd_T29 l0 x11_1).f2) x31_2).f0))).setCell ⟨gb190,1,none⟩ (.string ((rd_T24 ((rd_T29 l0 x11_1).f2) x31_2).f1))).setCell ⟨gb190,2,none⟩ (.int .i64 ((rd_T24 ((rd_T29 l0 x11_1).f2) x31_2).f2))).setCell ⟨gb190,3,none⟩ (.slice A189_3 ((rd_T24 ((rd_T29 l0 x11_1).f2) x31_2).f3).length c189_3)).setCell ⟨gb190,4,none⟩ (.int .i64 ((rd_T24 ((rd_T29 l0 x11_1).f2) x31_2).f4))) w.heap.size (fun k_=>some k_≠(u3:Value).ownBlock∧some k_≠(u189002:Value).ownBlock∧some k_≠(.slice Ao17 t185.length co17:Value).ownBlock∧k_≠gb188) (.slice Ao18 t182.length co18) t182):=⟨by (with_reducible repeat (first|apply Kd.R_alloc|apply Kd.R_drewN|apply Kd.R_drew));exact Kd.R_mono (Kd.R_far (p:=⟨gb190,4,none⟩) (Kd.R_far (p:=⟨gb190,3,none⟩) (Kd.R_far (p:=⟨gb190,2,none⟩) (Kd.R_far (p:=⟨gb190,1,none⟩) (Kd.R_far (p:=⟨gb190,0,none⟩) (Kd.R_types HO_189003.out BK190.out (by decide)) (fun _ hk=>hk.2) (.string ((rd_T24 ((rd_T29 l0 x11_1).f2) x31_2).f0))) (fun _ hk=>hk.2) (.string ((rd_T24 ((rd_T29 l0 x11_1).f2) x31_2).f1))) (fun _ hk=>hk.2) (.int .i64 ((rd_T24 ((rd_T29 l0 x11_1).f2) x31_2).f2))) (fun _ hk=>hk.2) (.slice A189_3 ((rd_T24 ((rd_T29 l0 x11_1).f2) x31_2).f3).length c189_3)) (fun _ hk=>hk.2) (.int .i64 ((rd_T24 ((rd_T29 l0 x11_1).f2) x31_2).f4))) (fun _ hk=>⟨hk.1.1,⟨hk.1.2.1,⟨hk.1.2.2.1,hk.1.2.2.2⟩⟩⟩)⟩
            have n3_:Aside0 (Kd.R k76 76 (((((w32.setCell ⟨gb190,0,none⟩ (.string ((rd_T24 ((rd_T29 l0 x11_1).f2) x31_2).f0))).setCell ⟨gb190,1,none⟩ (.string ((rd_T24 ((rd_T29 l0 x11_1).f2) x31_2).f1))).setCell ⟨gb190,2,none⟩ (.int .i64 ((rd_T24 ((rd_T29 l0 x11_1).f2) x31_2).f2))).setCell ⟨gb190,3,none⟩ (.slice A189_3 ((rd_T24 ((rd_T29 l0 x11_1).f2) x31_2).f3).length c189_3)).setCell ⟨gb190,4,none⟩ (.int .i64 ((rd_T24 ((rd_T29 l0 x11_1).f2) x31_2).f4))) w.heap.size (fun k_=>some k_≠(u3:Value).ownBlock∧some k_≠(u189002:Value).ownBlock∧some k_≠(.slice Ao18 t182.length co18:Value).ownBlock∧k_≠gb188) (.slice Ao17 t185.length co17) t185):=⟨by (with_reducible repeat (first|apply Kd.R_alloc|apply Kd.R_drewN|apply Kd.R_drew));exact Kd.R_mono (Kd.R_far (p:=⟨gb190,4,none⟩) (Kd.R_far (p:=⟨gb190,3,none⟩) (Kd.R_far (p:=⟨gb190,2,none⟩) (Kd.R_far (p:=⟨gb190,1,none⟩) (Kd.R_far (p:=⟨gb190,0,none⟩) (Kd.R_types HO_189004.out BK190.out (by decide)) (fun _ hk=>hk.2) (.string ((rd_T24 ((rd_T29 l0 x11_1).f2) x31_2).f0))) (fun _ hk=>hk.2) (.string ((rd_T24 ((rd_T29 l0 x11_1).f2) x31_2).f1))) (fun _ hk=>hk.2) (.int .i64 ((rd_T24 ((rd_T29 l0 x11_1).f2) x31_2).f2))) (fun _ hk=>hk.2) (.slice A189_3 ((rd_T24 ((rd_T29 l0 x11_1).f2) x31_2).f3).length c189_3)) (fun _ hk=>hk.2) (.int .i64 ((rd_T24 ((rd_T29 l0 x11_1).f2) x31_2).f4))) (fun _ hk=>⟨hk.1.1,⟨hk.1.2.1,⟨hk.1.2.2.1,hk.1.2.2.2⟩⟩⟩)⟩
            have n4_:Aside0 ((((((w32.setCell ⟨gb190,0,none⟩ (.string ((rd_T24 ((rd_T29 l0 x11_1).f2) x31_2).f0))).setCell ⟨gb190,1,none⟩ (.string ((rd_T24 ((rd_T29 l0 x11_1).f2) x31_2).f1))).setCell ⟨gb190,2,none⟩ (.int .i64 ((rd_T24 ((rd_T29 l0 x11_1).f2) x31_2).f2))).setCell ⟨gb190,3,none⟩ (.slice A189_3 ((rd_T24 ((rd_T29 l0 x11_1).f2) x31_2).f3).length c189_3)).setCell ⟨gb190,4,none⟩ (.int .i64 ((rd_T24 ((rd_T29 l0 x11_1).f2) x31_2).f4))).heap[gb181]?=some (.cells #[.string ((rd_T29 l0 x11_1).f0),.string ((rd_T29 l0 x11_1).f1),.slice (some ad189) ((rd_T29 l0 x11_1).f2).length c180_2,.slice A180_3 ((rd_T29 l0 x11_1).f3).length c180_3,.slice A180_4 ((rd_T29 l0 x11_1).f4).length c180_4,.int .i64 ((rd_T29 l0 x11_1).f5)] 29 (0,0))):=⟨kbc_ BK181.out⟩
            have n5_:Aside0 ((((((w32.setCell ⟨gb190,0,none⟩ (.string ((rd_T24 ((rd_T29 l0 x11_1).f2) x31_2).f0))).setCell ⟨gb190,1,none⟩ (.string ((rd_T24 ((rd_T29 l0 x11_1).f2) x31_2).f1))).setCell ⟨gb190,2,none⟩ (.int .i64 ((rd_T24 ((rd_T29 l0 x11_1).f2) x31_2).f2))).setCell ⟨gb190,3,none⟩ (.slice A189_3 ((rd_T24 ((rd_T29 l0 x11_1).f2) x31_2).f3).length c189_3)).setCell ⟨gb190,4,none⟩ (.int .i64 ((rd_T24 ((rd_T29 l0 x11_1).f2) x31_2).f4))).heap[gb188]?=some (.cells #[.string ((rd_T29 l0 x11_1).f0),.string ((rd_T29 l0 x11_1).f1),u189002,.slice Ao18 t182.length co18,.slice Ao17 t185.length co17,.int .i64 ((rd_T29 l0 x11_1).f5)] 76 (0,0))):=⟨kbc_ BK188.out⟩
            have n6_:Aside0 ((((((w32.setCell ⟨gb190,0,none⟩ (.string ((rd_T24 ((rd_T29 l0 x11_1).f2) x31_2).f0))).setCell ⟨gb190,1,none⟩ (.string ((rd_T24 ((rd_T29 l0 x11_1).f2) x31_2).f1))).setCell ⟨gb190,2,none⟩ (.int .i64 ((rd_T24 ((rd_T29 l0 x11_1).f2) x31_2).f2))).setCell ⟨gb190,3,none⟩ (.slice A189_3 ((rd_T24 ((rd_T29 l0 x11_1).f2) x31_2).f3).length c189_3)).setCell ⟨gb190,4,none⟩ (.int .i64 ((rd_T24 ((rd_T29 l0 x11_1).f2) x31_2).f4))).heap[gb190]?=some (.cells #[.string ((rd_T24 ((rd_T29 l0 x11_1).f2) x31_2).f0),.string ((rd_T24 ((rd_T29 l0 x11_1).f2) x31_2).f1),.int .i64 ((rd_T24 ((rd_T29 l0 x11_1).f2) x31_2).f2),.slice A189_3 ((rd_T24 ((rd_T29 l0 x11_1).f2) x31_2).f3).length c189_3,.int .i64 ((rd_T24 ((rd_T29 l0 x11_1).f2) x31_2).f4)] 24 (0,0))):=⟨kbc_ BK190.out⟩
            have n7_:Aside0 (Below w.heap.size w (((((w32.setCell ⟨gb190,0,none⟩ (.string ((rd_T24 ((rd_T29 l0 x11_1).f2) x31_2).f0))).setCell ⟨gb190,1,none⟩ (.string ((rd_T24 ((rd_T29 l0 x11_1).f2) x31_2).f1))).setCell ⟨gb190,2,none⟩ (.int .i64 ((rd_T24 ((rd_T29 l0 x11_1).f2) x31_2).f2))).setCell ⟨gb190,3,none⟩ (.slice A189_3 ((rd_T24 ((rd_T29 l0 x11_1).f2) x31_2).f3).length c189_3)).setCell ⟨gb190,4,none⟩ (.int .i64 ((rd_T24 ((rd_T29 l0 x11_1).f2) x31_2).f4)))):=⟨bl_ HB.out⟩
            (try clear HO_3)
            (try clear HO_189002)
            (try clear HO_189003)
            (try clear HO_189004)
            (try clear BK181)
            (try clear BK188)
            (try clear BK190)
            (try clear HB)
            generalize (((((w32.setCell ⟨gb190,0,none⟩ (.string ((rd_T24 ((rd_T29 l0 x11_1).f2) x31_2).f0))).setCell ⟨gb190,1,none⟩ (.string ((rd_T24 ((rd_T29 l0 x11_1).f2) x31_2).f1))).setCell ⟨gb190,2,none⟩ (.int .i64 ((rd_T24 ((rd_T29 l0 x11_1).f2) x31_2).f2))).setCell ⟨gb190,3,none⟩ (.slice A189_3 ((rd_T24 ((rd_T29 l0 x11_1).f2) x31_2).f3).length c189_3)).setCell ⟨gb190,4,none⟩ (.int .i64 ((rd_T24 ((rd_T29 l0 x11_1).f2) x31_2).f4)))=w36 at n0_ n1_ n2_ n3_ n4_ n5_ n6_ n7_ ⊢
            have HO_3:=n0_
            have HO_189002:=n1_
            have HO_189003:=n2_
            have HO_189004:=n3_
            have BK181:=n4_
            have BK188:=n5_
            have BK190:=n6_
            have HB:=n7_
            clear n0_ n1_ n2_ n3_ n4_ n5_ n6_ n7_
            have n0_:=Aside0.mk (Kd.R_drew HO_3.out)
            have n1_:=Aside0.mk (Kd.R_drew HO_189002.out)
            have n2_:=Aside0.mk (Kd.R_drew HO_189003.out)
            have n3_:=Aside0.mk (Kd.R_drew HO_189004.out)
            have n4_:=Aside0.mk (blk_drew BK181.out)
            have n5_:=Aside0.mk (blk_drew BK188.out)
            have n6_:=Aside0.mk (blk_drew BK190.out)
            have n7_:=Aside0.mk (below_drew1 HB.out)
            clear HO_3
            clear HO_189002
            clear HO_189003
            clear HO_189004
            clear BK181
            clear BK188
            clear BK190
            clear HB
            have HO_3:=n0_
            have HO_189002:=n1_
            have HO_189003:=n2_
            have HO_189004:=n3_
            have BK181:=n4_
            have BK188:=n5_
            have BK190:=n6_
            have HB:=n7_
            clear n0_ n1_ n2_ n3_ n4_ n5_ n6_ n7_
            refine start_ (n:=8) (S:=fun w'=>w'.cell? ⟨gb188,0,none⟩=some (.string ((rd_T29 l0 x11_1).f0))∧w'.cell? ⟨gb188,1,none⟩=some (.string ((rd_T29 l0 x11_1).f1))∧w'.cell? ⟨gb188,2,none⟩=some (u189002)∧w'.cell? ⟨gb188,3,none⟩=some (.slice Ao18 t182.length co18)∧w'.cell? ⟨gb188,4,none⟩=some (.slice Ao17 t185.length co17)∧w'.cell? ⟨gb188,5,none⟩=some (.int .i64 ((rd_T29 l0 x11_1).f5))∧w'.cell? ⟨gb190,0,none⟩=some (.string ((rd_T24 ((rd_T29 l0 x11_1).f2) x31_2).f0))∧w'.cell? ⟨gb190,1,none⟩=some (.string ((rd_T24 ((rd_T29 l0 x11_1).f2) x31_2).f1))∧w'.cell? ⟨gb190,2,none⟩=some (.int .i64 ((rd_T24 ((rd_T29 l0 x11_1).f2) x31_2).f2))∧w'.cell? ⟨gb190,3,none⟩=some (.slice A189_3 ((rd_T24 ((rd_T29 l0 x11_1).f2) x31_2).f3).length c189_3)∧w'.cell? ⟨gb190,4,none⟩=some (.int .i64 ((rd_T24 ((rd_T29 l0 x11_1).f2) x31_2).f4))) (ds:=[7]) (flg 8 0) (by kernel_rfl) rfl (by kernel_rfl) ⟨zc_ BK188.out 0,zc_ BK188.out 1,zc_ BK188.out 2,zc_ BK188.out 3,zc_ BK188.out 4,zc_ BK188.out 5,zc_ BK190.out 0,zc_ BK190.out 1,zc_ BK190.out 2,zc_ BK190.out 3,zc_ BK190.out 4⟩ (fun hHeld=>?_);refine with_tabW helmsmanlaw12_Stmts.tab9 helmsmanlaw12_Stmts.bits9 (fun HT_ HW_=>?_)
            generalize w36.drew=w37 at HO_3 HO_189002 HO_189003 HO_189004 BK181 BK188 BK190 HB hHeld ⊢
            refine pur_ 0 35 (flg 8 1) rfl rfl (any_of HT_.out (by kernel_rfl)) (fun _ _ _ h=>h) ?_
            refine tak_ 1 36 (flg 8 3) rfl rfl (take_ofW HT_.out HW_.out (by kernel_rfl)) (fun _ _ _ h=>h) hHeld ?_
            refine tak_ 2 37 (flg 8 7) rfl rfl (take_ofW HT_.out HW_.out (by kernel_rfl)) (fun _ _ _ h=>h) hHeld ?_
            refine one_ (i:=3) (N:=some 38) (flg 8 15) rfl rfl (one_of HT_.out (by kernel_rfl)) (by decide) (fun K hK=>?_)
            refine goes_ Tryd.func11 (by kernel_rfl) rfl #[.agg #[.string ((rd_T24 ((rd_T29 l0 x11_1).f2) x31_2).f0),.string ((rd_T24 ((rd_T29 l0 x11_1).f2) x31_2).f1),.int .i64 ((rd_T24 ((rd_T29 l0 x11_1).f2) x31_2).f2),.slice A189_3 ((rd_T24 ((rd_T29 l0 x11_1).f2) x31_2).f3).length c189_3,.int .i64 ((rd_T24 ((rd_T29 l0 x11_1).f2) x31_2).f4)]] (by rfl) rfl rfl ar_ ?_
            with_reducible refine (helmsmanlaw12_Expr.calls k2 ((rd_T24 ((rd_T29 l0 x11_1).f2) x31_2).f0) ((rd_T24 ((rd_T29 l0 x11_1).f2) x31_2).f1) ((rd_T24 ((rd_T29 l0 x11_1).f2) x31_2).f2) _ _ ((rd_T24 ((rd_T29 l0 x11_1).f2) x31_2).f3) ((rd_T24 ((rd_T29 l0 x11_1).f2) x31_2).f4) t191 t192 t193 t194 t197 _ ?side1 ?side2 A30.out).mono ?_
            (case side1=>exact kc_ HR189_3.out HB.out)
            (case side2=>exact HC189_3.out)
            rintro e w38 ⟨v195,rfl,ho0,hb⟩
            refine ⟨_,rfl,?_⟩
            have n0_:=Aside0.mk (Kd.R_elder' (by (with_reducible repeat (first|apply Kd.R_alloc|apply Kd.R_drewN|apply Kd.R_drew));exact HO_3.out) (Kd.R_base ho0) hb)
            have n1_:=Aside0.mk (Kd.R_elder' (by (with_reducible repeat (first|apply Kd.R_alloc|apply Kd.R_drewN|apply Kd.R_drew));exact HO_189002.out) (Kd.R_base ho0) hb)
            have n2_:=Aside0.mk (Kd.R_elder' (by (with_reducible repeat (first|apply Kd.R_alloc|apply Kd.R_drewN|apply Kd.R_drew));exact HO_189003.out) (Kd.R_base ho0) hb)
            have n3_:=Aside0.mk (Kd.R_elder' (by (with_reducible repeat (first|apply Kd.R_alloc|apply Kd.R_drewN|apply Kd.R_drew));exact HO_189004.out) (Kd.R_base ho0) hb)
            have n4_:=Aside0.mk (Kd.R_lower (Kd.R_new' ho0 (Kd.R_lt (by (with_reducible repeat (first|apply Kd.R_alloc|apply Kd.R_drewN|apply Kd.R_drew));exact HO_189002.out))) (below_size (bl_ HB.out)))
            have n5_:=Aside0.mk (bb_ BK181.out hb)
            have n6_:=Aside0.mk (bb_ BK188.out hb)
            have n7_:=Aside0.mk (bb_ BK190.out hb)
            have n8_:=Aside0.mk (below_step (bl_ HB.out) hb)
            clear HO_3
            clear HO_189002
            clear HO_189003
            clear HO_189004
            clear BK181
            clear BK188
            clear BK190
            clear HB
            have HO_3:=n0_
            have HO_189002:=n1_
            have HO_189003:=n2_
            have HO_189004:=n3_
            have HO196:=n4_
            have BK181:=n5_
            have BK188:=n6_
            have BK190:=n7_
            have HB:=n8_
            clear n0_ n1_ n2_ n3_ n4_ n5_ n6_ n7_ n8_
            (try clear hb)
            (try clear hb2)
            (try clear hk)
            (try clear hi)
            (try clear ho0)
            obtain ⟨Ao40,co40,eo40⟩:=Kd.R_slice HO196.out
            (first|subst eo40|(injection eo40 with f1_ f2_ f3_;have f4_:=f1_.symm;have f5_:=f3_.symm;clear f1_ f2_ f3_;subst f4_;subst f5_))
            refine hK.out _ _ ⟨zc_ BK188.out 0,zc_ BK188.out 1,zc_ BK188.out 2,zc_ BK188.out 3,zc_ BK188.out 4,zc_ BK188.out 5,zc_ BK190.out 0,zc_ BK190.out 1,zc_ BK190.out 2,zc_ BK190.out 3,zc_ BK190.out 4⟩ (fun hHeld=>?_)
            clear hK K
            refine norm_ (a':=?_) ?_ ?_
            rotate_left
            ·show Act.put _ (some 38) _=_
             simp only [Act.put,List.setIfInBounds_toArray,List.set_cons_zero,List.set_cons_succ,i64_w,i32_w]
             rfl
            refine one_ (i:=4) (N:=some 39) (flg 8 31) rfl rfl (one_of HT_.out (by kernel_rfl)) (by decide) (fun K hK=>?_)
            refine value_ (w1:=?_) (v:=?_) (by rfl) rfl ?_ ?_
            rotate_left 2
            ·go_simp
             constructor
             ·rfl
             ·rfl
            refine hK.out _ _ ⟨(blk_cell (blk_alloc BK188.out _) 0).trans rfl,(blk_cell (blk_alloc BK188.out _) 1).trans rfl,(blk_cell (blk_alloc BK188.out _) 2).trans rfl,(blk_cell (blk_alloc BK188.out _) 3).trans rfl,(blk_cell (blk_alloc BK188.out _) 4).trans rfl,(blk_cell (blk_alloc BK188.out _) 5).trans rfl,(blk_cell (blk_alloc BK190.out _) 0).trans rfl,(blk_cell (blk_alloc BK190.out _) 1).trans rfl,(blk_cell (blk_alloc BK190.out _) 2).trans rfl,(blk_cell (blk_alloc BK190.out _) 3).trans rfl,(blk_cell (blk_alloc BK190.out _) 4).trans rfl⟩ (fun hHeld=>?_)
            clear hK K
            refine norm_ (a':=?_) ?_ ?_
            rotate_left
            ·show Act.put _ (some 39) _=_
             simp only [Act.put,List.setIfInBounds_toArray,List.set_cons_zero,List.set_cons_succ,i64_w,i32_w]
             rfl
            refine one_ (i:=5) (N:=some 40) (flg 8 63) rfl rfl (one_of HT_.out (by kernel_rfl)) (by decide) (fun K hK=>?_)
            refine Kd.R_append_step k33 (w0:=w) w.heap.size (by rfl) (.tmp 36) (.tmp 39) 31 33 (.agg #[(.string ⟨#[]⟩),(.string ⟨#[]⟩),(.int .i64 0),(.slice none 0 0),(.int .i64 0)]) 72 rfl Tryd.underlying31 info33 rfl (by decide) (by omega) u189002 x189002_2 (⟨t191,t192,t193,t194,t197⟩:S33) [.string t191,.string t192,.int .i64 t193,.slice Ao40 t194.length co40,.int .i64 t197] (fun _=>True) (fun k_=>((fun _=>True)) k_∧some k_≠(u189002:Value).ownBlock) rfl rfl ?aP (fun _ hk=>hk) ?aF ?aO ?aB ?aS ?aL ?_
            (case aP=>exact k33_mkM _ _ _ (⟨t191,t192,t193,t194,t197⟩:S33) (Kd.R_mono (HO196.out) (fun k_ hk=>⟨trivial,hk.2⟩)))
            (case aB=>exact (bl_ HB.out))
            (case aF=>exact (fun _ _=>trivial))
            (case aO=>exact (by (with_reducible repeat (first|apply Kd.R_alloc|apply Kd.R_drewN|apply Kd.R_drew));exact Kd.R_mono HO_189002.out (fun _ hk=>trivial)))
            (case aS=>exact (below_size (bl_ HB.out)))
            (case aL=>have:=LMc31.out;omega)
            intro v199 w39 ho hb hg hat
            rw [← Ny198.out] at ho
            have n0_:=Aside0.mk (Kd.R_after (ok:=(fun k_=>some k_≠(.slice Ao18 t182.length co18:Value).ownBlock∧some k_≠(.slice Ao17 t185.length co17:Value).ownBlock∧some k_≠(.slice Ao40 t194.length co40:Value).ownBlock∧k_≠gb188)) (by (with_reducible repeat (first|apply Kd.R_alloc|apply Kd.R_drewN|apply Kd.R_drew));exact Kd.R_mono HO_3.out (fun _ hk=>⟨⟨hk.1.2.1,⟨hk.1.2.2.1,⟨hk.2,hk.1.2.2.2⟩⟩⟩,hk.1.1⟩)) hg hat)
            have n1_:=Aside0.mk (Kd.R_after (ok:=(fun k_=>some k_≠(u3:Value).ownBlock∧some k_≠(.slice Ao17 t185.length co17:Value).ownBlock∧some k_≠(.slice Ao40 t194.length co40:Value).ownBlock∧k_≠gb188)) (by (with_reducible repeat (first|apply Kd.R_alloc|apply Kd.R_drewN|apply Kd.R_drew));exact Kd.R_mono HO_189003.out (fun _ hk=>⟨⟨hk.1.1,⟨hk.1.2.2.1,⟨hk.2,hk.1.2.2.2⟩⟩⟩,hk.1.2.1⟩)) hg hat)
            have n2_:=Aside0.mk (Kd.R_after (ok:=(fun k_=>some k_≠(u3:Value).ownBlock∧some k_≠(.slice Ao18 t182.length co18:Value).ownBlock∧some k_≠(.slice Ao40 t194.length co40:Value).ownBlock∧k_≠gb188)) (by (with_reducible repeat (first|apply Kd.R_alloc|apply Kd.R_drewN|apply Kd.R_drew));exact Kd.R_mono HO_189004.out (fun _ hk=>⟨⟨hk.1.1,⟨hk.1.2.2.1,⟨hk.2,hk.1.2.2.2⟩⟩⟩,hk.1.2.1⟩)) hg hat)
            have n3_:=Aside0.mk (bg_ BK181.out hg (Kd.R_ne HO_189002.out BK181.out (by decide)))
            have n4_:=Aside0.mk (bg_ BK188.out hg (Kd.R_ne HO_189002.out BK188.out (by decide)))
            have n5_:=Aside0.mk (bg_ BK190.out hg (Kd.R_ne HO_189002.out BK190.out (by decide)))
            have n6_:=Aside0.mk (hb)
            have n7_:=Aside0.mk (ho)
            clear HO_3
            clear HO_189003
            clear HO_189004
            clear BK181
            clear BK188
            clear BK190
            clear HB
            clear HO_189002
            clear HO196
            have HO_3:=n0_
            have HO_189003:=n1_
            have HO_189004:=n2_
            have BK181:=n3_
            have BK188:=n4_
            have BK190:=n5_
            have HB:=n6_
            have HO200:=n7_
            clear n0_ n1_ n2_ n3_ n4_ n5_ n6_ n7_
            clear ho hb hg hat
            obtain ⟨Ao41,co41,eo41⟩:=Kd.R_slice HO200.out
            (first|subst eo41|(injection eo41 with f1_ f2_ f3_;have f4_:=f1_.symm;have f5_:=f3_.symm;clear f1_ f2_ f3_;subst f4_;subst f5_))
            refine hK.out _ _ ⟨zc_ BK188.out 0,zc_ BK188.out 1,zc_ BK188.out 2,zc_ BK188.out 3,zc_ BK188.out 4,zc_ BK188.out 5,zc_ BK190.out 0,zc_ BK190.out 1,zc_ BK190.out 2,zc_ BK190.out 3,zc_ BK190.out 4⟩ (fun hHeld=>?_)
            clear hK K
            refine norm_ (a':=?_) ?_ ?_
            rotate_left
            ·show Act.put _ (some 40) _=_
             simp only [Act.put,List.setIfInBounds_toArray,List.set_cons_zero,List.set_cons_succ,i64_w,i32_w]
             rfl
            refine pur_ 6 41 (flg 8 127) rfl rfl (any_of HT_.out (by kernel_rfl)) (fun _ _ _ h=>h) ?_
            refine last_ (i:=7) (N:=none) (flg 8 255) rfl rfl (one_of HT_.out (by kernel_rfl)) (by decide) (fun K hK=>?_)
            have hs42:w39.cell? ⟨gb188,2,none⟩=some (u189002):=zc_ BK188.out 2
            have hfs42:=blk_frozen BK188.out 2
            have hns42_0:=NB181_188.out
            have hns42_2:=NB190_188.out
            have hms42_0:=NB188_181.out
            have hms42_2:=NB188_190.out
            refine skip_ (w1:=?_) (by rfl) rfl ?_ ?_
            rotate_left
            ·go_simp
             rfl
            refine hK.out _ _ ?_
            clear hK K
            refine done_ (done_of HT_.out (by kernel_rfl)) ?_
            try go_wp2
            go_roundg k2
            case measure=>have:=HK1.out;have:=HK2.out;omega
            case rel=>exact ⟨(wrap64 (x31_2+1)),(y198),(.slice Ao41 y198.length co41),rf_,H',⟨by have:=HK1.out;have:=HK2.out;omega⟩,⟨by (with_reducible repeat (first|apply Kd.R_alloc|apply Kd.R_drewN|apply Kd.R_drew));exact Kd.R_mono (Kd.R_far (p:=⟨gb188,2,none⟩) (Kd.R_mono HO_3.out (fun k_ hk=>(⟨hk,hk.1.2.2.2⟩:_∧k_≠gb188))) (fun _ hk=>hk.2) (.slice Ao41 y198.length co41)) (fun _ hk=>⟨hk.1.2,⟨hk.1.1.1,⟨hk.1.1.2.1,hk.1.1.2.2.2⟩⟩⟩)⟩,⟨by (with_reducible repeat (first|apply Kd.R_alloc|apply Kd.R_drewN|apply Kd.R_drew));exact Kd.R_mono (Kd.R_far (p:=⟨gb188,2,none⟩) (Kd.R_types HO200.out BK188.out (by decide)) (fun _ hk=>hk.2) (.slice Ao41 y198.length co41)) (fun _ hk=>trivial)⟩,⟨by (with_reducible repeat (first|apply Kd.R_alloc|apply Kd.R_drewN|apply Kd.R_drew));exact Kd.R_mono (Kd.R_far (p:=⟨gb188,2,none⟩) (Kd.R_mono HO_189003.out (fun k_ hk=>(⟨hk,hk.1.2.2.2⟩:_∧k_≠gb188))) (fun _ hk=>hk.2) (.slice Ao41 y198.length co41)) (fun _ hk=>⟨hk.1.1.1,⟨hk.1.2,⟨hk.1.1.2.1,hk.1.1.2.2.2⟩⟩⟩)⟩,⟨by (with_reducible repeat (first|apply Kd.R_alloc|apply Kd.R_drewN|apply Kd.R_drew));exact Kd.R_mono (Kd.R_far (p:=⟨gb188,2,none⟩) (Kd.R_mono HO_189004.out (fun k_ hk=>(⟨hk,hk.1.2.2.2⟩:_∧k_≠gb188))) (fun _ hk=>hk.2) (.slice Ao41 y198.length co41)) (fun _ hk=>⟨hk.1.1.1,⟨hk.1.2,⟨hk.1.1.2.1,hk.1.1.2.2.2⟩⟩⟩)⟩,⟨kbc_ BK181.out⟩,⟨kbc_ BK188.out⟩,⟨bl_ HB.out⟩⟩
           ·rw [if_neg c31] at H
            exact absurd H (by simp)
          ·rw [if_neg c29] at H
           exact absurd H (by simp)
         ·rw [if_neg c28] at H
          exact absurd H (by simp)
        ·rw [if_neg c27] at H
         have c27b0:decide (x31_2 < (((rd_T29 l0 x11_1).f2).length:Int))=false:=decide_eq_false c27
         clear c27
         by_cases c43:x3_1.length < 1256584717458
         ·rw [if_pos c43] at H
          have LMc43:=Aside0.mk c43
          clear c43
          obtain ⟨y201,hy201⟩ : ∃ y_:List (S76),y_=(x3_1++[(⟨((rd_T29 l0 x11_1).f0),((rd_T29 l0 x11_1).f1),x189002_2,t182,t185,((rd_T29 l0 x11_1).f5)⟩:S76)]):=⟨_,rfl⟩
          replace H:(helmsmanlaw12_Stmts.l0 k2 y201 l0 (l0.length:Int) (wrap64 (x11_1+1)))=some r:=by first|(rw [hy201];with_reducible exact H)|(have H2_:=(Option.bind_some _ _).symm.trans H;rw [hy201];with_reducible exact H2_)|(have H2_:=(Option.bind_some _ _).symm.trans H;with_reducible exact H2_)|with_reducible exact H|(rw [hy201];exact H)|exact H
          have Ny201:=Aside0.mk hy201
          clear hy201
          have H':=Aside0.mk H
          clear H
          have hnb44:=NB188_181.out
          have hnc44:=NB181_188.out
          have hcz45_0:wr.cell? ⟨gb188,0,none⟩=some (.string ((rd_T29 l0 x11_1).f0)):=zc_ BK188.out 0
          have hcz45_1:wr.cell? ⟨gb188,1,none⟩=some (.string ((rd_T29 l0 x11_1).f1)):=zc_ BK188.out 1
          have hcz45_2:wr.cell? ⟨gb188,2,none⟩=some (u189002):=zc_ BK188.out 2
          have hcz45_3:wr.cell? ⟨gb188,3,none⟩=some (.slice Ao18 t182.length co18):=zc_ BK188.out 3
          have hcz45_4:wr.cell? ⟨gb188,4,none⟩=some (.slice Ao17 t185.length co17):=zc_ BK188.out 4
          have hcz45_5:wr.cell? ⟨gb188,5,none⟩=some (.int .i64 ((rd_T29 l0 x11_1).f5)):=zc_ BK188.out 5
          have hfz45_0:=blk_frozen BK188.out 0
          have hfz45_1:=blk_frozen BK188.out 1
          have hfz45_2:=blk_frozen BK188.out 2
          have hfz45_3:=blk_frozen BK188.out 3
          have hfz45_4:=blk_frozen BK188.out 4
          have hfz45_5:=blk_frozen BK188.out 5
          obtain ⟨Ao47,co47,eo47⟩:=Kd.R_slice HO_189002.out
          subst eo47
          go_wp2_with (first|((with_reducible refine gate_builtin (b:=.append) (xs:=#[.tmp 43,.tmp 45]) rfl ?_);at_builtin;refine Kd.R_append k76 (w0:=w) w.heap.size rfl (.tmp 43) (.tmp 45) 48 76 (.agg #[(.string ⟨#[]⟩),(.string ⟨#[]⟩),(.slice none 0 0),(.slice none 0 0),(.slice none 0 0),(.int .i64 0)]) 112 rfl Tryd.underlying48 info76 rfl (by decide) (by omega) u3 x3_1 (⟨((rd_T29 l0 x11_1).f0),((rd_T29 l0 x11_1).f1),x189002_2,t182,t185,((rd_T29 l0 x11_1).f5)⟩:S76) [.string ((rd_T29 l0 x11_1).f0),.string ((rd_T29 l0 x11_1).f1),.slice Ao47 x189002_2.length co47,.slice Ao18 t182.length co18,.slice Ao17 t185.length co17,.int .i64 ((rd_T29 l0 x11_1).f5)] (fun k_=>k_≠gb188) (fun k_=>((fun k_=>k_≠gb188)) k_∧some k_≠(u3:Value).ownBlock) rfl rfl ?aP (fun _ hk=>hk) ?aF ?aO ?aB ?aS ?aL ?_;(case aP=>exact k76_mkM _ _ _ (⟨((rd_T29 l0 x11_1).f0),((rd_T29 l0 x11_1).f1),x189002_2,t182,t185,((rd_T29 l0 x11_1).f5)⟩:S76) (Kd.R_mono (Kd.R_types (Kd.R_apart' (HO_189002.out) (Kd.R_typed HO_3.out) (by decide)) BK188.out (by decide)) (fun k_ hk=>⟨hk.2,hk.1.2⟩)) (Kd.R_mono (HO_189003.out) (fun k_ hk=>⟨hk.2.2.2,hk.1⟩)) (Kd.R_mono (HO_189004.out) (fun k_ hk=>⟨hk.2.2.2,hk.1⟩)));(case aB=>exact (bl_ HB.out));(case aF=>exact (fun k_ hk=>Kd.freshB (g:=gb188) (o:=.cells #[.string ((rd_T29 l0 x11_1).f0),.string ((rd_T29 l0 x11_1).f1),.slice Ao47 x189002_2.length co47,.slice Ao18 t182.length co18,.slice Ao17 t185.length co17,.int .i64 ((rd_T29 l0 x11_1).f5)] 76 (0,0)) (kb_ BK188.out) k_ hk));(case aO=>exact (by (with_reducible repeat (first|apply Kd.R_alloc|apply Kd.R_drewN|apply Kd.R_drew));exact Kd.R_mono HO_3.out (fun _ hk=>hk.2.2.2)));(case aS=>exact (below_size (bl_ HB.out)));(case aL=>have:=LMc43.out;omega);intro v202 w46 ho hb hg hat;rw [← Ny201.out] at ho;have n0_:=Aside0.mk (bg_ BK181.out hg (Kd.R_ne HO_3.out BK181.out (by decide)));have n1_:=Aside0.mk (bg_ BK188.out hg (Kd.R_away HO_3.out (fun _ hk=>hk.2.2.2)));have n2_:=Aside0.mk (hb);have n3_:=Aside0.mk (ho);clear BK181;clear BK188;clear HB;clear HO_3;clear HO_189002;clear HO_189003;clear HO_189004;have BK181:=n0_;have BK188:=n1_;have HB:=n2_;have HO203:=n3_;clear n0_ n1_ n2_ n3_;clear ho hb hg hat))
          go_roundg k2
          case measure=>have:=HK1.out;have:=HK2.out;omega
          case rel=>exact ⟨(y201),(wrap64 (x11_1+1)),rf_,H',⟨by have:=HK1.out;have:=HK2.out;omega⟩,⟨by (with_reducible repeat (first|apply Kd.R_alloc|apply Kd.R_drewN|apply Kd.R_drew));exact Kd.R_mono HO203.out (fun _ hk=>trivial)⟩,⟨bl_ HB.out⟩⟩
         ·rw [if_neg c43] at H
          exact absurd H (by simp)
     ·rw [if_neg c4] at H
      exact absurd H (by simp)
    ·rw [if_neg c3] at H
     exact absurd H (by simp)
   ·rw [if_neg c2] at H
    have c2b0:decide (x11_1 < (l0.length:Int))=false:=decide_eq_false c2
    clear c2
    obtain rfl:=Option.some.inj H
    go_wp2
    go_ret
    exact ⟨_,rt_,by (with_reducible repeat (first|apply Kd.R_alloc|apply Kd.R_drewN|apply Kd.R_drew));exact HO_3.out,bl_ HB.out⟩
end Go.Proofs.YtnnbbeloifhofaaDoor.P
end
section
namespace Go.Proofs.YtnnbbeloifhofaaDoor.P
open Go.RowKit Go.Proofs.YtnnbbeloifhofaaDoorW.PrintWords Go.Proofs.YtnnbbeloifhofaaDoorW.PrintLast Go.Proofs.YtnnbbeloifhofaaDoorW.PrintMore
attribute [local go_sem] max2_int min2_int max_two min_two max_three min_three max_four min_four
set_option linter.unusedVariables false
set_option linter.unusedSimpArgs false
mutual
def helmsmanlaw12_movedExprs.l0:Nat→Int→List (S33)→List (S33)→Int→Int→Option ((List (S33)))
 | 0,_,_,_,_,_=>none
 | k+1,x1,x5,x9,x10,x11=>if x11 < x10 then (if 0≤x11 then (if x11 < (x9.length:Int) then ((helmsmanlaw12_movedExprs.f k ((rd_T33 x9 x11).f3) x1).bind fun t427=>(if x5.length < 1954687338268 then (helmsmanlaw12_movedExprs.l0 k x1 (x5++[(⟨(rd_T33 x9 x11).f0,(rd_T33 x9 x11).f1,(rd_T33 x9 x11).f2,t427,wrap64 (((rd_T33 x9 x11).f4)+x1)⟩:S33)]) x9 x10 (wrap64 (x11+1))) else (none))) else (none)) else (none)) else (some x5)
def helmsmanlaw12_movedExprs.f:Nat→List (S33)→Int→Option ((List (S33)))
 | 0,_,_=>none
 | k+1,l0,a1=>helmsmanlaw12_movedExprs.l0 k a1 ([]:List (S33)) l0 (l0.length:Int) 0
end
def helmsmanlaw12_movedExprs.T6:Bool × List (List Nat × List Nat):=(true,[([],[]),([0],[0]),([],[]),([1,2],[1,2]),([],[]),([4],[4]),([],[]),([5,6],[5,6]),([0,1,2,3],[]),([8,3,7,0,1,2,3],[3,8]),([0,1,2,3,4,5,6,7,8,9],[]),([10,7,9,0,1,2,3,4,5,6,7,8,9],[7,10])])
def helmsmanlaw12_movedExprs.B6:List Nat:=[0,1,0,7,0,16,0,112,15,511,1023,2047]
theorem helmsmanlaw12_movedExprs.tab6:rtab .any (opsOf Tryd.f52 6)=helmsmanlaw12_movedExprs.T6:=by kernel_rfl
theorem helmsmanlaw12_movedExprs.bits6:waitsOk helmsmanlaw12_movedExprs.T6.2 helmsmanlaw12_movedExprs.B6=true:=by kernel_rfl
set_option maxHeartbeats 8000000 in
set_option maxRecDepth 100000 in
theorem helmsmanlaw12_movedExprs.calls (k:Nat) : ∀ (A0:Option Addr) (c0:Nat) (l0:List (S33)) (a1:Int) (r:List (S33)) (w:World) (hr0:Kd.C k33 w A0 l0.length l0) (hc0:l0.length≤c0) (h:helmsmanlaw12_movedExprs.f k l0 a1=some r),
  Calls Tryd.prog 52 #[.slice A0 l0.length c0,.int .i64 a1] w fun e w'=>∃ v0_:Value,e=.returned (v0_)∧Kd.R k33 33 w' w.heap.size (fun _=>True) v0_ r∧Below w.heap.size w w':=by
 induction k using Nat.strongRecOn with
 | _ k ih=>
 intro A0 c0 l0 a1 r w hr0 hc0 h
 cases k with
 | zero=>exact absurd h (by simp [helmsmanlaw12_movedExprs.f])
 | succ k=>
 simp only [helmsmanlaw12_movedExprs.f] at h
 have hu33:=Tryd.underlying33
 have HR0:=Aside0.mk hr0
 have HC0:=Aside0.mk hc0
 clear hr0 hc0
 have HB:=Aside0.mk (Below.refl w.heap.size w)
 have H:(helmsmanlaw12_movedExprs.l0 k a1 ([]:List (S33)) l0 (l0.length:Int) 0)=some r:=h
 clear h
 have H':=Aside0.mk H
 clear H
 go_enter Tryd.func52,Tryd.ntmps52
 go_wp2
 (try simp only [Act.put,List.setIfInBounds_toArray,List.set_cons_succ,List.set_cons_zero])
 go_loopg [5,11] k (fun kq v5 v11 w'=>∃ (x5_1:List (S33)) (x11_1:Int),v11=.int .i64 x11_1∧Aside0 (helmsmanlaw12_movedExprs.l0 kq a1 x5_1 l0 (l0.length:Int) x11_1=some r)∧Aside0 (kq≤k)∧Aside0 (Kd.R k33 33 w' w.heap.size (fun _=>True) v5 x5_1)∧Aside0 (Below w.heap.size w w'))
 case atStart=>exact ⟨(([]:List (S33))),(0),rf_,H',⟨Nat.le_refl _⟩,⟨by first|exact Kd.R_nil _ _ _ _ _|exact Kd.N_nil _ _ _ _ _|exact Kd.V_nil _ _ _ _ _|exact Kd.Q_nil _ _ _ _ _|exact Kd.S_nil _ _ _ _ _⟩,⟨bl_ HB.out⟩⟩
 case round=>
  clear H'
  try clear p2
  obtain ⟨x5_1,x11_1,rfl,HA,HK1,HO_5,HB⟩:=hrel
  cases gk with
  | zero=>exact absurd HA.out (by simp [helmsmanlaw12_movedExprs.l0])
  | succ k1=>
   have H:=HA.out
   clear HA
   simp only [helmsmanlaw12_movedExprs.l0] at H
   by_cases c3:x11_1 < (l0.length:Int)
   ·rw [if_pos c3] at H
    have c3b0:decide (x11_1 < (l0.length:Int))=true:=decide_eq_true c3
    clear c3
    by_cases c4:0≤x11_1
    ·rw [if_pos c4] at H
     have c4b0:decide (0≤x11_1)=true:=decide_eq_true c4
     clear c4
     by_cases c5:x11_1 < (l0.length:Int)
     ·rw [if_pos c5] at H
      have c5b0:decide (x11_1 < (l0.length:Int))=true:=decide_eq_true c5
      clear c5
      replace H:=Option.bind_eq_some_iff.mp H
      obtain ⟨t427,A60,H⟩:=H
      replace H:(if x5_1.length < 1954687338268 then (helmsmanlaw12_movedExprs.l0 k1 a1 (x5_1++[(⟨(rd_T33 l0 x11_1).f0,(rd_T33 l0 x11_1).f1,(rd_T33 l0 x11_1).f2,t427,wrap64 (((rd_T33 l0 x11_1).f4)+a1)⟩:S33)]) l0 (l0.length:Int) (wrap64 (x11_1+1))) else (none))=some r:=H
      have A6:=Aside0.mk A60
      clear A60
      by_cases c7:x5_1.length < 1954687338268
      ·rw [if_pos c7] at H
       have LMc7:=Aside0.mk c7
       clear c7
       obtain ⟨y430,hy430⟩ : ∃ y_:List (S33),y_=(x5_1++[(⟨(rd_T33 l0 x11_1).f0,(rd_T33 l0 x11_1).f1,(rd_T33 l0 x11_1).f2,t427,wrap64 (((rd_T33 l0 x11_1).f4)+a1)⟩:S33)]):=⟨_,rfl⟩
       replace H:(helmsmanlaw12_movedExprs.l0 k1 a1 y430 l0 (l0.length:Int) (wrap64 (x11_1+1)))=some r:=by first|(rw [hy430];with_reducible exact H)|(have H2_:=(Option.bind_some _ _).symm.trans H;rw [hy430];with_reducible exact H2_)|(have H2_:=(Option.bind_some _ _).symm.trans H;with_reducible exact H2_)|with_reducible exact H|(rw [hy430];exact H)|exact H
       have Ny430:=Aside0.mk hy430
       clear hy430
       have H':=Aside0.mk H
       clear H
       have p424:0≤(x11_1:Int):=of_decide_eq_true as_
       have q424:x11_1 < (l0.length:Int):=of_decide_eq_true as_
       obtain ⟨ad424,A424_3,c424_3,e424,hx424_0,hx424_1,hx424_2,hx424_3,hx424_4,hl424_3,hi424_3⟩:=at_T33 HR0.out x11_1 p424 q424
       cases e424
       replace hx424_0:=(cb_ HB.out hx424_0:_)
       replace hx424_1:=(cb_ HB.out hx424_1:_)
       replace hx424_2:=(cb_ HB.out hx424_2:_)
       replace hx424_3:=(cb_ HB.out hx424_3:_)
       replace hx424_4:=(cb_ HB.out hx424_4:_)
       have HR424_3:=Aside0.mk hi424_3
       have HC424_3:=Aside0.mk hl424_3
       clear hi424_3 hl424_3
       replace p424:=eq_true p424
       replace q424:=eq_true q424
       try go_wp2_with (first|((with_reducible refine gate_dst (N:=7) rfl ?_);refine box_event ?hg (N:=7) ?hd (cs:=#[.string (⟨#[]⟩:ByteArray),.string (⟨#[]⟩:ByteArray),.int .i64 0,.slice none 0 0,.int .i64 0]) (t:=33) ?hr ?_;(case hd=>rfl);(case hg=>rfl);(case hr=>first|(go_simp;done)|(go_simp;rfl));intro gb425 hg w8 hbox hb;have n0_:=Aside0.mk (Kd.R_below (Kd.R_elderB (by (with_reducible repeat (first|apply Kd.R_alloc|apply Kd.R_drewN|apply Kd.R_drew));exact HO_5.out) gb425 (Nat.le_of_eq hg.symm)) hb);have n1_:=Aside0.mk (below_step (bl_ HB.out) hb);have n2_:=Aside0.mk (hbox);have n3_:=Aside0.mk ((gs_ hg (bl_ HB.out):w.heap.size≤gb425));have n4_:=Aside0.mk ((gs_ hg (bl_ HB.out):w.heap.size≤gb425));clear HO_5;clear HB;have HO_5:=n0_;have HB:=n1_;have BK425:=n2_;have GW425:=n3_;have GE425:=n4_;clear n0_ n1_ n2_ n3_ n4_;clear hb hbox hg;have hcz9_0:w8.cell? ⟨gb425,0,none⟩=some (.string (⟨#[]⟩:ByteArray)):=zc_ BK425.out 0;have hcz9_1:w8.cell? ⟨gb425,1,none⟩=some (.string (⟨#[]⟩:ByteArray)):=zc_ BK425.out 1;have hcz9_2:w8.cell? ⟨gb425,2,none⟩=some (.int .i64 0):=zc_ BK425.out 2;have hcz9_3:w8.cell? ⟨gb425,3,none⟩=some (.slice none 0 0):=zc_ BK425.out 3;have hcz9_4:w8.cell? ⟨gb425,4,none⟩=some (.int .i64 0):=zc_ BK425.out 4;have hfz9_0:=blk_frozen BK425.out 0;have hfz9_1:=blk_frozen BK425.out 1;have hfz9_2:=blk_frozen BK425.out 2;have hfz9_3:=blk_frozen BK425.out 3;have hfz9_4:=blk_frozen BK425.out 4)|((with_reducible refine gate_dst (N:=8) rfl ?_);refine box_event ?hg (N:=8) ?hd (cs:=#[.string (⟨#[]⟩:ByteArray),.string (⟨#[]⟩:ByteArray),.int .i64 0,.slice none 0 0,.int .i64 0]) (t:=33) ?hr ?_;(case hd=>rfl);(case hg=>rfl);(case hr=>first|(go_simp;done)|(go_simp;rfl));intro gb426 hg w10 hbox hb;have n0_:=Aside0.mk (Kd.R_below (Kd.R_elderB (by (with_reducible repeat (first|apply Kd.R_alloc|apply Kd.R_drewN|apply Kd.R_drew));exact (Kd.R_mono (Kd.R_far (p:=⟨gb425,4,none⟩) (Kd.R_far (p:=⟨gb425,3,none⟩) (Kd.R_far (p:=⟨gb425,2,none⟩) (Kd.R_far (p:=⟨gb425,1,none⟩) (Kd.R_far (p:=⟨gb425,0,none⟩) (Kd.R_mono HO_5.out (fun k_ hk=>(⟨hk,hk.2⟩:_∧k_≠gb425))) (fun _ hk=>hk.2) (.string ((rd_T33 l0 x11_1).f0))) (fun _ hk=>hk.2) (.string ((rd_T33 l0 x11_1).f1))) (fun _ hk=>hk.2) (.int .i64 ((rd_T33 l0 x11_1).f2))) (fun _ hk=>hk.2) (.slice A424_3 ((rd_T33 l0 x11_1).f3).length c424_3)) (fun _ hk=>hk.2) (.int .i64 ((rd_T33 l0 x11_1).f4))) (fun _ h_=>h_.1))) gb426 (Nat.le_of_eq hg.symm)) hb);have n1_:=Aside0.mk (blk_below (g:=gb425) (o:=.cells #[.string ((rd_T33 l0 x11_1).f0),.string ((rd_T33 l0 x11_1).f1),.int .i64 ((rd_T33 l0 x11_1).f2),.slice A424_3 ((rd_T33 l0 x11_1).f3).length c424_3,.int .i64 ((rd_T33 l0 x11_1).f4)] 33 (0,0)) (kbc_ BK425.out) hb);have n2_:=Aside0.mk (below_step (bl_ HB.out) hb);have n3_:=Aside0.mk (hbox);have n4_:=Aside0.mk ((gs_ hg (bl_ HB.out):w.heap.size≤gb426));have n5_:=Aside0.mk ((gs_ hg (bl_ HB.out):w.heap.size≤gb426));have n6_:=Aside0.mk ((by rw [hg];exact Nat.ne_of_lt (blk_lt (g:=gb425) (o:=.cells #[.string ((rd_T33 l0 x11_1).f0),.string ((rd_T33 l0 x11_1).f1),.int .i64 ((rd_T33 l0 x11_1).f2),.slice A424_3 ((rd_T33 l0 x11_1).f3).length c424_3,.int .i64 ((rd_T33 l0 x11_1).f4)] 33 (0,0)) (kbc_ BK425.out)):gb425≠gb426));have n7_:=Aside0.mk ((by rw [hg];exact Nat.ne_of_gt (blk_lt (g:=gb425) (o:=.cells #[.string ((rd_T33 l0 x11_1).f0),.string ((rd_T33 l0 x11_1).f1),.int .i64 ((rd_T33 l0 x11_1).f2),.slice A424_3 ((rd_T33 l0 x11_1).f3).length c424_3,.int .i64 ((rd_T33 l0 x11_1).f4)] 33 (0,0)) (kbc_ BK425.out)):gb426≠gb425));clear HO_5;clear BK425;clear HB;have HO_5:=n0_;have BK425:=n1_;have HB:=n2_;have BK426:=n3_;have GW426:=n4_;have GE426:=n5_;have NB425_426:=n6_;have NB426_425:=n7_;clear n0_ n1_ n2_ n3_ n4_ n5_ n6_ n7_;clear hb hbox hg;have hnb11:=NB426_425.out;have hnc11:=NB425_426.out;have hcz12_0:w10.cell? ⟨gb426,0,none⟩=some (.string (⟨#[]⟩:ByteArray)):=zc_ BK426.out 0;have hcz12_1:w10.cell? ⟨gb426,1,none⟩=some (.string (⟨#[]⟩:ByteArray)):=zc_ BK426.out 1;have hcz12_2:w10.cell? ⟨gb426,2,none⟩=some (.int .i64 0):=zc_ BK426.out 2;have hcz12_3:w10.cell? ⟨gb426,3,none⟩=some (.slice none 0 0):=zc_ BK426.out 3;have hcz12_4:w10.cell? ⟨gb426,4,none⟩=some (.int .i64 0):=zc_ BK426.out 4;have hfz12_0:=blk_frozen BK426.out 0;have hfz12_1:=blk_frozen BK426.out 1;have hfz12_2:=blk_frozen BK426.out 2;have hfz12_3:=blk_frozen BK426.out 3;have hfz12_4:=blk_frozen BK426.out 4))
       have n0_:Aside0 (Kd.R k33 33 (((((w10.setCell ⟨gb426,0,none⟩ (.string ((rd_T33 l0 x11_1).f0))).setCell ⟨gb426,1,none⟩ (.string ((rd_T33 l0 x11_1).f1))).setCell ⟨gb426,2,none⟩ (.int .i64 ((rd_T33 l0 x11_1).f2))).setCell ⟨gb426,3,none⟩ (.slice A424_3 ((rd_T33 l0 x11_1).f3).length c424_3)).setCell ⟨gb426,4,none⟩ (.int .i64 ((rd_T33 l0 x11_1).f4))) w.heap.size (fun k_=>k_≠gb425∧k_≠gb426) u5 x5_1):=⟨by (with_reducible repeat (first|apply Kd.R_alloc|apply Kd.R_drewN|apply Kd.R_drew));exact Kd.R_mono (Kd.R_far (p:=⟨gb426,4,none⟩) (Kd.R_far (p:=⟨gb426,3,none⟩) (Kd.R_far (p:=⟨gb426,2,none⟩) (Kd.R_far (p:=⟨gb426,1,none⟩) (Kd.R_far (p:=⟨gb426,0,none⟩) (Kd.R_mono HO_5.out (fun k_ hk=>(⟨hk,hk.2⟩:_∧k_≠gb426))) (fun _ hk=>hk.2) (.string ((rd_T33 l0 x11_1).f0))) (fun _ hk=>hk.2) (.string ((rd_T33 l0 x11_1).f1))) (fun _ hk=>hk.2) (.int .i64 ((rd_T33 l0 x11_1).f2))) (fun _ hk=>hk.2) (.slice A424_3 ((rd_T33 l0 x11_1).f3).length c424_3)) (fun _ hk=>hk.2) (.int .i64 ((rd_T33 l0 x11_1).f4))) (fun _ hk=>⟨hk.1.1.2,hk.1.2⟩)⟩
       have n1_:Aside0 ((((((w10.setCell ⟨gb426,0,none⟩ (.string ((rd_T33 l0 x11_1).f0))).setCell ⟨gb426,1,none⟩ (.string ((rd_T33 l0 x11_1).f1))).setCell ⟨gb426,2,none⟩ (.int .i64 ((rd_T33 l0 x11_1).f2))).setCell ⟨gb426,3,none⟩ (.slice A424_3 ((rd_T33 l0 x11_1).f3).length c424_3)).setCell ⟨gb426,4,none⟩ (.int .i64 ((rd_T33 l0 x11_1).f4))).heap[gb425]?=some (.cells #[.string ((rd_T33 l0 x11_1).f0),.string ((rd_T33 l0 x11_1).f1),.int .i64 ((rd_T33 l0 x11_1).f2),.slice A424_3 ((rd_T33 l0 x11_1).f3).length c424_3,.int .i64 ((rd_T33 l0 x11_1).f4)] 33 (0,0))):=⟨kbc_ BK425.out⟩
       have n2_:Aside0 ((((((w10.setCell ⟨gb426,0,none⟩ (.string ((rd_T33 l0 x11_1).f0))).setCell ⟨gb426,1,none⟩ (.string ((rd_T33 l0 x11_1).f1))).setCell ⟨gb426,2,none⟩ (.int .i64 ((rd_T33 l0 x11_1).f2))).setCell ⟨gb426,3,none⟩ (.slice A424_3 ((rd_T33 l0 x11_1).f3).length c424_3)).setCell ⟨gb426,4,none⟩ (.int .i64 ((rd_T33 l0 x11_1).f4))).heap[gb426]?=some (.cells #[.string ((rd_T33 l0 x11_1).f0),.string ((rd_T33 l0 x11_1).f1),.int .i64 ((rd_T33 l0 x11_1).f2),.slice A424_3 ((rd_T33 l0 x11_1).f3).length c424_3,.int .i64 ((rd_T33 l0 x11_1).f4)] 33 (0,0))):=⟨kbc_ BK426.out⟩
       have n3_:Aside0 (Below w.heap.size w (((((w10.setCell ⟨gb426,0,none⟩ (.string ((rd_T33 l0 x11_1).f0))).setCell ⟨gb426,1,none⟩ (.string ((rd_T33 l0 x11_1).f1))).setCell ⟨gb426,2,none⟩ (.int .i64 ((rd_T33 l0 x11_1).f2))).setCell ⟨gb426,3,none⟩ (.slice A424_3 ((rd_T33 l0 x11_1).f3).length c424_3)).setCell ⟨gb426,4,none⟩ (.int .i64 ((rd_T33 l0 x11_1).f4)))):=⟨bl_ HB.out⟩
       (try clear HO_5)
       (try clear BK425)
       (try clear BK426)
       (try clear HB)
       generalize (((((w10.setCell ⟨gb426,0,none⟩ (.string ((rd_T33 l0 x11_1).f0))).setCell ⟨gb426,1,none⟩ (.string ((rd_T33 l0 x11_1).f1))).setCell ⟨gb426,2,none⟩ (.int .i64 ((rd_T33 l0 x11_1).f2))).setCell ⟨gb426,3,none⟩ (.slice A424_3 ((rd_T33 l0 x11_1).f3).length c424_3)).setCell ⟨gb426,4,none⟩ (.int .i64 ((rd_T33 l0 x11_1).f4)))=w13 at n0_ n1_ n2_ n3_ ⊢
       have HO_5:=n0_
       have BK425:=n1_
       have BK426:=n2_
       have HB:=n3_
       clear n0_ n1_ n2_ n3_
       have n0_:=Aside0.mk (Kd.R_drew HO_5.out)
       have n1_:=Aside0.mk (blk_drew BK425.out)
       have n2_:=Aside0.mk (blk_drew BK426.out)
       have n3_:=Aside0.mk (below_drew1 HB.out)
       clear HO_5
       clear BK425
       clear BK426
       clear HB
       have HO_5:=n0_
       have BK425:=n1_
       have BK426:=n2_
       have HB:=n3_
       clear n0_ n1_ n2_ n3_
       refine start_ (n:=12) (S:=fun w'=>w'.cell? ⟨gb425,0,none⟩=some (.string ((rd_T33 l0 x11_1).f0))∧w'.cell? ⟨gb425,1,none⟩=some (.string ((rd_T33 l0 x11_1).f1))∧w'.cell? ⟨gb425,2,none⟩=some (.int .i64 ((rd_T33 l0 x11_1).f2))∧w'.cell? ⟨gb425,3,none⟩=some (.slice A424_3 ((rd_T33 l0 x11_1).f3).length c424_3)∧w'.cell? ⟨gb425,4,none⟩=some (.int .i64 ((rd_T33 l0 x11_1).f4))) (ds:=[]) (flg 12 0) (by kernel_rfl) rfl (by kernel_rfl) ⟨zc_ BK425.out 0,zc_ BK425.out 1,zc_ BK425.out 2,zc_ BK425.out 3,zc_ BK425.out 4⟩ (fun hHeld=>?_);refine with_tabW helmsmanlaw12_movedExprs.tab6 helmsmanlaw12_movedExprs.bits6 (fun HT_ HW_=>?_)
       generalize w13.drew=w14 at HO_5 BK425 BK426 HB hHeld ⊢
       refine pur_ 0 16 (flg 12 1) rfl rfl (any_of HT_.out (by kernel_rfl)) (fun _ _ _ h=>h) ?_
       refine pur_ 2 18 (flg 12 5) rfl rfl (any_of HT_.out (by kernel_rfl)) (fun _ _ _ h=>h) ?_
       refine pur_ 4 20 (flg 12 21) rfl rfl (any_of HT_.out (by kernel_rfl)) (fun _ _ _ h=>h) ?_
       refine pur_ 6 22 (flg 12 85) rfl rfl (any_of HT_.out (by kernel_rfl)) (fun _ _ _ h=>h) ?_
       refine tak_ 1 17 (flg 12 87) rfl rfl (take_ofW HT_.out HW_.out (by kernel_rfl)) (fun _ _ _ h=>h) hHeld ?_
       refine pur_ 3 19 (flg 12 95) rfl rfl (any_of HT_.out (by kernel_rfl)) (fun _ _ _ h=>h) ?_
       refine pur_ 8 24 (flg 12 351) rfl rfl (any_of HT_.out (by kernel_rfl)) (fun _ _ _ h=>h) ?_
       refine tak_ 5 21 (flg 12 383) rfl rfl (take_ofW HT_.out HW_.out (by kernel_rfl)) (fun _ _ _ h=>h) hHeld ?_
       refine one_ (i:=7) (N:=some 23) (flg 12 511) rfl rfl (one_of HT_.out (by kernel_rfl)) (by decide) (fun K hK=>?_)
       refine goes_ Tryd.func52 (by kernel_rfl) rfl #[.slice A424_3 ((rd_T33 l0 x11_1).f3).length c424_3,.int .i64 a1] (by rfl) rfl rfl ar_ ?_
       with_reducible refine (ih k1 (by have:=HK1.out;omega) _ _ ((rd_T33 l0 x11_1).f3) a1 t427 _ ?side1 ?side2 A6.out).mono ?_
       (case side1=>exact kc_ HR424_3.out HB.out)
       (case side2=>exact HC424_3.out)
       rintro e w15 ⟨v428,rfl,ho0,hb⟩
       refine ⟨_,rfl,?_⟩
       have n0_:=Aside0.mk (Kd.R_elder' (by (with_reducible repeat (first|apply Kd.R_alloc|apply Kd.R_drewN|apply Kd.R_drew));exact HO_5.out) (Kd.R_base ho0) hb)
       have n1_:=Aside0.mk (Kd.R_lower (Kd.R_newB (Kd.R_newB (Kd.R_new' ho0 (Kd.R_lt (by (with_reducible repeat (first|apply Kd.R_alloc|apply Kd.R_drewN|apply Kd.R_drew));exact HO_5.out))) (g:=gb425) (o:=.cells #[.string ((rd_T33 l0 x11_1).f0),.string ((rd_T33 l0 x11_1).f1),.int .i64 ((rd_T33 l0 x11_1).f2),.slice A424_3 ((rd_T33 l0 x11_1).f3).length c424_3,.int .i64 ((rd_T33 l0 x11_1).f4)] 33 (0,0)) (kb_ BK425.out)) (g:=gb426) (o:=.cells #[.string ((rd_T33 l0 x11_1).f0),.string ((rd_T33 l0 x11_1).f1),.int .i64 ((rd_T33 l0 x11_1).f2),.slice A424_3 ((rd_T33 l0 x11_1).f3).length c424_3,.int .i64 ((rd_T33 l0 x11_1).f4)] 33 (0,0)) (kb_ BK426.out)) (below_size (bl_ HB.out)))
       have n2_:=Aside0.mk (bb_ BK425.out hb)
       have n3_:=Aside0.mk (bb_ BK426.out hb)
       have n4_:=Aside0.mk (below_step (bl_ HB.out) hb)
       clear HO_5
       clear BK425
       clear BK426
       clear HB
       have HO_5:=n0_
       have HO429:=n1_
       have BK425:=n2_
       have BK426:=n3_
       have HB:=n4_
       clear n0_ n1_ n2_ n3_ n4_
       (try clear hb)
       (try clear hb2)
       (try clear hk)
       (try clear hi)
       (try clear ho0)
       obtain ⟨Ao17,co17,eo17⟩:=Kd.R_slice HO429.out
       (first|subst eo17|(injection eo17 with f1_ f2_ f3_;have f4_:=f1_.symm;have f5_:=f3_.symm;clear f1_ f2_ f3_;subst f4_;subst f5_))
       refine hK.out _ _ ⟨zc_ BK425.out 0,zc_ BK425.out 1,zc_ BK425.out 2,zc_ BK425.out 3,zc_ BK425.out 4⟩ (fun hHeld=>?_)
       clear hK K
       refine norm_ (a':=?_) ?_ ?_
       rotate_left
       ·show Act.put _ (some 23) _=_
        simp only [Act.put,List.setIfInBounds_toArray,List.set_cons_zero,List.set_cons_succ,i64_w,i32_w]
        rfl
       refine one_ (i:=9) (N:=none) (flg 12 1023) rfl rfl (one_of HT_.out (by kernel_rfl)) (by decide) (fun K hK=>?_)
       have hs16:w15.cell? ⟨gb426,4,none⟩=some (.int .i64 ((rd_T33 l0 x11_1).f4)):=zc_ BK426.out 4
       have hfs16:=blk_frozen BK426.out 4
       have hns16_0:=NB425_426.out
       have hms16_0:=NB426_425.out
       refine skip_ (w1:=?_) (by rfl) rfl ?_ ?_
       rotate_left
       ·go_simp
        rfl
       refine hK.out _ _ ⟨((cell_far (p:=⟨gb426,_,none⟩) NB425_426.out _).trans (hHeld.1)),((cell_far (p:=⟨gb426,_,none⟩) NB425_426.out _).trans (hHeld.2.1)),((cell_far (p:=⟨gb426,_,none⟩) NB425_426.out _).trans (hHeld.2.2.1)),((cell_far (p:=⟨gb426,_,none⟩) NB425_426.out _).trans (hHeld.2.2.2.1)),((cell_far (p:=⟨gb426,_,none⟩) NB425_426.out _).trans (hHeld.2.2.2.2))⟩ (fun hHeld=>?_)
       clear hK K
       refine pur_ 10 25 (flg 12 2047) rfl rfl (any_of HT_.out (by kernel_rfl)) (fun _ _ _ h=>h) ?_
       refine one_ (i:=11) (N:=none) (flg 12 4095) rfl rfl (one_of HT_.out (by kernel_rfl)) (by decide) (fun K hK=>?_)
       have hs18:w15.cell? ⟨gb426,3,none⟩=some (.slice A424_3 ((rd_T33 l0 x11_1).f3).length c424_3):=zc_ BK426.out 3
       have hfs18:=blk_frozen BK426.out 3
       have hns18_0:=NB425_426.out
       have hms18_0:=NB426_425.out
       refine skip_ (w1:=?_) (by rfl) rfl ?_ ?_
       rotate_left
       ·go_simp
        rfl
       refine hK.out _ _ ⟨((cell_far (p:=⟨gb426,_,none⟩) NB425_426.out _).trans (hHeld.1)),((cell_far (p:=⟨gb426,_,none⟩) NB425_426.out _).trans (hHeld.2.1)),((cell_far (p:=⟨gb426,_,none⟩) NB425_426.out _).trans (hHeld.2.2.1)),((cell_far (p:=⟨gb426,_,none⟩) NB425_426.out _).trans (hHeld.2.2.2.1)),((cell_far (p:=⟨gb426,_,none⟩) NB425_426.out _).trans (hHeld.2.2.2.2))⟩ (fun hHeld=>?_)
       clear hK K
       refine done_ (done_of HT_.out (by kernel_rfl)) ?_
       have n0_:Aside0 (Kd.R k33 33 ((w15.setCell ⟨gb426,4,none⟩ (.int .i64 (wrap64 (((rd_T33 l0 x11_1).f4)+a1)))).setCell ⟨gb426,3,none⟩ (.slice Ao17 t427.length co17)) w.heap.size (fun k_=>some k_≠(.slice Ao17 t427.length co17:Value).ownBlock∧k_≠gb425∧k_≠gb426) u5 x5_1):=⟨by (with_reducible repeat (first|apply Kd.R_alloc|apply Kd.R_drewN|apply Kd.R_drew));exact Kd.R_mono (Kd.R_far (p:=⟨gb426,3,none⟩) (Kd.R_far (p:=⟨gb426,4,none⟩) (Kd.R_mono HO_5.out (fun k_ hk=>(⟨hk,hk.1.2⟩:_∧k_≠gb426))) (fun _ hk=>hk.2) (.int .i64 (wrap64 (((rd_T33 l0 x11_1).f4)+a1)))) (fun _ hk=>hk.2) (.slice Ao17 t427.length co17)) (fun _ hk=>⟨hk.1.2,⟨hk.1.1.1,hk.1.1.2⟩⟩)⟩
       have n1_:Aside0 (Kd.R k33 33 ((w15.setCell ⟨gb426,4,none⟩ (.int .i64 (wrap64 (((rd_T33 l0 x11_1).f4)+a1)))).setCell ⟨gb426,3,none⟩ (.slice Ao17 t427.length co17)) w.heap.size (fun k_=>some k_≠(u5:Value).ownBlock∧k_≠gb425∧k_≠gb426) (.slice Ao17 t427.length co17) t427):=⟨by (with_reducible repeat (first|apply Kd.R_alloc|apply Kd.R_drewN|apply Kd.R_drew));exact Kd.R_mono (Kd.R_far (p:=⟨gb426,3,none⟩) (Kd.R_far (p:=⟨gb426,4,none⟩) (Kd.R_mono HO429.out (fun k_ hk=>(⟨hk,hk.2⟩:_∧k_≠gb426))) (fun _ hk=>hk.2) (.int .i64 (wrap64 (((rd_T33 l0 x11_1).f4)+a1)))) (fun _ hk=>hk.2) (.slice Ao17 t427.length co17)) (fun _ hk=>⟨hk.1.1.1.2,⟨hk.1.1.2,hk.1.2⟩⟩)⟩
       have n2_:Aside0 (((w15.setCell ⟨gb426,4,none⟩ (.int .i64 (wrap64 (((rd_T33 l0 x11_1).f4)+a1)))).setCell ⟨gb426,3,none⟩ (.slice Ao17 t427.length co17)).heap[gb425]?=some (.cells #[.string ((rd_T33 l0 x11_1).f0),.string ((rd_T33 l0 x11_1).f1),.int .i64 ((rd_T33 l0 x11_1).f2),.slice A424_3 ((rd_T33 l0 x11_1).f3).length c424_3,.int .i64 ((rd_T33 l0 x11_1).f4)] 33 (0,0))):=⟨kbc_ BK425.out⟩
       have n3_:Aside0 (((w15.setCell ⟨gb426,4,none⟩ (.int .i64 (wrap64 (((rd_T33 l0 x11_1).f4)+a1)))).setCell ⟨gb426,3,none⟩ (.slice Ao17 t427.length co17)).heap[gb426]?=some (.cells #[.string ((rd_T33 l0 x11_1).f0),.string ((rd_T33 l0 x11_1).f1),.int .i64 ((rd_T33 l0 x11_1).f2),.slice Ao17 t427.length co17,.int .i64 (wrap64 (((rd_T33 l0 x11_1).f4)+a1))] 33 (0,0))):=⟨kbc_ BK426.out⟩
       have n4_:Aside0 (Below w.heap.size w ((w15.setCell ⟨gb426,4,none⟩ (.int .i64 (wrap64 (((rd_T33 l0 x11_1).f4)+a1)))).setCell ⟨gb426,3,none⟩ (.slice Ao17 t427.length co17))):=⟨bl_ HB.out⟩
       (try clear HO_5)
       (try clear HO429)
       (try clear BK425)
       (try clear BK426)
       (try clear HB)
       generalize ((w15.setCell ⟨gb426,4,none⟩ (.int .i64 (wrap64 (((rd_T33 l0 x11_1).f4)+a1)))).setCell ⟨gb426,3,none⟩ (.slice Ao17 t427.length co17))=w19 at n0_ n1_ n2_ n3_ n4_ ⊢
       have HO_5:=n0_
       have HO429:=n1_
       have BK425:=n2_
       have BK426:=n3_
       have HB:=n4_
       clear n0_ n1_ n2_ n3_ n4_
       have hcz20_0:w19.cell? ⟨gb426,0,none⟩=some (.string ((rd_T33 l0 x11_1).f0)):=zc_ BK426.out 0
       have hcz20_1:w19.cell? ⟨gb426,1,none⟩=some (.string ((rd_T33 l0 x11_1).f1)):=zc_ BK426.out 1
       have hcz20_2:w19.cell? ⟨gb426,2,none⟩=some (.int .i64 ((rd_T33 l0 x11_1).f2)):=zc_ BK426.out 2
       have hcz20_3:w19.cell? ⟨gb426,3,none⟩=some (.slice Ao17 t427.length co17):=zc_ BK426.out 3
       have hcz20_4:w19.cell? ⟨gb426,4,none⟩=some (.int .i64 (wrap64 (((rd_T33 l0 x11_1).f4)+a1))):=zc_ BK426.out 4
       have hfz20_0:=blk_frozen BK426.out 0
       have hfz20_1:=blk_frozen BK426.out 1
       have hfz20_2:=blk_frozen BK426.out 2
       have hfz20_3:=blk_frozen BK426.out 3
       have hfz20_4:=blk_frozen BK426.out 4
       try go_wp2_with (first|((with_reducible refine gate_builtin (b:=.append) (xs:=#[.tmp 26,.tmp 28]) rfl ?_);at_builtin;refine Kd.R_append k33 (w0:=w) w.heap.size rfl (.tmp 26) (.tmp 28) 31 33 (.agg #[(.string ⟨#[]⟩),(.string ⟨#[]⟩),(.int .i64 0),(.slice none 0 0),(.int .i64 0)]) 72 rfl Tryd.underlying31 info33 rfl (by decide) (by omega) u5 x5_1 (⟨(rd_T33 l0 x11_1).f0,(rd_T33 l0 x11_1).f1,(rd_T33 l0 x11_1).f2,t427,wrap64 (((rd_T33 l0 x11_1).f4)+a1)⟩:S33) [.string ((rd_T33 l0 x11_1).f0),.string ((rd_T33 l0 x11_1).f1),.int .i64 ((rd_T33 l0 x11_1).f2),.slice Ao17 t427.length co17,.int .i64 (wrap64 (((rd_T33 l0 x11_1).f4)+a1))] (fun k_=>k_≠gb425∧k_≠gb426) (fun k_=>((fun k_=>k_≠gb425∧k_≠gb426)) k_∧some k_≠(u5:Value).ownBlock) rfl rfl ?aP (fun _ hk=>hk) ?aF ?aO ?aB ?aS ?aL ?_;(case aP=>exact k33_mkM _ _ _ (⟨(rd_T33 l0 x11_1).f0,(rd_T33 l0 x11_1).f1,(rd_T33 l0 x11_1).f2,t427,wrap64 (((rd_T33 l0 x11_1).f4)+a1)⟩:S33) (Kd.R_mono (HO429.out) (fun k_ hk=>⟨⟨hk.2.1,hk.2.2⟩,hk.1⟩)));(case aB=>exact (bl_ HB.out));(case aF=>exact (fun k_ hk=>⟨Kd.freshB (g:=gb425) (o:=.cells #[.string ((rd_T33 l0 x11_1).f0),.string ((rd_T33 l0 x11_1).f1),.int .i64 ((rd_T33 l0 x11_1).f2),.slice A424_3 ((rd_T33 l0 x11_1).f3).length c424_3,.int .i64 ((rd_T33 l0 x11_1).f4)] 33 (0,0)) (kb_ BK425.out) k_ hk,Kd.freshB (g:=gb426) (o:=.cells #[.string ((rd_T33 l0 x11_1).f0),.string ((rd_T33 l0 x11_1).f1),.int .i64 ((rd_T33 l0 x11_1).f2),.slice Ao17 t427.length co17,.int .i64 (wrap64 (((rd_T33 l0 x11_1).f4)+a1))] 33 (0,0)) (kb_ BK426.out) k_ hk⟩));(case aO=>exact (by (with_reducible repeat (first|apply Kd.R_alloc|apply Kd.R_drewN|apply Kd.R_drew));exact Kd.R_mono HO_5.out (fun _ hk=>⟨hk.2.1,hk.2.2⟩)));(case aS=>exact (below_size (bl_ HB.out)));(case aL=>have:=LMc7.out;omega);intro v431 w21 ho hb hg hat;rw [← Ny430.out] at ho;have n0_:=Aside0.mk (bg_ BK425.out hg (Kd.R_away HO_5.out (fun _ hk=>hk.2.1)));have n1_:=Aside0.mk (bg_ BK426.out hg (Kd.R_away HO_5.out (fun _ hk=>hk.2.2)));have n2_:=Aside0.mk (hb);have n3_:=Aside0.mk (ho);clear BK425;clear BK426;clear HB;clear HO_5;clear HO429;have BK425:=n0_;have BK426:=n1_;have HB:=n2_;have HO432:=n3_;clear n0_ n1_ n2_ n3_;clear ho hb hg hat))
       go_roundg k1
       case measure=>have:=HK1.out;omega
       case rel=>exact ⟨(y430),(wrap64 (x11_1+1)),rf_,H',⟨by have:=HK1.out;omega⟩,⟨by (with_reducible repeat (first|apply Kd.R_alloc|apply Kd.R_drewN|apply Kd.R_drew));exact Kd.R_mono HO432.out (fun _ hk=>trivial)⟩,⟨bl_ HB.out⟩⟩
      ·rw [if_neg c7] at H
       exact absurd H (by simp)
     ·rw [if_neg c5] at H
      exact absurd H (by simp)
    ·rw [if_neg c4] at H
     exact absurd H (by simp)
   ·rw [if_neg c3] at H
    have c3b0:decide (x11_1 < (l0.length:Int))=false:=decide_eq_false c3
    clear c3
    obtain rfl:=Option.some.inj H
    go_wp2
    go_ret
    exact ⟨_,rt_,by (with_reducible repeat (first|apply Kd.R_alloc|apply Kd.R_drewN|apply Kd.R_drew));exact HO_5.out,bl_ HB.out⟩
end Go.Proofs.YtnnbbeloifhofaaDoor.P
end
section
namespace Go.Proofs.YtnnbbeloifhofaaDoor.P
open Go.RowKit Go.Proofs.YtnnbbeloifhofaaDoorW.PrintWords Go.Proofs.YtnnbbeloifhofaaDoorW.PrintLast Go.Proofs.YtnnbbeloifhofaaDoorW.PrintMore
attribute [local go_sem] max2_int min2_int max_two min_two max_three min_three max_four min_four
set_option linter.unusedVariables false
set_option linter.unusedSimpArgs false
mutual
def helmsmanlaw12_moved.l0:Nat→Int→List (S76)→List (S76)→Int→Int→Option ((List (S76)))
 | 0,_,_,_,_,_=>none
 | k+1,x1,x5,x9,x10,x11=>if x11 < x10 then (if 0≤x11 then (if x11 < (x9.length:Int) then ((helmsmanlaw12_moved.f k ((rd_T76 x9 x11).f3) x1).bind fun t436=>((helmsmanlaw12_moved.f k ((rd_T76 x9 x11).f4) x1).bind fun t439=>((helmsmanlaw12_movedExprs.f k ((rd_T76 x9 x11).f2) x1).bind fun t442=>(if x5.length < 1256584717458 then (helmsmanlaw12_moved.l0 k x1 (x5++[(⟨(rd_T76 x9 x11).f0,(rd_T76 x9 x11).f1,t442,t436,t439,wrap64 (((rd_T76 x9 x11).f5)+x1)⟩:S76)]) x9 x10 (wrap64 (x11+1))) else (none))))) else (none)) else (none)) else (some x5)
def helmsmanlaw12_moved.f:Nat→List (S76)→Int→Option ((List (S76)))
 | 0,_,_=>none
 | k+1,l0,a1=>helmsmanlaw12_moved.l0 k a1 ([]:List (S76)) l0 (l0.length:Int) 0
end
def helmsmanlaw12_moved.T6:Bool × List (List Nat × List Nat):=(true,[([],[]),([0],[0]),([],[]),([1,2],[1,2]),([],[]),([4],[4]),([],[]),([5,6],[5,6]),([],[]),([8],[8]),([],[]),([9,10,7],[9,10]),([],[]),([12],[12]),([],[]),([13,14,11],[13,14]),([0,1,2,3],[]),([16,3,15,0,1,2,3],[3,16]),([0,1,2,3,4,5,6,7,16,17],[]),([18,7,17,0,1,2,3,4,5,6,7,16,17],[7,18]),([0,1,2,3,4,5,6,7,8,9,10,11,16,17,18,19],[]),([20,11,19,0,1,2,3,4,5,6,7,8,9,10,11,16,17,18,19],[11,20]),([0,1,2,3,4,5,6,7,8,9,10,11,12,13,14,15,16,17,18,19,20,21],[]),([22,15,21,0,1,2,3,4,5,6,7,8,9,10,11,12,13,14,15,16,17,18,19,20,21],[15,22])])
def helmsmanlaw12_moved.B6:List Nat:=[0,1,0,7,0,16,0,112,0,256,0,2032,0,4096,0,32752,15,131071,262143,524287,1048575,2097151,4194303,8388607]
theorem helmsmanlaw12_moved.tab6:rtab .any (opsOf Tryd.f29 6)=helmsmanlaw12_moved.T6:=by kernel_rfl
theorem helmsmanlaw12_moved.bits6:waitsOk helmsmanlaw12_moved.T6.2 helmsmanlaw12_moved.B6=true:=by kernel_rfl
set_option maxHeartbeats 8000000 in
set_option maxRecDepth 100000 in
theorem helmsmanlaw12_moved.calls (k:Nat) : ∀ (A0:Option Addr) (c0:Nat) (l0:List (S76)) (a1:Int) (r:List (S76)) (w:World) (hr0:Kd.C k76 w A0 l0.length l0) (hc0:l0.length≤c0) (h:helmsmanlaw12_moved.f k l0 a1=some r),
  Calls Tryd.prog 29 #[.slice A0 l0.length c0,.int .i64 a1] w fun e w'=>∃ v0_:Value,e=.returned (v0_)∧Kd.R k76 76 w' w.heap.size (fun _=>True) v0_ r∧Below w.heap.size w w':=by
 induction k using Nat.strongRecOn with
 | _ k ih=>
 intro A0 c0 l0 a1 r w hr0 hc0 h
 cases k with
 | zero=>exact absurd h (by simp [helmsmanlaw12_moved.f])
 | succ k=>
 simp only [helmsmanlaw12_moved.f] at h
 have hu76:=Tryd.underlying76
 have HR0:=Aside0.mk hr0
 have HC0:=Aside0.mk hc0
 clear hr0 hc0
 have HB:=Aside0.mk (Below.refl w.heap.size w)
 have H:(helmsmanlaw12_moved.l0 k a1 ([]:List (S76)) l0 (l0.length:Int) 0)=some r:=h
 clear h
 have H':=Aside0.mk H
 clear H
 go_enter Tryd.func29,Tryd.ntmps29
 go_wp2
 (try simp only [Act.put,List.setIfInBounds_toArray,List.set_cons_succ,List.set_cons_zero])
 go_loopg [5,11] k (fun kq v5 v11 w'=>∃ (x5_1:List (S76)) (x11_1:Int),v11=.int .i64 x11_1∧Aside0 (helmsmanlaw12_moved.l0 kq a1 x5_1 l0 (l0.length:Int) x11_1=some r)∧Aside0 (kq≤k)∧Aside0 (Kd.R k76 76 w' w.heap.size (fun _=>True) v5 x5_1)∧Aside0 (Below w.heap.size w w'))
 case atStart=>exact ⟨(([]:List (S76))),(0),rf_,H',⟨Nat.le_refl _⟩,⟨by first|exact Kd.R_nil _ _ _ _ _|exact Kd.N_nil _ _ _ _ _|exact Kd.V_nil _ _ _ _ _|exact Kd.Q_nil _ _ _ _ _|exact Kd.S_nil _ _ _ _ _⟩,⟨bl_ HB.out⟩⟩
 case round=>
  clear H'
  (try clear c2);(try clear p2)
  obtain ⟨x5_1,x11_1,rfl,HA,HK1,HO_5,HB⟩:=hrel
  cases gk with
  | zero=>exact absurd HA.out (by simp [helmsmanlaw12_moved.l0])
  | succ k1=>
   have H:=HA.out
   clear HA
   simp only [helmsmanlaw12_moved.l0] at H
   by_cases c3:x11_1 < (l0.length:Int)
   ·rw [if_pos c3] at H
    have c3b0:decide (x11_1 < (l0.length:Int))=true:=decide_eq_true c3
    clear c3
    by_cases c4:0≤x11_1
    ·rw [if_pos c4] at H
     have c4b0:decide (0≤x11_1)=true:=decide_eq_true c4
     clear c4
     by_cases c5:x11_1 < (l0.length:Int)
     ·rw [if_pos c5] at H
      have c5b0:decide (x11_1 < (l0.length:Int))=true:=decide_eq_true c5
      clear c5
      replace H:=Option.bind_eq_some_iff.mp H
      obtain ⟨t436,A60,H⟩:=H
      replace H:((helmsmanlaw12_moved.f k1 ((rd_T76 l0 x11_1).f4) a1).bind fun t439=>((helmsmanlaw12_movedExprs.f k1 ((rd_T76 l0 x11_1).f2) a1).bind fun t442=>(if x5_1.length < 1256584717458 then (helmsmanlaw12_moved.l0 k1 a1 (x5_1++[(⟨(rd_T76 l0 x11_1).f0,(rd_T76 l0 x11_1).f1,t442,t436,t439,wrap64 (((rd_T76 l0 x11_1).f5)+a1)⟩:S76)]) l0 (l0.length:Int) (wrap64 (x11_1+1))) else (none))))=some r:=H
      have A6:=Aside0.mk A60
      clear A60
      replace H:=Option.bind_eq_some_iff.mp H
      obtain ⟨t439,A70,H⟩:=H
      replace H:((helmsmanlaw12_movedExprs.f k1 ((rd_T76 l0 x11_1).f2) a1).bind fun t442=>(if x5_1.length < 1256584717458 then (helmsmanlaw12_moved.l0 k1 a1 (x5_1++[(⟨(rd_T76 l0 x11_1).f0,(rd_T76 l0 x11_1).f1,t442,t436,t439,wrap64 (((rd_T76 l0 x11_1).f5)+a1)⟩:S76)]) l0 (l0.length:Int) (wrap64 (x11_1+1))) else (none)))=some r:=H
      have A7:=Aside0.mk A70
      clear A70
      replace H:=Option.bind_eq_some_iff.mp H
      obtain ⟨t442,A80,H⟩:=H
      replace H:(if x5_1.length < 1256584717458 then (helmsmanlaw12_moved.l0 k1 a1 (x5_1++[(⟨(rd_T76 l0 x11_1).f0,(rd_T76 l0 x11_1).f1,t442,t436,t439,wrap64 (((rd_T76 l0 x11_1).f5)+a1)⟩:S76)]) l0 (l0.length:Int) (wrap64 (x11_1+1))) else (none))=some r:=H
      have A8:=Aside0.mk A80
      clear A80
      by_cases c9:x5_1.length < 1256584717458
      ·rw [if_pos c9] at H
       have LMc9:=Aside0.mk c9
       clear c9
       obtain ⟨y445,hy445⟩ : ∃ y_:List (S76),y_=(x5_1++[(⟨(rd_T76 l0 x11_1).f0,(rd_T76 l0 x11_1).f1,t442,t436,t439,wrap64 (((rd_T76 l0 x11_1).f5)+a1)⟩:S76)]):=⟨_,rfl⟩
       replace H:(helmsmanlaw12_moved.l0 k1 a1 y445 l0 (l0.length:Int) (wrap64 (x11_1+1)))=some r:=by first|(rw [hy445];with_reducible exact H)|(have H2_:=(Option.bind_some _ _).symm.trans H;rw [hy445];with_reducible exact H2_)|(have H2_:=(Option.bind_some _ _).symm.trans H;with_reducible exact H2_)|with_reducible exact H|(rw [hy445];exact H)|exact H
       have Ny445:=Aside0.mk hy445
       clear hy445
       have H':=Aside0.mk H
       clear H
       have p433:0≤(x11_1:Int):=of_decide_eq_true as_
       have q433:x11_1 < (l0.length:Int):=of_decide_eq_true as_
       obtain ⟨ad433,A433_2,c433_2,A433_3,c433_3,A433_4,c433_4,e433,hx433_0,hx433_1,hx433_2,hx433_3,hx433_4,hx433_5,hl433_2,hi433_2,hl433_3,hi433_3,hl433_4,hi433_4⟩:=at_T76 HR0.out x11_1 p433 q433
       cases e433
       replace hx433_0:=(cb_ HB.out hx433_0:_)
       replace hx433_1:=(cb_ HB.out hx433_1:_)
       replace hx433_2:=(cb_ HB.out hx433_2:_)
       replace hx433_3:=(cb_ HB.out hx433_3:_)
       replace hx433_4:=(cb_ HB.out hx433_4:_)
       replace hx433_5:=(cb_ HB.out hx433_5:_)
       have HR433_2:=Aside0.mk hi433_2
       have HC433_2:=Aside0.mk hl433_2
       clear hi433_2 hl433_2
       have HR433_3:=Aside0.mk hi433_3
       have HC433_3:=Aside0.mk hl433_3
       clear hi433_3 hl433_3
       have HR433_4:=Aside0.mk hi433_4
       have HC433_4:=Aside0.mk hl433_4
       clear hi433_4 hl433_4
       replace p433:=eq_true p433
       replace q433:=eq_true q433
       try go_wp2_with (first|((with_reducible refine gate_dst (N:=7) rfl ?_);refine box_event ?hg (N:=7) ?hd (cs:=#[.string (⟨#[]⟩:ByteArray),.string (⟨#[]⟩:ByteArray),.slice none 0 0,.slice none 0 0,.slice none 0 0,.int .i64 0]) (t:=76) ?hr ?_;(case hd=>rfl);(case hg=>rfl);(case hr=>first|(go_simp;done)|(go_simp;rfl));intro gb434 hg w10 hbox hb;have n0_:=Aside0.mk (Kd.R_below (Kd.R_elderB (by (with_reducible repeat (first|apply Kd.R_alloc|apply Kd.R_drewN|apply Kd.R_drew));exact HO_5.out) gb434 (Nat.le_of_eq hg.symm)) hb);have n1_:=Aside0.mk (below_step (bl_ HB.out) hb);have n2_:=Aside0.mk (hbox);have n3_:=Aside0.mk ((gs_ hg (bl_ HB.out):w.heap.size≤gb434));have n4_:=Aside0.mk ((gs_ hg (bl_ HB.out):w.heap.size≤gb434));clear HO_5;clear HB;have HO_5:=n0_;have HB:=n1_;have BK434:=n2_;have GW434:=n3_;have GE434:=n4_;clear n0_ n1_ n2_ n3_ n4_;clear hb hbox hg;have hcz11_0:w10.cell? ⟨gb434,0,none⟩=some (.string (⟨#[]⟩:ByteArray)):=zc_ BK434.out 0;have hcz11_1:w10.cell? ⟨gb434,1,none⟩=some (.string (⟨#[]⟩:ByteArray)):=zc_ BK434.out 1;have hcz11_2:w10.cell? ⟨gb434,2,none⟩=some (.slice none 0 0):=zc_ BK434.out 2;have hcz11_3:w10.cell? ⟨gb434,3,none⟩=some (.slice none 0 0):=zc_ BK434.out 3;have hcz11_4:w10.cell? ⟨gb434,4,none⟩=some (.slice none 0 0):=zc_ BK434.out 4;have hcz11_5:w10.cell? ⟨gb434,5,none⟩=some (.int .i64 0):=zc_ BK434.out 5;have hfz11_0:=blk_frozen BK434.out 0;have hfz11_1:=blk_frozen BK434.out 1;have hfz11_2:=blk_frozen BK434.out 2;have hfz11_3:=blk_frozen BK434.out 3;have hfz11_4:=blk_frozen BK434.out 4;have hfz11_5:=blk_frozen BK434.out 5)|((with_reducible refine gate_dst (N:=8) rfl ?_);refine box_event ?hg (N:=8) ?hd (cs:=#[.string (⟨#[]⟩:ByteArray),.string (⟨#[]⟩:ByteArray),.slice none 0 0,.slice none 0 0,.slice none 0 0,.int .i64 0]) (t:=76) ?hr ?_;(case hd=>rfl);(case hg=>rfl);(case hr=>first|(go_simp;done)|(go_simp;rfl));intro gb435 hg w12 hbox hb;have n0_:=Aside0.mk (Kd.R_below (Kd.R_elderB (by (with_reducible repeat (first|apply Kd.R_alloc|apply Kd.R_drewN|apply Kd.R_drew));exact (Kd.R_mono (Kd.R_far (p:=⟨gb434,5,none⟩) (Kd.R_far (p:=⟨gb434,4,none⟩) (Kd.R_far (p:=⟨gb434,3,none⟩) (Kd.R_far (p:=⟨gb434,2,none⟩) (Kd.R_far (p:=⟨gb434,1,none⟩) (Kd.R_far (p:=⟨gb434,0,none⟩) (Kd.R_mono HO_5.out (fun k_ hk=>(⟨hk,hk.2⟩:_∧k_≠gb434))) (fun _ hk=>hk.2) (.string ((rd_T76 l0 x11_1).f0))) (fun _ hk=>hk.2) (.string ((rd_T76 l0 x11_1).f1))) (fun _ hk=>hk.2) (.slice A433_2 ((rd_T76 l0 x11_1).f2).length c433_2)) (fun _ hk=>hk.2) (.slice A433_3 ((rd_T76 l0 x11_1).f3).length c433_3)) (fun _ hk=>hk.2) (.slice A433_4 ((rd_T76 l0 x11_1).f4).length c433_4)) (fun _ hk=>hk.2) (.int .i64 ((rd_T76 l0 x11_1).f5))) (fun _ h_=>h_.1))) gb435 (Nat.le_of_eq hg.symm)) hb);have n1_:=Aside0.mk (blk_below (g:=gb434) (o:=.cells #[.string ((rd_T76 l0 x11_1).f0),.string ((rd_T76 l0 x11_1).f1),.slice A433_2 ((rd_T76 l0 x11_1).f2).length c433_2,.slice A433_3 ((rd_T76 l0 x11_1).f3).length c433_3,.slice A433_4 ((rd_T76 l0 x11_1).f4).length c433_4,.int .i64 ((rd_T76 l0 x11_1).f5)] 76 (0,0)) (kbc_ BK434.out) hb);have n2_:=Aside0.mk (below_step (bl_ HB.out) hb);have n3_:=Aside0.mk (hbox);have n4_:=Aside0.mk ((gs_ hg (bl_ HB.out):w.heap.size≤gb435));have n5_:=Aside0.mk ((gs_ hg (bl_ HB.out):w.heap.size≤gb435));have n6_:=Aside0.mk ((by rw [hg];exact Nat.ne_of_lt (blk_lt (g:=gb434) (o:=.cells #[.string ((rd_T76 l0 x11_1).f0),.string ((rd_T76 l0 x11_1).f1),.slice A433_2 ((rd_T76 l0 x11_1).f2).length c433_2,.slice A433_3 ((rd_T76 l0 x11_1).f3).length c433_3,.slice A433_4 ((rd_T76 l0 x11_1).f4).length c433_4,.int .i64 ((rd_T76 l0 x11_1).f5)] 76 (0,0)) (kbc_ BK434.out)):gb434≠gb435));have n7_:=Aside0.mk ((by rw [hg];exact Nat.ne_of_gt (blk_lt (g:=gb434) (o:=.cells #[.string ((rd_T76 l0 x11_1).f0),.string ((rd_T76 l0 x11_1).f1),.slice A433_2 ((rd_T76 l0 x11_1).f2).length c433_2,.slice A433_3 ((rd_T76 l0 x11_1).f3).length c433_3,.slice A433_4 ((rd_T76 l0 x11_1).f4).length c433_4,.int .i64 ((rd_T76 l0 x11_1).f5)] 76 (0,0)) (kbc_ BK434.out)):gb435≠gb434));clear HO_5;clear BK434;clear HB;have HO_5:=n0_;have BK434:=n1_;have HB:=n2_;have BK435:=n3_;have GW435:=n4_;have GE435:=n5_;have NB434_435:=n6_;have NB435_434:=n7_;clear n0_ n1_ n2_ n3_ n4_ n5_ n6_ n7_;clear hb hbox hg;have hnb13:=NB435_434.out;have hnc13:=NB434_435.out;have hcz14_0:w12.cell? ⟨gb435,0,none⟩=some (.string (⟨#[]⟩:ByteArray)):=zc_ BK435.out 0;have hcz14_1:w12.cell? ⟨gb435,1,none⟩=some (.string (⟨#[]⟩:ByteArray)):=zc_ BK435.out 1;have hcz14_2:w12.cell? ⟨gb435,2,none⟩=some (.slice none 0 0):=zc_ BK435.out 2;have hcz14_3:w12.cell? ⟨gb435,3,none⟩=some (.slice none 0 0):=zc_ BK435.out 3;have hcz14_4:w12.cell? ⟨gb435,4,none⟩=some (.slice none 0 0):=zc_ BK435.out 4;have hcz14_5:w12.cell? ⟨gb435,5,none⟩=some (.int .i64 0):=zc_ BK435.out 5;have hfz14_0:=blk_frozen BK435.out 0;have hfz14_1:=blk_frozen BK435.out 1;have hfz14_2:=blk_frozen BK435.out 2;have hfz14_3:=blk_frozen BK435.out 3;have hfz14_4:=blk_frozen BK435.out 4;have hfz14_5:=blk_frozen BK435.out 5))
       have n0_:Aside0 (Kd.R k76 76 ((((((w12.setCell ⟨gb435,0,none⟩ (.string ((rd_T76 l0 x11_1).f0))).setCell ⟨gb435,1,none⟩ (.string ((rd_T76 l0 x11_1).f1))).setCell ⟨gb435,2,none⟩ (.slice A433_2 ((rd_T76 l0 x11_1).f2).length c433_2)).setCell ⟨gb435,3,none⟩ (.slice A433_3 ((rd_T76 l0 x11_1).f3).length c433_3)).setCell ⟨gb435,4,none⟩ (.slice A433_4 ((rd_T76 l0 x11_1).f4).length c433_4)).setCell ⟨gb435,5,none⟩ (.int .i64 ((rd_T76 l0 x11_1).f5))) w.heap.size (fun k_=>k_≠gb434∧k_≠gb435) u5 x5_1):=⟨by (with_reducible repeat (first|apply Kd.R_alloc|apply Kd.R_drewN|apply Kd.R_drew));exact Kd.R_mono (Kd.R_far (p:=⟨gb435,5,none⟩) (Kd.R_far (p:=⟨gb435,4,none⟩) (Kd.R_far (p:=⟨gb435,3,none⟩) (Kd.R_far (p:=⟨gb435,2,none⟩) (Kd.R_far (p:=⟨gb435,1,none⟩) (Kd.R_far (p:=⟨gb435,0,none⟩) (Kd.R_mono HO_5.out (fun k_ hk=>(⟨hk,hk.2⟩:_∧k_≠gb435))) (fun _ hk=>hk.2) (.string ((rd_T76 l0 x11_1).f0))) (fun _ hk=>hk.2) (.string ((rd_T76 l0 x11_1).f1))) (fun _ hk=>hk.2) (.slice A433_2 ((rd_T76 l0 x11_1).f2).length c433_2)) (fun _ hk=>hk.2) (.slice A433_3 ((rd_T76 l0 x11_1).f3).length c433_3)) (fun _ hk=>hk.2) (.slice A433_4 ((rd_T76 l0 x11_1).f4).length c433_4)) (fun _ hk=>hk.2) (.int .i64 ((rd_T76 l0 x11_1).f5))) (fun _ hk=>⟨hk.1.1.2,hk.1.2⟩)⟩
       have n1_:Aside0 (((((((w12.setCell ⟨gb435,0,none⟩ (.string ((rd_T76 l0 x11_1).f0))).setCell ⟨gb435,1,none⟩ (.string ((rd_T76 l0 x11_1).f1))).setCell ⟨gb435,2,none⟩ (.slice A433_2 ((rd_T76 l0 x11_1).f2).length c433_2)).setCell ⟨gb435,3,none⟩ (.slice A433_3 ((rd_T76 l0 x11_1).f3).length c433_3)).setCell ⟨gb435,4,none⟩ (.slice A433_4 ((rd_T76 l0 x11_1).f4).length c433_4)).setCell ⟨gb435,5,none⟩ (.int .i64 ((rd_T76 l0 x11_1).f5))).heap[gb434]?=some (.cells #[.string ((rd_T76 l0 x11_1).f0),.string ((rd_T76 l0 x11_1).f1),.slice A433_2 ((rd_T76 l0 x11_1).f2).length c433_2,.slice A433_3 ((rd_T76 l0 x11_1).f3).length c433_3,.slice A433_4 ((rd_T76 l0 x11_1).f4).length c433_4,.int .i64 ((rd_T76 l0 x11_1).f5)] 76 (0,0))):=⟨kbc_ BK434.out⟩
       have n2_:Aside0 (((((((w12.setCell ⟨gb435,0,none⟩ (.string ((rd_T76 l0 x11_1).f0))).setCell ⟨gb435,1,none⟩ (.string ((rd_T76 l0 x11_1).f1))).setCell ⟨gb435,2,none⟩ (.slice A433_2 ((rd_T76 l0 x11_1).f2).length c433_2)).setCell ⟨gb435,3,none⟩ (.slice A433_3 ((rd_T76 l0 x11_1).f3).length c433_3)).setCell ⟨gb435,4,none⟩ (.slice A433_4 ((rd_T76 l0 x11_1).f4).length c433_4)).setCell ⟨gb435,5,none⟩ (.int .i64 ((rd_T76 l0 x11_1).f5))).heap[gb435]?=some (.cells #[.string ((rd_T76 l0 x11_1).f0),.string ((rd_T76 l0 x11_1).f1),.slice A433_2 ((rd_T76 l0 x11_1).f2).length c433_2,.slice A433_3 ((rd_T76 l0 x11_1).f3).length c433_3,.slice A433_4 ((rd_T76 l0 x11_1).f4).length c433_4,.int .i64 ((rd_T76 l0 x11_1).f5)] 76 (0,0))):=⟨kbc_ BK435.out⟩
       have n3_:Aside0 (Below w.heap.size w ((((((w12.setCell ⟨gb435,0,none⟩ (.string ((rd_T76 l0 x11_1).f0))).setCell ⟨gb435,1,none⟩ (.string ((rd_T76 l0 x11_1).f1))).setCell ⟨gb435,2,none⟩ (.slice A433_2 ((rd_T76 l0 x11_1).f2).length c433_2)).setCell ⟨gb435,3,none⟩ (.slice A433_3 ((rd_T76 l0 x11_1).f3).length c433_3)).setCell ⟨gb435,4,none⟩ (.slice A433_4 ((rd_T76 l0 x11_1).f4).length c433_4)).setCell ⟨gb435,5,none⟩ (.int .i64 ((rd_T76 l0 x11_1).f5)))):=⟨bl_ HB.out⟩
       (try clear HO_5)
       (try clear BK434)
       (try clear BK435)
       (try clear HB)
       generalize ((((((w12.setCell ⟨gb435,0,none⟩ (.string ((rd_T76 l0 x11_1).f0))).setCell ⟨gb435,1,none⟩ (.string ((rd_T76 l0 x11_1).f1))).setCell ⟨gb435,2,none⟩ (.slice A433_2 ((rd_T76 l0 x11_1).f2).length c433_2)).setCell ⟨gb435,3,none⟩ (.slice A433_3 ((rd_T76 l0 x11_1).f3).length c433_3)).setCell ⟨gb435,4,none⟩ (.slice A433_4 ((rd_T76 l0 x11_1).f4).length c433_4)).setCell ⟨gb435,5,none⟩ (.int .i64 ((rd_T76 l0 x11_1).f5)))=w15 at n0_ n1_ n2_ n3_ ⊢
       have HO_5:=n0_
       have BK434:=n1_
       have BK435:=n2_
       have HB:=n3_
       clear n0_ n1_ n2_ n3_
       have n0_:=Aside0.mk (Kd.R_drew HO_5.out)
       have n1_:=Aside0.mk (blk_drew BK434.out)
       have n2_:=Aside0.mk (blk_drew BK435.out)
       have n3_:=Aside0.mk (below_drew1 HB.out)
       clear HO_5
       clear BK434
       clear BK435
       clear HB
       have HO_5:=n0_
       have BK434:=n1_
       have BK435:=n2_
       have HB:=n3_
       clear n0_ n1_ n2_ n3_
       refine start_ (n:=24) (S:=fun w'=>w'.cell? ⟨gb434,0,none⟩=some (.string ((rd_T76 l0 x11_1).f0))∧w'.cell? ⟨gb434,1,none⟩=some (.string ((rd_T76 l0 x11_1).f1))∧w'.cell? ⟨gb434,2,none⟩=some (.slice A433_2 ((rd_T76 l0 x11_1).f2).length c433_2)∧w'.cell? ⟨gb434,3,none⟩=some (.slice A433_3 ((rd_T76 l0 x11_1).f3).length c433_3)∧w'.cell? ⟨gb434,4,none⟩=some (.slice A433_4 ((rd_T76 l0 x11_1).f4).length c433_4)∧w'.cell? ⟨gb434,5,none⟩=some (.int .i64 ((rd_T76 l0 x11_1).f5))) (ds:=[]) (flg 24 0) (by kernel_rfl) rfl (by kernel_rfl) ⟨zc_ BK434.out 0,zc_ BK434.out 1,zc_ BK434.out 2,zc_ BK434.out 3,zc_ BK434.out 4,zc_ BK434.out 5⟩ (fun hHeld=>?_);refine with_tabW helmsmanlaw12_moved.tab6 helmsmanlaw12_moved.bits6 (fun HT_ HW_=>?_)
       generalize w15.drew=w16 at HO_5 BK434 BK435 HB hHeld ⊢
       refine pur_ 0 16 (flg 24 1) rfl rfl (any_of HT_.out (by kernel_rfl)) (fun _ _ _ h=>h) ?_
       refine pur_ 2 18 (flg 24 5) rfl rfl (any_of HT_.out (by kernel_rfl)) (fun _ _ _ h=>h) ?_
       refine pur_ 4 20 (flg 24 21) rfl rfl (any_of HT_.out (by kernel_rfl)) (fun _ _ _ h=>h) ?_
       refine pur_ 6 22 (flg 24 85) rfl rfl (any_of HT_.out (by kernel_rfl)) (fun _ _ _ h=>h) ?_
       refine pur_ 8 24 (flg 24 341) rfl rfl (any_of HT_.out (by kernel_rfl)) (fun _ _ _ h=>h) ?_
       refine pur_ 10 26 (flg 24 1365) rfl rfl (any_of HT_.out (by kernel_rfl)) (fun _ _ _ h=>h) ?_
       refine pur_ 12 28 (flg 24 5461) rfl rfl (any_of HT_.out (by kernel_rfl)) (fun _ _ _ h=>h) ?_
       refine pur_ 14 30 (flg 24 21845) rfl rfl (any_of HT_.out (by kernel_rfl)) (fun _ _ _ h=>h) ?_
       refine tak_ 1 17 (flg 24 21847) rfl rfl (take_ofW HT_.out HW_.out (by kernel_rfl)) (fun _ _ _ h=>h) hHeld ?_
       refine pur_ 3 19 (flg 24 21855) rfl rfl (any_of HT_.out (by kernel_rfl)) (fun _ _ _ h=>h) ?_
       refine pur_ 16 32 (flg 24 87391) rfl rfl (any_of HT_.out (by kernel_rfl)) (fun _ _ _ h=>h) ?_
       refine tak_ 5 21 (flg 24 87423) rfl rfl (take_ofW HT_.out HW_.out (by kernel_rfl)) (fun _ _ _ h=>h) hHeld ?_
       refine tak_ 9 25 (flg 24 87935) rfl rfl (take_ofW HT_.out HW_.out (by kernel_rfl)) (fun _ _ _ h=>h) hHeld ?_
       refine tak_ 13 29 (flg 24 96127) rfl rfl (take_ofW HT_.out HW_.out (by kernel_rfl)) (fun _ _ _ h=>h) hHeld ?_
       refine one_ (i:=7) (N:=some 23) (flg 24 96255) rfl rfl (one_of HT_.out (by kernel_rfl)) (by decide) (fun K hK=>?_)
       refine goes_ Tryd.func29 (by kernel_rfl) rfl #[.slice A433_3 ((rd_T76 l0 x11_1).f3).length c433_3,.int .i64 a1] (by rfl) rfl rfl ar_ ?_
       with_reducible refine (ih k1 (by have:=HK1.out;omega) _ _ ((rd_T76 l0 x11_1).f3) a1 t436 _ ?side1 ?side2 A6.out).mono ?_
       (case side1=>exact kc_ HR433_3.out HB.out)
       (case side2=>exact HC433_3.out)
       rintro e w17 ⟨v437,rfl,ho0,hb⟩
       refine ⟨_,rfl,?_⟩
       have n0_:=Aside0.mk (Kd.R_elder' (by (with_reducible repeat (first|apply Kd.R_alloc|apply Kd.R_drewN|apply Kd.R_drew));exact HO_5.out) (Kd.R_base ho0) hb)
       have n1_:=Aside0.mk (Kd.R_lower (Kd.R_newB (Kd.R_newB (Kd.R_new' ho0 (Kd.R_lt (by (with_reducible repeat (first|apply Kd.R_alloc|apply Kd.R_drewN|apply Kd.R_drew));exact HO_5.out))) (g:=gb434) (o:=.cells #[.string ((rd_T76 l0 x11_1).f0),.string ((rd_T76 l0 x11_1).f1),.slice A433_2 ((rd_T76 l0 x11_1).f2).length c433_2,.slice A433_3 ((rd_T76 l0 x11_1).f3).length c433_3,.slice A433_4 ((rd_T76 l0 x11_1).f4).length c433_4,.int .i64 ((rd_T76 l0 x11_1).f5)] 76 (0,0)) (kb_ BK434.out)) (g:=gb435) (o:=.cells #[.string ((rd_T76 l0 x11_1).f0),.string ((rd_T76 l0 x11_1).f1),.slice A433_2 ((rd_T76 l0 x11_1).f2).length c433_2,.slice A433_3 ((rd_T76 l0 x11_1).f3).length c433_3,.slice A433_4 ((rd_T76 l0 x11_1).f4).length c433_4,.int .i64 ((rd_T76 l0 x11_1).f5)] 76 (0,0)) (kb_ BK435.out)) (below_size (bl_ HB.out)))
       have n2_:=Aside0.mk (bb_ BK434.out hb)
       have n3_:=Aside0.mk (bb_ BK435.out hb)
       have n4_:=Aside0.mk (below_step (bl_ HB.out) hb)
       clear HO_5
       clear BK434
       clear BK435
       clear HB
       have HO_5:=n0_
       have HO438:=n1_
       have BK434:=n2_
       have BK435:=n3_
       have HB:=n4_
       clear n0_ n1_ n2_ n3_ n4_
       (try clear hb)
       (try clear hb2)
       (try clear hk)
       (try clear hi)
       (try clear ho0)
       refine hK.out _ _ ⟨zc_ BK434.out 0,zc_ BK434.out 1,zc_ BK434.out 2,zc_ BK434.out 3,zc_ BK434.out 4,zc_ BK434.out 5⟩ (fun hHeld=>?_)
       clear hK K
       refine norm_ (a':=?_) ?_ ?_
       rotate_left
       ·show Act.put _ (some 23) _=_
        simp only [Act.put,List.setIfInBounds_toArray,List.set_cons_zero,List.set_cons_succ,i64_w,i32_w]
        rfl
       refine one_ (i:=11) (N:=some 27) (flg 24 98303) rfl rfl (one_of HT_.out (by kernel_rfl)) (by decide) (fun K hK=>?_)
       refine goes_ Tryd.func29 (by kernel_rfl) rfl #[.slice A433_4 ((rd_T76 l0 x11_1).f4).length c433_4,.int .i64 a1] (by rfl) rfl rfl ar_ ?_
       with_reducible refine (ih k1 (by have:=HK1.out;omega) _ _ ((rd_T76 l0 x11_1).f4) a1 t439 _ ?side1 ?side2 A7.out).mono ?_
       (case side1=>exact kc_ HR433_4.out HB.out)
       (case side2=>exact HC433_4.out)
       rintro e w18 ⟨v440,rfl,ho0,hb⟩
       refine ⟨_,rfl,?_⟩
       have n0_:=Aside0.mk (Kd.R_elder' (by (with_reducible repeat (first|apply Kd.R_alloc|apply Kd.R_drewN|apply Kd.R_drew));exact HO_5.out) (Kd.R_base ho0) hb)
       have n1_:=Aside0.mk (Kd.R_elder' (by (with_reducible repeat (first|apply Kd.R_alloc|apply Kd.R_drewN|apply Kd.R_drew));exact HO438.out) (Kd.R_base ho0) hb)
       have n2_:=Aside0.mk (Kd.R_lower (Kd.R_newB (Kd.R_newB (Kd.R_new' (Kd.R_new' ho0 (Kd.R_lt (by (with_reducible repeat (first|apply Kd.R_alloc|apply Kd.R_drewN|apply Kd.R_drew));exact HO_5.out))) (Kd.R_lt (by (with_reducible repeat (first|apply Kd.R_alloc|apply Kd.R_drewN|apply Kd.R_drew));exact HO438.out))) (g:=gb434) (o:=.cells #[.string ((rd_T76 l0 x11_1).f0),.string ((rd_T76 l0 x11_1).f1),.slice A433_2 ((rd_T76 l0 x11_1).f2).length c433_2,.slice A433_3 ((rd_T76 l0 x11_1).f3).length c433_3,.slice A433_4 ((rd_T76 l0 x11_1).f4).length c433_4,.int .i64 ((rd_T76 l0 x11_1).f5)] 76 (0,0)) (kb_ BK434.out)) (g:=gb435) (o:=.cells #[.string ((rd_T76 l0 x11_1).f0),.string ((rd_T76 l0 x11_1).f1),.slice A433_2 ((rd_T76 l0 x11_1).f2).length c433_2,.slice A433_3 ((rd_T76 l0 x11_1).f3).length c433_3,.slice A433_4 ((rd_T76 l0 x11_1).f4).length c433_4,.int .i64 ((rd_T76 l0 x11_1).f5)] 76 (0,0)) (kb_ BK435.out)) (below_size (bl_ HB.out)))
       have n3_:=Aside0.mk (bb_ BK434.out hb)
       have n4_:=Aside0.mk (bb_ BK435.out hb)
       have n5_:=Aside0.mk (below_step (bl_ HB.out) hb)
       clear HO_5
       clear HO438
       clear BK434
       clear BK435
       clear HB
       have HO_5:=n0_
       have HO438:=n1_
       have HO441:=n2_
       have BK434:=n3_
       have BK435:=n4_
       have HB:=n5_
       clear n0_ n1_ n2_ n3_ n4_ n5_
       (try clear hb)
       (try clear hb2)
       (try clear hk)
       (try clear hi)
       (try clear ho0)
       refine hK.out _ _ ⟨zc_ BK434.out 0,zc_ BK434.out 1,zc_ BK434.out 2,zc_ BK434.out 3,zc_ BK434.out 4,zc_ BK434.out 5⟩ (fun hHeld=>?_)
       clear hK K
       refine norm_ (a':=?_) ?_ ?_
       rotate_left
       ·show Act.put _ (some 27) _=_
        simp only [Act.put,List.setIfInBounds_toArray,List.set_cons_zero,List.set_cons_succ,i64_w,i32_w]
        rfl
       refine one_ (i:=15) (N:=some 31) (flg 24 131071) rfl rfl (one_of HT_.out (by kernel_rfl)) (by decide) (fun K hK=>?_)
       refine goes_ Tryd.func52 (by kernel_rfl) rfl #[.slice A433_2 ((rd_T76 l0 x11_1).f2).length c433_2,.int .i64 a1] (by rfl) rfl rfl ar_ ?_
       with_reducible refine (helmsmanlaw12_movedExprs.calls k1 _ _ ((rd_T76 l0 x11_1).f2) a1 t442 _ ?side1 ?side2 A8.out).mono ?_
       (case side1=>exact kc_ HR433_2.out HB.out)
       (case side2=>exact HC433_2.out)
       rintro e w19 ⟨v443,rfl,ho0,hb⟩
       refine ⟨_,rfl,?_⟩
       have n0_:=Aside0.mk (Kd.R_elder' (by (with_reducible repeat (first|apply Kd.R_alloc|apply Kd.R_drewN|apply Kd.R_drew));exact HO_5.out) (Kd.R_base ho0) hb)
       have n1_:=Aside0.mk (Kd.R_elder' (by (with_reducible repeat (first|apply Kd.R_alloc|apply Kd.R_drewN|apply Kd.R_drew));exact HO438.out) (Kd.R_base ho0) hb)
       have n2_:=Aside0.mk (Kd.R_elder' (by (with_reducible repeat (first|apply Kd.R_alloc|apply Kd.R_drewN|apply Kd.R_drew));exact HO441.out) (Kd.R_base ho0) hb)
       have n3_:=Aside0.mk (Kd.R_lower ho0 (below_size (bl_ HB.out)))
       have n4_:=Aside0.mk (bb_ BK434.out hb)
       have n5_:=Aside0.mk (bb_ BK435.out hb)
       have n6_:=Aside0.mk (below_step (bl_ HB.out) hb)
       clear HO_5
       clear HO438
       clear HO441
       clear BK434
       clear BK435
       clear HB
       have HO_5:=n0_
       have HO438:=n1_
       have HO441:=n2_
       have HO444:=n3_
       have BK434:=n4_
       have BK435:=n5_
       have HB:=n6_
       clear n0_ n1_ n2_ n3_ n4_ n5_ n6_
       (try clear hb)
       (try clear hb2)
       (try clear hk)
       (try clear hi)
       (try clear ho0)
       obtain ⟨Ao21,co21,eo21⟩:=Kd.R_slice HO438.out
       (first|subst eo21|(injection eo21 with f1_ f2_ f3_;have f4_:=f1_.symm;have f5_:=f3_.symm;clear f1_ f2_ f3_;subst f4_;subst f5_))
       obtain ⟨Ao23,co23,eo23⟩:=Kd.R_slice HO441.out
       (first|subst eo23|(injection eo23 with f1_ f2_ f3_;have f4_:=f1_.symm;have f5_:=f3_.symm;clear f1_ f2_ f3_;subst f4_;subst f5_))
       obtain ⟨Ao25,co25,eo25⟩:=Kd.R_slice HO444.out
       (first|subst eo25|(injection eo25 with f1_ f2_ f3_;have f4_:=f1_.symm;have f5_:=f3_.symm;clear f1_ f2_ f3_;subst f4_;subst f5_))
       refine hK.out _ _ ⟨zc_ BK434.out 0,zc_ BK434.out 1,zc_ BK434.out 2,zc_ BK434.out 3,zc_ BK434.out 4,zc_ BK434.out 5⟩ (fun hHeld=>?_)
       clear hK K
       refine norm_ (a':=?_) ?_ ?_
       rotate_left
       ·show Act.put _ (some 31) _=_
        simp only [Act.put,List.setIfInBounds_toArray,List.set_cons_zero,List.set_cons_succ,i64_w,i32_w]
        rfl
       refine one_ (i:=17) (N:=none) (flg 24 262143) rfl rfl (one_of HT_.out (by kernel_rfl)) (by decide) (fun K hK=>?_)
       have hs20:w19.cell? ⟨gb435,5,none⟩=some (.int .i64 ((rd_T76 l0 x11_1).f5)):=zc_ BK435.out 5
       have hfs20:=blk_frozen BK435.out 5
       have hns20_0:=NB434_435.out
       have hms20_0:=NB435_434.out
       refine skip_ (w1:=?_) (by rfl) rfl ?_ ?_
       rotate_left
       ·go_simp
        rfl
       refine hK.out _ _ ⟨((cell_far (p:=⟨gb435,_,none⟩) NB434_435.out _).trans (hHeld.1)),((cell_far (p:=⟨gb435,_,none⟩) NB434_435.out _).trans (hHeld.2.1)),((cell_far (p:=⟨gb435,_,none⟩) NB434_435.out _).trans (hHeld.2.2.1)),((cell_far (p:=⟨gb435,_,none⟩) NB434_435.out _).trans (hHeld.2.2.2.1)),((cell_far (p:=⟨gb435,_,none⟩) NB434_435.out _).trans (hHeld.2.2.2.2.1)),((cell_far (p:=⟨gb435,_,none⟩) NB434_435.out _).trans (hHeld.2.2.2.2.2))⟩ (fun hHeld=>?_)
       clear hK K
       refine pur_ 18 33 (flg 24 524287) rfl rfl (any_of HT_.out (by kernel_rfl)) (fun _ _ _ h=>h) ?_
       refine one_ (i:=19) (N:=none) (flg 24 1048575) rfl rfl (one_of HT_.out (by kernel_rfl)) (by decide) (fun K hK=>?_)
       have hs22:w19.cell? ⟨gb435,3,none⟩=some (.slice A433_3 ((rd_T76 l0 x11_1).f3).length c433_3):=zc_ BK435.out 3
       have hfs22:=blk_frozen BK435.out 3
       have hns22_0:=NB434_435.out
       have hms22_0:=NB435_434.out
       refine skip_ (w1:=?_) (by rfl) rfl ?_ ?_
       rotate_left
       ·go_simp
        rfl
       refine hK.out _ _ ⟨((cell_far (p:=⟨gb435,_,none⟩) NB434_435.out _).trans (hHeld.1)),((cell_far (p:=⟨gb435,_,none⟩) NB434_435.out _).trans (hHeld.2.1)),((cell_far (p:=⟨gb435,_,none⟩) NB434_435.out _).trans (hHeld.2.2.1)),((cell_far (p:=⟨gb435,_,none⟩) NB434_435.out _).trans (hHeld.2.2.2.1)),((cell_far (p:=⟨gb435,_,none⟩) NB434_435.out _).trans (hHeld.2.2.2.2.1)),((cell_far (p:=⟨gb435,_,none⟩) NB434_435.out _).trans (hHeld.2.2.2.2.2))⟩ (fun hHeld=>?_)
       clear hK K
       refine pur_ 20 34 (flg 24 2097151) rfl rfl (any_of HT_.out (by kernel_rfl)) (fun _ _ _ h=>h) ?_
       refine one_ (i:=21) (N:=none) (flg 24 4194303) rfl rfl (one_of HT_.out (by kernel_rfl)) (by decide) (fun K hK=>?_)
       have hs24:w19.cell? ⟨gb435,4,none⟩=some (.slice A433_4 ((rd_T76 l0 x11_1).f4).length c433_4):=zc_ BK435.out 4
       have hfs24:=blk_frozen BK435.out 4
       have hns24_0:=NB434_435.out
       have hms24_0:=NB435_434.out
       refine skip_ (w1:=?_) (by rfl) rfl ?_ ?_
       rotate_left
       ·go_simp
        rfl
       refine hK.out _ _ ⟨((cell_far (p:=⟨gb435,_,none⟩) NB434_435.out _).trans (hHeld.1)),((cell_far (p:=⟨gb435,_,none⟩) NB434_435.out _).trans (hHeld.2.1)),((cell_far (p:=⟨gb435,_,none⟩) NB434_435.out _).trans (hHeld.2.2.1)),((cell_far (p:=⟨gb435,_,none⟩) NB434_435.out _).trans (hHeld.2.2.2.1)),((cell_far (p:=⟨gb435,_,none⟩) NB434_435.out _).trans (hHeld.2.2.2.2.1)),((cell_far (p:=⟨gb435,_,none⟩) NB434_435.out _).trans (hHeld.2.2.2.2.2))⟩ (fun hHeld=>?_)
       clear hK K
       refine pur_ 22 35 (flg 24 8388607) rfl rfl (any_of HT_.out (by kernel_rfl)) (fun _ _ _ h=>h) ?_
       refine one_ (i:=23) (N:=none) (flg 24 16777215) rfl rfl (one_of HT_.out (by kernel_rfl)) (by decide) (fun K hK=>?_)
       have hs26:w19.cell? ⟨gb435,2,none⟩=some (.slice A433_2 ((rd_T76 l0 x11_1).f2).length c433_2):=zc_ BK435.out 2
       have hfs26:=blk_frozen BK435.out 2
       have hns26_0:=NB434_435.out
       have hms26_0:=NB435_434.out
       refine skip_ (w1:=?_) (by rfl) rfl ?_ ?_
       rotate_left
       ·go_simp
        rfl
       refine hK.out _ _ ⟨((cell_far (p:=⟨gb435,_,none⟩) NB434_435.out _).trans (hHeld.1)),((cell_far (p:=⟨gb435,_,none⟩) NB434_435.out _).trans (hHeld.2.1)),((cell_far (p:=⟨gb435,_,none⟩) NB434_435.out _).trans (hHeld.2.2.1)),((cell_far (p:=⟨gb435,_,none⟩) NB434_435.out _).trans (hHeld.2.2.2.1)),((cell_far (p:=⟨gb435,_,none⟩) NB434_435.out _).trans (hHeld.2.2.2.2.1)),((cell_far (p:=⟨gb435,_,none⟩) NB434_435.out _).trans (hHeld.2.2.2.2.2))⟩ (fun hHeld=>?_)
       clear hK K
       refine done_ (done_of HT_.out (by kernel_rfl)) ?_
       have n0_:Aside0 (Kd.R k76 76 ((((w19.setCell ⟨gb435,5,none⟩ (.int .i64 (wrap64 (((rd_T76 l0 x11_1).f5)+a1)))).setCell ⟨gb435,3,none⟩ (.slice Ao21 t436.length co21)).setCell ⟨gb435,4,none⟩ (.slice Ao23 t439.length co23)).setCell ⟨gb435,2,none⟩ (.slice Ao25 t442.length co25)) w.heap.size (fun k_=>some k_≠(.slice Ao21 t436.length co21:Value).ownBlock∧some k_≠(.slice Ao23 t439.length co23:Value).ownBlock∧some k_≠(.slice Ao25 t442.length co25:Value).ownBlock∧k_≠gb434∧k_≠gb435) u5 x5_1):=⟨by (with_reducible repeat (first|apply Kd.R_alloc|apply Kd.R_drewN|apply Kd.R_drew));exact Kd.R_mono (Kd.R_far (p:=⟨gb435,2,none⟩) (Kd.R_far (p:=⟨gb435,4,none⟩) (Kd.R_far (p:=⟨gb435,3,none⟩) (Kd.R_far (p:=⟨gb435,5,none⟩) (Kd.R_mono HO_5.out (fun k_ hk=>(⟨hk,hk.1.1.1.2⟩:_∧k_≠gb435))) (fun _ hk=>hk.2) (.int .i64 (wrap64 (((rd_T76 l0 x11_1).f5)+a1)))) (fun _ hk=>hk.2) (.slice Ao21 t436.length co21)) (fun _ hk=>hk.2) (.slice Ao23 t439.length co23)) (fun _ hk=>hk.2) (.slice Ao25 t442.length co25)) (fun _ hk=>⟨hk.1.1.1.2,⟨hk.1.1.2,⟨hk.1.2,⟨hk.1.1.1.1.1,hk.1.1.1.1.2⟩⟩⟩⟩)⟩
       have n1_:Aside0 (Kd.R k76 76 ((((w19.setCell ⟨gb435,5,none⟩ (.int .i64 (wrap64 (((rd_T76 l0 x11_1).f5)+a1)))).setCell ⟨gb435,3,none⟩ (.slice Ao21 t436.length co21)).setCell ⟨gb435,4,none⟩ (.slice Ao23 t439.length co23)).setCell ⟨gb435,2,none⟩ (.slice Ao25 t442.length co25)) w.heap.size (fun k_=>some k_≠(u5:Value).ownBlock∧some k_≠(.slice Ao23 t439.length co23:Value).ownBlock∧some k_≠(.slice Ao25 t442.length co25:Value).ownBlock∧k_≠gb434∧k_≠gb435) (.slice Ao21 t436.length co21) t436):=⟨by (with_reducible repeat (first|apply Kd.R_alloc|apply Kd.R_drewN|apply Kd.R_drew));exact Kd.R_mono (Kd.R_far (p:=⟨gb435,2,none⟩) (Kd.R_far (p:=⟨gb435,4,none⟩) (Kd.R_far (p:=⟨gb435,3,none⟩) (Kd.R_far (p:=⟨gb435,5,none⟩) (Kd.R_mono HO438.out (fun k_ hk=>(⟨hk,hk.1.1.2⟩:_∧k_≠gb435))) (fun _ hk=>hk.2) (.int .i64 (wrap64 (((rd_T76 l0 x11_1).f5)+a1)))) (fun _ hk=>hk.2) (.slice Ao21 t436.length co21)) (fun _ hk=>hk.2) (.slice Ao23 t439.length co23)) (fun _ hk=>hk.2) (.slice Ao25 t442.length co25)) (fun _ hk=>⟨hk.1.1.1.1.1.2,⟨hk.1.1.2,⟨hk.1.2,⟨hk.1.1.1.1.2,hk.1.1.1.2⟩⟩⟩⟩)⟩
       have n2_:Aside0 (Kd.R k76 76 ((((w19.setCell ⟨gb435,5,none⟩ (.int .i64 (wrap64 (((rd_T76 l0 x11_1).f5)+a1)))).setCell ⟨gb435,3,none⟩ (.slice Ao21 t436.length co21)).setCell ⟨gb435,4,none⟩ (.slice Ao23 t439.length co23)).setCell ⟨gb435,2,none⟩ (.slice Ao25 t442.length co25)) w.heap.size (fun k_=>some k_≠(u5:Value).ownBlock∧some k_≠(.slice Ao21 t436.length co21:Value).ownBlock∧some k_≠(.slice Ao25 t442.length co25:Value).ownBlock∧k_≠gb434∧k_≠gb435) (.slice Ao23 t439.length co23) t439):=⟨by (with_reducible repeat (first|apply Kd.R_alloc|apply Kd.R_drewN|apply Kd.R_drew));exact Kd.R_mono (Kd.R_far (p:=⟨gb435,2,none⟩) (Kd.R_far (p:=⟨gb435,4,none⟩) (Kd.R_far (p:=⟨gb435,3,none⟩) (Kd.R_far (p:=⟨gb435,5,none⟩) (Kd.R_mono HO441.out (fun k_ hk=>(⟨hk,hk.1.2⟩:_∧k_≠gb435))) (fun _ hk=>hk.2) (.int .i64 (wrap64 (((rd_T76 l0 x11_1).f5)+a1)))) (fun _ hk=>hk.2) (.slice Ao21 t436.length co21)) (fun _ hk=>hk.2) (.slice Ao23 t439.length co23)) (fun _ hk=>hk.2) (.slice Ao25 t442.length co25)) (fun _ hk=>⟨hk.1.1.1.1.1.2,⟨hk.1.1.1.1.2,⟨hk.1.2,⟨hk.1.1.1.2,hk.1.1.2⟩⟩⟩⟩)⟩
       have n3_:Aside0 (Kd.R k33 33 ((((w19.setCell ⟨gb435,5,none⟩ (.int .i64 (wrap64 (((rd_T76 l0 x11_1).f5)+a1)))).setCell ⟨gb435,3,none⟩ (.slice Ao21 t436.length co21)).setCell ⟨gb435,4,none⟩ (.slice Ao23 t439.length co23)).setCell ⟨gb435,2,none⟩ (.slice Ao25 t442.length co25)) w.heap.size (fun _=>True) (.slice Ao25 t442.length co25) t442):=⟨by (with_reducible repeat (first|apply Kd.R_alloc|apply Kd.R_drewN|apply Kd.R_drew));exact Kd.R_mono (Kd.R_far (p:=⟨gb435,2,none⟩) (Kd.R_far (p:=⟨gb435,4,none⟩) (Kd.R_far (p:=⟨gb435,3,none⟩) (Kd.R_far (p:=⟨gb435,5,none⟩) (Kd.R_types HO444.out BK435.out (by decide)) (fun _ hk=>hk.2) (.int .i64 (wrap64 (((rd_T76 l0 x11_1).f5)+a1)))) (fun _ hk=>hk.2) (.slice Ao21 t436.length co21)) (fun _ hk=>hk.2) (.slice Ao23 t439.length co23)) (fun _ hk=>hk.2) (.slice Ao25 t442.length co25)) (fun _ hk=>trivial)⟩
       have n4_:Aside0 (((((w19.setCell ⟨gb435,5,none⟩ (.int .i64 (wrap64 (((rd_T76 l0 x11_1).f5)+a1)))).setCell ⟨gb435,3,none⟩ (.slice Ao21 t436.length co21)).setCell ⟨gb435,4,none⟩ (.slice Ao23 t439.length co23)).setCell ⟨gb435,2,none⟩ (.slice Ao25 t442.length co25)).heap[gb434]?=some (.cells #[.string ((rd_T76 l0 x11_1).f0),.string ((rd_T76 l0 x11_1).f1),.slice A433_2 ((rd_T76 l0 x11_1).f2).length c433_2,.slice A433_3 ((rd_T76 l0 x11_1).f3).length c433_3,.slice A433_4 ((rd_T76 l0 x11_1).f4).length c433_4,.int .i64 ((rd_T76 l0 x11_1).f5)] 76 (0,0))):=⟨kbc_ BK434.out⟩
       have n5_:Aside0 (((((w19.setCell ⟨gb435,5,none⟩ (.int .i64 (wrap64 (((rd_T76 l0 x11_1).f5)+a1)))).setCell ⟨gb435,3,none⟩ (.slice Ao21 t436.length co21)).setCell ⟨gb435,4,none⟩ (.slice Ao23 t439.length co23)).setCell ⟨gb435,2,none⟩ (.slice Ao25 t442.length co25)).heap[gb435]?=some (.cells #[.string ((rd_T76 l0 x11_1).f0),.string ((rd_T76 l0 x11_1).f1),.slice Ao25 t442.length co25,.slice Ao21 t436.length co21,.slice Ao23 t439.length co23,.int .i64 (wrap64 (((rd_T76 l0 x11_1).f5)+a1))] 76 (0,0))):=⟨kbc_ BK435.out⟩
       have n6_:Aside0 (Below w.heap.size w ((((w19.setCell ⟨gb435,5,none⟩ (.int .i64 (wrap64 (((rd_T76 l0 x11_1).f5)+a1)))).setCell ⟨gb435,3,none⟩ (.slice Ao21 t436.length co21)).setCell ⟨gb435,4,none⟩ (.slice Ao23 t439.length co23)).setCell ⟨gb435,2,none⟩ (.slice Ao25 t442.length co25))):=⟨bl_ HB.out⟩
       (try clear HO_5)
       (try clear HO438)
       (try clear HO441)
       (try clear HO444)
       (try clear BK434)
       (try clear BK435)
       (try clear HB)
       generalize ((((w19.setCell ⟨gb435,5,none⟩ (.int .i64 (wrap64 (((rd_T76 l0 x11_1).f5)+a1)))).setCell ⟨gb435,3,none⟩ (.slice Ao21 t436.length co21)).setCell ⟨gb435,4,none⟩ (.slice Ao23 t439.length co23)).setCell ⟨gb435,2,none⟩ (.slice Ao25 t442.length co25))=w27 at n0_ n1_ n2_ n3_ n4_ n5_ n6_ ⊢
       have HO_5:=n0_
       have HO438:=n1_
       have HO441:=n2_
       have HO444:=n3_
       have BK434:=n4_
       have BK435:=n5_
       have HB:=n6_
       clear n0_ n1_ n2_ n3_ n4_ n5_ n6_
       have hcz28_0:w27.cell? ⟨gb435,0,none⟩=some (.string ((rd_T76 l0 x11_1).f0)):=zc_ BK435.out 0
       have hcz28_1:w27.cell? ⟨gb435,1,none⟩=some (.string ((rd_T76 l0 x11_1).f1)):=zc_ BK435.out 1
       have hcz28_2:w27.cell? ⟨gb435,2,none⟩=some (.slice Ao25 t442.length co25):=zc_ BK435.out 2
       have hcz28_3:w27.cell? ⟨gb435,3,none⟩=some (.slice Ao21 t436.length co21):=zc_ BK435.out 3
       have hcz28_4:w27.cell? ⟨gb435,4,none⟩=some (.slice Ao23 t439.length co23):=zc_ BK435.out 4
       have hcz28_5:w27.cell? ⟨gb435,5,none⟩=some (.int .i64 (wrap64 (((rd_T76 l0 x11_1).f5)+a1))):=zc_ BK435.out 5
       have hfz28_0:=blk_frozen BK435.out 0
       have hfz28_1:=blk_frozen BK435.out 1
       have hfz28_2:=blk_frozen BK435.out 2
       have hfz28_3:=blk_frozen BK435.out 3
       have hfz28_4:=blk_frozen BK435.out 4
       have hfz28_5:=blk_frozen BK435.out 5
       try go_wp2_with (first|((with_reducible refine gate_builtin (b:=.append) (xs:=#[.tmp 36,.tmp 38]) rfl ?_);at_builtin;refine Kd.R_append k76 (w0:=w) w.heap.size rfl (.tmp 36) (.tmp 38) 48 76 (.agg #[(.string ⟨#[]⟩),(.string ⟨#[]⟩),(.slice none 0 0),(.slice none 0 0),(.slice none 0 0),(.int .i64 0)]) 112 rfl Tryd.underlying48 info76 rfl (by decide) (by omega) u5 x5_1 (⟨(rd_T76 l0 x11_1).f0,(rd_T76 l0 x11_1).f1,t442,t436,t439,wrap64 (((rd_T76 l0 x11_1).f5)+a1)⟩:S76) [.string ((rd_T76 l0 x11_1).f0),.string ((rd_T76 l0 x11_1).f1),.slice Ao25 t442.length co25,.slice Ao21 t436.length co21,.slice Ao23 t439.length co23,.int .i64 (wrap64 (((rd_T76 l0 x11_1).f5)+a1))] (fun k_=>k_≠gb434∧k_≠gb435) (fun k_=>((fun k_=>k_≠gb434∧k_≠gb435)) k_∧some k_≠(u5:Value).ownBlock) rfl rfl ?aP (fun _ hk=>hk) ?aF ?aO ?aB ?aS ?aL ?_;(case aP=>exact k76_mkM _ _ _ (⟨(rd_T76 l0 x11_1).f0,(rd_T76 l0 x11_1).f1,t442,t436,t439,wrap64 (((rd_T76 l0 x11_1).f5)+a1)⟩:S76) (Kd.R_mono (Kd.R_types (Kd.R_types (Kd.R_apart' (HO444.out) (Kd.R_typed HO_5.out) (by decide)) BK434.out (by decide)) BK435.out (by decide)) (fun k_ hk=>⟨⟨hk.1.2,hk.2⟩,hk.1.1.2⟩)) (Kd.R_mono (HO438.out) (fun k_ hk=>⟨⟨hk.2.2.2.1,hk.2.2.2.2⟩,hk.1⟩)) (Kd.R_mono (HO441.out) (fun k_ hk=>⟨⟨hk.2.2.2.1,hk.2.2.2.2⟩,hk.1⟩)));(case aB=>exact (bl_ HB.out));(case aF=>exact (fun k_ hk=>⟨Kd.freshB (g:=gb434) (o:=.cells #[.string ((rd_T76 l0 x11_1).f0),.string ((rd_T76 l0 x11_1).f1),.slice A433_2 ((rd_T76 l0 x11_1).f2).length c433_2,.slice A433_3 ((rd_T76 l0 x11_1).f3).length c433_3,.slice A433_4 ((rd_T76 l0 x11_1).f4).length c433_4,.int .i64 ((rd_T76 l0 x11_1).f5)] 76 (0,0)) (kb_ BK434.out) k_ hk,Kd.freshB (g:=gb435) (o:=.cells #[.string ((rd_T76 l0 x11_1).f0),.string ((rd_T76 l0 x11_1).f1),.slice Ao25 t442.length co25,.slice Ao21 t436.length co21,.slice Ao23 t439.length co23,.int .i64 (wrap64 (((rd_T76 l0 x11_1).f5)+a1))] 76 (0,0)) (kb_ BK435.out) k_ hk⟩));(case aO=>exact (by (with_reducible repeat (first|apply Kd.R_alloc|apply Kd.R_drewN|apply Kd.R_drew));exact Kd.R_mono HO_5.out (fun _ hk=>⟨hk.2.2.2.1,hk.2.2.2.2⟩)));(case aS=>exact (below_size (bl_ HB.out)));(case aL=>have:=LMc9.out;omega);intro v446 w29 ho hb hg hat;rw [← Ny445.out] at ho;have n0_:=Aside0.mk (bg_ BK434.out hg (Kd.R_away HO_5.out (fun _ hk=>hk.2.2.2.1)));have n1_:=Aside0.mk (bg_ BK435.out hg (Kd.R_away HO_5.out (fun _ hk=>hk.2.2.2.2)));have n2_:=Aside0.mk (hb);have n3_:=Aside0.mk (ho);clear BK434;clear BK435;clear HB;clear HO_5;clear HO438;clear HO441;clear HO444;have BK434:=n0_;have BK435:=n1_;have HB:=n2_;have HO447:=n3_;clear n0_ n1_ n2_ n3_;clear ho hb hg hat))
       go_roundg k1
       case measure=>have:=HK1.out;omega
       case rel=>exact ⟨(y445),(wrap64 (x11_1+1)),rf_,H',⟨by have:=HK1.out;omega⟩,⟨by (with_reducible repeat (first|apply Kd.R_alloc|apply Kd.R_drewN|apply Kd.R_drew));exact Kd.R_mono HO447.out (fun _ hk=>trivial)⟩,⟨bl_ HB.out⟩⟩
      ·rw [if_neg c9] at H
       exact absurd H (by simp)
     ·rw [if_neg c5] at H
      exact absurd H (by simp)
    ·rw [if_neg c4] at H
     exact absurd H (by simp)
   ·rw [if_neg c3] at H
    have c3b0:decide (x11_1 < (l0.length:Int))=false:=decide_eq_false c3
    clear c3
    obtain rfl:=Option.some.inj H
    go_wp2
    go_ret
    exact ⟨_,rt_,by (with_reducible repeat (first|apply Kd.R_alloc|apply Kd.R_drewN|apply Kd.R_drew));exact HO_5.out,bl_ HB.out⟩
end Go.Proofs.YtnnbbeloifhofaaDoor.P
end
section
namespace Go.Proofs.YtnnbbeloifhofaaDoor.P
open Go Go.RowKit Go.Proofs
open Go.Proofs.YtnnbbeloifhofaaDoorW.PrintWords Go.Proofs.YtnnbbeloifhofaaDoorW.PrintLast Go.Proofs.YtnnbbeloifhofaaDoorW.PrintMore
abbrev tupE (x:TE):ByteArray × ByteArray × Int × List TE × Int:=(x.f0,x.f1,x.f2,x.f3,x.f4)
theorem tup_eta (y:TE):(⟨(tupE y).1,(tupE y).2.1,(tupE y).2.2.1,(tupE y).2.2.2.1,(tupE y).2.2.2.2⟩:TE)=y:=by cases y;rfl
theorem Expr_loop : ∀ (xs pre:List RE) (n:Int) (a b:ByteArray) (m t:Int) (acc:List TE),(∀ y ∈ xs,Ev (fun k=>helmsmanlaw12_Expr.f k y.f0 y.f1 y.f2 y.f3 y.f4) (tupE (convE y)))→n=((pre++xs).length:Int)→(pre++xs).length < 1099511627776→acc.length=pre.length→
    Ev (fun k=>helmsmanlaw12_Expr.l0 k (pre++xs) n pre.length a b m acc t) (a,b,m,acc++convEs xs,t):=by
  intro xs
  induction xs with
  | nil=>
    intro pre n a b m t acc _ hn _ _
    subst hn
    refine Ev.step (fun k=>helmsmanlaw12_Expr.l0.eq_2 _ _ _ _ _ _ _ _ k) (Ev.no (end_not pre) ?_)
    rw [convEs,List.append_nil];exact Ev.now _
  | cons x xs ih=>
    intro pre n a b m t acc h hn hl ha
    subst hn
    refine Ev.step (fun k=>helmsmanlaw12_Expr.l0.eq_2 _ _ _ _ _ _ _ _ k) (Ev.yes (mid_lt pre x xs) (Ev.yes (by omega) (Ev.yes (mid_lt pre x xs) ?_)))
    rw [rdRE]
    refine Ev.bind (h x (List.mem_cons_self ..)) (Ev.yes (by rw [ha];rw [List.length_append] at hl;omega) ?_)
    rw [next_len pre x xs (by omega),tup_eta]
    have:=ih (pre++[x]) ((pre++x :: xs).length:Int) a b m t (acc++[convE x]) (fun y hy=>h y (List.mem_cons_of_mem _ hy)) (by rw [← snoc]) (by rw [← snoc];exact hl) (by rw [List.length_append,List.length_append,ha];rfl)
    rw [← snoc,List.append_assoc,List.singleton_append] at this
    rw [convEs]
    exact this
theorem Expr_ev : ∀ x:RE,bulkE x < 1099511627776→Ev (fun k=>helmsmanlaw12_Expr.f k x.f0 x.f1 x.f2 x.f3 x.f4) (tupE (convE x)):=RE.all fun x ih hb=>by
  rw [bulkE_eq] at hb
  have hl:=len_bulkEs x.f3
  refine Ev.step (fun k=>helmsmanlaw12_Expr.f.eq_2 _ _ _ _ _ k) ?_
  have:=Expr_loop x.f3 [] (x.f3.length:Int) x.f0 x.f1 x.f2 x.f4 [] (fun y hy=>ih y hy (by have:=mem_bulkEs hy;omega)) rfl (by rw [List.nil_append];omega) rfl
  rw [convE_eq]
  exact this
theorem Stmts_l1 : ∀ (xs pre:List RE) (n:Int) (out:List TS) (x9:List RS) (x10 i:Int) (a b:ByteArray) (acc:List TE) (u v:List TS) (t:Int) (r:List TS),(∀ y ∈ xs,bulkE y < 1099511627776)→n=((pre++xs).length:Int)→(pre++xs).length < 1099511627776→acc.length=pre.length→out.length < 1099511627776→
    Ev (fun k=>helmsmanlaw12_Stmts.l0 k (out++[⟨a,b,acc++convEs xs,u,v,t⟩]) x9 x10 (wrap64 (i+1))) r→
    Ev (fun k=>helmsmanlaw12_Stmts.l1 k out x9 x10 i (pre++xs) n pre.length a b acc u v t) r:=by
  intro xs
  induction xs with
  | nil=>
    intro pre n out x9 x10 i a b acc u v t r _ hn _ _ ho hr
    subst hn
    refine Ev.step (fun k=>helmsmanlaw12_Stmts.l1.eq_2 _ _ _ _ _ _ _ _ _ _ _ _ _ k) (Ev.no (end_not pre) (Ev.yes (by omega) ?_))
    rw [convEs,List.append_nil] at hr;exact hr
  | cons x xs ih=>
    intro pre n out x9 x10 i a b acc u v t r h hn hl ha ho hr
    subst hn
    refine Ev.step (fun k=>helmsmanlaw12_Stmts.l1.eq_2 _ _ _ _ _ _ _ _ _ _ _ _ _ k) (Ev.yes (mid_lt pre x xs) (Ev.yes (by omega) (Ev.yes (mid_lt pre x xs) ?_)))
    rw [rdRE]
    refine Ev.bind (Expr_ev x (h x (List.mem_cons_self ..))) (Ev.yes (by rw [ha];rw [List.length_append] at hl;omega) ?_)
    rw [next_len pre x xs (by omega),tup_eta]
    have:=ih (pre++[x]) ((pre++x :: xs).length:Int) out x9 x10 i a b (acc++[convE x]) u v t r (fun y hy=>h y (List.mem_cons_of_mem _ hy)) (by rw [← snoc]) (by rw [← snoc];exact hl) (by rw [List.length_append,List.length_append,ha];rfl) ho (by rw [List.append_assoc,List.singleton_append];rw [convEs] at hr;exact hr)
    rw [← snoc] at this
    exact this
theorem Stmts_loop : ∀ (xs pre:List RS) (n:Int) (out:List TS),(∀ y ∈ xs,bulkS y < 1099511627775∧Ev (fun k=>helmsmanlaw12_Stmts.f k y.f3) (convSs y.f3)∧Ev (fun k=>helmsmanlaw12_Stmts.f k y.f4) (convSs y.f4))→n=((pre++xs).length:Int)→(pre++xs).length < 1099511627776→out.length=pre.length→
    Ev (fun k=>helmsmanlaw12_Stmts.l0 k out (pre++xs) n pre.length) (out++convSs xs):=by
  intro xs
  induction xs with
  | nil=>
    intro pre n out _ hn _ _
    subst hn
    refine Ev.step (fun k=>helmsmanlaw12_Stmts.l0.eq_2 _ _ _ _ k) (Ev.no (end_not pre) ?_)
    rw [convSs,List.append_nil];exact Ev.now _
  | cons x xs ih=>
    intro pre n out h hn hl ho
    obtain ⟨hb,ha,hc⟩:=h x (List.mem_cons_self ..)
    rw [bulkS_eq] at hb
    have hle:=len_bulkEs x.f2
    subst hn
    refine Ev.step (fun k=>helmsmanlaw12_Stmts.l0.eq_2 _ _ _ _ k) (Ev.yes (mid_lt pre x xs) (Ev.yes (by omega) (Ev.yes (mid_lt pre x xs) ?_)))
    rw [rdRS]
    refine Ev.bind ha (Ev.bind hc ?_)
    refine Stmts_l1 x.f2 [] (x.f2.length:Int) out _ _ _ x.f0 x.f1 [] (convSs x.f3) (convSs x.f4) x.f5 _ (fun y hy=>by have:=mem_bulkEs hy;omega) rfl (by rw [List.nil_append];omega) rfl (by rw [ho];rw [List.length_append] at hl;omega) ?_
    rw [next_len pre x xs (by omega),List.nil_append,← convS_eq]
    have:=ih (pre++[x]) ((pre++x :: xs).length:Int) (out++[convS x]) (fun y hy=>h y (List.mem_cons_of_mem _ hy)) (by rw [← snoc]) (by rw [← snoc];exact hl) (by rw [List.length_append,List.length_append,ho];rfl)
    rw [← snoc,List.append_assoc,List.singleton_append] at this
    rw [convSs]
    exact this
theorem Stmts_of (l:List RS) (hb:bulkSs l < 1099511627775) (h : ∀ y ∈ l,Ev (fun k=>helmsmanlaw12_Stmts.f k y.f3) (convSs y.f3)∧Ev (fun k=>helmsmanlaw12_Stmts.f k y.f4) (convSs y.f4)):Ev (fun k=>helmsmanlaw12_Stmts.f k l) (convSs l):=by
  have hl:=len_bulkSs l
  refine Ev.step (fun k=>helmsmanlaw12_Stmts.f.eq_2 _ k) ?_
  exact Stmts_loop l [] (l.length:Int) [] (fun y hy=>⟨by have:=mem_bulkSs hy;omega,h y hy⟩) rfl (by rw [List.nil_append];omega) rfl
theorem Stmts_ev' : ∀ x:RS,bulkS x < 1099511627775→Ev (fun k=>helmsmanlaw12_Stmts.f k x.f3) (convSs x.f3)∧Ev (fun k=>helmsmanlaw12_Stmts.f k x.f4) (convSs x.f4):=RS.all fun x iha ihb hb=>by
  rw [bulkS_eq] at hb
  exact ⟨Stmts_of _ (by omega) (fun y hy=>iha y hy (by have:=mem_bulkSs hy;omega)),Stmts_of _ (by omega) (fun y hy=>ihb y hy (by have:=mem_bulkSs hy;omega))⟩
theorem Stmts_ev (l:List RS) (hb:bulkSs l < 1099511627775):Ev (fun k=>helmsmanlaw12_Stmts.f k l) (convSs l):=
  Stmts_of l hb (fun y hy=>Stmts_ev' y (by have:=mem_bulkSs hy;omega))
mutual
def movE (by':Int):RE→RE
  | ⟨a,b,n,l,t⟩=>⟨a,b,n,movEs by' l,wrap64 (t+by')⟩
def movEs (by':Int):List RE→List RE
  | []=>[]
  | x :: xs=>movE by' x :: movEs by' xs
end
mutual
def movS (by':Int):RS→RS
  | ⟨a,b,e,l,m,t⟩=>⟨a,b,movEs by' e,movSs by' l,movSs by' m,wrap64 (t+by')⟩
def movSs (by':Int):List RS→List RS
  | []=>[]
  | x :: xs=>movS by' x :: movSs by' xs
end
theorem movE_eq (d:Int) (x:RE):movE d x=⟨x.f0,x.f1,x.f2,movEs d x.f3,wrap64 (x.f4+d)⟩:=by cases x;rfl
theorem movS_eq (d:Int) (x:RS):movS d x=⟨x.f0,x.f1,movEs d x.f2,movSs d x.f3,movSs d x.f4,wrap64 (x.f5+d)⟩:=by cases x;rfl
theorem movEs_loop (d:Int) : ∀ (xs:List RE) (pre:List TE) (n:Int) (acc:List TE),(∀ y ∈ xs,Ev (fun k=>helmsmanlaw12_movedExprs.f k (convEs y.f3) d) (convEs (movEs d y.f3)))→n=((pre++convEs xs).length:Int)→(pre++convEs xs).length < 1099511627776→acc.length=pre.length→
    Ev (fun k=>helmsmanlaw12_movedExprs.l0 k d acc (pre++convEs xs) n pre.length) (acc++convEs (movEs d xs)):=by
  intro xs
  induction xs with
  | nil=>
    intro pre n acc _ hn _ _
    subst hn
    refine Ev.step (fun k=>helmsmanlaw12_movedExprs.l0.eq_2 _ _ _ _ _ k) (Ev.no (end_not pre) ?_)
    rw [movEs,convEs,List.append_nil];exact Ev.now _
  | cons x xs ih=>
    intro pre n acc h hn hl ha
    subst hn
    rw [convEs] at hl ⊢
    refine Ev.step (fun k=>helmsmanlaw12_movedExprs.l0.eq_2 _ _ _ _ _ k) (Ev.yes (mid_lt pre (convE x) (convEs xs)) (Ev.yes (by omega) (Ev.yes (mid_lt pre (convE x) (convEs xs)) ?_)))
    rw [rdTE,convE_f3]
    refine Ev.bind (h x (List.mem_cons_self ..)) (Ev.yes (by rw [ha];rw [List.length_append] at hl;omega) ?_)
    rw [next_len pre (convE x) (convEs xs) (by omega)]
    have:=ih (pre++[convE x]) ((pre++convE x :: convEs xs).length:Int) (acc++[convE (movE d x)]) (fun y hy=>h y (List.mem_cons_of_mem _ hy)) (by rw [← snoc]) (by rw [← snoc];exact hl) (by rw [List.length_append,List.length_append,ha];rfl)
    rw [← snoc,List.append_assoc,List.singleton_append] at this
    rw [movEs,convEs]
    rw [show (⟨(convE x).f0,(convE x).f1,(convE x).f2,convEs (movEs d x.f3),wrap64 ((convE x).f4+d)⟩:TE)=convE (movE d x) by rw [movE_eq,convE_eq,convE_eq]]
    exact this
theorem movEs_ev' (d:Int) : ∀ x:RE,bulkE x < 1099511627776→Ev (fun k=>helmsmanlaw12_movedExprs.f k (convEs x.f3) d) (convEs (movEs d x.f3)):=RE.all fun x ih hb=>by
  rw [bulkE_eq] at hb
  have hl:=len_bulkEs x.f3
  refine Ev.step (fun k=>helmsmanlaw12_movedExprs.f.eq_2 _ _ k) ?_
  exact movEs_loop d x.f3 [] ((convEs x.f3).length:Int) [] (fun y hy=>ih y hy (by have:=mem_bulkEs hy;omega)) rfl (by rw [List.nil_append,convEs_len];omega) rfl
theorem movEs_ev (d:Int) (l:List RE) (hb:bulkEs l < 1099511627775):Ev (fun k=>helmsmanlaw12_movedExprs.f k (convEs l) d) (convEs (movEs d l)):=
  movEs_ev' d ⟨⟨#[]⟩,⟨#[]⟩,0,l,0⟩ (by rw [bulkE_eq];exact (show 0+0+bulkEs l+1 < _ by omega))
theorem movSs_loop (d:Int) : ∀ (xs:List RS) (pre:List TS) (n:Int) (acc:List TS),(∀ y ∈ xs,bulkS y < 1099511627775∧Ev (fun k=>helmsmanlaw12_moved.f k (convSs y.f3) d) (convSs (movSs d y.f3))∧Ev (fun k=>helmsmanlaw12_moved.f k (convSs y.f4) d) (convSs (movSs d y.f4)))→n=((pre++convSs xs).length:Int)→(pre++convSs xs).length < 1099511627776→acc.length=pre.length→
    Ev (fun k=>helmsmanlaw12_moved.l0 k d acc (pre++convSs xs) n pre.length) (acc++convSs (movSs d xs)):=by
  intro xs
  induction xs with
  | nil=>
    intro pre n acc _ hn _ _
    subst hn
    refine Ev.step (fun k=>helmsmanlaw12_moved.l0.eq_2 _ _ _ _ _ k) (Ev.no (end_not pre) ?_)
    rw [movSs,convSs,List.append_nil];exact Ev.now _
  | cons x xs ih=>
    intro pre n acc h hn hl ha
    obtain ⟨hb,hA,hB⟩:=h x (List.mem_cons_self ..)
    rw [bulkS_eq] at hb
    subst hn
    rw [convSs] at hl ⊢
    refine Ev.step (fun k=>helmsmanlaw12_moved.l0.eq_2 _ _ _ _ _ k) (Ev.yes (mid_lt pre (convS x) (convSs xs)) (Ev.yes (by omega) (Ev.yes (mid_lt pre (convS x) (convSs xs)) ?_)))
    rw [rdTS,convS_f2,convS_f3,convS_f4]
    refine Ev.bind hA (Ev.bind hB (Ev.bind (movEs_ev d x.f2 (by omega)) (Ev.yes (by rw [ha];rw [List.length_append] at hl;omega) ?_)))
    rw [next_len pre (convS x) (convSs xs) (by omega)]
    have:=ih (pre++[convS x]) ((pre++convS x :: convSs xs).length:Int) (acc++[convS (movS d x)]) (fun y hy=>h y (List.mem_cons_of_mem _ hy)) (by rw [← snoc]) (by rw [← snoc];exact hl) (by rw [List.length_append,List.length_append,ha];rfl)
    rw [← snoc,List.append_assoc,List.singleton_append] at this
    rw [movSs,convSs]
    rw [show (⟨(convS x).f0,(convS x).f1,convEs (movEs d x.f2),convSs (movSs d x.f3),convSs (movSs d x.f4),wrap64 ((convS x).f5+d)⟩:TS)=convS (movS d x) by rw [movS_eq,convS_eq,convS_eq]]
    exact this
theorem movSs_of (d:Int) (l:List RS) (hb:bulkSs l < 1099511627775) (h : ∀ y ∈ l,Ev (fun k=>helmsmanlaw12_moved.f k (convSs y.f3) d) (convSs (movSs d y.f3))∧Ev (fun k=>helmsmanlaw12_moved.f k (convSs y.f4) d) (convSs (movSs d y.f4))):Ev (fun k=>helmsmanlaw12_moved.f k (convSs l) d) (convSs (movSs d l)):=by
  have hl:=len_bulkSs l
  refine Ev.step (fun k=>helmsmanlaw12_moved.f.eq_2 _ _ k) ?_
  exact movSs_loop d l [] ((convSs l).length:Int) [] (fun y hy=>⟨by have:=mem_bulkSs hy;omega,h y hy⟩) rfl (by rw [List.nil_append,convSs_len];omega) rfl
theorem movSs_ev' (d:Int) : ∀ x:RS,bulkS x < 1099511627775→Ev (fun k=>helmsmanlaw12_moved.f k (convSs x.f3) d) (convSs (movSs d x.f3))∧Ev (fun k=>helmsmanlaw12_moved.f k (convSs x.f4) d) (convSs (movSs d x.f4)):=RS.all fun x iha ihb hb=>by
  rw [bulkS_eq] at hb
  exact ⟨movSs_of d _ (by omega) (fun y hy=>iha y hy (by have:=mem_bulkSs hy;omega)),movSs_of d _ (by omega) (fun y hy=>ihb y hy (by have:=mem_bulkSs hy;omega))⟩
theorem movSs_ev (d:Int) (l:List RS) (hb:bulkSs l < 1099511627775):Ev (fun k=>helmsmanlaw12_moved.f k (convSs l) d) (convSs (movSs d l)):=
  movSs_of d l hb (fun y hy=>movSs_ev' d y (by have:=mem_bulkSs hy;omega))
theorem all2_self {α:Type} {s:α→α→Bool} {f:α→α} : ∀ {l:List α},(∀ x ∈ l,s x (f x)=true)→all2 s l (l.map f)=true
  | [],_=>rfl
  | x :: xs,h=>by rw [List.map_cons,all2,h x (List.mem_cons_self ..),all2_self (fun y hy=>h y (List.mem_cons_of_mem _ hy))];rfl
theorem movEs_map (d:Int) (l:List RE):movEs d l=l.map (movE d):=by
  induction l with
  | nil=>rfl
  | cons x xs ih=>rw [movEs,ih];rfl
theorem movSs_map (d:Int) (l:List RS):movSs d l=l.map (movS d):=by
  induction l with
  | nil=>rfl
  | cons x xs ih=>rw [movSs,ih];rfl
theorem sameE_mov (d:Int) : ∀ x:RE,sameE x (movE d x)=true:=RE.all fun x ih=>by
  rw [sameE_eq,movE_eq,sameEs_all,movEs_map,all2_self ih];simp
theorem sameEs_mov (d:Int) (l:List RE):sameEs l (movEs d l)=true:=by rw [sameEs_all,movEs_map,all2_self (fun x _=>sameE_mov d x)]
theorem sameS_mov (d:Int) : ∀ x:RS,sameS x (movS d x)=true:=RS.all fun x iha ihb=>by
  rw [sameS_eq,movS_eq,sameEs_mov,sameSs_all,sameSs_all,movSs_map,movSs_map,all2_self iha,all2_self ihb];simp
theorem sameSs_mov (d:Int) (l:List RS):sameSs l (movSs d l)=true:=by rw [sameSs_all,movSs_map,all2_self (fun x _=>sameS_mov d x)]
theorem all2_refl {α:Type} {s:α→α→Bool} : ∀ {l:List α},(∀ x ∈ l,s x x=true)→all2 s l l=true
  | [],_=>rfl
  | x :: xs,h=>by rw [all2,h x (List.mem_cons_self ..),all2_refl (fun y hy=>h y (List.mem_cons_of_mem _ hy))];rfl
theorem sameE_refl : ∀ x:RE,sameE x x=true:=RE.all fun x ih=>by rw [sameE_eq,sameEs_all,all2_refl ih];simp
theorem sameEs_refl (l:List RE):sameEs l l=true:=by rw [sameEs_all,all2_refl (fun x _=>sameE_refl x)]
theorem sameS_refl : ∀ x:RS,sameS x x=true:=RS.all fun x iha ihb=>by rw [sameS_eq,sameEs_refl,sameSs_all,sameSs_all,all2_refl iha,all2_refl ihb];simp
theorem sameSs_refl (l:List RS):sameSs l l=true:=by rw [sameSs_all,all2_refl (fun x _=>sameS_refl x)]
end Go.Proofs.YtnnbbeloifhofaaDoor.P
end
section
namespace Go.Proofs.YtnnbbeloifhofaaDoor.P
open Go.RowKit Go.Proofs.YtnnbbeloifhofaaDoorW.PrintWords Go.Proofs.YtnnbbeloifhofaaDoorW.PrintLast Go.Proofs.YtnnbbeloifhofaaDoorW.PrintMore
attribute [local go_sem] max2_int min2_int max_two min_two max_three min_three max_four min_four
set_option linter.unusedVariables false
set_option linter.unusedSimpArgs false
def strconv_Itoa_53.f (a0:Int):Option (ByteArray):=(strconv_FormatInt.f a0 10).bind fun t127=>(some t127)
set_option maxHeartbeats 8000000 in
set_option maxRecDepth 100000 in
theorem strconv_Itoa_53.calls (a0:Int) (r:ByteArray) (w:World) (hT:TabT w) (h:strconv_Itoa_53.f a0=some r) :
    Calls Tryd.prog 53 #[.int .i64 a0] w fun e w'=>e=.returned (.string r)∧Below w.heap.size w w':=by
  have HB:=Aside0.mk (Below.refl w.heap.size w)
  have H:((strconv_FormatInt.f a0 10).bind fun t127=>(some t127))=some r:=h
  clear h
  replace H:=Option.bind_eq_some_iff.mp H
  obtain ⟨t127,A20,H⟩:=H
  replace H:(some t127)=some r:=H
  have A2:=Aside0.mk A20
  clear A20
  obtain rfl:=Option.some.inj H
  go_enter Tryd.func53,Tryd.ntmps53
  go_wp2_with (first|((with_reducible refine gate_callee (f:=62) rfl ?_);refine goesL_ (some 4) rfl rfl Tryd.func62 (by kernel_rfl) rfl #[.int .i64 a0,.int .i64 10] rfl (by (try simp only [List.map_toArray,List.map_cons,List.map_nil]);first|done|rfl|(simp only [List.length_drop,List.length_take];rfl)) ?_;(with_reducible refine (strconv_FormatInt.calls a0 10 t127 _ ?side1 A2.out).mono ?_);(case side1=>exact hT.later (by repeat (first|(with_reducible first|exact HB.out|apply below_alloc|apply pw_below_drewN|apply below_drew1)|exact HB.out)));rintro e w3 ⟨rfl,hb⟩;refine ⟨_,rfl,?_⟩;have n0_:=Aside0.mk (below_step (by repeat (first|(with_reducible first|exact HB.out|apply below_alloc|apply pw_below_drewN|apply below_drew1)|exact HB.out)) hb);clear HB;have HB:=n0_;clear n0_;(try clear hb);(try clear hb2);(try clear hk);(try clear hi)))
  go_ret
  exact ⟨by first|rfl|(simp [errW_none,errW_some] <;> rfl)|(simp [*,errW_none,errW_some] <;> rfl),by repeat (first|(with_reducible first|exact HB.out|apply below_alloc|apply pw_below_drewN|apply below_drew1)|exact HB.out)⟩
end Go.Proofs.YtnnbbeloifhofaaDoor.P
end
section
namespace Go.Proofs.YtnnbbeloifhofaaDoor.P
open Go.RowKit Go.Proofs.YtnnbbeloifhofaaDoorW.PrintWords Go.Proofs.YtnnbbeloifhofaaDoorW.PrintLast Go.Proofs.YtnnbbeloifhofaaDoorW.PrintMore
attribute [local go_sem] max2_int min2_int max_two min_two max_three min_three max_four min_four
set_option linter.unusedVariables false
set_option linter.unusedSimpArgs false
def strconv_Itoa_31.f (a0:Int):Option (ByteArray):=(strconv_Itoa_53.f a0).bind fun t128=>(some t128)
set_option maxHeartbeats 8000000 in
set_option maxRecDepth 100000 in
theorem strconv_Itoa_31.calls (a0:Int) (r:ByteArray) (w:World) (hT:TabT w) (h:strconv_Itoa_31.f a0=some r) :
    Calls Tryd.prog 31 #[.int .i64 a0] w fun e w'=>e=.returned (.string r)∧Below w.heap.size w w':=by
  have HB:=Aside0.mk (Below.refl w.heap.size w)
  have H:((strconv_Itoa_53.f a0).bind fun t128=>(some t128))=some r:=h
  clear h
  replace H:=Option.bind_eq_some_iff.mp H
  obtain ⟨t128,A20,H⟩:=H
  replace H:(some t128)=some r:=H
  have A2:=Aside0.mk A20
  clear A20
  obtain rfl:=Option.some.inj H
  go_enter Tryd.func31,Tryd.ntmps31
  go_wp2_with (first|((with_reducible refine gate_callee (f:=53) rfl ?_);refine goesL_ (some 4) rfl rfl Tryd.func53 (by kernel_rfl) rfl #[.int .i64 a0] rfl (by (try simp only [List.map_toArray,List.map_cons,List.map_nil]);first|done|rfl|(simp only [List.length_drop,List.length_take];rfl)) ?_;(with_reducible refine (strconv_Itoa_53.calls a0 t128 _ ?side1 A2.out).mono ?_);(case side1=>exact hT.later (by repeat (first|(with_reducible first|exact HB.out|apply below_alloc|apply pw_below_drewN|apply below_drew1)|exact HB.out)));rintro e w3 ⟨rfl,hb⟩;refine ⟨_,rfl,?_⟩;have n0_:=Aside0.mk (below_step (by repeat (first|(with_reducible first|exact HB.out|apply below_alloc|apply pw_below_drewN|apply below_drew1)|exact HB.out)) hb);clear HB;have HB:=n0_;clear n0_;(try clear hb);(try clear hb2);(try clear hk);(try clear hi)))
  go_ret
  exact ⟨by first|rfl|(simp [errW_none,errW_some] <;> rfl)|(simp [*,errW_none,errW_some] <;> rfl),by repeat (first|(with_reducible first|exact HB.out|apply below_alloc|apply pw_below_drewN|apply below_drew1)|exact HB.out)⟩
end Go.Proofs.YtnnbbeloifhofaaDoor.P
end
section
namespace Go.Proofs.YtnnbbeloifhofaaDoor.P
open Go.RowKit Go.Proofs.YtnnbbeloifhofaaDoorW.PrintWords Go.Proofs.YtnnbbeloifhofaaDoorW.PrintLast Go.Proofs.YtnnbbeloifhofaaDoorW.PrintMore
attribute [local go_sem] max2_int min2_int max_two min_two max_three min_three max_four min_four
set_option linter.unusedVariables false
set_option linter.unusedSimpArgs false
def slices_Index_string_string.l0:Nat→List ByteArray→ByteArray→Int→Int→Option (Int)
 | 0,_,_,_,_=>none
 | k+1,x0,x1,x7,x8=>if x8 < x7 then (if 0≤x8 then (if x8 < (x0.length:Int) then (if x1.toList=(rdOf ByteArray.empty x0 x8).toList then (some x8) else (slices_Index_string_string.l0 k x0 x1 x7 (wrap64 (x8+1)))) else (none)) else (none)) else (some (-1))
def slices_Index_string_string.f (k:Nat) (l0:List ByteArray) (a1:ByteArray):Option (Int):=slices_Index_string_string.l0 k l0 a1 (l0.length:Int) 0
set_option maxHeartbeats 8000000 in
set_option maxRecDepth 100000 in
theorem slices_Index_string_string.calls (k:Nat) (A0:Option Addr) (c0:Nat) (l0:List ByteArray) (a1:ByteArray) (r:Int) (w:World) (hr0:Kd.C Kd.string w A0 l0.length l0) (hc0:l0.length≤c0) (h:slices_Index_string_string.f k l0 a1=some r) :
  Calls Tryd.prog 63 #[.slice A0 l0.length c0,.string a1] w fun e w'=>e=.returned (.int .i64 r)∧Drawn0 w w':=by
 have HR0:=Aside0.mk hr0
 have HC0:=Aside0.mk hc0
 clear hr0 hc0
 have H:(slices_Index_string_string.l0 k l0 a1 (l0.length:Int) 0)=some r:=h
 clear h
 have H':=Aside0.mk H
 clear H
 go_enter Tryd.func63,Tryd.ntmps63
 go_wp2
 (try simp only [Act.put,List.setIfInBounds_toArray,List.set_cons_succ,List.set_cons_zero])
 go_loopg [8] k (fun kq v8 w'=>∃ (x8_1:Int),v8=.int .i64 x8_1∧Aside0 (slices_Index_string_string.l0 kq l0 a1 (l0.length:Int) x8_1=some r)∧Aside0 (kq≤k)∧Drawn0 w w')
 case atStart=>exact ⟨(0),rf_,H',⟨Nat.le_refl _⟩,by repeat (first|exact Drawn0.refl _|apply Drawn0.step)⟩
 case round=>
  clear H'
  try clear p2
  obtain ⟨x8_1,rfl,HA,HK1,⟨m1,rfl⟩⟩:=hrel
  cases gk with
  | zero=>exact absurd HA.out (by simp [slices_Index_string_string.l0])
  | succ k1=>
   have H:=HA.out
   clear HA
   simp only [slices_Index_string_string.l0] at H
   by_cases c3:x8_1 < (l0.length:Int)
   ·rw [if_pos c3] at H
    have c3b0:decide (x8_1 < (l0.length:Int))=true:=decide_eq_true c3
    clear c3
    by_cases c4:0≤x8_1
    ·rw [if_pos c4] at H
     have c4b0:decide (0≤x8_1)=true:=decide_eq_true c4
     clear c4
     by_cases c5:x8_1 < (l0.length:Int)
     ·rw [if_pos c5] at H
      have c5b0:decide (x8_1 < (l0.length:Int))=true:=decide_eq_true c5
      clear c5
      by_cases c6:a1.toList=(rdOf ByteArray.empty l0 x8_1).toList
      ·rw [if_pos c6] at H
       have c6b0:(a1.toList == (rdOf ByteArray.empty l0 x8_1).toList)=true:=beq_iff_eq.mpr c6
       have c6b1:(a1.toList != (rdOf ByteArray.empty l0 x8_1).toList)=false:=bne_eq_false_iff_eq.mpr c6
       clear c6
       obtain rfl:=Option.some.inj H
       have p129:0≤(x8_1:Int):=of_decide_eq_true as_
       have q129:x8_1 < (l0.length:Int):=of_decide_eq_true as_
       obtain ⟨ad129,e129,hx129_0⟩:=Kd.at_string HR0.out x8_1 p129 q129
       cases e129
       replace p129:=eq_true p129
       replace q129:=eq_true q129
       go_wp2
       go_ret
       exact ⟨by first|rfl|(simp;done)|(simp [*];done),by repeat (first|exact Drawn0.refl _|apply Drawn0.step)⟩
      ·rw [if_neg c6] at H
       have c6b0:(a1.toList == (rdOf ByteArray.empty l0 x8_1).toList)=false:=beq_eq_false_iff_ne.mpr c6
       have c6b1:(a1.toList != (rdOf ByteArray.empty l0 x8_1).toList)=true:=bne_iff_ne.mpr c6
       have H':=Aside0.mk H
       clear H
       have p129:0≤(x8_1:Int):=of_decide_eq_true as_
       have q129:x8_1 < (l0.length:Int):=of_decide_eq_true as_
       obtain ⟨ad129,e129,hx129_0⟩:=Kd.at_string HR0.out x8_1 p129 q129
       cases e129
       replace p129:=eq_true p129
       replace q129:=eq_true q129
       go_wp2
       go_roundg k1
       case measure=>have:=HK1.out;omega
       case rel=>exact ⟨(wrap64 (x8_1+1)),rf_,H',⟨by have:=HK1.out;omega⟩,by repeat (first|exact Drawn0.refl _|apply Drawn0.step)⟩
     ·rw [if_neg c5] at H
      exact absurd H (by simp)
    ·rw [if_neg c4] at H
     exact absurd H (by simp)
   ·rw [if_neg c3] at H
    have c3b0:decide (x8_1 < (l0.length:Int))=false:=decide_eq_false c3
    clear c3
    obtain rfl:=Option.some.inj H
    go_wp2
    go_ret
    exact ⟨by first|rfl|(simp;done)|(simp [*];done),by repeat (first|exact Drawn0.refl _|apply Drawn0.step)⟩
end Go.Proofs.YtnnbbeloifhofaaDoor.P
end
section
namespace Go.Proofs.YtnnbbeloifhofaaDoor.P
open Go.RowKit Go.Proofs.YtnnbbeloifhofaaDoorW.PrintWords Go.Proofs.YtnnbbeloifhofaaDoorW.PrintLast Go.Proofs.YtnnbbeloifhofaaDoorW.PrintMore
attribute [local go_sem] max2_int min2_int max_two min_two max_three min_three max_four min_four
set_option linter.unusedVariables false
set_option linter.unusedSimpArgs false
def slices_Contains_string_string.f (k:Nat) (l0:List ByteArray) (a1:ByteArray):Option (Bool):=(slices_Index_string_string.f k l0 a1).bind fun t130=>(some (decide (t130≥0)))
set_option maxHeartbeats 8000000 in
set_option maxRecDepth 100000 in
theorem slices_Contains_string_string.calls (k:Nat) (A0:Option Addr) (c0:Nat) (l0:List ByteArray) (a1:ByteArray) (r:Bool) (w:World) (hr0:Kd.C Kd.string w A0 l0.length l0) (hc0:l0.length≤c0) (h:slices_Contains_string_string.f k l0 a1=some r) :
    Calls Tryd.prog 54 #[.slice A0 l0.length c0,.string a1] w fun e w'=>e=.returned (.bool r)∧Drawn0 w w':=by
  have HR0:=Aside0.mk hr0
  have HC0:=Aside0.mk hc0
  clear hr0 hc0
  have H:((slices_Index_string_string.f k l0 a1).bind fun t130=>(some (decide (t130≥0))))=some r:=h
  clear h
  replace H:=Option.bind_eq_some_iff.mp H
  obtain ⟨t130,A30,H⟩:=H
  replace H:(some (decide (t130≥0)))=some r:=H
  have A3:=Aside0.mk A30
  clear A30
  obtain rfl:=Option.some.inj H
  go_enter Tryd.func54,Tryd.ntmps54
  go_wp2_with (first|((with_reducible refine gate_callee (f:=63) rfl ?_);refine goesL_ (some 7) rfl rfl Tryd.func63 (by kernel_rfl) rfl #[.slice A0 l0.length c0,.string a1] rfl (by (try simp only [List.map_toArray,List.map_cons,List.map_nil]);first|done|rfl|(simp only [List.length_drop,List.length_take];rfl)) ?_;(with_reducible refine (slices_Index_string_string.calls k _ _ l0 a1 t130 _ ?side1 ?side2 A3.out).mono ?_);(case side1=>repeat (first|exact HR0.out|(with_reducible refine Kd.C_alloc ?_ _)|(with_reducible refine Kd.C_drewN ?_ _)|(with_reducible refine Kd.C_drew ?_)));(case side2=>exact HC0.out);rintro e w' ⟨rfl,⟨nd,rfl⟩⟩;refine ⟨_,rfl,?_⟩))
  go_ret
  exact ⟨by first|rfl|(simp;done)|(simp [*];done),by repeat (first|exact Drawn0.refl _|apply Drawn0.step)⟩
end Go.Proofs.YtnnbbeloifhofaaDoor.P
end
section
namespace Go.Proofs.YtnnbbeloifhofaaDoor.P
open Go.RowKit Go.Proofs.YtnnbbeloifhofaaDoorW.PrintWords Go.Proofs.YtnnbbeloifhofaaDoorW.PrintLast Go.Proofs.YtnnbbeloifhofaaDoorW.PrintMore
attribute [local go_sem] max2_int min2_int max_two min_two max_three min_three max_four min_four
set_option linter.unusedVariables false
set_option linter.unusedSimpArgs false
mutual
def tree_Text.j0:Nat→ByteArray→Bool→ByteArray→ByteArray→Int→List (S33)→Int→Option (ByteArray)
 | 0,_,_,_,_,_,_,_=>none
 | k+1,x4,x24,x132000,x132001,x132002,x132003,x132004=>if x24=true then (some x132000) else (if x4.toList=([110,101,103]:List UInt8) then ((tree_closed.f k x132003 0).bind fun t134=>(if 1+t134.size≤9223372036854775807 then (some ((⟨#[45]⟩:ByteArray)++t134)) else (none))) else (if x4.toList=([110,111,116]:List UInt8) then ((tree_closed.f k x132003 0).bind fun t135=>(if 1+t135.size≤9223372036854775807 then (some ((⟨#[33]⟩:ByteArray)++t135)) else (none))) else ((tree_closed.f k x132003 0).bind fun t136=>(if t136.size+1≤9223372036854775807 then (if (t136++(⟨#[32]⟩:ByteArray)).size+x132000.size≤9223372036854775807 then (if ((t136++(⟨#[32]⟩:ByteArray))++x132000).size+1≤9223372036854775807 then ((tree_closed.f k x132003 1).bind fun t137=>(if (((t136++(⟨#[32]⟩:ByteArray))++x132000)++(⟨#[32]⟩:ByteArray)).size+t137.size≤9223372036854775807 then (some ((((t136++(⟨#[32]⟩:ByteArray))++x132000)++(⟨#[32]⟩:ByteArray))++t137)) else (none))) else (none)) else (none)) else (none)))))
def tree_Text.f:Nat→ByteArray→ByteArray→Int→List (S33)→Int→Option (ByteArray)
 | 0,_,_,_,_,_=>none
 | k+1,a0_0,a0_1,a0_2,l0_3,a0_4=>if a0_0.toList=([110,117,109]:List UInt8) then ((strconv_Itoa_31.f a0_2).bind fun t132=>(some t132)) else (if a0_0.toList=([110,97,109,101]:List UInt8) then (some a0_1) else (if a0_0.toList=([97,116]:List UInt8) then (if a0_1.size+1≤9223372036854775807 then ((tree_part.f k l0_3 0).bind fun t133=>(if (a0_1++(⟨#[91]⟩:ByteArray)).size+t133.size≤9223372036854775807 then (if ((a0_1++(⟨#[91]⟩:ByteArray))++t133).size+1≤9223372036854775807 then (some (((a0_1++(⟨#[91]⟩:ByteArray))++t133)++(⟨#[93]⟩:ByteArray))) else (none)) else (none))) else (none)) else (if a0_0.toList=([116,114,117,101]:List UInt8) then (tree_Text.j0 k a0_0 (a0_0.toList == ([116,114,117,101]:List UInt8)) a0_0 a0_1 a0_2 l0_3 a0_4) else (tree_Text.j0 k a0_0 (a0_0.toList == ([102,97,108,115,101]:List UInt8)) a0_0 a0_1 a0_2 l0_3 a0_4))))
def tree_part.f:Nat→List (S33)→Int→Option (ByteArray)
 | 0,_,_=>none
 | k+1,l0,a1=>if a1≥(l0.length:Int) then (some (⟨#[]⟩:ByteArray)) else (if 0≤a1 then (if a1 < (l0.length:Int) then ((tree_Text.f k ((rd_T33 l0 a1).f0) ((rd_T33 l0 a1).f1) ((rd_T33 l0 a1).f2) ((rd_T33 l0 a1).f3) ((rd_T33 l0 a1).f4)).bind fun t139=>(some t139)) else (none)) else (none))
def tree_closed.f:Nat→List (S33)→Int→Option (ByteArray)
 | 0,_,_=>none
 | k+1,l0,a1=>(tree_part.f k l0 a1).bind fun t140=>(if a1≥(l0.length:Int) then (some t140) else (if 0≤a1 then (if a1 < (l0.length:Int) then ((slices_Contains_string_string.f k (([(⟨#[110,117,109]⟩:ByteArray),(⟨#[110,97,109,101]⟩:ByteArray),(⟨#[97,116]⟩:ByteArray),(⟨#[116,114,117,101]⟩:ByteArray),(⟨#[102,97,108,115,101]⟩:ByteArray)]:List ByteArray)) ((rd_T33 l0 a1).f0)).bind fun t145=>(if t145=true then (some t140) else (if 1+t140.size≤9223372036854775807 then (if ((⟨#[40]⟩:ByteArray)++t140).size+1≤9223372036854775807 then (some (((⟨#[40]⟩:ByteArray)++t140)++(⟨#[41]⟩:ByteArray))) else (none)) else (none)))) else (none)) else (none)))
end
abbrev tree_Text.Stmt (k:Nat):Prop:=∀ (a0_0:ByteArray) (a0_1:ByteArray) (a0_2:Int) (A0_3:Option Addr) (c0_3:Nat) (l0_3:List (S33)) (a0_4:Int) (r:ByteArray) (w:World) (hT:TabT w) (hr0_3:Kd.C k33 w A0_3 l0_3.length l0_3) (hc0_3:l0_3.length≤c0_3) (h:tree_Text.f k a0_0 a0_1 a0_2 l0_3 a0_4=some r),
  Calls Tryd.prog 12 #[.agg #[.string a0_0,.string a0_1,.int .i64 a0_2,.slice A0_3 l0_3.length c0_3,.int .i64 a0_4]] w fun e w'=>e=.returned (.string r)∧Below w.heap.size w w'
abbrev tree_part.Stmt (k:Nat):Prop:=∀ (A0:Option Addr) (c0:Nat) (l0:List (S33)) (a1:Int) (r:ByteArray) (w:World) (hT:TabT w) (hr0:Kd.C k33 w A0 l0.length l0) (hc0:l0.length≤c0) (h:tree_part.f k l0 a1=some r),
  Calls Tryd.prog 32 #[.slice A0 l0.length c0,.int .i64 a1] w fun e w'=>e=.returned (.string r)∧Below w.heap.size w w'
abbrev tree_closed.Stmt (k:Nat):Prop:=∀ (A0:Option Addr) (c0:Nat) (l0:List (S33)) (a1:Int) (r:ByteArray) (w:World) (hT:TabT w) (hr0:Kd.C k33 w A0 l0.length l0) (hc0:l0.length≤c0) (h:tree_closed.f k l0 a1=some r),
  Calls Tryd.prog 33 #[.slice A0 l0.length c0,.int .i64 a1] w fun e w'=>e=.returned (.string r)∧Below w.heap.size w w'
end Go.Proofs.YtnnbbeloifhofaaDoor.P
end
section
namespace Go.Proofs.YtnnbbeloifhofaaDoor.P
open Go.RowKit Go.Proofs.YtnnbbeloifhofaaDoorW.PrintWords Go.Proofs.YtnnbbeloifhofaaDoorW.PrintLast Go.Proofs.YtnnbbeloifhofaaDoorW.PrintMore
attribute [local go_sem] max2_int min2_int max_two min_two max_three min_three max_four min_four
set_option linter.unusedVariables false
set_option linter.unusedSimpArgs false
def tree_Text.T7:Bool × List (List Nat × List Nat):=(true,[([],[]),([0],[0]),([1],[1]),([],[]),([3],[3]),([4],[4]),([2,5],[2,5]),([6],[6]),([7,5,0,1,2,3,4,5,6,7],[7])])
def tree_Text.B7:List Nat:=[0,1,3,0,8,24,63,127,255]
theorem tree_Text.tab7:rtab .any (opsOf Tryd.f12 7)=tree_Text.T7:=by kernel_rfl
theorem tree_Text.bits7:waitsOk tree_Text.T7.2 tree_Text.B7=true:=by kernel_rfl
def tree_Text.T15:Bool × List (List Nat × List Nat):=(true,[([],[]),([0],[0]),([1],[1]),([2],[2]),([],[]),([4],[4]),([3,5],[3,5]),([6],[6]),([],[]),([8],[8]),([9,2],[9]),([7,10],[7,10]),([11,10,0,1,2,3,4,5,6,7,8,9,10,11],[11])])
def tree_Text.B15:List Nat:=[0,1,3,7,0,16,63,127,0,256,775,2047,4095]
theorem tree_Text.tab15:rtab .any (opsOf Tryd.f12 15)=tree_Text.T15:=by kernel_rfl
theorem tree_Text.bits15:waitsOk tree_Text.T15.2 tree_Text.B15=true:=by kernel_rfl
set_option maxHeartbeats 8000000 in
set_option maxRecDepth 100000 in
theorem tree_Text.step (k:Nat) (ih12 : ∀ m_,m_ < k→tree_Text.Stmt m_) (ih32 : ∀ m_,m_ < k→tree_part.Stmt m_) (ih33 : ∀ m_,m_ < k→tree_closed.Stmt m_):tree_Text.Stmt k:=by
 intro a0_0 a0_1 a0_2 A0_3 c0_3 l0_3 a0_4 r w hT hr0_3 hc0_3 h
 cases k with
 | zero=>exact absurd h (by simp [tree_Text.f])
 | succ k=>
 simp only [tree_Text.f] at h
 have hu33:=Tryd.underlying33
 have HR0_3:=Aside0.mk hr0_3
 have HC0_3:=Aside0.mk hc0_3
 clear hr0_3 hc0_3
 have HB:=Aside0.mk (Below.refl w.heap.size w)
 have H:(if a0_0.toList=([110,117,109]:List UInt8) then ((strconv_Itoa_31.f a0_2).bind fun t132=>(some t132)) else (if a0_0.toList=([110,97,109,101]:List UInt8) then (some a0_1) else (if a0_0.toList=([97,116]:List UInt8) then (if a0_1.size+1≤9223372036854775807 then ((tree_part.f k l0_3 0).bind fun t133=>(if (a0_1++(⟨#[91]⟩:ByteArray)).size+t133.size≤9223372036854775807 then (if ((a0_1++(⟨#[91]⟩:ByteArray))++t133).size+1≤9223372036854775807 then (some (((a0_1++(⟨#[91]⟩:ByteArray))++t133)++(⟨#[93]⟩:ByteArray))) else (none)) else (none))) else (none)) else (if a0_0.toList=([116,114,117,101]:List UInt8) then (tree_Text.j0 k a0_0 (a0_0.toList == ([116,114,117,101]:List UInt8)) a0_0 a0_1 a0_2 l0_3 a0_4) else (tree_Text.j0 k a0_0 (a0_0.toList == ([102,97,108,115,101]:List UInt8)) a0_0 a0_1 a0_2 l0_3 a0_4)))))=some r:=h
 clear h
 by_cases c2:a0_0.toList=([110,117,109]:List UInt8)
 ·rw [if_pos c2] at H
  have c2b0:(a0_0.toList == ([110,117,109]:List UInt8))=true:=beq_iff_eq.mpr c2
  have c2b1:(a0_0.toList != ([110,117,109]:List UInt8))=false:=bne_eq_false_iff_eq.mpr c2
  clear c2
  replace H:=Option.bind_eq_some_iff.mp H
  obtain ⟨t132,A30,H⟩:=H
  replace H:(some t132)=some r:=H
  have A3:=Aside0.mk A30
  clear A30
  obtain rfl:=Option.some.inj H
  go_enter Tryd.func12,Tryd.ntmps12
  go_wp2_with (first|((with_reducible refine gate_dst (N:=1) rfl ?_);refine box_event ?hg (N:=1) ?hd (cs:=#[.string a0_0,.string a0_1,.int .i64 a0_2,.slice A0_3 l0_3.length c0_3,.int .i64 a0_4]) (t:=33) ?hr ?_;(case hd=>rfl);(case hg=>rfl);(case hr=>first|(go_simp;done)|(go_simp;rfl));intro gb131 hg w4 hbox hb;have n0_:=Aside0.mk (below_step (bl_ HB.out) hb);have n1_:=Aside0.mk (hbox);have n2_:=Aside0.mk ((gs_ hg (bl_ HB.out):w.heap.size≤gb131));have n3_:=Aside0.mk ((gs_ hg (bl_ HB.out):w.heap.size≤gb131));clear HB;have HB:=n0_;have BK131:=n1_;have GW131:=n2_;have GE131:=n3_;clear n0_ n1_ n2_ n3_;clear hb hbox hg;have hcz5_0:w4.cell? ⟨gb131,0,none⟩=some (.string a0_0):=zc_ BK131.out 0;have hcz5_1:w4.cell? ⟨gb131,1,none⟩=some (.string a0_1):=zc_ BK131.out 1;have hcz5_2:w4.cell? ⟨gb131,2,none⟩=some (.int .i64 a0_2):=zc_ BK131.out 2;have hcz5_3:w4.cell? ⟨gb131,3,none⟩=some (.slice A0_3 l0_3.length c0_3):=zc_ BK131.out 3;have hcz5_4:w4.cell? ⟨gb131,4,none⟩=some (.int .i64 a0_4):=zc_ BK131.out 4;have hfz5_0:=blk_frozen BK131.out 0;have hfz5_1:=blk_frozen BK131.out 1;have hfz5_2:=blk_frozen BK131.out 2;have hfz5_3:=blk_frozen BK131.out 3;have hfz5_4:=blk_frozen BK131.out 4)|((with_reducible refine gate_callee (f:=31) rfl ?_);refine goesL_ (some 9) rfl rfl Tryd.func31 (by kernel_rfl) rfl #[.int .i64 a0_2] rfl ar_ ?_;(with_reducible refine (strconv_Itoa_31.calls a0_2 t132 _ ?side1 A3.out).mono ?_);(case side1=>exact hT.later (bl_ HB.out));rintro e w6 ⟨rfl,hb⟩;refine ⟨_,rfl,?_⟩;have n0_:=Aside0.mk (bb_ BK131.out hb);have n1_:=Aside0.mk (below_step (bl_ HB.out) hb);clear BK131;clear HB;have BK131:=n0_;have HB:=n1_;clear n0_ n1_;(try clear hb);(try clear hb2);(try clear hk);(try clear hi)))
  go_ret
  exact ⟨rt_,bl_ HB.out⟩
 ·rw [if_neg c2] at H
  have c2b0:(a0_0.toList == ([110,117,109]:List UInt8))=false:=beq_eq_false_iff_ne.mpr c2
  have c2b1:(a0_0.toList != ([110,117,109]:List UInt8))=true:=bne_iff_ne.mpr c2
  by_cases c7:a0_0.toList=([110,97,109,101]:List UInt8)
  ·rw [if_pos c7] at H
   have c7b0:(a0_0.toList == ([110,97,109,101]:List UInt8))=true:=beq_iff_eq.mpr c7
   have c7b1:(a0_0.toList != ([110,97,109,101]:List UInt8))=false:=bne_eq_false_iff_eq.mpr c7
   clear c7
   obtain rfl:=Option.some.inj H
   go_enter Tryd.func12,Tryd.ntmps12
   go_wp2_with (first|((with_reducible refine gate_dst (N:=1) rfl ?_);refine box_event ?hg (N:=1) ?hd (cs:=#[.string a0_0,.string a0_1,.int .i64 a0_2,.slice A0_3 l0_3.length c0_3,.int .i64 a0_4]) (t:=33) ?hr ?_;(case hd=>rfl);(case hg=>rfl);(case hr=>first|(go_simp;done)|(go_simp;rfl));intro gb131 hg w8 hbox hb;have n0_:=Aside0.mk (below_step (bl_ HB.out) hb);have n1_:=Aside0.mk (hbox);have n2_:=Aside0.mk ((gs_ hg (bl_ HB.out):w.heap.size≤gb131));have n3_:=Aside0.mk ((gs_ hg (bl_ HB.out):w.heap.size≤gb131));clear HB;have HB:=n0_;have BK131:=n1_;have GW131:=n2_;have GE131:=n3_;clear n0_ n1_ n2_ n3_;clear hb hbox hg;have hcz9_0:w8.cell? ⟨gb131,0,none⟩=some (.string a0_0):=zc_ BK131.out 0;have hcz9_1:w8.cell? ⟨gb131,1,none⟩=some (.string a0_1):=zc_ BK131.out 1;have hcz9_2:w8.cell? ⟨gb131,2,none⟩=some (.int .i64 a0_2):=zc_ BK131.out 2;have hcz9_3:w8.cell? ⟨gb131,3,none⟩=some (.slice A0_3 l0_3.length c0_3):=zc_ BK131.out 3;have hcz9_4:w8.cell? ⟨gb131,4,none⟩=some (.int .i64 a0_4):=zc_ BK131.out 4;have hfz9_0:=blk_frozen BK131.out 0;have hfz9_1:=blk_frozen BK131.out 1;have hfz9_2:=blk_frozen BK131.out 2;have hfz9_3:=blk_frozen BK131.out 3;have hfz9_4:=blk_frozen BK131.out 4))
   go_ret
   exact ⟨rt_,bl_ HB.out⟩
  ·rw [if_neg c7] at H
   have c7b0:(a0_0.toList == ([110,97,109,101]:List UInt8))=false:=beq_eq_false_iff_ne.mpr c7
   have c7b1:(a0_0.toList != ([110,97,109,101]:List UInt8))=true:=bne_iff_ne.mpr c7
   by_cases c10:a0_0.toList=([97,116]:List UInt8)
   ·rw [if_pos c10] at H
    have c10b0:(a0_0.toList == ([97,116]:List UInt8))=true:=beq_iff_eq.mpr c10
    have c10b1:(a0_0.toList != ([97,116]:List UInt8))=false:=bne_eq_false_iff_eq.mpr c10
    clear c10
    by_cases c11:a0_1.size+1≤9223372036854775807
    ·rw [if_pos c11] at H
     have c11b0:=eq_true c11
     have c11b1:decide (a0_1.size+1≤9223372036854775807)=true:=decide_eq_true c11
     try have c11b2:(9223372036854775807 < a0_1.size+1)=False:=eq_false (Nat.not_lt.2 c11)
     replace H:=Option.bind_eq_some_iff.mp H
     obtain ⟨t133,A120,H⟩:=H
     replace H:(if (a0_1++(⟨#[91]⟩:ByteArray)).size+t133.size≤9223372036854775807 then (if ((a0_1++(⟨#[91]⟩:ByteArray))++t133).size+1≤9223372036854775807 then (some (((a0_1++(⟨#[91]⟩:ByteArray))++t133)++(⟨#[93]⟩:ByteArray))) else (none)) else (none))=some r:=H
     have A12:=Aside0.mk A120
     clear A120
     by_cases c13:(a0_1++(⟨#[91]⟩:ByteArray)).size+t133.size≤9223372036854775807
     ·rw [if_pos c13] at H
      have c13b0:=eq_true c13
      have c13b1:decide ((a0_1++(⟨#[91]⟩:ByteArray)).size+t133.size≤9223372036854775807)=true:=decide_eq_true c13
      try have c13b2:(9223372036854775807 < (a0_1++(⟨#[91]⟩:ByteArray)).size+t133.size)=False:=eq_false (Nat.not_lt.2 c13)
      try have c13b3:(9223372036854775807 < a0_1.size+1+t133.size)=False:=by have h_:=c13b2;simp only [ByteArray.size_append] at h_;exact h_
      try have c13b4:(a0_1.size+1+t133.size≤9223372036854775807)=True:=by have h_:=c13b0;simp only [ByteArray.size_append] at h_;exact h_
      by_cases c14:((a0_1++(⟨#[91]⟩:ByteArray))++t133).size+1≤9223372036854775807
      ·rw [if_pos c14] at H
       have c14b0:=eq_true c14
       have c14b1:decide (((a0_1++(⟨#[91]⟩:ByteArray))++t133).size+1≤9223372036854775807)=true:=decide_eq_true c14
       try have c14b2:(9223372036854775807 < ((a0_1++(⟨#[91]⟩:ByteArray))++t133).size+1)=False:=eq_false (Nat.not_lt.2 c14)
       try have c14b3:(9223372036854775807 < a0_1.size+1+t133.size+1)=False:=by have h_:=c14b2;simp only [ByteArray.size_append] at h_;exact h_
       try have c14b4:(a0_1.size+1+t133.size+1≤9223372036854775807)=True:=by have h_:=c14b0;simp only [ByteArray.size_append] at h_;exact h_
       obtain rfl:=Option.some.inj H
       go_enter Tryd.func12,Tryd.ntmps12
       try go_wp2_with (first|((with_reducible refine gate_dst (N:=1) rfl ?_);refine box_event ?hg (N:=1) ?hd (cs:=#[.string a0_0,.string a0_1,.int .i64 a0_2,.slice A0_3 l0_3.length c0_3,.int .i64 a0_4]) (t:=33) ?hr ?_;(case hd=>rfl);(case hg=>rfl);(case hr=>first|(go_simp;done)|(go_simp;rfl));intro gb131 hg w15 hbox hb;have n0_:=Aside0.mk (below_step (bl_ HB.out) hb);have n1_:=Aside0.mk (hbox);have n2_:=Aside0.mk ((gs_ hg (bl_ HB.out):w.heap.size≤gb131));have n3_:=Aside0.mk ((gs_ hg (bl_ HB.out):w.heap.size≤gb131));clear HB;have HB:=n0_;have BK131:=n1_;have GW131:=n2_;have GE131:=n3_;clear n0_ n1_ n2_ n3_;clear hb hbox hg;have hcz16_0:w15.cell? ⟨gb131,0,none⟩=some (.string a0_0):=zc_ BK131.out 0;have hcz16_1:w15.cell? ⟨gb131,1,none⟩=some (.string a0_1):=zc_ BK131.out 1;have hcz16_2:w15.cell? ⟨gb131,2,none⟩=some (.int .i64 a0_2):=zc_ BK131.out 2;have hcz16_3:w15.cell? ⟨gb131,3,none⟩=some (.slice A0_3 l0_3.length c0_3):=zc_ BK131.out 3;have hcz16_4:w15.cell? ⟨gb131,4,none⟩=some (.int .i64 a0_4):=zc_ BK131.out 4;have hfz16_0:=blk_frozen BK131.out 0;have hfz16_1:=blk_frozen BK131.out 1;have hfz16_2:=blk_frozen BK131.out 2;have hfz16_3:=blk_frozen BK131.out 3;have hfz16_4:=blk_frozen BK131.out 4))
       have n0_:=Aside0.mk (blk_drew BK131.out)
       have n1_:=Aside0.mk (below_drew1 HB.out)
       clear BK131
       clear HB
       have BK131:=n0_
       have HB:=n1_
       clear n0_ n1_
       refine start_ (n:=9) (S:=fun w'=>w'.cell? ⟨gb131,0,none⟩=some (.string a0_0)∧w'.cell? ⟨gb131,1,none⟩=some (.string a0_1)∧w'.cell? ⟨gb131,2,none⟩=some (.int .i64 a0_2)∧w'.cell? ⟨gb131,3,none⟩=some (.slice A0_3 l0_3.length c0_3)∧w'.cell? ⟨gb131,4,none⟩=some (.int .i64 a0_4)) (ds:=[]) (flg 9 0) (by kernel_rfl) rfl (by kernel_rfl) ⟨zc_ BK131.out 0,zc_ BK131.out 1,zc_ BK131.out 2,zc_ BK131.out 3,zc_ BK131.out 4⟩ (fun hHeld=>?_);refine with_tabW tree_Text.tab7 tree_Text.bits7 (fun HT_ HW_=>?_)
       generalize w15.drew=w17 at BK131 HB hHeld ⊢
       refine pur_ 0 16 (flg 9 1) rfl rfl (any_of HT_.out (by kernel_rfl)) (fun _ _ _ h=>h) ?_
       refine pur_ 3 19 (flg 9 9) rfl rfl (any_of HT_.out (by kernel_rfl)) (fun _ _ _ h=>h) ?_
       refine tak_ 1 17 (flg 9 11) rfl rfl (take_ofW HT_.out HW_.out (by kernel_rfl)) (fun _ _ _ h=>h) hHeld ?_
       refine pur_ 2 18 (flg 9 15) rfl rfl (any_of HT_.out (by kernel_rfl)) (fun _ _ _ h=>h) ?_
       refine tak_ 4 20 (flg 9 31) rfl rfl (take_ofW HT_.out HW_.out (by kernel_rfl)) (fun _ _ _ h=>h) hHeld ?_
       refine one_ (i:=5) (N:=some 21) (flg 9 63) rfl rfl (one_of HT_.out (by kernel_rfl)) (by decide) (fun K hK=>?_)
       refine goes_ Tryd.func32 (by kernel_rfl) rfl #[.slice A0_3 l0_3.length c0_3,.int .i64 0] (by rfl) rfl rfl ar_ ?_
       with_reducible refine (ih32 k (by omega) _ _ l0_3 0 t133 _ ?side1 ?side2 ?side3 A12.out).mono ?_
       (case side1=>exact hT.later (bl_ HB.out))
       (case side2=>exact kc_ HR0_3.out HB.out)
       (case side3=>exact HC0_3.out)
       rintro e w18 ⟨rfl,hb⟩
       refine ⟨_,rfl,?_⟩
       have n0_:=Aside0.mk (bb_ BK131.out hb)
       have n1_:=Aside0.mk (below_step (bl_ HB.out) hb)
       clear BK131
       clear HB
       have BK131:=n0_
       have HB:=n1_
       clear n0_ n1_
       (try clear hb)
       (try clear hb2)
       (try clear hk)
       (try clear hi)
       refine hK.out _ _ ⟨zc_ BK131.out 0,zc_ BK131.out 1,zc_ BK131.out 2,zc_ BK131.out 3,zc_ BK131.out 4⟩ (fun hHeld=>?_)
       clear hK K
       refine norm_ (a':=?_) ?_ ?_
       rotate_left
       ·show Act.put _ (some 21) _=_
        simp only [Act.put,List.setIfInBounds_toArray,List.set_cons_zero,List.set_cons_succ,i64_w,i32_w]
        rfl
       refine pur_ 6 22 (flg 9 127) rfl rfl (any_of HT_.out (by kernel_rfl)) (fun _ _ _ h=>h) ?_
       refine pur_ 7 23 (flg 9 255) rfl rfl (any_of HT_.out (by kernel_rfl)) (fun _ _ _ h=>h) ?_
       refine pur_ 8 2 (flg 9 511) rfl rfl (any_of HT_.out (by kernel_rfl)) (fun _ _ _ h=>h) ?_
       refine done_ (done_of HT_.out (by kernel_rfl)) ?_
       try go_wp2
       go_ret
       exact ⟨rt_,bl_ HB.out⟩
      ·rw [if_neg c14] at H
       exact absurd H (by simp)
     ·rw [if_neg c13] at H
      exact absurd H (by simp)
    ·rw [if_neg c11] at H
     exact absurd H (by simp)
   ·rw [if_neg c10] at H
    have c10b0:(a0_0.toList == ([97,116]:List UInt8))=false:=beq_eq_false_iff_ne.mpr c10
    have c10b1:(a0_0.toList != ([97,116]:List UInt8))=true:=bne_iff_ne.mpr c10
    have HC19:=Aside0.mk H
    clear H
    go_enter Tryd.func12,Tryd.ntmps12
    go_upto_if 24 with (first|((with_reducible refine gate_dst (N:=1) rfl ?_);refine box_event ?hg (N:=1) ?hd (cs:=#[.string a0_0,.string a0_1,.int .i64 a0_2,.slice A0_3 l0_3.length c0_3,.int .i64 a0_4]) (t:=33) ?hr ?_;(case hd=>rfl);(case hg=>rfl);(case hr=>first|(go_simp;done)|(go_simp;rfl));intro gb131 hg w20 hbox hb;have n0_:=Aside0.mk (below_step (bl_ HB.out) hb);have n1_:=Aside0.mk (hbox);have n2_:=Aside0.mk ((gs_ hg (bl_ HB.out):w.heap.size≤gb131));have n3_:=Aside0.mk ((gs_ hg (bl_ HB.out):w.heap.size≤gb131));clear HB;have HB:=n0_;have BK131:=n1_;have GW131:=n2_;have GE131:=n3_;clear n0_ n1_ n2_ n3_;clear hb hbox hg;have hcz21_0:w20.cell? ⟨gb131,0,none⟩=some (.string a0_0):=zc_ BK131.out 0;have hcz21_1:w20.cell? ⟨gb131,1,none⟩=some (.string a0_1):=zc_ BK131.out 1;have hcz21_2:w20.cell? ⟨gb131,2,none⟩=some (.int .i64 a0_2):=zc_ BK131.out 2;have hcz21_3:w20.cell? ⟨gb131,3,none⟩=some (.slice A0_3 l0_3.length c0_3):=zc_ BK131.out 3;have hcz21_4:w20.cell? ⟨gb131,4,none⟩=some (.int .i64 a0_4):=zc_ BK131.out 4;have hfz21_0:=blk_frozen BK131.out 0;have hfz21_1:=blk_frozen BK131.out 1;have hfz21_2:=blk_frozen BK131.out 2;have hfz21_3:=blk_frozen BK131.out 3;have hfz21_4:=blk_frozen BK131.out 4))
    (try simp only [Act.put,List.setIfInBounds_toArray,List.set_cons_zero,List.set_cons_succ])
    go_cut [24] (fun v24 wc=>∃ (kq:Nat) (x24_18:Bool),v24=.bool x24_18∧Aside0 (tree_Text.j0 kq a0_0 x24_18 a0_0 a0_1 a0_2 l0_3 a0_4=some r)∧Aside0 (kq≤k)∧Aside0 (wc.heap[gb131]?=some (.cells #[.string a0_0,.string a0_1,.int .i64 a0_2,(.slice A0_3 l0_3.length c0_3),.int .i64 a0_4] 33 (0,0)))∧Aside0 (Below w.heap.size w wc))
    case first=>
     have H:=HC19.out
     clear HC19
     by_cases c22:a0_0.toList=([116,114,117,101]:List UInt8)
     ·rw [if_pos c22] at H
      have c22b0:(a0_0.toList == ([116,114,117,101]:List UInt8))=true:=beq_iff_eq.mpr c22
      have c22b1:(a0_0.toList != ([116,114,117,101]:List UInt8))=false:=bne_eq_false_iff_eq.mpr c22
      clear c22
      (first|rw [c22b0]|(simp only [i64_w,i32_w];rw [c22b0])|skip)
      have H':=Aside0.mk H
      clear H
      go_wp2
      go_meet
      case rel=>exact ⟨_,((a0_0.toList == ([116,114,117,101]:List UInt8))),rf_,H',⟨by first|omega|exact Nat.le_refl _⟩,⟨kb_ BK131.out⟩,⟨bl_ HB.out⟩⟩
     ·rw [if_neg c22] at H
      have c22b0:(a0_0.toList == ([116,114,117,101]:List UInt8))=false:=beq_eq_false_iff_ne.mpr c22
      have c22b1:(a0_0.toList != ([116,114,117,101]:List UInt8))=true:=bne_iff_ne.mpr c22
      (first|rw [c22b0]|(simp only [i64_w,i32_w];rw [c22b0])|skip)
      have H':=Aside0.mk H
      clear H
      go_wp2
      go_meet
      case rel=>exact ⟨_,((a0_0.toList == ([102,97,108,115,101]:List UInt8))),rf_,H',⟨by first|omega|exact Nat.le_refl _⟩,⟨kb_ BK131.out⟩,⟨bl_ HB.out⟩⟩
    case rest=>
     clear HC19
     (try clear c1);(try clear c2);(try clear c2b0);(try clear c2b1);(try clear p2);(try clear c3);(try clear c7);(try clear c7b0);(try clear c7b1);(try clear c10);(try clear c10b0);(try clear c10b1);(try clear c11);(try clear c11b0);(try clear c11b1);(try clear c11b2);(try clear c12);(try clear c13);(try clear c13b0);(try clear c13b1);(try clear c13b2);(try clear c14);(try clear c14b0);(try clear c14b1);(try clear c14b2);(try clear c22);(try clear c22b0);(try clear c22b1);(try clear hcz16_0);(try clear hcz16_1);(try clear hcz16_2);(try clear hcz16_3);(try clear hcz16_4);(try clear hcz21_0);(try clear hcz21_1);(try clear hcz21_2);(try clear hcz21_3);(try clear hcz21_4);(try clear hcz5_0);(try clear hcz5_1);(try clear hcz5_2);(try clear hcz5_3);(try clear hcz5_4);(try clear hcz9_0);(try clear hcz9_1);(try clear hcz9_2);(try clear hcz9_3);(try clear hcz9_4);(try clear hfz16_0);(try clear hfz16_1);(try clear hfz16_2);(try clear hfz16_3);(try clear hfz16_4);(try clear hfz21_0);(try clear hfz21_1);(try clear hfz21_2);(try clear hfz21_3);(try clear hfz21_4);(try clear hfz5_0);(try clear hfz5_1);(try clear hfz5_2);(try clear hfz5_3);(try clear hfz5_4);(try clear hfz9_0);(try clear hfz9_1);(try clear hfz9_2);(try clear hfz9_3);(try clear hfz9_4)
     obtain ⟨kq,x24_18,rfl,HA,HJ18,BK131,HB⟩:=hcut
     cases kq with
     | zero=>exact absurd HA.out (by simp [tree_Text.j0])
     | succ kj18=>
      have H:=HA.out
      clear HA
      simp only [tree_Text.j0] at H
      by_cases c23:x24_18=true
      ·subst c23
       have H1:(some a0_0)=some r:=by rw [if_pos rfl] at H;exact H
       clear H
       have H:=H1
       clear H1
       obtain rfl:=Option.some.inj H
       have hcz24_0:wc.cell? ⟨gb131,0,none⟩=some (.string a0_0):=zc_ BK131.out 0
       have hcz24_1:wc.cell? ⟨gb131,1,none⟩=some (.string a0_1):=zc_ BK131.out 1
       have hcz24_2:wc.cell? ⟨gb131,2,none⟩=some (.int .i64 a0_2):=zc_ BK131.out 2
       have hcz24_3:wc.cell? ⟨gb131,3,none⟩=some (.slice A0_3 l0_3.length c0_3):=zc_ BK131.out 3
       have hcz24_4:wc.cell? ⟨gb131,4,none⟩=some (.int .i64 a0_4):=zc_ BK131.out 4
       have hfz24_0:=blk_frozen BK131.out 0
       have hfz24_1:=blk_frozen BK131.out 1
       have hfz24_2:=blk_frozen BK131.out 2
       have hfz24_3:=blk_frozen BK131.out 3
       have hfz24_4:=blk_frozen BK131.out 4
       go_wp2
       go_ret
       exact ⟨rt_,bl_ HB.out⟩
      ·replace c23:=Bool.eq_false_iff.mpr c23
       subst c23
       have H1:(if a0_0.toList=([110,101,103]:List UInt8) then ((tree_closed.f kj18 l0_3 0).bind fun t134=>(if 1+t134.size≤9223372036854775807 then (some ((⟨#[45]⟩:ByteArray)++t134)) else (none))) else (if a0_0.toList=([110,111,116]:List UInt8) then ((tree_closed.f kj18 l0_3 0).bind fun t135=>(if 1+t135.size≤9223372036854775807 then (some ((⟨#[33]⟩:ByteArray)++t135)) else (none))) else ((tree_closed.f kj18 l0_3 0).bind fun t136=>(if t136.size+1≤9223372036854775807 then (if (t136++(⟨#[32]⟩:ByteArray)).size+a0_0.size≤9223372036854775807 then (if ((t136++(⟨#[32]⟩:ByteArray))++a0_0).size+1≤9223372036854775807 then ((tree_closed.f kj18 l0_3 1).bind fun t137=>(if (((t136++(⟨#[32]⟩:ByteArray))++a0_0)++(⟨#[32]⟩:ByteArray)).size+t137.size≤9223372036854775807 then (some ((((t136++(⟨#[32]⟩:ByteArray))++a0_0)++(⟨#[32]⟩:ByteArray))++t137)) else (none))) else (none)) else (none)) else (none)))))=some r:=by rw [if_neg (show ¬ (false=true) by decide)] at H;exact H
       clear H
       have H:=H1
       clear H1
       by_cases c25:a0_0.toList=([110,101,103]:List UInt8)
       ·rw [if_pos c25] at H
        have c25b0:(a0_0.toList == ([110,101,103]:List UInt8))=true:=beq_iff_eq.mpr c25
        have c25b1:(a0_0.toList != ([110,101,103]:List UInt8))=false:=bne_eq_false_iff_eq.mpr c25
        clear c25
        replace H:=Option.bind_eq_some_iff.mp H
        obtain ⟨t134,A260,H⟩:=H
        replace H:(if 1+t134.size≤9223372036854775807 then (some ((⟨#[45]⟩:ByteArray)++t134)) else (none))=some r:=H
        have A26:=Aside0.mk A260
        clear A260
        by_cases c27:1+t134.size≤9223372036854775807
        ·rw [if_pos c27] at H
         have c27b0:=eq_true c27
         have c27b1:decide (1+t134.size≤9223372036854775807)=true:=decide_eq_true c27
         try have c27b2:(9223372036854775807 < 1+t134.size)=False:=eq_false (Nat.not_lt.2 c27)
         obtain rfl:=Option.some.inj H
         have hcz28_0:wc.cell? ⟨gb131,0,none⟩=some (.string a0_0):=zc_ BK131.out 0
         have hcz28_1:wc.cell? ⟨gb131,1,none⟩=some (.string a0_1):=zc_ BK131.out 1
         have hcz28_2:wc.cell? ⟨gb131,2,none⟩=some (.int .i64 a0_2):=zc_ BK131.out 2
         have hcz28_3:wc.cell? ⟨gb131,3,none⟩=some (.slice A0_3 l0_3.length c0_3):=zc_ BK131.out 3
         have hcz28_4:wc.cell? ⟨gb131,4,none⟩=some (.int .i64 a0_4):=zc_ BK131.out 4
         have hfz28_0:=blk_frozen BK131.out 0
         have hfz28_1:=blk_frozen BK131.out 1
         have hfz28_2:=blk_frozen BK131.out 2
         have hfz28_3:=blk_frozen BK131.out 3
         have hfz28_4:=blk_frozen BK131.out 4
         go_wp2_with (first|((with_reducible refine gate_callee (f:=33) rfl ?_);refine goesL_ (some 33) rfl rfl Tryd.func33 (by kernel_rfl) rfl #[.slice A0_3 l0_3.length c0_3,.int .i64 0] rfl ar_ ?_;(with_reducible refine (ih33 kj18 (by have:=HJ18.out;omega) _ _ l0_3 0 t134 _ ?side1 ?side2 ?side3 A26.out).mono ?_);(case side1=>exact hT.later (bl_ HB.out));(case side2=>exact kc_ HR0_3.out HB.out);(case side3=>exact HC0_3.out);rintro e w29 ⟨rfl,hb⟩;refine ⟨_,rfl,?_⟩;have n0_:=Aside0.mk (bb_ BK131.out hb);have n1_:=Aside0.mk (below_step (bl_ HB.out) hb);clear BK131;clear HB;have BK131:=n0_;have HB:=n1_;clear n0_ n1_;(try clear hb);(try clear hb2);(try clear hk);(try clear hi)))
         go_ret
         exact ⟨rt_,bl_ HB.out⟩
        ·rw [if_neg c27] at H
         exact absurd H (by simp)
       ·rw [if_neg c25] at H
        have c25b0:(a0_0.toList == ([110,101,103]:List UInt8))=false:=beq_eq_false_iff_ne.mpr c25
        have c25b1:(a0_0.toList != ([110,101,103]:List UInt8))=true:=bne_iff_ne.mpr c25
        by_cases c30:a0_0.toList=([110,111,116]:List UInt8)
        ·rw [if_pos c30] at H
         have c30b0:(a0_0.toList == ([110,111,116]:List UInt8))=true:=beq_iff_eq.mpr c30
         have c30b1:(a0_0.toList != ([110,111,116]:List UInt8))=false:=bne_eq_false_iff_eq.mpr c30
         clear c30
         replace H:=Option.bind_eq_some_iff.mp H
         obtain ⟨t135,A310,H⟩:=H
         replace H:(if 1+t135.size≤9223372036854775807 then (some ((⟨#[33]⟩:ByteArray)++t135)) else (none))=some r:=H
         have A31:=Aside0.mk A310
         clear A310
         by_cases c32:1+t135.size≤9223372036854775807
         ·rw [if_pos c32] at H
          have c32b0:=eq_true c32
          have c32b1:decide (1+t135.size≤9223372036854775807)=true:=decide_eq_true c32
          try have c32b2:(9223372036854775807 < 1+t135.size)=False:=eq_false (Nat.not_lt.2 c32)
          obtain rfl:=Option.some.inj H
          have hcz33_0:wc.cell? ⟨gb131,0,none⟩=some (.string a0_0):=zc_ BK131.out 0
          have hcz33_1:wc.cell? ⟨gb131,1,none⟩=some (.string a0_1):=zc_ BK131.out 1
          have hcz33_2:wc.cell? ⟨gb131,2,none⟩=some (.int .i64 a0_2):=zc_ BK131.out 2
          have hcz33_3:wc.cell? ⟨gb131,3,none⟩=some (.slice A0_3 l0_3.length c0_3):=zc_ BK131.out 3
          have hcz33_4:wc.cell? ⟨gb131,4,none⟩=some (.int .i64 a0_4):=zc_ BK131.out 4
          have hfz33_0:=blk_frozen BK131.out 0
          have hfz33_1:=blk_frozen BK131.out 1
          have hfz33_2:=blk_frozen BK131.out 2
          have hfz33_3:=blk_frozen BK131.out 3
          have hfz33_4:=blk_frozen BK131.out 4
          go_wp2_with (first|((with_reducible refine gate_callee (f:=33) rfl ?_);refine goesL_ (some 39) rfl rfl Tryd.func33 (by kernel_rfl) rfl #[.slice A0_3 l0_3.length c0_3,.int .i64 0] rfl ar_ ?_;(with_reducible refine (ih33 kj18 (by have:=HJ18.out;omega) _ _ l0_3 0 t135 _ ?side1 ?side2 ?side3 A31.out).mono ?_);(case side1=>exact hT.later (bl_ HB.out));(case side2=>exact kc_ HR0_3.out HB.out);(case side3=>exact HC0_3.out);rintro e w34 ⟨rfl,hb⟩;refine ⟨_,rfl,?_⟩;have n0_:=Aside0.mk (bb_ BK131.out hb);have n1_:=Aside0.mk (below_step (bl_ HB.out) hb);clear BK131;clear HB;have BK131:=n0_;have HB:=n1_;clear n0_ n1_;(try clear hb);(try clear hb2);(try clear hk);(try clear hi)))
          go_ret
          exact ⟨rt_,bl_ HB.out⟩
         ·rw [if_neg c32] at H
          exact absurd H (by simp)
        ·rw [if_neg c30] at H
         have c30b0:(a0_0.toList == ([110,111,116]:List UInt8))=false:=beq_eq_false_iff_ne.mpr c30
         have c30b1:(a0_0.toList != ([110,111,116]:List UInt8))=true:=bne_iff_ne.mpr c30
         replace H:=Option.bind_eq_some_iff.mp H
         obtain ⟨t136,A350,H⟩:=H
         replace H:(if t136.size+1≤9223372036854775807 then (if (t136++(⟨#[32]⟩:ByteArray)).size+a0_0.size≤9223372036854775807 then (if ((t136++(⟨#[32]⟩:ByteArray))++a0_0).size+1≤9223372036854775807 then ((tree_closed.f kj18 l0_3 1).bind fun t137=>(if (((t136++(⟨#[32]⟩:ByteArray))++a0_0)++(⟨#[32]⟩:ByteArray)).size+t137.size≤9223372036854775807 then (some ((((t136++(⟨#[32]⟩:ByteArray))++a0_0)++(⟨#[32]⟩:ByteArray))++t137)) else (none))) else (none)) else (none)) else (none))=some r:=H
         have A35:=Aside0.mk A350
         clear A350
         by_cases c36:t136.size+1≤9223372036854775807
         ·rw [if_pos c36] at H
          have c36b0:=eq_true c36
          have c36b1:decide (t136.size+1≤9223372036854775807)=true:=decide_eq_true c36
          try have c36b2:(9223372036854775807 < t136.size+1)=False:=eq_false (Nat.not_lt.2 c36)
          by_cases c37:(t136++(⟨#[32]⟩:ByteArray)).size+a0_0.size≤9223372036854775807
          ·rw [if_pos c37] at H
           have c37b0:=eq_true c37
           have c37b1:decide ((t136++(⟨#[32]⟩:ByteArray)).size+a0_0.size≤9223372036854775807)=true:=decide_eq_true c37
           try have c37b2:(9223372036854775807 < (t136++(⟨#[32]⟩:ByteArray)).size+a0_0.size)=False:=eq_false (Nat.not_lt.2 c37)
           try have c37b3:(9223372036854775807 < t136.size+1+a0_0.size)=False:=by have h_:=c37b2;simp only [ByteArray.size_append] at h_;exact h_
           try have c37b4:(t136.size+1+a0_0.size≤9223372036854775807)=True:=by have h_:=c37b0;simp only [ByteArray.size_append] at h_;exact h_
           by_cases c38:((t136++(⟨#[32]⟩:ByteArray))++a0_0).size+1≤9223372036854775807
           ·rw [if_pos c38] at H
            have c38b0:=eq_true c38
            have c38b1:decide (((t136++(⟨#[32]⟩:ByteArray))++a0_0).size+1≤9223372036854775807)=true:=decide_eq_true c38
            try have c38b2:(9223372036854775807 < ((t136++(⟨#[32]⟩:ByteArray))++a0_0).size+1)=False:=eq_false (Nat.not_lt.2 c38)
            try have c38b3:(9223372036854775807 < t136.size+1+a0_0.size+1)=False:=by have h_:=c38b2;simp only [ByteArray.size_append] at h_;exact h_
            try have c38b4:(t136.size+1+a0_0.size+1≤9223372036854775807)=True:=by have h_:=c38b0;simp only [ByteArray.size_append] at h_;exact h_
            replace H:=Option.bind_eq_some_iff.mp H
            obtain ⟨t137,A390,H⟩:=H
            replace H:(if (((t136++(⟨#[32]⟩:ByteArray))++a0_0)++(⟨#[32]⟩:ByteArray)).size+t137.size≤9223372036854775807 then (some ((((t136++(⟨#[32]⟩:ByteArray))++a0_0)++(⟨#[32]⟩:ByteArray))++t137)) else (none))=some r:=H
            have A39:=Aside0.mk A390
            clear A390
            by_cases c40:(((t136++(⟨#[32]⟩:ByteArray))++a0_0)++(⟨#[32]⟩:ByteArray)).size+t137.size≤9223372036854775807
            ·rw [if_pos c40] at H
             have c40b0:=eq_true c40
             have c40b1:decide ((((t136++(⟨#[32]⟩:ByteArray))++a0_0)++(⟨#[32]⟩:ByteArray)).size+t137.size≤9223372036854775807)=true:=decide_eq_true c40
             try have c40b2:(9223372036854775807 < (((t136++(⟨#[32]⟩:ByteArray))++a0_0)++(⟨#[32]⟩:ByteArray)).size+t137.size)=False:=eq_false (Nat.not_lt.2 c40)
             try have c40b3:(9223372036854775807 < t136.size+1+a0_0.size+1+t137.size)=False:=by have h_:=c40b2;simp only [ByteArray.size_append] at h_;exact h_
             try have c40b4:(t136.size+1+a0_0.size+1+t137.size≤9223372036854775807)=True:=by have h_:=c40b0;simp only [ByteArray.size_append] at h_;exact h_
             obtain rfl:=Option.some.inj H
             try go_wp2
             have n0_:=Aside0.mk (blk_drew BK131.out)
             have n1_:=Aside0.mk (below_drew1 HB.out)
             clear BK131
             clear HB
             have BK131:=n0_
             have HB:=n1_
             clear n0_ n1_
             refine start_ (n:=13) (S:=fun w'=>w'.cell? ⟨gb131,0,none⟩=some (.string a0_0)∧w'.cell? ⟨gb131,1,none⟩=some (.string a0_1)∧w'.cell? ⟨gb131,2,none⟩=some (.int .i64 a0_2)∧w'.cell? ⟨gb131,3,none⟩=some (.slice A0_3 l0_3.length c0_3)∧w'.cell? ⟨gb131,4,none⟩=some (.int .i64 a0_4)) (ds:=[]) (flg 13 0) (by kernel_rfl) rfl (by kernel_rfl) ⟨zc_ BK131.out 0,zc_ BK131.out 1,zc_ BK131.out 2,zc_ BK131.out 3,zc_ BK131.out 4⟩ (fun hHeld=>?_);refine with_tabW tree_Text.tab15 tree_Text.bits15 (fun HT_ HW_=>?_)
             generalize wc.drew=w41 at BK131 HB hHeld ⊢
             refine pur_ 0 41 (flg 13 1) rfl rfl (any_of HT_.out (by kernel_rfl)) (fun _ _ _ h=>h) ?_
             refine pur_ 4 45 (flg 13 17) rfl rfl (any_of HT_.out (by kernel_rfl)) (fun _ _ _ h=>h) ?_
             refine pur_ 8 49 (flg 13 273) rfl rfl (any_of HT_.out (by kernel_rfl)) (fun _ _ _ h=>h) ?_
             refine tak_ 1 42 (flg 13 275) rfl rfl (take_ofW HT_.out HW_.out (by kernel_rfl)) (fun _ _ _ h=>h) hHeld ?_
             refine tak_ 5 46 (flg 13 307) rfl rfl (take_ofW HT_.out HW_.out (by kernel_rfl)) (fun _ _ _ h=>h) hHeld ?_
             refine tak_ 9 50 (flg 13 819) rfl rfl (take_ofW HT_.out HW_.out (by kernel_rfl)) (fun _ _ _ h=>h) hHeld ?_
             refine one_ (i:=2) (N:=some 43) (flg 13 823) rfl rfl (one_of HT_.out (by kernel_rfl)) (by decide) (fun K hK=>?_)
             refine goes_ Tryd.func33 (by kernel_rfl) rfl #[.slice A0_3 l0_3.length c0_3,.int .i64 0] (by rfl) rfl rfl ar_ ?_
             with_reducible refine (ih33 kj18 (by have:=HJ18.out;omega) _ _ l0_3 0 t136 _ ?side1 ?side2 ?side3 A35.out).mono ?_
             (case side1=>exact hT.later (bl_ HB.out))
             (case side2=>exact kc_ HR0_3.out HB.out)
             (case side3=>exact HC0_3.out)
             rintro e w42 ⟨rfl,hb⟩
             refine ⟨_,rfl,?_⟩
             have n0_:=Aside0.mk (bb_ BK131.out hb)
             have n1_:=Aside0.mk (below_step (bl_ HB.out) hb)
             clear BK131
             clear HB
             have BK131:=n0_
             have HB:=n1_
             clear n0_ n1_
             (try clear hb)
             (try clear hb2)
             (try clear hk)
             (try clear hi)
             refine hK.out _ _ ⟨zc_ BK131.out 0,zc_ BK131.out 1,zc_ BK131.out 2,zc_ BK131.out 3,zc_ BK131.out 4⟩ (fun hHeld=>?_)
             clear hK K
             refine norm_ (a':=?_) ?_ ?_
             rotate_left
             ·show Act.put _ (some 43) _=_
              simp only [Act.put,List.setIfInBounds_toArray,List.set_cons_zero,List.set_cons_succ,i64_w,i32_w]
              rfl
             refine pur_ 3 44 (flg 13 831) rfl rfl (any_of HT_.out (by kernel_rfl)) (fun _ _ _ h=>h) ?_
             refine pur_ 6 47 (flg 13 895) rfl rfl (any_of HT_.out (by kernel_rfl)) (fun _ _ _ h=>h) ?_
             refine pur_ 7 48 (flg 13 1023) rfl rfl (any_of HT_.out (by kernel_rfl)) (fun _ _ _ h=>h) ?_
             refine one_ (i:=10) (N:=some 51) (flg 13 2047) rfl rfl (one_of HT_.out (by kernel_rfl)) (by decide) (fun K hK=>?_)
             refine goes_ Tryd.func33 (by kernel_rfl) rfl #[.slice A0_3 l0_3.length c0_3,.int .i64 1] (by rfl) rfl rfl ar_ ?_
             with_reducible refine (ih33 kj18 (by have:=HJ18.out;omega) _ _ l0_3 1 t137 _ ?side1 ?side2 ?side3 A39.out).mono ?_
             (case side1=>exact hT.later (bl_ HB.out))
             (case side2=>exact kc_ HR0_3.out HB.out)
             (case side3=>exact HC0_3.out)
             rintro e w43 ⟨rfl,hb⟩
             refine ⟨_,rfl,?_⟩
             have n0_:=Aside0.mk (bb_ BK131.out hb)
             have n1_:=Aside0.mk (below_step (bl_ HB.out) hb)
             clear BK131
             clear HB
             have BK131:=n0_
             have HB:=n1_
             clear n0_ n1_
             (try clear hb)
             (try clear hb2)
             (try clear hk)
             (try clear hi)
             refine hK.out _ _ ⟨zc_ BK131.out 0,zc_ BK131.out 1,zc_ BK131.out 2,zc_ BK131.out 3,zc_ BK131.out 4⟩ (fun hHeld=>?_)
             clear hK K
             refine norm_ (a':=?_) ?_ ?_
             rotate_left
             ·show Act.put _ (some 51) _=_
              simp only [Act.put,List.setIfInBounds_toArray,List.set_cons_zero,List.set_cons_succ,i64_w,i32_w]
              rfl
             refine pur_ 11 52 (flg 13 4095) rfl rfl (any_of HT_.out (by kernel_rfl)) (fun _ _ _ h=>h) ?_
             refine pur_ 12 2 (flg 13 8191) rfl rfl (any_of HT_.out (by kernel_rfl)) (fun _ _ _ h=>h) ?_
             refine done_ (done_of HT_.out (by kernel_rfl)) ?_
             try go_wp2
             go_ret
             exact ⟨rt_,bl_ HB.out⟩
            ·rw [if_neg c40] at H
             exact absurd H (by simp)
           ·rw [if_neg c38] at H
            exact absurd H (by simp)
          ·rw [if_neg c37] at H
           exact absurd H (by simp)
         ·rw [if_neg c36] at H
          exact absurd H (by simp)
end Go.Proofs.YtnnbbeloifhofaaDoor.P
end
section
namespace Go.Proofs.YtnnbbeloifhofaaDoor.P
open Go.RowKit Go.Proofs.YtnnbbeloifhofaaDoorW.PrintWords Go.Proofs.YtnnbbeloifhofaaDoorW.PrintLast Go.Proofs.YtnnbbeloifhofaaDoorW.PrintMore
attribute [local go_sem] max2_int min2_int max_two min_two max_three min_three max_four min_four
set_option linter.unusedVariables false
set_option linter.unusedSimpArgs false
set_option maxHeartbeats 8000000 in
set_option maxRecDepth 100000 in
theorem tree_part.step (k:Nat) (ih12 : ∀ m_,m_ < k→tree_Text.Stmt m_) (ih32 : ∀ m_,m_ < k→tree_part.Stmt m_) (ih33 : ∀ m_,m_ < k→tree_closed.Stmt m_):tree_part.Stmt k:=by
 intro A0 c0 l0 a1 r w hT hr0 hc0 h
 cases k with
 | zero=>exact absurd h (by simp [tree_part.f])
 | succ k=>
 simp only [tree_part.f] at h
 have hu33:=Tryd.underlying33
 have HR0:=Aside0.mk hr0
 have HC0:=Aside0.mk hc0
 clear hr0 hc0
 have HB:=Aside0.mk (Below.refl w.heap.size w)
 have H:(if a1≥(l0.length:Int) then (some (⟨#[]⟩:ByteArray)) else (if 0≤a1 then (if a1 < (l0.length:Int) then ((tree_Text.f k ((rd_T33 l0 a1).f0) ((rd_T33 l0 a1).f1) ((rd_T33 l0 a1).f2) ((rd_T33 l0 a1).f3) ((rd_T33 l0 a1).f4)).bind fun t139=>(some t139)) else (none)) else (none)))=some r:=h
 clear h
 by_cases c3:a1≥(l0.length:Int)
 ·rw [if_pos c3] at H
  have c3b0:decide ((l0.length:Int)≤a1)=true:=decide_eq_true c3
  clear c3
  obtain rfl:=Option.some.inj H
  go_enter Tryd.func32,Tryd.ntmps32
  go_wp2
  go_ret
  exact ⟨rt_,bl_ HB.out⟩
 ·rw [if_neg c3] at H
  have c3b0:decide ((l0.length:Int)≤a1)=false:=decide_eq_false c3
  clear c3
  by_cases c4:0≤a1
  ·rw [if_pos c4] at H
   have c4b0:decide (0≤a1)=true:=decide_eq_true c4
   clear c4
   by_cases c5:a1 < (l0.length:Int)
   ·rw [if_pos c5] at H
    have c5b0:decide (a1 < (l0.length:Int))=true:=decide_eq_true c5
    clear c5
    replace H:=Option.bind_eq_some_iff.mp H
    obtain ⟨t139,A60,H⟩:=H
    replace H:(some t139)=some r:=H
    have A6:=Aside0.mk A60
    clear A60
    obtain rfl:=Option.some.inj H
    have p138:0≤(a1:Int):=of_decide_eq_true as_
    have q138:a1 < (l0.length:Int):=of_decide_eq_true as_
    obtain ⟨ad138,A138_3,c138_3,e138,hx138_0,hx138_1,hx138_2,hx138_3,hx138_4,hl138_3,hi138_3⟩:=at_T33 HR0.out a1 p138 q138
    cases e138
    have HR138_3:=Aside0.mk hi138_3
    have HC138_3:=Aside0.mk hl138_3
    clear hi138_3 hl138_3
    replace p138:=eq_true p138
    replace q138:=eq_true q138
    go_enter Tryd.func32,Tryd.ntmps32
    go_wp2_with (first|((with_reducible refine gate_callee (f:=12) rfl ?_);refine goesL_ (some 13) rfl rfl Tryd.func12 (by kernel_rfl) rfl #[.agg #[.string ((rd_T33 l0 a1).f0),.string ((rd_T33 l0 a1).f1),.int .i64 ((rd_T33 l0 a1).f2),.slice A138_3 ((rd_T33 l0 a1).f3).length c138_3,.int .i64 ((rd_T33 l0 a1).f4)]] rfl ar_ ?_;(with_reducible refine (ih12 k (by omega) ((rd_T33 l0 a1).f0) ((rd_T33 l0 a1).f1) ((rd_T33 l0 a1).f2) _ _ ((rd_T33 l0 a1).f3) ((rd_T33 l0 a1).f4) t139 _ ?side1 ?side2 ?side3 A6.out).mono ?_);(case side1=>exact hT.later (bl_ HB.out));(case side2=>repeat (first|exact HR138_3.out|(with_reducible refine Kd.C_alloc ?_ _)|(with_reducible refine Kd.C_drewN ?_ _)|(with_reducible refine Kd.C_drew ?_)));(case side3=>exact HC138_3.out);rintro e w7 ⟨rfl,hb⟩;refine ⟨_,rfl,?_⟩;have n0_:=Aside0.mk (below_step (bl_ HB.out) hb);clear HB;have HB:=n0_;clear n0_;(try clear hb);(try clear hb2);(try clear hk);(try clear hi)))
    go_ret
    exact ⟨rt_,bl_ HB.out⟩
   ·rw [if_neg c5] at H
    exact absurd H (by simp)
  ·rw [if_neg c4] at H
   exact absurd H (by simp)
end Go.Proofs.YtnnbbeloifhofaaDoor.P
end
section
namespace Go.Proofs.YtnnbbeloifhofaaDoor.P
open Go.RowKit Go.Proofs.YtnnbbeloifhofaaDoorW.PrintWords Go.Proofs.YtnnbbeloifhofaaDoorW.PrintLast Go.Proofs.YtnnbbeloifhofaaDoorW.PrintMore
attribute [local go_sem] max2_int min2_int max_two min_two max_three min_three max_four min_four
set_option linter.unusedVariables false
set_option linter.unusedSimpArgs false
set_option maxHeartbeats 8000000 in
set_option maxRecDepth 100000 in
theorem tree_closed.step (k:Nat) (ih12 : ∀ m_,m_ < k→tree_Text.Stmt m_) (ih32 : ∀ m_,m_ < k→tree_part.Stmt m_) (ih33 : ∀ m_,m_ < k→tree_closed.Stmt m_):tree_closed.Stmt k:=by
 intro A0 c0 l0 a1 r w hT hr0 hc0 h
 cases k with
 | zero=>exact absurd h (by simp [tree_closed.f])
 | succ k=>
 simp only [tree_closed.f] at h
 have HR0:=Aside0.mk hr0
 have HC0:=Aside0.mk hc0
 clear hr0 hc0
 have HB:=Aside0.mk (Below.refl w.heap.size w)
 have H:((tree_part.f k l0 a1).bind fun t140=>(if a1≥(l0.length:Int) then (some t140) else (if 0≤a1 then (if a1 < (l0.length:Int) then ((slices_Contains_string_string.f k (([(⟨#[110,117,109]⟩:ByteArray),(⟨#[110,97,109,101]⟩:ByteArray),(⟨#[97,116]⟩:ByteArray),(⟨#[116,114,117,101]⟩:ByteArray),(⟨#[102,97,108,115,101]⟩:ByteArray)]:List ByteArray)) ((rd_T33 l0 a1).f0)).bind fun t145=>(if t145=true then (some t140) else (if 1+t140.size≤9223372036854775807 then (if ((⟨#[40]⟩:ByteArray)++t140).size+1≤9223372036854775807 then (some (((⟨#[40]⟩:ByteArray)++t140)++(⟨#[41]⟩:ByteArray))) else (none)) else (none)))) else (none)) else (none))))=some r:=h
 clear h
 replace H:=Option.bind_eq_some_iff.mp H
 obtain ⟨t140,A30,H⟩:=H
 replace H:(if a1≥(l0.length:Int) then (some t140) else (if 0≤a1 then (if a1 < (l0.length:Int) then ((slices_Contains_string_string.f k (([(⟨#[110,117,109]⟩:ByteArray),(⟨#[110,97,109,101]⟩:ByteArray),(⟨#[97,116]⟩:ByteArray),(⟨#[116,114,117,101]⟩:ByteArray),(⟨#[102,97,108,115,101]⟩:ByteArray)]:List ByteArray)) ((rd_T33 l0 a1).f0)).bind fun t145=>(if t145=true then (some t140) else (if 1+t140.size≤9223372036854775807 then (if ((⟨#[40]⟩:ByteArray)++t140).size+1≤9223372036854775807 then (some (((⟨#[40]⟩:ByteArray)++t140)++(⟨#[41]⟩:ByteArray))) else (none)) else (none)))) else (none)) else (none)))=some r:=H
 have A3:=Aside0.mk A30
 clear A30
 by_cases c4:a1≥(l0.length:Int)
 ·rw [if_pos c4] at H
  have c4b0:decide ((l0.length:Int)≤a1)=true:=decide_eq_true c4
  clear c4
  obtain rfl:=Option.some.inj H
  go_enter Tryd.func33,Tryd.ntmps33
  go_wp2_with (first|((with_reducible refine gate_callee (f:=32) rfl ?_);refine goesL_ (some 8) rfl rfl Tryd.func32 (by kernel_rfl) rfl #[.slice A0 l0.length c0,.int .i64 a1] rfl ar_ ?_;(with_reducible refine (ih32 k (by omega) _ _ l0 a1 t140 _ ?side1 ?side2 ?side3 A3.out).mono ?_);(case side1=>exact hT.later (bl_ HB.out));(case side2=>repeat (first|exact HR0.out|(with_reducible refine Kd.C_alloc ?_ _)|(with_reducible refine Kd.C_drewN ?_ _)|(with_reducible refine Kd.C_drew ?_)));(case side3=>exact HC0.out);rintro e w5 ⟨rfl,hb⟩;refine ⟨_,rfl,?_⟩;have n0_:=Aside0.mk (below_step (bl_ HB.out) hb);clear HB;have HB:=n0_;clear n0_;(try clear hb);(try clear hb2);(try clear hk);(try clear hi)))
  go_ret
  exact ⟨rt_,bl_ HB.out⟩
 ·rw [if_neg c4] at H
  have c4b0:decide ((l0.length:Int)≤a1)=false:=decide_eq_false c4
  clear c4
  obtain ⟨y141,hy141⟩ : ∃ y_:List ByteArray,y_=(([(⟨#[110,117,109]⟩:ByteArray),(⟨#[110,97,109,101]⟩:ByteArray),(⟨#[97,116]⟩:ByteArray),(⟨#[116,114,117,101]⟩:ByteArray),(⟨#[102,97,108,115,101]⟩:ByteArray)]:List ByteArray)):=⟨_,rfl⟩
  replace H:(if 0≤a1 then (if a1 < (l0.length:Int) then ((slices_Contains_string_string.f k y141 ((rd_T33 l0 a1).f0)).bind fun t145=>(if t145=true then (some t140) else (if 1+t140.size≤9223372036854775807 then (if ((⟨#[40]⟩:ByteArray)++t140).size+1≤9223372036854775807 then (some (((⟨#[40]⟩:ByteArray)++t140)++(⟨#[41]⟩:ByteArray))) else (none)) else (none)))) else (none)) else (none))=some r:=by first|(rw [hy141];with_reducible exact H)|(have H2_:=(Option.bind_some _ _).symm.trans H;rw [hy141];with_reducible exact H2_)|(have H2_:=(Option.bind_some _ _).symm.trans H;with_reducible exact H2_)|with_reducible exact H|(rw [hy141];exact H)|exact H
  have Ny141:=Aside0.mk hy141
  clear hy141
  by_cases c6:0≤a1
  ·rw [if_pos c6] at H
   have c6b0:decide (0≤a1)=true:=decide_eq_true c6
   clear c6
   by_cases c7:a1 < (l0.length:Int)
   ·rw [if_pos c7] at H
    have c7b0:decide (a1 < (l0.length:Int))=true:=decide_eq_true c7
    clear c7
    replace H:=Option.bind_eq_some_iff.mp H
    obtain ⟨t145,A80,H⟩:=H
    replace H:(if t145=true then (some t140) else (if 1+t140.size≤9223372036854775807 then (if ((⟨#[40]⟩:ByteArray)++t140).size+1≤9223372036854775807 then (some (((⟨#[40]⟩:ByteArray)++t140)++(⟨#[41]⟩:ByteArray))) else (none)) else (none)))=some r:=H
    have A8:=Aside0.mk A80
    clear A80
    by_cases c9:t145=true
    ·subst c9
     have H1:(some t140)=some r:=by rw [if_pos rfl] at H;exact H
     clear H
     have H:=H1
     clear H1
     obtain rfl:=Option.some.inj H
     go_enter Tryd.func33,Tryd.ntmps33
     go_wp2_with (first|((with_reducible refine gate_callee (f:=32) rfl ?_);refine goesL_ (some 8) rfl rfl Tryd.func32 (by kernel_rfl) rfl #[.slice A0 l0.length c0,.int .i64 a1] rfl ar_ ?_;(with_reducible refine (ih32 k (by omega) _ _ l0 a1 t140 _ ?side1 ?side2 ?side3 A3.out).mono ?_);(case side1=>exact hT.later (bl_ HB.out));(case side2=>repeat (first|exact HR0.out|(with_reducible refine Kd.C_alloc ?_ _)|(with_reducible refine Kd.C_drewN ?_ _)|(with_reducible refine Kd.C_drew ?_)));(case side3=>exact HC0.out);rintro e w10 ⟨rfl,hb⟩;refine ⟨_,rfl,?_⟩;have n0_:=Aside0.mk (below_step (bl_ HB.out) hb);clear HB;have HB:=n0_;clear n0_;(try clear hb);(try clear hb2);(try clear hk);(try clear hi))|((with_reducible refine gate_dst (N:=14) rfl ?_);(try (refine gate_guard (by rfl) ?_;dsimp only));refine Kd.R_lit Kd.string _ 9 ?hg (N:=14) ?hd (xs:=([(⟨#[110,117,109]⟩:ByteArray),(⟨#[110,97,109,101]⟩:ByteArray),(⟨#[97,116]⟩:ByteArray),(⟨#[116,114,117,101]⟩:ByteArray),(⟨#[102,97,108,115,101]⟩:ByteArray)]:List ByteArray)) (inner:=[.string (⟨#[110,117,109]⟩:ByteArray),.string (⟨#[110,97,109,101]⟩:ByteArray),.string (⟨#[97,116]⟩:ByteArray),.string (⟨#[116,114,117,101]⟩:ByteArray),.string (⟨#[102,97,108,115,101]⟩:ByteArray)]) (ok:=fun _=>True) (okp:=fun _=>True) ?hr ?hp (fun _ hk=>hk) trivial (Below.refl _ _) (Nat.le_refl _) (by simp) ?_;(case hd=>rfl);(case hg=>rfl);(case hr=>first|(go_simp;done)|(go_simp;rfl));(case hp=>exact (Reps.one (show Kd.M Kd.string _ _ _ (⟨#[110,117,109]⟩:ByteArray) [.string (⟨#[110,117,109]⟩:ByteArray)] from rfl) (Reps.one (show Kd.M Kd.string _ _ _ (⟨#[110,97,109,101]⟩:ByteArray) [.string (⟨#[110,97,109,101]⟩:ByteArray)] from rfl) (Reps.one (show Kd.M Kd.string _ _ _ (⟨#[97,116]⟩:ByteArray) [.string (⟨#[97,116]⟩:ByteArray)] from rfl) (Reps.one (show Kd.M Kd.string _ _ _ (⟨#[116,114,117,101]⟩:ByteArray) [.string (⟨#[116,114,117,101]⟩:ByteArray)] from rfl) (Reps.one (show Kd.M Kd.string _ _ _ (⟨#[102,97,108,115,101]⟩:ByteArray) [.string (⟨#[102,97,108,115,101]⟩:ByteArray)] from rfl) (Reps.none _ _)))))));intro v142 w11 ho12 hb hg_ hnew_;clear hg_ hnew_;(first|rw [← Ny141.out] at ho12|(simp only [Int.reduceToNat] at ho12;rw [← Ny141.out] at ho12));have n0_:=Aside0.mk (Kd.R_lower ho12 (below_size (bl_ HB.out)));have n1_:=Aside0.mk (below_step (bl_ HB.out) hb);clear HB;have HO143:=n0_;have HB:=n1_;clear n0_ n1_;clear hb ho12;have p144:0≤(a1:Int):=of_decide_eq_true as_;have q144:a1 < (l0.length:Int):=of_decide_eq_true as_;obtain ⟨ad144,A144_3,c144_3,e144,hx144_0,hx144_1,hx144_2,hx144_3,hx144_4,hl144_3,hi144_3⟩:=at_T33 HR0.out a1 p144 q144;cases e144;replace hx144_0:=(cb_ HB.out hx144_0:_);replace hx144_1:=(cb_ HB.out hx144_1:_);replace hx144_2:=(cb_ HB.out hx144_2:_);replace hx144_3:=(cb_ HB.out hx144_3:_);replace hx144_4:=(cb_ HB.out hx144_4:_);have HR144_3:=Aside0.mk hi144_3;have HC144_3:=Aside0.mk hl144_3;clear hi144_3 hl144_3;replace p144:=eq_true p144;replace q144:=eq_true q144;obtain ⟨Ao13,co13,eo13⟩:=Kd.R_slice HO143.out;subst eo13)|(go_at_call 54;(with_reducible refine (slices_Contains_string_string.calls k _ _ y141 ((rd_T33 l0 a1).f0) true _ ?side1 ?side2 A8.out).mono ?_);(case side1=>repeat (first|exact (Kd.R_reads' HO143.out).2.2|(with_reducible refine Kd.C_alloc ?_ _)|(with_reducible refine Kd.C_drewN ?_ _)|(with_reducible refine Kd.C_drew ?_)));(case side2=>exact (Kd.R_reads' HO143.out).2.1);rintro e w' ⟨rfl,⟨nd,rfl⟩⟩))
     go_ret
     exact ⟨rt_,bl_ HB.out⟩
    ·replace c9:=Bool.eq_false_iff.mpr c9
     subst c9
     have H1:(if 1+t140.size≤9223372036854775807 then (if ((⟨#[40]⟩:ByteArray)++t140).size+1≤9223372036854775807 then (some (((⟨#[40]⟩:ByteArray)++t140)++(⟨#[41]⟩:ByteArray))) else (none)) else (none))=some r:=by rw [if_neg (show ¬ (false=true) by decide)] at H;exact H
     clear H
     have H:=H1
     clear H1
     by_cases c14:1+t140.size≤9223372036854775807
     ·rw [if_pos c14] at H
      have c14b0:=eq_true c14
      have c14b1:decide (1+t140.size≤9223372036854775807)=true:=decide_eq_true c14
      try have c14b2:(9223372036854775807 < 1+t140.size)=False:=eq_false (Nat.not_lt.2 c14)
      by_cases c15:((⟨#[40]⟩:ByteArray)++t140).size+1≤9223372036854775807
      ·rw [if_pos c15] at H
       have c15b0:=eq_true c15
       have c15b1:decide (((⟨#[40]⟩:ByteArray)++t140).size+1≤9223372036854775807)=true:=decide_eq_true c15
       try have c15b2:(9223372036854775807 < ((⟨#[40]⟩:ByteArray)++t140).size+1)=False:=eq_false (Nat.not_lt.2 c15)
       try have c15b3:(9223372036854775807 < 1+t140.size+1)=False:=by have h_:=c15b2;simp only [ByteArray.size_append] at h_;exact h_
       try have c15b4:(1+t140.size+1≤9223372036854775807)=True:=by have h_:=c15b0;simp only [ByteArray.size_append] at h_;exact h_
       obtain rfl:=Option.some.inj H
       go_enter Tryd.func33,Tryd.ntmps33
       go_wp2_with (first|((with_reducible refine gate_callee (f:=32) rfl ?_);refine goesL_ (some 8) rfl rfl Tryd.func32 (by kernel_rfl) rfl #[.slice A0 l0.length c0,.int .i64 a1] rfl ar_ ?_;(with_reducible refine (ih32 k (by omega) _ _ l0 a1 t140 _ ?side1 ?side2 ?side3 A3.out).mono ?_);(case side1=>exact hT.later (bl_ HB.out));(case side2=>repeat (first|exact HR0.out|(with_reducible refine Kd.C_alloc ?_ _)|(with_reducible refine Kd.C_drewN ?_ _)|(with_reducible refine Kd.C_drew ?_)));(case side3=>exact HC0.out);rintro e w16 ⟨rfl,hb⟩;refine ⟨_,rfl,?_⟩;have n0_:=Aside0.mk (below_step (bl_ HB.out) hb);clear HB;have HB:=n0_;clear n0_;(try clear hb);(try clear hb2);(try clear hk);(try clear hi))|((with_reducible refine gate_dst (N:=14) rfl ?_);(try (refine gate_guard (by rfl) ?_;dsimp only));refine Kd.R_lit Kd.string _ 9 ?hg (N:=14) ?hd (xs:=([(⟨#[110,117,109]⟩:ByteArray),(⟨#[110,97,109,101]⟩:ByteArray),(⟨#[97,116]⟩:ByteArray),(⟨#[116,114,117,101]⟩:ByteArray),(⟨#[102,97,108,115,101]⟩:ByteArray)]:List ByteArray)) (inner:=[.string (⟨#[110,117,109]⟩:ByteArray),.string (⟨#[110,97,109,101]⟩:ByteArray),.string (⟨#[97,116]⟩:ByteArray),.string (⟨#[116,114,117,101]⟩:ByteArray),.string (⟨#[102,97,108,115,101]⟩:ByteArray)]) (ok:=fun _=>True) (okp:=fun _=>True) ?hr ?hp (fun _ hk=>hk) trivial (Below.refl _ _) (Nat.le_refl _) (by simp) ?_;(case hd=>rfl);(case hg=>rfl);(case hr=>first|(go_simp;done)|(go_simp;rfl));(case hp=>exact (Reps.one (show Kd.M Kd.string _ _ _ (⟨#[110,117,109]⟩:ByteArray) [.string (⟨#[110,117,109]⟩:ByteArray)] from rfl) (Reps.one (show Kd.M Kd.string _ _ _ (⟨#[110,97,109,101]⟩:ByteArray) [.string (⟨#[110,97,109,101]⟩:ByteArray)] from rfl) (Reps.one (show Kd.M Kd.string _ _ _ (⟨#[97,116]⟩:ByteArray) [.string (⟨#[97,116]⟩:ByteArray)] from rfl) (Reps.one (show Kd.M Kd.string _ _ _ (⟨#[116,114,117,101]⟩:ByteArray) [.string (⟨#[116,114,117,101]⟩:ByteArray)] from rfl) (Reps.one (show Kd.M Kd.string _ _ _ (⟨#[102,97,108,115,101]⟩:ByteArray) [.string (⟨#[102,97,108,115,101]⟩:ByteArray)] from rfl) (Reps.none _ _)))))));intro v142 w17 ho18 hb hg_ hnew_;clear hg_ hnew_;(first|rw [← Ny141.out] at ho18|(simp only [Int.reduceToNat] at ho18;rw [← Ny141.out] at ho18));have n0_:=Aside0.mk (Kd.R_lower ho18 (below_size (bl_ HB.out)));have n1_:=Aside0.mk (below_step (bl_ HB.out) hb);clear HB;have HO143:=n0_;have HB:=n1_;clear n0_ n1_;clear hb ho18;have p144:0≤(a1:Int):=of_decide_eq_true as_;have q144:a1 < (l0.length:Int):=of_decide_eq_true as_;obtain ⟨ad144,A144_3,c144_3,e144,hx144_0,hx144_1,hx144_2,hx144_3,hx144_4,hl144_3,hi144_3⟩:=at_T33 HR0.out a1 p144 q144;cases e144;replace hx144_0:=(cb_ HB.out hx144_0:_);replace hx144_1:=(cb_ HB.out hx144_1:_);replace hx144_2:=(cb_ HB.out hx144_2:_);replace hx144_3:=(cb_ HB.out hx144_3:_);replace hx144_4:=(cb_ HB.out hx144_4:_);have HR144_3:=Aside0.mk hi144_3;have HC144_3:=Aside0.mk hl144_3;clear hi144_3 hl144_3;replace p144:=eq_true p144;replace q144:=eq_true q144;obtain ⟨Ao19,co19,eo19⟩:=Kd.R_slice HO143.out;subst eo19)|(go_at_call 54;(with_reducible refine (slices_Contains_string_string.calls k _ _ y141 ((rd_T33 l0 a1).f0) false _ ?side1 ?side2 A8.out).mono ?_);(case side1=>repeat (first|exact (Kd.R_reads' HO143.out).2.2|(with_reducible refine Kd.C_alloc ?_ _)|(with_reducible refine Kd.C_drewN ?_ _)|(with_reducible refine Kd.C_drew ?_)));(case side2=>exact (Kd.R_reads' HO143.out).2.1);rintro e w' ⟨rfl,⟨nd,rfl⟩⟩))
       go_ret
       exact ⟨rt_,bl_ HB.out⟩
      ·rw [if_neg c15] at H
       exact absurd H (by simp)
     ·rw [if_neg c14] at H
      exact absurd H (by simp)
   ·rw [if_neg c7] at H
    exact absurd H (by simp)
  ·rw [if_neg c6] at H
   exact absurd H (by simp)
end Go.Proofs.YtnnbbeloifhofaaDoor.P
end
section
namespace Go.Proofs.YtnnbbeloifhofaaDoor.P
open Go.RowKit Go.Proofs.YtnnbbeloifhofaaDoorW.PrintWords Go.Proofs.YtnnbbeloifhofaaDoorW.PrintLast Go.Proofs.YtnnbbeloifhofaaDoorW.PrintMore
attribute [local go_sem] max2_int min2_int max_two min_two max_three min_three max_four min_four
set_option linter.unusedVariables false
set_option linter.unusedSimpArgs false
theorem tree_Text_ring.all (k:Nat):tree_Text.Stmt k∧tree_part.Stmt k∧tree_closed.Stmt k:=by
  induction k using Nat.strongRecOn with
  | _ k ih=>
  exact ⟨tree_Text.step k (fun m_ h_=>(ih m_ h_).1) (fun m_ h_=>(ih m_ h_).2.1) (fun m_ h_=>(ih m_ h_).2.2),tree_part.step k (fun m_ h_=>(ih m_ h_).1) (fun m_ h_=>(ih m_ h_).2.1) (fun m_ h_=>(ih m_ h_).2.2),tree_closed.step k (fun m_ h_=>(ih m_ h_).1) (fun m_ h_=>(ih m_ h_).2.1) (fun m_ h_=>(ih m_ h_).2.2)⟩
theorem tree_Text.calls (k:Nat):tree_Text.Stmt k:=(tree_Text_ring.all k).1
theorem tree_part.calls (k:Nat):tree_part.Stmt k:=(tree_Text_ring.all k).2.1
end Go.Proofs.YtnnbbeloifhofaaDoor.P
end
section
namespace Go.Proofs.YtnnbbeloifhofaaDoor.P
open Go Go.RowKit Go.Proofs
open Go.Proofs.YtnnbbeloifhofaaDoorW.PrintWords Go.Proofs.YtnnbbeloifhofaaDoorW.PrintLast Go.Proofs.YtnnbbeloifhofaaDoorW.PrintMore
def okI (n:Int):Prop:=-9223372036854775808≤n∧n≤9223372036854775807
mutual
def okE:RE→Prop
  | ⟨_,_,n,l,_⟩=>okI n∧okEs l
def okEs:List RE→Prop
  | []=>True
  | x :: xs=>okE x∧okEs xs
end
theorem okE_eq (x:RE):okE x=(okI x.f2∧okEs x.f3):=by cases x;rfl
theorem okEs_mem {x:RE} : ∀ {l:List RE},okEs l→x ∈ l→okE x
  | [],_,h=>by cases h
  | y :: ys,h,hx=>by
    rcases List.mem_cons.1 hx with e|hx
    · exact e ▸ h.1
    · exact okEs_mem h.2 hx
abbrev opNum:List UInt8:=[110,117,109]
abbrev opName:List UInt8:=[110,97,109,101]
abbrev opAt:List UInt8:=[97,116]
abbrev opTrue:List UInt8:=[116,114,117,101]
abbrev opFalse:List UInt8:=[102,97,108,115,101]
abbrev opNeg:List UInt8:=[110,101,103]
abbrev opNot:List UInt8:=[110,111,116]
def simpB (op:ByteArray):Bool:=op.toList == opNum || (op.toList == opName || (op.toList == opAt || (op.toList == opTrue || op.toList == opFalse)))
def cloB (op t:ByteArray):ByteArray:=if simpB op=true then t else ((⟨#[40]⟩:ByteArray)++t)++(⟨#[41]⟩:ByteArray)
def nth (l:List ByteArray) (i:Nat):ByteArray:=l.getD i ⟨#[]⟩
def textF (op name:ByteArray) (n:Int) (ts cs:List ByteArray):ByteArray:=
  if op.toList=opNum then itoaB n
  else if op.toList=opName then name
  else if op.toList=opAt then ((name++(⟨#[91]⟩:ByteArray))++nth ts 0)++(⟨#[93]⟩:ByteArray)
  else if op.toList=opTrue then op
  else if op.toList=opFalse then op
  else if op.toList=opNeg then (⟨#[45]⟩:ByteArray)++nth cs 0
  else if op.toList=opNot then (⟨#[33]⟩:ByteArray)++nth cs 0
  else (((nth cs 0++(⟨#[32]⟩:ByteArray))++op)++(⟨#[32]⟩:ByteArray))++nth cs 1
mutual
def textE:RE→ByteArray
  | ⟨op,name,n,l,_⟩=>textF op name n (textEs l) (cloEs l)
def textEs:List RE→List ByteArray
  | []=>[]
  | x :: xs=>textE x :: textEs xs
def cloE:RE→ByteArray
  | ⟨op,name,n,l,_⟩=>cloB op (textF op name n (textEs l) (cloEs l))
def cloEs:List RE→List ByteArray
  | []=>[]
  | x :: xs=>cloE x :: cloEs xs
end
theorem textE_eq (x:RE):textE x=textF x.f0 x.f1 x.f2 (textEs x.f3) (cloEs x.f3):=by cases x;rw [textE]
theorem cloE_eq (x:RE):cloE x=cloB x.f0 (textE x):=by cases x;rw [cloE,textE]
theorem textEs_map (l:List RE):textEs l=l.map textE:=by
  induction l with
  | nil=>rfl
  | cons x xs ih=>rw [textEs,ih];rfl
theorem cloEs_map (l:List RE):cloEs l=l.map cloE:=by
  induction l with
  | nil=>rfl
  | cons x xs ih=>rw [cloEs,ih];rfl
theorem size_lit (l:List UInt8):(⟨l.toArray⟩:ByteArray).size=l.length:=by simp [ByteArray.size]
theorem itoaB_size {n:Int} (h:okI n):(itoaB n).size≤21:=by unfold itoaB;rw [strOf_size];exact Lib.itoa_length_le n h.1 h.2
theorem nth_zero_le {l:List RE} {f:RE→ByteArray} {c:Nat} (h : ∀ x ∈ l,(f x).size≤c * bulkE x):(nth (l.map f) 0).size≤c * bulkEs l:=by
  cases l with
  | nil=>exact Nat.zero_le _
  | cons x xs=>rw [bulkEs,Nat.mul_add];exact Nat.le_trans (h x (List.mem_cons_self ..)) (Nat.le_add_right _ _)
theorem nth_two_le {l:List RE} {f:RE→ByteArray} {c:Nat} (h : ∀ x ∈ l,(f x).size≤c * bulkE x):(nth (l.map f) 0).size+(nth (l.map f) 1).size≤c * bulkEs l:=by
  match l,h with
  | [],_=>exact Nat.zero_le _
  | [x],h=>
    rw [bulkEs,Nat.mul_add];have:=h x (List.mem_cons_self ..)
    exact (show (f x).size+0≤_ by omega)
  | x :: y :: r,h=>
    rw [bulkEs,bulkEs,Nat.mul_add,Nat.mul_add]
    have h1:=h x (List.mem_cons_self ..)
    have h2:=h y (List.mem_cons_of_mem _ (List.mem_cons_self ..))
    exact (show (f x).size+(f y).size≤_ by omega)
theorem cloB_size (op t:ByteArray):(cloB op t).size≤t.size+2:=by
  unfold cloB;split
  · omega
  · rw [ByteArray.size_append,ByteArray.size_append];exact (show 1+t.size+1≤_ by omega)
theorem textE_size : ∀ x:RE,okE x→(textE x).size+2≤24 * bulkE x:=RE.all fun x ih ho=>by
  rw [okE_eq] at ho
  have h1 : ∀ y ∈ x.f3,(textE y).size≤24 * bulkE y:=fun y hy=>by have:=ih y hy (okEs_mem ho.2 hy);omega
  have h2 : ∀ y ∈ x.f3,(cloE y).size≤24 * bulkE y:=fun y hy=>by rw [cloE_eq];have:=ih y hy (okEs_mem ho.2 hy);have:=cloB_size y.f0 (textE y);omega
  have a0:=nth_zero_le h1
  have a1:=nth_zero_le h2
  have a2:=nth_two_le h2
  have hi:=itoaB_size ho.1
  rw [textE_eq,bulkE_eq,textEs_map,cloEs_map]
  unfold textF
  repeat' split
  · omega
  · omega
  · rw [ByteArray.size_append,ByteArray.size_append,ByteArray.size_append];exact (show x.f1.size+1+_+1+2≤_ by omega)
  · omega
  · omega
  · rw [ByteArray.size_append];exact (show 1+_+2≤_ by omega)
  · rw [ByteArray.size_append];exact (show 1+_+2≤_ by omega)
  · rw [ByteArray.size_append,ByteArray.size_append,ByteArray.size_append,ByteArray.size_append];exact (show _+1+x.f0.size+1+_+2≤_ by omega)
theorem cloE_size (x:RE) (ho:okE x):(cloE x).size≤24 * bulkE x:=by rw [cloE_eq];have:=textE_size x ho;have:=cloB_size x.f0 (textE x);omega
theorem index_any (a:ByteArray) : ∀ (xs pre:List ByteArray) (n:Int),n=((pre++xs).length:Int)→(pre++xs).length < 4611686018427387904→
    ∃ i,Ev (fun k=>slices_Index_string_string.l0 k (pre++xs) a n pre.length) i∧decide (i≥0)=xs.any (fun y=>a.toList == y.toList):=by
  intro xs
  induction xs with
  | nil=>
    intro pre n hn _
    subst hn
    exact ⟨-1,Ev.step (fun k=>slices_Index_string_string.l0.eq_2 _ _ _ _ k) (Ev.no (end_not pre) (Ev.now _)),rfl⟩
  | cons x xs ih=>
    intro pre n hn hl
    subst hn
    by_cases h:a.toList=x.toList
    · refine ⟨pre.length,Ev.step (fun k=>slices_Index_string_string.l0.eq_2 _ _ _ _ k) (Ev.yes (mid_lt pre x xs) (Ev.yes (by omega) (Ev.yes (mid_lt pre x xs) ?_))),?_⟩
      · rw [show rdOf ByteArray.empty (pre++x :: xs) (pre.length:Int)=x from getD_mid ..]
        exact Ev.yes h (Ev.now _)
      · rw [List.any_cons,beq_iff_eq.2 h,Bool.true_or];exact decide_eq_true (by omega)
    · obtain ⟨i,hi,e⟩:=ih (pre++[x]) _ rfl (by rw [← snoc];exact hl)
      refine ⟨i,Ev.step (fun k=>slices_Index_string_string.l0.eq_2 _ _ _ _ k) (Ev.yes (mid_lt pre x xs) (Ev.yes (by omega) (Ev.yes (mid_lt pre x xs) ?_))),?_⟩
      · rw [show rdOf ByteArray.empty (pre++x :: xs) (pre.length:Int)=x from getD_mid ..]
        refine Ev.no h ?_
        rw [next_len pre x xs hl]
        rw [← snoc] at hi
        exact hi
      · rw [List.any_cons,show (a.toList == x.toList)=false from beq_eq_false_iff_ne.2 h,Bool.false_or];exact e
theorem contains_any (l:List ByteArray) (a:ByteArray) (hl:l.length < 4611686018427387904):Ev (fun k=>slices_Contains_string_string.f k l a) (l.any (fun y=>a.toList == y.toList)):=by
  obtain ⟨i,hi,e⟩:=index_any a l [] (l.length:Int) rfl hl
  rw [← e]
  exact Ev.bind hi (Ev.now _)
theorem lit_list (l:List UInt8):(⟨l.toArray⟩:ByteArray).toList=l:=by rw [toList_data]
abbrev simpL:List ByteArray:=[(⟨#[110,117,109]⟩:ByteArray),(⟨#[110,97,109,101]⟩:ByteArray),(⟨#[97,116]⟩:ByteArray),(⟨#[116,114,117,101]⟩:ByteArray),(⟨#[102,97,108,115,101]⟩:ByteArray)]
theorem simpL_any (op:ByteArray):simpL.any (fun y=>op.toList == y.toList)=simpB op:=by
  unfold simpB simpL
  simp only [List.any_cons,List.any_nil,Bool.or_false]
  rw [show (⟨#[110,117,109]⟩:ByteArray).toList=opNum from lit_list _,show (⟨#[110,97,109,101]⟩:ByteArray).toList=opName from lit_list _,show (⟨#[97,116]⟩:ByteArray).toList=opAt from lit_list _,show (⟨#[116,114,117,101]⟩:ByteArray).toList=opTrue from lit_list _,show (⟨#[102,97,108,115,101]⟩:ByteArray).toList=opFalse from lit_list _]
theorem contains_ev (op:ByteArray):Ev (fun k=>slices_Contains_string_string.f k simpL op) (simpB op):=by
  rw [← simpL_any];exact contains_any simpL op (by decide)
theorem convEs_nth {l:List RE} {i:Nat} (h:i < l.length):rd_T33 (convEs l) (i:Int)=convE l[i]:=by
  rw [show rd_T33 (convEs l) (i:Int)=(convEs l).getD i z33 from rfl,convEs_map,List.getD_eq_getElem?_getD,List.getElem?_map,List.getElem?_eq_getElem h];rfl
theorem nth_map {l:List RE} {f:RE→ByteArray} {i:Nat} (h:i < l.length):nth (l.map f) i=f l[i]:=by
  unfold nth;rw [List.getD_eq_getElem?_getD,List.getElem?_map,List.getElem?_eq_getElem h];rfl
theorem nth_none {l:List ByteArray} {i:Nat} (h : ¬ i < l.length):nth l i=⟨#[]⟩:=by
  unfold nth;rw [List.getD_eq_getElem?_getD,List.getElem?_eq_none (by omega)];rfl
abbrev TextOk (x:RE):Prop:=Ev (fun k=>tree_Text.f k (convE x).f0 (convE x).f1 (convE x).f2 (convE x).f3 (convE x).f4) (textE x)
theorem part_of (l:List RE) (i:Nat) (h : ∀ y ∈ l,TextOk y):Ev (fun k=>tree_part.f k (convEs l) (i:Int)) (nth (textEs l) i):=by
  refine Ev.step (fun k=>tree_part.f.eq_2 _ _ k) ?_
  rw [convEs_len]
  by_cases hi:i < l.length
  · refine Ev.no (by omega) (Ev.yes (by omega) (Ev.yes (by omega) ?_))
    rw [convEs_nth hi,textEs_map,nth_map hi]
    exact Ev.bind (h _ (List.getElem_mem hi)) (Ev.now _)
  · refine Ev.yes (by omega) ?_
    rw [nth_none (by rw [textEs_map,List.length_map];exact hi)]
    exact Ev.now _
theorem closed_of (l:List RE) (i:Nat) (h : ∀ y ∈ l,TextOk y) (hz : ∀ y ∈ l,(textE y).size < 4611686018427387904):Ev (fun k=>tree_closed.f k (convEs l) (i:Int)) (nth (cloEs l) i):=by
  refine Ev.step (fun k=>tree_closed.f.eq_2 _ _ k) (Ev.bind (part_of l i h) ?_)
  rw [convEs_len]
  by_cases hi:i < l.length
  · refine Ev.no (by omega) (Ev.yes (by omega) (Ev.yes (by omega) ?_))
    rw [convEs_nth hi,textEs_map,nth_map hi,cloEs_map,nth_map hi,cloE_eq,convE_eq]
    refine Ev.bind (contains_ev _) ?_
    have:=hz _ (List.getElem_mem hi)
    unfold cloB
    cases e:simpB l[i].f0 with
    | true=>exact Ev.yes rfl (Ev.now _)
    | false=>exact Ev.no (by simp) (Ev.yes (by omega) (Ev.yes (by rw [ByteArray.size_append];exact (show 1+_+1≤_ by omega)) (Ev.now _)))
  · refine Ev.yes (by omega) ?_
    rw [nth_none (by rw [textEs_map,List.length_map];exact hi),nth_none (by rw [cloEs_map,List.length_map];exact hi)]
    exact Ev.now _
theorem itoa_some (n:Int) (h:okI n):strconv_Itoa_31.f n=some (itoaB n):=by
  unfold strconv_Itoa_31.f strconv_Itoa_53.f strconv_FormatInt.f
  rw [if_pos ⟨rfl,h.1,h.2⟩];rfl
theorem text_ev : ∀ x:RE,okE x→bulkE x < 1099511627776→TextOk x:=RE.all fun x ih ho hb=>by
  rw [okE_eq] at ho
  rw [bulkE_eq] at hb
  have hz : ∀ y ∈ x.f3,(textE y).size < 4611686018427387904:=fun y hy=>by
    have:=textE_size y (okEs_mem ho.2 hy);have:=mem_bulkEs hy;omega
  have hT : ∀ y ∈ x.f3,TextOk y:=fun y hy=>ih y hy (okEs_mem ho.2 hy) (by have:=mem_bulkEs hy;omega)
  have h1 : ∀ y ∈ x.f3,(textE y).size≤24 * bulkE y:=fun y hy=>by have:=textE_size y (okEs_mem ho.2 hy);omega
  have h2 : ∀ y ∈ x.f3,(cloE y).size≤24 * bulkE y:=fun y hy=>cloE_size y (okEs_mem ho.2 hy)
  have a0:=nth_zero_le h1
  have a1:=nth_zero_le h2
  have a2:=nth_two_le h2
  have hp:=part_of x.f3 0 hT
  have hc:=closed_of x.f3 0 hT hz
  have hc1:=closed_of x.f3 1 hT hz
  rw [textEs_map] at hp
  rw [cloEs_map] at hc hc1
  unfold TextOk
  rw [convE_eq,textE_eq,textEs_map,cloEs_map]
  revert a0 a1 a2 hp hc hc1
  generalize x.f3.map textE=ts
  generalize x.f3.map cloE=cs
  intro a0 a1 a2 hp hc hc1
  unfold textF
  refine Ev.step (fun k=>tree_Text.f.eq_2 _ _ _ _ _ k) ?_
  by_cases c1:x.f0.toList=opNum
  · rw [if_pos c1]
    exact Ev.yes c1 (Ev.then (itoa_some _ ho.1) (Ev.now _))
  rw [if_neg c1]
  refine Ev.no c1 ?_
  by_cases c2:x.f0.toList=opName
  · rw [if_pos c2]
    exact Ev.yes c2 (Ev.now _)
  rw [if_neg c2]
  refine Ev.no c2 ?_
  by_cases c3:x.f0.toList=opAt
  · rw [if_pos c3]
    refine Ev.yes c3 (Ev.yes (show x.f1.size+1≤_ by omega) (Ev.bind hp ?_))
    refine Ev.yes (by rw [ByteArray.size_append];exact (show x.f1.size+1+_≤_ by omega)) (Ev.yes (by rw [ByteArray.size_append,ByteArray.size_append];exact (show x.f1.size+1+_+1≤_ by omega)) (Ev.now _))
  rw [if_neg c3]
  refine Ev.no c3 ?_
  by_cases c4:x.f0.toList=opTrue
  · rw [if_pos c4]
    refine Ev.yes c4 (Ev.step (fun k=>tree_Text.j0.eq_2 _ _ _ _ _ _ _ k) (Ev.yes ?_ (Ev.now _)))
    rw [c4];rfl
  rw [if_neg c4]
  refine Ev.no c4 (Ev.step (fun k=>tree_Text.j0.eq_2 _ _ _ _ _ _ _ k) ?_)
  by_cases c5:x.f0.toList=opFalse
  · rw [if_pos c5]
    refine Ev.yes ?_ (Ev.now _)
    rw [c5];rfl
  rw [if_neg c5]
  refine Ev.no (by rw [beq_iff_eq];exact c5) ?_
  by_cases c6:x.f0.toList=opNeg
  · rw [if_pos c6]
    exact Ev.yes c6 (Ev.bind hc (Ev.yes (by omega) (Ev.now _)))
  rw [if_neg c6]
  refine Ev.no c6 ?_
  by_cases c7:x.f0.toList=opNot
  · rw [if_pos c7]
    exact Ev.yes c7 (Ev.bind hc (Ev.yes (by omega) (Ev.now _)))
  rw [if_neg c7]
  refine Ev.no c7 (Ev.bind hc (Ev.yes (by omega) (Ev.yes (by rw [ByteArray.size_append];exact (show _+1+x.f0.size≤_ by omega)) (Ev.yes (by rw [ByteArray.size_append,ByteArray.size_append];exact (show _+1+x.f0.size+1≤_ by omega)) (Ev.bind hc1 ?_)))))
  refine Ev.yes (by rw [ByteArray.size_append,ByteArray.size_append,ByteArray.size_append];exact (show _+1+x.f0.size+1+_≤_ by omega)) (Ev.now _)
theorem part_ev (l:List RE) (i:Nat) (ho:okEs l) (hb:bulkEs l < 1099511627775):Ev (fun k=>tree_part.f k (convEs l) (i:Int)) (nth (textEs l) i):=
  part_of l i (fun y hy=>text_ev y (okEs_mem ho hy) (by have:=mem_bulkEs hy;omega))
end Go.Proofs.YtnnbbeloifhofaaDoor.P
end
section
namespace Go.Proofs.YtnnbbeloifhofaaDoor.P
open Go Go.RowKit Go.Proofs
open Go.Proofs.YtnnbbeloifhofaaDoorW.PrintWords Go.Proofs.YtnnbbeloifhofaaDoorW.PrintLast Go.Proofs.YtnnbbeloifhofaaDoorW.PrintMore
abbrev oSet:List UInt8:=[115,101,116]
abbrev oPut:List UInt8:=[112,117,116]
abbrev oInput:List UInt8:=[105,110,112,117,116]
abbrev oIf:List UInt8:=[105,102]
abbrev oWhile:List UInt8:=[119,104,105,108,101]
abbrev oAssert:List UInt8:=[97,115,115,101,114,116]
abbrev oAssume:List UInt8:=[97,115,115,117,109,101]
abbrev oCall:List UInt8:=[99,97,108,108]
def lit (l:List UInt8):ByteArray:=⟨l.toArray⟩
def stmtF (d:Int) (op name:ByteArray) (e:List RE) (a m:List UInt8) (els:Bool):List UInt8:=
  if op.toList=oSet then lineB d [name,lit [32,61,32],nth (textEs e) 0,lit [59]]
  else if op.toList=oPut then lineB d [name,lit [91],nth (textEs e) 0,lit [93,32,61,32],nth (textEs e) 1,lit [59]]
  else if op.toList=oInput then
    if e.length=0 then lineB d [name,lit [32,61,32,105,110,112,117,116,59]]
    else lineB d [name,lit [32,61,32,105,110,112,117,116,40],nth (textEs e) 0,lit [44,32],nth (textEs e) 1,lit [41,59]]
  else if op.toList=oIf∨op.toList=oWhile then
    lineB d [op,lit [32],nth (textEs e) 0,lit [32,123]]++a++(if op.toList=oIf∧els=true then lineB d [lit [125,32,101,108,115,101,32,123]]++m else [])++lineB d [lit [125]]
  else if op.toList=oAssert∨op.toList=oAssume then lineB d [op,lit [32],nth (textEs e) 0,lit [59]]
  else if op.toList=oCall then lineB d [lit [99,97,108,108,32],name,lit [59]]
  else lineB d [op,lit [59]]
mutual
def stmtB:RS→Int→List UInt8
  | ⟨op,name,e,a,m,_⟩,d=>stmtF d op name e (stmtsB a (d+1)) (stmtsB m (d+1)) (decide (m.length > 0))
def stmtsB:List RS→Int→List UInt8
  | [],_=>[]
  | x :: xs,d=>stmtB x d++stmtsB xs d
end
theorem stmtB_eq (x:RS) (d:Int):stmtB x d=stmtF d x.f0 x.f1 x.f2 (stmtsB x.f3 (d+1)) (stmtsB x.f4 (d+1)) (decide (x.f4.length > 0)):=by cases x;rw [stmtB]
theorem stmtsB_app (l m:List RS) (d:Int):stmtsB (l++m) d=stmtsB l d++stmtsB m d:=by
  induction l with
  | nil=>rfl
  | cons x xs ih=>rw [List.cons_append,stmtsB,stmtsB,ih,List.append_assoc]
mutual
def okS:RS→Prop
  | ⟨_,_,e,a,m,_⟩=>okEs e∧okSs a∧okSs m
def okSs:List RS→Prop
  | []=>True
  | x :: xs=>okS x∧okSs xs
end
theorem okS_eq (x:RS):okS x=(okEs x.f2∧okSs x.f3∧okSs x.f4):=by cases x;rfl
theorem okSs_mem {x:RS} : ∀ {l:List RS},okSs l→x ∈ l→okS x
  | [],_,h=>by cases h
  | y :: ys,h,hx=>by
    rcases List.mem_cons.1 hx with e|hx
    · exact e ▸ h.1
    · exact okSs_mem h.2 hx
def StmtOk (s:RS):Prop:=∀ (b:Nat) (t:List UInt8) (d:Int) (A2 A3 A4:Option Addr) (c2 c3 c4:Nat) (w0 w:World),IsPr w0.heap.size b (Lib.byteCells t) d w→Below w0.heap.size w0 w→TabT w0→
  Kd.C k33 w0 A2 (convEs s.f2).length (convEs s.f2)→(convEs s.f2).length≤c2→Kd.C k76 w0 A3 (convSs s.f3).length (convSs s.f3)→(convSs s.f3).length≤c3→Kd.C k76 w0 A4 (convSs s.f4).length (convSs s.f4)→(convSs s.f4).length≤c4→
  okS s→0≤d→d+bulkS s≤1099511627770→t.length+(stmtB s d).length≤140737488355328→
  Calls Tryd.prog 61 #[.pointer (some ⟨b,0,none⟩),.agg #[.string s.f0,.string s.f1,.slice A2 (convEs s.f2).length c2,.slice A3 (convSs s.f3).length c3,.slice A4 (convSs s.f4).length c4,.int .i64 s.f5]] w fun e w'=>
    e=.returned (.tuple #[])∧IsPr w0.heap.size b (Lib.byteCells (t++stmtB s d)) d w'∧Below w0.heap.size w w'∧Beside b w w'
end Go.Proofs.YtnnbbeloifhofaaDoor.P
end
section
namespace Go.Proofs.YtnnbbeloifhofaaDoor.P
open Go Go.RowKit Go.Proofs
open Go.Proofs.YtnnbbeloifhofaaDoorW.PrintWords Go.Proofs.YtnnbbeloifhofaaDoorW.PrintLast Go.Proofs.YtnnbbeloifhofaaDoorW.PrintMore
set_option linter.unusedVariables false
theorem convSs_nth {l:List RS} {i:Nat} (h:i < l.length):rd_T76 (convSs l) (i:Int)=convS l[i]:=by
  rw [show rd_T76 (convSs l) (i:Int)=(convSs l).getD i z76 from rfl,convSs_map,List.getD_eq_getElem?_getD,List.getElem?_map,List.getElem?_eq_getElem h];rfl
set_option maxHeartbeats 2000000 in
set_option maxRecDepth 100000 in
theorem block_pr (l:List RS) (hS : ∀ s ∈ l,StmtOk s) (b:Nat) (t:List UInt8) (d:Int) (A:Option Addr) (c:Nat) (w0 w:World) (hP:IsPr w0.heap.size b (Lib.byteCells t) d w) (hB:Below w0.heap.size w0 w) (hT:TabT w0)
    (hC:Kd.C k76 w0 A (convSs l).length (convSs l)) (hc:(convSs l).length≤c) (ho:okSs l) (hd0:0≤d) (hd:d+1+bulkSs l≤1099511627770) (hlen:t.length+(stmtsB l (d+1)).length≤140737488355328) :
    Calls Tryd.prog 40 #[.pointer (some ⟨b,0,none⟩),.slice A (convSs l).length c] w fun e w'=>
      e=.returned (.tuple #[])∧IsPr w0.heap.size b (Lib.byteCells (t++stmtsB l (d+1))) d w'∧Below w0.heap.size w w'∧Beside b w w':=by
  have hdeep:=hP.deep
  have hfz:w.frozen? ⟨b,2,none⟩=false:=by
    rcases hP with ⟨_,v,hb,_⟩ | ⟨_,v,hb,_⟩ <;> exact Lib.frozen_of_heap hb 2
  have hw1:wrap64 (d+1)=d+1:=wrap64_small (by omega) (by omega)
  have hP1:IsPr w0.heap.size b (Lib.byteCells t) (d+1) (w.setCell ⟨b,2,none⟩ (.int .i64 (d+1))):=hP.imp (fun h=>h.setDeep _) (fun h=>h.setDeep _)
  have hBb:w0.heap.size≤b:=by rcases hP with h|h <;> exact h.1
  have hB1:Below w0.heap.size w (w.setCell ⟨b,2,none⟩ (.int .i64 (d+1))):=(Below.refl _ w).setCell (p:=⟨b,2,none⟩) hBb _
  have hs1:Beside b w (w.setCell ⟨b,2,none⟩ (.int .i64 (d+1))):=Beside.set b 2 _ w
  have hN:=len_bulkSs l
  go_enter Tryd.func40,Tryd.ntmps40
  go_wp2
  (try simp only [Act.put,List.setIfInBounds_toArray,List.set_cons_succ,List.set_cons_zero])
  generalize hw1e:w.setCell ⟨b,2,none⟩ (.int .i64 (d+1))=w1 at hP1 hB1 hs1 ⊢
  have HP1:=Aside0.mk hP1
  have HB1:=Aside0.mk hB1
  have HS1:=Aside0.mk hs1
  have HN:=Aside0.mk hN
  have HL:=Aside0.mk hlen
  have HC:=Aside0.mk hC
  have HD:=Aside0.mk hd
  have HBB:=Aside0.mk hB
  clear hP1 hB1 hs1 hN hlen hdeep hfz hw1 hw1e hP hC hd hB
  go_loopg [15] (l.length+1) (fun kq v15 w'=>∃ i:Nat,v15=.int .i64 (i:Int)∧Aside0 (i+kq=l.length+1∧i≤l.length)∧Aside0 (IsPr w0.heap.size b (Lib.byteCells (t++stmtsB (l.take i) (d+1))) (d+1) w')∧Aside0 (Below w0.heap.size w w')∧Aside0 (Beside b w w'))
  case atStart=>exact ⟨0,rfl,⟨by omega,by omega⟩,⟨by rw [List.take_zero,stmtsB,List.append_nil];exact HP1.out⟩,HB1,HS1⟩
  case round=>
    obtain ⟨i,rfl,HI,HP,HB,HS⟩:=hrel
    by_cases hi:i < l.length
    · have c0:decide ((i:Int) < ((convSs l).length:Int))=true:=decide_eq_true (by rw [convSs_len];omega)
      cases gk with
      | zero=>exact absurd HI.out (by omega)
      | succ k1=>
      obtain ⟨ad,A2,c2,A3,c3,A4,c4,rfl,x0,x1,x2,x3,x4,x5,l2,g2,l3,g3,l4,g4⟩:=at_T76 HC.out (i:Int) (by omega) (by rw [convSs_len];omega)
      have hm:l[i] ∈ l:=List.getElem_mem hi
      have hbu:=mem_bulkSs hm
      rw [convSs_nth hi] at x0 x1 x2 x3 x4 x5 l2 g2 l3 g3 l4 g4
      have hSi:=hS _ hm
      have hoi:=okSs_mem ho hm
      have hnx:stmtsB (l.take (i+1)) (d+1)=stmtsB (l.take i) (d+1)++stmtB l[i] (d+1):=by
        rw [List.take_succ_eq_append_getElem hi,stmtsB_app,stmtsB,stmtsB,List.append_nil]
      have hle:(stmtsB (l.take (i+1)) (d+1)).length≤(stmtsB l (d+1)).length:=by
        conv=>rhs;rw [← List.take_append_drop (i+1) l,stmtsB_app,List.length_append]
        omega
      rw [hnx,List.length_append] at hle
      generalize hse:l[i]=s at x0 x1 x2 x3 x4 x5 l2 g2 l3 g3 l4 g4 hSi hoi hnx hle hbu hm
      clear hse hS
      rw [convS_eq] at x0 x1 x2 x3 x4 x5 l2 g2 l3 g3 l4 g4
      dsimp only at x0 x1 x2 x3 x4 x5 l2 g2 l3 g3 l4 g4
      simp only [Int.toNat_natCast] at x0 x1 x2 x3 x4 x5
      have hW:=HBB.out.trans HB.out
      replace x0:=(hW.cell (World.block_lt_of_cell? w0 _ x0)).trans x0
      replace x1:=(hW.cell (World.block_lt_of_cell? w0 _ x1)).trans x1
      replace x2:=(hW.cell (World.block_lt_of_cell? w0 _ x2)).trans x2
      replace x3:=(hW.cell (World.block_lt_of_cell? w0 _ x3)).trans x3
      replace x4:=(hW.cell (World.block_lt_of_cell? w0 _ x4)).trans x4
      replace x5:=(hW.cell (World.block_lt_of_cell? w0 _ x5)).trans x5
      have G2:=Aside0.mk g2
      have L2:=Aside0.mk l2
      have G3:=Aside0.mk g3
      have L3:=Aside0.mk l3
      have G4:=Aside0.mk g4
      have L4:=Aside0.mk l4
      have HSI:=Aside0.mk hSi
      have HLE:=Aside0.mk hle
      have HNX:=Aside0.mk hnx
      have HWW:=Aside0.mk hW
      have HBU:=Aside0.mk hbu
      clear g2 l2 g3 l3 g4 l4 hSi hle hnx hW hbu
      have p0:(0≤(i:Int))=True:=eq_true (by omega)
      have q0:((i:Int) < ((convSs l).length:Int))=True:=eq_true (by rw [convSs_len];omega)
      go_wp2_with (first|((with_reducible refine gate_dst (N:=5) rfl ?_);refine box_event ?hg (N:=5) ?hd (cs:=#[.string (⟨#[]⟩:ByteArray),.string (⟨#[]⟩:ByteArray),.slice none 0 0,.slice none 0 0,.slice none 0 0,.int .i64 0]) (t:=76) ?hr ?_;(case hd=>rfl);(case hg=>rfl);(case hr=>first|(go_simp;done)|(go_simp;rfl));intro gb hg w8 hbox hb;have BK:=Aside0.mk hbox;have GW:=Aside0.mk hg;have HB8:=Aside0.mk hb;clear hb hbox hg;have z0:w8.cell? ⟨gb,0,none⟩=some (.string (⟨#[]⟩:ByteArray)):=(blk_cell BK.out 0).trans rfl;have z1:w8.cell? ⟨gb,1,none⟩=some (.string (⟨#[]⟩:ByteArray)):=(blk_cell BK.out 1).trans rfl;have z2:w8.cell? ⟨gb,2,none⟩=some (.slice none 0 0):=(blk_cell BK.out 2).trans rfl;have z3:w8.cell? ⟨gb,3,none⟩=some (.slice none 0 0):=(blk_cell BK.out 3).trans rfl;have z4:w8.cell? ⟨gb,4,none⟩=some (.slice none 0 0):=(blk_cell BK.out 4).trans rfl;have z5:w8.cell? ⟨gb,5,none⟩=some (.int .i64 0):=(blk_cell BK.out 5).trans rfl;have y0:=blk_frozen BK.out 0;have y1:=blk_frozen BK.out 1;have y2:=blk_frozen BK.out 2;have y3:=blk_frozen BK.out 3;have y4:=blk_frozen BK.out 4;have y5:=blk_frozen BK.out 5))
      have hge:wr.heap.size≤gb:=Nat.le_of_eq GW.out.symm
      have e9:Below wr.heap.size wr ((((((w8.setCell ⟨gb,0,none⟩ (.string s.f0)).setCell ⟨gb,1,none⟩ (.string s.f1)).setCell ⟨gb,2,none⟩ (.slice A2 (convEs s.f2).length c2)).setCell ⟨gb,3,none⟩ (.slice A3 (convSs s.f3).length c3)).setCell ⟨gb,4,none⟩ (.slice A4 (convSs s.f4).length c4)).setCell ⟨gb,5,none⟩ (.int .i64 s.f5)):=
        (((((HB8.out.setCell (p:=⟨gb,0,none⟩) hge _).setCell (p:=⟨gb,1,none⟩) hge _).setCell (p:=⟨gb,2,none⟩) hge _).setCell (p:=⟨gb,3,none⟩) hge _).setCell (p:=⟨gb,4,none⟩) hge _).setCell (p:=⟨gb,5,none⟩) hge _
      generalize ((((((w8.setCell ⟨gb,0,none⟩ (.string s.f0)).setCell ⟨gb,1,none⟩ (.string s.f1)).setCell ⟨gb,2,none⟩ (.slice A2 (convEs s.f2).length c2)).setCell ⟨gb,3,none⟩ (.slice A3 (convSs s.f3).length c3)).setCell ⟨gb,4,none⟩ (.slice A4 (convSs s.f4).length c4)).setCell ⟨gb,5,none⟩ (.int .i64 s.f5))=w9 at e9 ⊢
      clear z0 z1 z2 z3 z4 z5 y0 y1 y2 y3 y4 y5
      have s0:=HWW.out.size
      have hlen9:(t++stmtsB (l.take i) (d+1)).length+(stmtB s (d+1)).length≤140737488355328:=by have:=HLE.out;have:=HL.out;rw [List.length_append];omega
      have hbs:d+1+bulkS s≤1099511627770:=by have:=HBU.out;have:=HD.out;omega
      have hwi:wrap64 ((i:Int)+1)=((i+1:Nat):Int):=by rw [wrap64_small (by have:=HN.out;have:=HD.out;omega) (by have:=HN.out;have:=HD.out;omega)];rfl
      have HWI:=Aside0.mk hwi
      clear hwi
      refine (HSI.out b _ (d+1) A2 A3 A4 c2 c3 c4 w0 w9 (HP.out.kept e9) (HWW.out.trans (e9.mono (by omega))) hT G2.out L2.out G3.out L3.out G4.out L4.out hoi (by omega) hbs hlen9).mono ?_
      rintro e w10 ⟨rfl,hP',hB',hs'⟩
      have HP10:Aside0 (IsPr w0.heap.size b (Lib.byteCells (t++stmtsB (l.take (i+1)) (d+1))) (d+1) w10):=⟨by rw [HNX.out,← List.append_assoc];exact hP'⟩
      have HB10:Aside0 (Below w0.heap.size w w10):=⟨HB.out.trans ((e9.mono (by omega)).trans hB')⟩
      have HS10:Aside0 (Beside b w w10):=⟨HS.out.trans ((Beside.of e9).trans hs')⟩
      clear hP' hB' hs' e9 HP HB HS
      go_wp2
      go_roundg k1
      case measure=>omega
      case rel=>exact ⟨i+1,congrArg (Value.int IntKind.i64) HWI.out,⟨by have:=HI.out;omega,by omega⟩,HP10,HB10,HS10⟩
    · have c0:decide ((i:Int) < ((convSs l).length:Int))=false:=decide_eq_false (by rw [convSs_len];omega)
      have hi':i=l.length:=by have:=HI.out;omega
      subst hi'
      rw [List.take_length] at HP
      have c1:decide (l.length < (convSs l).length)=false:=decide_eq_false (by rw [convSs_len];omega)
      have c2:(l.length < (convSs l).length)=False:=eq_false (by rw [convSs_len];omega)
      have hdeep:=HP.out.deep
      have hfz:wr.frozen? ⟨b,2,none⟩=false:=by
        rcases HP.out with ⟨_,v,hb,_⟩ | ⟨_,v,hb,_⟩ <;> exact Lib.frozen_of_heap hb 2
      have hw2:wrap64 d=d:=wrap64_small (by omega) (by have:=HD.out;omega)
      have hP2:IsPr w0.heap.size b (Lib.byteCells (t++stmtsB l (d+1))) d (wr.setCell ⟨b,2,none⟩ (.int .i64 d)):=HP.out.imp (fun h=>h.setDeep _) (fun h=>h.setDeep _)
      go_wp2
      go_end0
      exact ⟨rfl,hP2,HB.out.setCell (p:=⟨b,2,none⟩) hBb _,HS.out.trans (Beside.set b 2 _ wr)⟩
end Go.Proofs.YtnnbbeloifhofaaDoor.P
end
section
namespace Go.Proofs.YtnnbbeloifhofaaDoor.P
open Go Go.RowKit Go.Proofs
open Go.Proofs.YtnnbbeloifhofaaDoorW.PrintWords Go.Proofs.YtnnbbeloifhofaaDoorW.PrintLast Go.Proofs.YtnnbbeloifhofaaDoorW.PrintMore
set_option linter.unusedVariables false
theorem part_k (l:List RE) (i:Nat) (ho:okEs l) (hb:bulkEs l < 1099511627775) : ∃ k,tree_part.f k (convEs l) (i:Int)=some (nth (textEs l) i):=(part_ev l i ho hb).rounds
theorem opIs {op:ByteArray} {l:List UInt8} (h:op.toList=l):(op.toList == l)=true:=beq_iff_eq.mpr h
theorem opNo {op:ByteArray} {l:List UInt8} (h : ¬ op.toList=l):(op.toList == l)=false:=beq_eq_false_iff_ne.mpr h
end Go.Proofs.YtnnbbeloifhofaaDoor.P
end
section
namespace Go.Proofs.YtnnbbeloifhofaaDoor.P
open Go Go.RowKit Go.Proofs
open Go.Proofs.YtnnbbeloifhofaaDoorW.PrintWords Go.Proofs.YtnnbbeloifhofaaDoorW.PrintLast Go.Proofs.YtnnbbeloifhofaaDoorW.PrintMore
set_option linter.unusedVariables false
set_option linter.unusedSimpArgs false
set_option maxHeartbeats 2000000 in
set_option maxRecDepth 100000 in
theorem stmt_set (s:RS) (c1:s.f0.toList=oSet):StmtOk s:=by
  intro b t d A2 A3 A4 c2 c3 c4 w0 w hP hB hT g2 l2 g3 l3 g4 l4 ho hd0 hd hlen
  rw [okS_eq] at ho
  rw [bulkS_eq] at hd
  rw [stmtB_eq] at hlen ⊢
  unfold stmtF at hlen ⊢
  rw [if_pos c1] at hlen ⊢
  obtain ⟨k,hp⟩:=part_k s.f2 0 ho.1 (by omega)
  obtain ⟨k',hp'⟩:=part_k s.f2 1 ho.1 (by omega)
  have c1b:=opIs c1
  clear c1
  have G2:=Aside0.mk g2
  have L2:=Aside0.mk l2
  have HB0:=Aside0.mk hB
  have HLEN:=Aside0.mk hlen
  have HD:=Aside0.mk hd
  have HPP:=Aside0.mk hp
  have HQQ:=Aside0.mk hp'
  have HP:=Aside0.mk hP
  clear g2 l2 g3 l3 g4 l4 hB hlen hd hp hp' hP
  go_enter Tryd.func61,Tryd.ntmps61
  go_wp2_with (first|((with_reducible refine gate_dst (N:=3) rfl ?_);refine box_event ?hg (N:=3) ?hd (cs:=#[.string s.f0,.string s.f1,.slice A2 (convEs s.f2).length c2,.slice A3 (convSs s.f3).length c3,.slice A4 (convSs s.f4).length c4,.int .i64 s.f5]) (t:=76) ?hr ?_;(case hd=>rfl);(case hg=>rfl);(case hr=>first|(go_simp;done)|(go_simp;rfl));intro gb hg w1 hbox hb;have BK:=Aside0.mk hbox;have GW:=Aside0.mk hg;have HB1:=Aside0.mk hb;clear hb hbox hg;have z0:w1.cell? ⟨gb,0,none⟩=some (.string s.f0):=(blk_cell BK.out 0).trans rfl;have z1:w1.cell? ⟨gb,1,none⟩=some (.string s.f1):=(blk_cell BK.out 1).trans rfl;have z2:w1.cell? ⟨gb,2,none⟩=some (.slice A2 (convEs s.f2).length c2):=(blk_cell BK.out 2).trans rfl;have z3:w1.cell? ⟨gb,3,none⟩=some (.slice A3 (convSs s.f3).length c3):=(blk_cell BK.out 3).trans rfl;have z4:w1.cell? ⟨gb,4,none⟩=some (.slice A4 (convSs s.f4).length c4):=(blk_cell BK.out 4).trans rfl))
  have hHeld0:w1.drew.cell? ⟨gb,0,none⟩=some (.string s.f0)∧w1.drew.cell? ⟨gb,1,none⟩=some (.string s.f1)∧w1.drew.cell? ⟨gb,2,none⟩=some (.slice A2 (convEs s.f2).length c2)∧Below w1.heap.size w1 w1.drew:=⟨z0,z1,z2,Below.drew (Below.refl _ w1)⟩
  refine start_ (n:=8) (ds:=[7]) (S:=fun w'=>w'.cell? ⟨gb,0,none⟩=some (.string s.f0)∧w'.cell? ⟨gb,1,none⟩=some (.string s.f1)∧w'.cell? ⟨gb,2,none⟩=some (.slice A2 (convEs s.f2).length c2)∧Below w1.heap.size w1 w') #[false,false,false,false,false,false,false,false] (by kernel_rfl) rfl rfl hHeld0 (fun hHeld=>?_)
  generalize w1.drew=w2 at hHeld ⊢
  refine pure_ (i:=0) (N:=some 13) (v:=?_) (a':=?_) #[true,false,false,false,false,false,false,false] rfl rfl (by kernel_rfl) (fun _ _ _ h=>h) (Or.inl ⟨by rfl,?_⟩) ?_ ?_
  rotate_left
  · intro w'
    go_simp
    with_reducible rfl
  rotate_left
  · simp only [Act.put,List.setIfInBounds_toArray,List.set_cons_zero,List.set_cons_succ,i64_w,i32_w]
    rfl
  refine pure_ (i:=1) (N:=some 14) (v:=?_) (a':=?_) #[true,true,false,false,false,false,false,false] rfl rfl (by kernel_rfl) (fun _ _ _ h=>h) (Or.inl ⟨by rfl,?_⟩) ?_ ?_
  rotate_left
  · intro w'
    go_simp
    with_reducible rfl
  rotate_left
  · simp only [Act.put,List.setIfInBounds_toArray,List.set_cons_zero,List.set_cons_succ,i64_w,i32_w]
    rfl
  refine pure_ (i:=3) (N:=some 16) (v:=?_) (a':=?_) #[true,true,false,true,false,false,false,false] rfl rfl (by kernel_rfl) (fun _ _ _ h=>h) (Or.inl ⟨by rfl,?_⟩) ?_ ?_
  rotate_left
  · intro w'
    go_simp
    with_reducible rfl
  rotate_left
  · simp only [Act.put,List.setIfInBounds_toArray,List.set_cons_zero,List.set_cons_succ,i64_w,i32_w]
    rfl
  refine take_ (i:=2) (N:=some 15) (v:=?_) (a':=?_) #[true,true,true,true,false,false,false,false] rfl rfl (by kernel_rfl) (fun _ _ _ h=>h) (Or.inl ⟨by rfl,?_⟩) hHeld ?_ ?_
  rotate_left
  · rintro w' ⟨s0,s1,s2,s3⟩
    go_simp
    with_reducible rfl
  rotate_left
  · simp only [Act.put,List.setIfInBounds_toArray,List.set_cons_zero,List.set_cons_succ,i64_w,i32_w]
    rfl
  refine take_ (i:=4) (N:=some 17) (v:=?_) (a':=?_) #[true,true,true,true,true,false,false,false] rfl rfl (by kernel_rfl) (fun _ _ _ h=>h) (Or.inl ⟨by rfl,?_⟩) hHeld ?_ ?_
  rotate_left
  · rintro w' ⟨s0,s1,s2,s3⟩
    go_simp
    with_reducible rfl
  rotate_left
  · simp only [Act.put,List.setIfInBounds_toArray,List.set_cons_zero,List.set_cons_succ,i64_w,i32_w]
    rfl
  refine one_ (i:=5) (N:=some 18) #[true,true,true,true,true,true,false,false] rfl rfl (by kernel_rfl) (by decide) (fun K hK=>?_)
  refine goes_ Tryd.func32 (by kernel_rfl) rfl #[.slice A2 (convEs s.f2).length c2,.int .i64 0] (by rfl) rfl rfl (by (try simp only [List.map_toArray,List.map_cons,List.map_nil]);first|done|rfl) ?_
  have hb2:Below w0.heap.size w0 w2:=HB0.out.trans ((HB1.out.trans (hHeld.2.2.2.mono HB1.out.size)).mono HB0.out.size)
  refine (tree_part.calls k A2 c2 (convEs s.f2) 0 _ w2 (hT.later hb2) (Kd.C_below G2.out hb2) L2.out HPP.out).mono ?_
  clear hb2
  rintro e w3 ⟨rfl,hb⟩
  refine ⟨_,rfl,?_⟩
  obtain ⟨t0,t1,t2,t3⟩:=hHeld
  have hHeld:w3.cell? ⟨gb,0,none⟩=some (.string s.f0)∧w3.cell? ⟨gb,1,none⟩=some (.string s.f1)∧w3.cell? ⟨gb,2,none⟩=some (.slice A2 (convEs s.f2).length c2)∧Below w1.heap.size w1 w3:=⟨(hb.cell (World.block_lt_of_cell? w2 _ t0)).trans t0,(hb.cell (World.block_lt_of_cell? w2 _ t1)).trans t1,(hb.cell (World.block_lt_of_cell? w2 _ t2)).trans t2,t3.trans (hb.mono t3.size)⟩
  refine hK.out _ _ hHeld (fun hHeld=>?_)
  clear hK K t0 t1 t2 t3 hb
  refine norm_ (a':=?_) ?_ ?_
  rotate_left
  · show Act.put _ (some 18) _=_
    simp only [Act.put,List.setIfInBounds_toArray,List.set_cons_zero,List.set_cons_succ,i64_w,i32_w]
    rfl
  refine one_ (i:=6) (N:=some 19) #[true,true,true,true,true,true,true,false] rfl rfl (by kernel_rfl) (by decide) (fun K hK=>?_)
  refine Kd.R_lit_step Kd.string (w0:=w3) w3.heap.size 9 (by rfl) (N:=19) rfl (xs:=[s.f1,(lit [32,61,32]),(nth (textEs s.f2) 0),(lit [59])]) (inner:=[.string s.f1,.string (lit [32,61,32]),.string (nth (textEs s.f2) 0),.string (lit [59])]) (ok:=fun _=>True) (okp:=fun _=>True) ?hr ?hp (fun _ hk=>hk) trivial (Below.refl _ _) (Nat.le_refl _) (by simp) ?_
  case hr=>first|(go_simp;done)|(go_simp;rfl)
  case hp=>exact Reps.one (show Kd.M Kd.string _ _ _ (s.f1) [.string (s.f1)] from rfl) (Reps.one (show Kd.M Kd.string _ _ _ ((lit [32,61,32])) [.string ((lit [32,61,32]))] from rfl) (Reps.one (show Kd.M Kd.string _ _ _ ((nth (textEs s.f2) 0)) [.string ((nth (textEs s.f2) 0))] from rfl) (Reps.one (show Kd.M Kd.string _ _ _ ((lit [59])) [.string ((lit [59]))] from rfl) (Reps.none _ _))))
  intro vrow w4 hrow hb hg_ hnew_
  clear hg_ hnew_
  obtain ⟨Ao,co,rfl⟩:=Kd.R_slice hrow
  have hro:=(Kd.R_reads' hrow).2
  obtain ⟨t0,t1,t2,t3⟩:=hHeld
  have hHeld:w4.cell? ⟨gb,0,none⟩=some (.string s.f0)∧w4.cell? ⟨gb,1,none⟩=some (.string s.f1)∧w4.cell? ⟨gb,2,none⟩=some (.slice A2 (convEs s.f2).length c2)∧Below w1.heap.size w1 w4:=⟨(hb.cell (World.block_lt_of_cell? w3 _ t0)).trans t0,(hb.cell (World.block_lt_of_cell? w3 _ t1)).trans t1,(hb.cell (World.block_lt_of_cell? w3 _ t2)).trans t2,t3.trans (hb.mono t3.size)⟩
  refine hK.out _ _ hHeld (fun hHeld=>?_)
  clear hK K t0 t1 t2 t3 hb hrow
  refine norm_ (a':=?_) ?_ ?_
  rotate_left
  · show Act.put _ (some 19) _=_
    simp only [Act.put,List.setIfInBounds_toArray,List.set_cons_zero,List.set_cons_succ,i64_w,i32_w]
    rfl
  have e4:Below w.heap.size w w4:=HB1.out.trans (hHeld.2.2.2.mono HB1.out.size)
  refine last_ (i:=7) (N:=some 20) #[true,true,true,true,true,true,true,true] rfl rfl (by kernel_rfl) (by decide) (fun K hK=>?_)
  refine goes_ Tryd.func38 (by kernel_rfl) rfl #[.pointer (some ⟨b,0,none⟩),.slice Ao 4 co] (by rfl) rfl rfl (by (try simp only [List.map_toArray,List.map_cons,List.map_nil]);first|done|rfl) ?_
  refine (line_pr w0.heap.size b t d Ao co [s.f1,(lit [32,61,32]),(nth (textEs s.f2) 0),(lit [59])] w4 (HP.out.kept e4) hro.2 hro.1 hd0 (by have:=HD.out;omega) (by simp) HLEN.out (Nat.le_trans HB0.out.size e4.size)).mono ?_
  rintro e w5 ⟨rfl,hP5,hb,hs5⟩
  refine ⟨_,rfl,?_⟩
  refine hK.out _ _ ?_
  refine done_ (by kernel_rfl) ?_
  try go_wp2
  go_end0
  exact ⟨rfl,.inr hP5,(e4.mono HB0.out.size).trans hb,(Beside.of e4).trans hs5⟩
end Go.Proofs.YtnnbbeloifhofaaDoor.P
end
section
namespace Go.Proofs.YtnnbbeloifhofaaDoor.P
open Go Go.RowKit Go.Proofs
open Go.Proofs.YtnnbbeloifhofaaDoorW.PrintWords Go.Proofs.YtnnbbeloifhofaaDoorW.PrintLast Go.Proofs.YtnnbbeloifhofaaDoorW.PrintMore
set_option linter.unusedVariables false
set_option linter.unusedSimpArgs false
set_option maxHeartbeats 2000000 in
set_option maxRecDepth 100000 in
theorem stmt_put (s:RS) (n0 : ¬ s.f0.toList=oSet) (c1:s.f0.toList=oPut):StmtOk s:=by
  intro b t d A2 A3 A4 c2 c3 c4 w0 w hP hB hT g2 l2 g3 l3 g4 l4 ho hd0 hd hlen
  rw [okS_eq] at ho
  rw [bulkS_eq] at hd
  rw [stmtB_eq] at hlen ⊢
  unfold stmtF at hlen ⊢
  rw [if_neg n0,if_pos c1] at hlen ⊢
  obtain ⟨k,hp⟩:=part_k s.f2 0 ho.1 (by omega)
  obtain ⟨k',hp'⟩:=part_k s.f2 1 ho.1 (by omega)
  have m0:=opNo n0
  clear n0
  have c1b:=opIs c1
  clear c1
  have G2:=Aside0.mk g2
  have L2:=Aside0.mk l2
  have HB0:=Aside0.mk hB
  have HLEN:=Aside0.mk hlen
  have HD:=Aside0.mk hd
  have HPP:=Aside0.mk hp
  have HQQ:=Aside0.mk hp'
  have HP:=Aside0.mk hP
  clear g2 l2 g3 l3 g4 l4 hB hlen hd hp hp' hP
  go_enter Tryd.func61,Tryd.ntmps61
  go_wp2_with (first|((with_reducible refine gate_dst (N:=3) rfl ?_);refine box_event ?hg (N:=3) ?hd (cs:=#[.string s.f0,.string s.f1,.slice A2 (convEs s.f2).length c2,.slice A3 (convSs s.f3).length c3,.slice A4 (convSs s.f4).length c4,.int .i64 s.f5]) (t:=76) ?hr ?_;(case hd=>rfl);(case hg=>rfl);(case hr=>first|(go_simp;done)|(go_simp;rfl));intro gb hg w1 hbox hb;have BK:=Aside0.mk hbox;have GW:=Aside0.mk hg;have HB1:=Aside0.mk hb;clear hb hbox hg;have z0:w1.cell? ⟨gb,0,none⟩=some (.string s.f0):=(blk_cell BK.out 0).trans rfl;have z1:w1.cell? ⟨gb,1,none⟩=some (.string s.f1):=(blk_cell BK.out 1).trans rfl;have z2:w1.cell? ⟨gb,2,none⟩=some (.slice A2 (convEs s.f2).length c2):=(blk_cell BK.out 2).trans rfl;have z3:w1.cell? ⟨gb,3,none⟩=some (.slice A3 (convSs s.f3).length c3):=(blk_cell BK.out 3).trans rfl;have z4:w1.cell? ⟨gb,4,none⟩=some (.slice A4 (convSs s.f4).length c4):=(blk_cell BK.out 4).trans rfl))
  have hHeld0:w1.drew.cell? ⟨gb,0,none⟩=some (.string s.f0)∧w1.drew.cell? ⟨gb,1,none⟩=some (.string s.f1)∧w1.drew.cell? ⟨gb,2,none⟩=some (.slice A2 (convEs s.f2).length c2)∧Below w1.heap.size w1 w1.drew:=⟨z0,z1,z2,Below.drew (Below.refl _ w1)⟩
  refine start_ (n:=11) (ds:=[10]) (S:=fun w'=>w'.cell? ⟨gb,0,none⟩=some (.string s.f0)∧w'.cell? ⟨gb,1,none⟩=some (.string s.f1)∧w'.cell? ⟨gb,2,none⟩=some (.slice A2 (convEs s.f2).length c2)∧Below w1.heap.size w1 w') #[false,false,false,false,false,false,false,false,false,false,false] (by kernel_rfl) rfl rfl hHeld0 (fun hHeld=>?_)
  generalize w1.drew=w2 at hHeld ⊢
  refine pure_ (i:=0) (N:=some 23) (v:=?_) (a':=?_) #[true,false,false,false,false,false,false,false,false,false,false] rfl rfl (by kernel_rfl) (fun _ _ _ h=>h) (Or.inl ⟨by rfl,?_⟩) ?_ ?_
  rotate_left
  · intro w'
    go_simp
    with_reducible rfl
  rotate_left
  · simp only [Act.put,List.setIfInBounds_toArray,List.set_cons_zero,List.set_cons_succ,i64_w,i32_w]
    rfl
  refine pure_ (i:=1) (N:=some 24) (v:=?_) (a':=?_) #[true,true,false,false,false,false,false,false,false,false,false] rfl rfl (by kernel_rfl) (fun _ _ _ h=>h) (Or.inl ⟨by rfl,?_⟩) ?_ ?_
  rotate_left
  · intro w'
    go_simp
    with_reducible rfl
  rotate_left
  · simp only [Act.put,List.setIfInBounds_toArray,List.set_cons_zero,List.set_cons_succ,i64_w,i32_w]
    rfl
  refine pure_ (i:=3) (N:=some 26) (v:=?_) (a':=?_) #[true,true,false,true,false,false,false,false,false,false,false] rfl rfl (by kernel_rfl) (fun _ _ _ h=>h) (Or.inl ⟨by rfl,?_⟩) ?_ ?_
  rotate_left
  · intro w'
    go_simp
    with_reducible rfl
  rotate_left
  · simp only [Act.put,List.setIfInBounds_toArray,List.set_cons_zero,List.set_cons_succ,i64_w,i32_w]
    rfl
  refine pure_ (i:=6) (N:=some 29) (v:=?_) (a':=?_) #[true,true,false,true,false,false,true,false,false,false,false] rfl rfl (by kernel_rfl) (fun _ _ _ h=>h) (Or.inl ⟨by rfl,?_⟩) ?_ ?_
  rotate_left
  · intro w'
    go_simp
    with_reducible rfl
  rotate_left
  · simp only [Act.put,List.setIfInBounds_toArray,List.set_cons_zero,List.set_cons_succ,i64_w,i32_w]
    rfl
  refine take_ (i:=2) (N:=some 25) (v:=?_) (a':=?_) #[true,true,true,true,false,false,true,false,false,false,false] rfl rfl (by kernel_rfl) (fun _ _ _ h=>h) (Or.inl ⟨by rfl,?_⟩) hHeld ?_ ?_
  rotate_left
  · rintro w' ⟨s0,s1,s2,s3⟩
    go_simp
    with_reducible rfl
  rotate_left
  · simp only [Act.put,List.setIfInBounds_toArray,List.set_cons_zero,List.set_cons_succ,i64_w,i32_w]
    rfl
  refine take_ (i:=4) (N:=some 27) (v:=?_) (a':=?_) #[true,true,true,true,true,false,true,false,false,false,false] rfl rfl (by kernel_rfl) (fun _ _ _ h=>h) (Or.inl ⟨by rfl,?_⟩) hHeld ?_ ?_
  rotate_left
  · rintro w' ⟨s0,s1,s2,s3⟩
    go_simp
    with_reducible rfl
  rotate_left
  · simp only [Act.put,List.setIfInBounds_toArray,List.set_cons_zero,List.set_cons_succ,i64_w,i32_w]
    rfl
  refine take_ (i:=7) (N:=some 30) (v:=?_) (a':=?_) #[true,true,true,true,true,false,true,true,false,false,false] rfl rfl (by kernel_rfl) (fun _ _ _ h=>h) (Or.inl ⟨by rfl,?_⟩) hHeld ?_ ?_
  rotate_left
  · rintro w' ⟨s0,s1,s2,s3⟩
    go_simp
    with_reducible rfl
  rotate_left
  · simp only [Act.put,List.setIfInBounds_toArray,List.set_cons_zero,List.set_cons_succ,i64_w,i32_w]
    rfl
  refine one_ (i:=5) (N:=some 28) #[true,true,true,true,true,true,true,true,false,false,false] rfl rfl (by kernel_rfl) (by decide) (fun K hK=>?_)
  refine goes_ Tryd.func32 (by kernel_rfl) rfl #[.slice A2 (convEs s.f2).length c2,.int .i64 0] (by rfl) rfl rfl (by (try simp only [List.map_toArray,List.map_cons,List.map_nil]);first|done|rfl) ?_
  have hb2:Below w0.heap.size w0 w2:=HB0.out.trans ((HB1.out.trans (hHeld.2.2.2.mono HB1.out.size)).mono HB0.out.size)
  refine (tree_part.calls k A2 c2 (convEs s.f2) 0 _ w2 (hT.later hb2) (Kd.C_below G2.out hb2) L2.out HPP.out).mono ?_
  clear hb2
  rintro e w3 ⟨rfl,hb⟩
  refine ⟨_,rfl,?_⟩
  obtain ⟨t0,t1,t2,t3⟩:=hHeld
  have hHeld:w3.cell? ⟨gb,0,none⟩=some (.string s.f0)∧w3.cell? ⟨gb,1,none⟩=some (.string s.f1)∧w3.cell? ⟨gb,2,none⟩=some (.slice A2 (convEs s.f2).length c2)∧Below w1.heap.size w1 w3:=⟨(hb.cell (World.block_lt_of_cell? w2 _ t0)).trans t0,(hb.cell (World.block_lt_of_cell? w2 _ t1)).trans t1,(hb.cell (World.block_lt_of_cell? w2 _ t2)).trans t2,t3.trans (hb.mono t3.size)⟩
  refine hK.out _ _ hHeld (fun hHeld=>?_)
  clear hK K t0 t1 t2 t3 hb
  refine norm_ (a':=?_) ?_ ?_
  rotate_left
  · show Act.put _ (some 28) _=_
    simp only [Act.put,List.setIfInBounds_toArray,List.set_cons_zero,List.set_cons_succ,i64_w,i32_w]
    rfl
  refine one_ (i:=8) (N:=some 31) #[true,true,true,true,true,true,true,true,true,false,false] rfl rfl (by kernel_rfl) (by decide) (fun K hK=>?_)
  refine goes_ Tryd.func32 (by kernel_rfl) rfl #[.slice A2 (convEs s.f2).length c2,.int .i64 1] (by rfl) rfl rfl (by (try simp only [List.map_toArray,List.map_cons,List.map_nil]);first|done|rfl) ?_
  have hb2:Below w0.heap.size w0 w3:=HB0.out.trans ((HB1.out.trans (hHeld.2.2.2.mono HB1.out.size)).mono HB0.out.size)
  refine (tree_part.calls k' A2 c2 (convEs s.f2) 1 _ w3 (hT.later hb2) (Kd.C_below G2.out hb2) L2.out HQQ.out).mono ?_
  clear hb2
  rintro e w4 ⟨rfl,hb⟩
  refine ⟨_,rfl,?_⟩
  obtain ⟨t0,t1,t2,t3⟩:=hHeld
  have hHeld:w4.cell? ⟨gb,0,none⟩=some (.string s.f0)∧w4.cell? ⟨gb,1,none⟩=some (.string s.f1)∧w4.cell? ⟨gb,2,none⟩=some (.slice A2 (convEs s.f2).length c2)∧Below w1.heap.size w1 w4:=⟨(hb.cell (World.block_lt_of_cell? w3 _ t0)).trans t0,(hb.cell (World.block_lt_of_cell? w3 _ t1)).trans t1,(hb.cell (World.block_lt_of_cell? w3 _ t2)).trans t2,t3.trans (hb.mono t3.size)⟩
  refine hK.out _ _ hHeld (fun hHeld=>?_)
  clear hK K t0 t1 t2 t3 hb
  refine norm_ (a':=?_) ?_ ?_
  rotate_left
  · show Act.put _ (some 31) _=_
    simp only [Act.put,List.setIfInBounds_toArray,List.set_cons_zero,List.set_cons_succ,i64_w,i32_w]
    rfl
  refine one_ (i:=9) (N:=some 32) #[true,true,true,true,true,true,true,true,true,true,false] rfl rfl (by kernel_rfl) (by decide) (fun K hK=>?_)
  refine Kd.R_lit_step Kd.string (w0:=w4) w4.heap.size 9 (by rfl) (N:=32) rfl (xs:=[s.f1,(lit [91]),(nth (textEs s.f2) 0),(lit [93,32,61,32]),(nth (textEs s.f2) 1),(lit [59])]) (inner:=[.string s.f1,.string (lit [91]),.string (nth (textEs s.f2) 0),.string (lit [93,32,61,32]),.string (nth (textEs s.f2) 1),.string (lit [59])]) (ok:=fun _=>True) (okp:=fun _=>True) ?hr ?hp (fun _ hk=>hk) trivial (Below.refl _ _) (Nat.le_refl _) (by simp) ?_
  case hr=>first|(go_simp;done)|(go_simp;rfl)
  case hp=>exact Reps.one (show Kd.M Kd.string _ _ _ (s.f1) [.string (s.f1)] from rfl) (Reps.one (show Kd.M Kd.string _ _ _ ((lit [91])) [.string ((lit [91]))] from rfl) (Reps.one (show Kd.M Kd.string _ _ _ ((nth (textEs s.f2) 0)) [.string ((nth (textEs s.f2) 0))] from rfl) (Reps.one (show Kd.M Kd.string _ _ _ ((lit [93,32,61,32])) [.string ((lit [93,32,61,32]))] from rfl) (Reps.one (show Kd.M Kd.string _ _ _ ((nth (textEs s.f2) 1)) [.string ((nth (textEs s.f2) 1))] from rfl) (Reps.one (show Kd.M Kd.string _ _ _ ((lit [59])) [.string ((lit [59]))] from rfl) (Reps.none _ _))))))
  intro vrow w5 hrow hb hg_ hnew_
  clear hg_ hnew_
  obtain ⟨Ao,co,rfl⟩:=Kd.R_slice hrow
  have hro:=(Kd.R_reads' hrow).2
  obtain ⟨t0,t1,t2,t3⟩:=hHeld
  have hHeld:w5.cell? ⟨gb,0,none⟩=some (.string s.f0)∧w5.cell? ⟨gb,1,none⟩=some (.string s.f1)∧w5.cell? ⟨gb,2,none⟩=some (.slice A2 (convEs s.f2).length c2)∧Below w1.heap.size w1 w5:=⟨(hb.cell (World.block_lt_of_cell? w4 _ t0)).trans t0,(hb.cell (World.block_lt_of_cell? w4 _ t1)).trans t1,(hb.cell (World.block_lt_of_cell? w4 _ t2)).trans t2,t3.trans (hb.mono t3.size)⟩
  refine hK.out _ _ hHeld (fun hHeld=>?_)
  clear hK K t0 t1 t2 t3 hb hrow
  refine norm_ (a':=?_) ?_ ?_
  rotate_left
  · show Act.put _ (some 32) _=_
    simp only [Act.put,List.setIfInBounds_toArray,List.set_cons_zero,List.set_cons_succ,i64_w,i32_w]
    rfl
  have e4:Below w.heap.size w w5:=HB1.out.trans (hHeld.2.2.2.mono HB1.out.size)
  refine last_ (i:=10) (N:=some 33) #[true,true,true,true,true,true,true,true,true,true,true] rfl rfl (by kernel_rfl) (by decide) (fun K hK=>?_)
  refine goes_ Tryd.func38 (by kernel_rfl) rfl #[.pointer (some ⟨b,0,none⟩),.slice Ao 6 co] (by rfl) rfl rfl (by (try simp only [List.map_toArray,List.map_cons,List.map_nil]);first|done|rfl) ?_
  refine (line_pr w0.heap.size b t d Ao co [s.f1,(lit [91]),(nth (textEs s.f2) 0),(lit [93,32,61,32]),(nth (textEs s.f2) 1),(lit [59])] w5 (HP.out.kept e4) hro.2 hro.1 hd0 (by have:=HD.out;omega) (by simp) HLEN.out (Nat.le_trans HB0.out.size e4.size)).mono ?_
  rintro e w6 ⟨rfl,hP5,hb,hs5⟩
  refine ⟨_,rfl,?_⟩
  refine hK.out _ _ ?_
  refine done_ (by kernel_rfl) ?_
  try go_wp2
  go_end0
  exact ⟨rfl,.inr hP5,(e4.mono HB0.out.size).trans hb,(Beside.of e4).trans hs5⟩
end Go.Proofs.YtnnbbeloifhofaaDoor.P
end
