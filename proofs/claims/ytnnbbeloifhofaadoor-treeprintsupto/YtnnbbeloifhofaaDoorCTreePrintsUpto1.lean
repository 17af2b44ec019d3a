/- Texts of this claim, joined. -/
import Derived.Test.YtnnbbeloifhofaaDoorCTreePrintsUpto0
section
namespace Go.Proofs.YtnnbbeloifhofaaDoor.P
open Go.RowKit Go.Proofs.YtnnbbeloifhofaaDoorW.PrintWords Go.Proofs.YtnnbbeloifhofaaDoorW.PrintLast Go.Proofs.YtnnbbeloifhofaaDoorW.PrintMore
attribute [local go_sem] max2_int min2_int max_two min_two max_three min_three max_four min_four
set_option linter.unusedVariables false
set_option linter.unusedSimpArgs false
mutual
def tree_Depth.l0:Nat→Int→List (S76)→Int→Int→Option (Int)
 | 0,_,_,_,_=>none
 | k+1,x3,x6,x7,x8=>if x8 < x7 then (if 0≤x8 then (if x8 < (x6.length:Int) then ((tree_Depth.f k ((rd_T76 x6 x8).f3)).bind fun t230=>((tree_Depth.f k ((rd_T76 x6 x8).f4)).bind fun t231=>(tree_Depth.l0 k (mx (mx x3 t230) t231) x6 x7 (wrap64 (x8+1))))) else (none)) else (none)) else (some (wrap64 (x3+1)))
def tree_Depth.f:Nat→List (S76)→Option (Int)
 | 0,_=>none
 | k+1,l0=>tree_Depth.l0 k (-1) l0 (l0.length:Int) 0
end
def tree_Depth.T5:Bool × List (List Nat × List Nat):=(true,[([],[]),([],[]),([1],[1]),([2],[2]),([],[]),([4],[4]),([5,3],[5]),([0,3,6],[0,3,6]),([7,6,0,1,2,3,4,5,6,7],[0,7])])
def tree_Depth.B5:List Nat:=[0,0,2,6,0,16,62,127,255]
theorem tree_Depth.tab5:rtab .any (opsOf Tryd.f18 5)=tree_Depth.T5:=by kernel_rfl
theorem tree_Depth.bits5:waitsOk tree_Depth.T5.2 tree_Depth.B5=true:=by kernel_rfl
set_option maxHeartbeats 8000000 in
set_option maxRecDepth 100000 in
theorem tree_Depth.calls (k:Nat) : ∀ (A0:Option Addr) (c0:Nat) (l0:List (S76)) (r:Int) (w:World) (hr0:Kd.C k76 w A0 l0.length l0) (hc0:l0.length≤c0) (h:tree_Depth.f k l0=some r),
  Calls Tryd.prog 18 #[.slice A0 l0.length c0] w fun e w'=>e=.returned (.int .i64 r)∧Below w.heap.size w w':=by
 induction k using Nat.strongRecOn with
 | _ k ih=>
 intro A0 c0 l0 r w hr0 hc0 h
 cases k with
 | zero=>exact absurd h (by simp [tree_Depth.f])
 | succ k=>
 simp only [tree_Depth.f] at h
 have hu76:=Tryd.underlying76
 have HR0:=Aside0.mk hr0
 have HC0:=Aside0.mk hc0
 clear hr0 hc0
 have HB:=Aside0.mk (Below.refl w.heap.size w)
 have H:(tree_Depth.l0 k (-1) l0 (l0.length:Int) 0)=some r:=h
 clear h
 have H':=Aside0.mk H
 clear H
 go_enter Tryd.func18,Tryd.ntmps18
 go_wp2
 (try simp only [Act.put,List.setIfInBounds_toArray,List.set_cons_succ,List.set_cons_zero])
 go_loopg [3,8] k (fun kq v3 v8 w'=>∃ (x3_1:Int) (x8_1:Int),v3=.int .i64 x3_1∧v8=.int .i64 x8_1∧Aside0 (tree_Depth.l0 kq x3_1 l0 (l0.length:Int) x8_1=some r)∧Aside0 (kq≤k)∧Aside0 (Below w.heap.size w w'))
 case atStart=>exact ⟨((-1)),(0),rf_,rf_,H',⟨Nat.le_refl _⟩,⟨bl_ HB.out⟩⟩
 case round=>
  clear H'
  try clear c1
  obtain ⟨x3_1,x8_1,rfl,rfl,HA,HK1,HB⟩:=hrel
  cases gk with
  | zero=>exact absurd HA.out (by simp [tree_Depth.l0])
  | succ k1=>
   have H:=HA.out
   clear HA
   simp only [tree_Depth.l0] at H
   by_cases c2:x8_1 < (l0.length:Int)
   ·rw [if_pos c2] at H
    have c2b0:=decide_eq_true c2
    clear c2
    revert H
    refine gd_ fun c3 H=>?_
    have c3b0:=decide_eq_true c3
    clear c3
    revert H
    refine gd_ fun c4 H=>?_
    have c4b0:=decide_eq_true c4
    clear c4
    revert H
    refine bd_ fun t230 A5 H=>?_
    revert H
    refine bd_ fun t231 A6 H=>?_
    obtain ⟨ji7,hji7⟩ : ∃ j_:Int,(mx x3_1 t230)=j_:=⟨_,rfl⟩
    replace H:(tree_Depth.l0 k1 (mx (ji7) t231) l0 (l0.length:Int) (wrap64 (x8_1+1)))=some r:=by first|(rw [hji7] at H;exact H)|(simp only [hji7] at H ⊢;exact H)
    (try rw [hji7] at A5)
    (try rw [hji7] at A6)
    have hji7_:(if x3_1 < t230 then t230 else x3_1)=ji7:=hji7
    obtain ⟨ji8,hji8⟩ : ∃ j_:Int,(mx (ji7) t231)=j_:=⟨_,rfl⟩
    replace H:(tree_Depth.l0 k1 ji8 l0 (l0.length:Int) (wrap64 (x8_1+1)))=some r:=by first|(rw [hji8] at H;exact H)|(simp only [hji8] at H ⊢;exact H)
    (try rw [hji8] at A5)
    (try rw [hji8] at A6)
    have hji8_:(if (ji7) < t231 then t231 else (ji7))=ji8:=hji8
    have H':=Aside0.mk H
    clear H
    have p228:0≤(x8_1:Int):=of_decide_eq_true as_
    have q228:x8_1 < (l0.length:Int):=of_decide_eq_true as_
    obtain ⟨ad228,A228_2,c228_2,A228_3,c228_3,A228_4,c228_4,e228,hx228_0,hx228_1,hx228_2,hx228_3,hx228_4,hx228_5,hl228_2,hi228_2,hl228_3,hi228_3,hl228_4,hi228_4⟩:=at_T76 HR0.out x8_1 p228 q228
    cases e228
    replace hx228_0:=(cb_ HB.out hx228_0:_)
    replace hx228_1:=(cb_ HB.out hx228_1:_)
    replace hx228_2:=(cb_ HB.out hx228_2:_)
    replace hx228_3:=(cb_ HB.out hx228_3:_)
    replace hx228_4:=(cb_ HB.out hx228_4:_)
    replace hx228_5:=(cb_ HB.out hx228_5:_)
    have HR228_2:=Aside0.mk hi228_2
    have HC228_2:=Aside0.mk hl228_2
    clear hi228_2 hl228_2
    have HR228_3:=Aside0.mk hi228_3
    have HC228_3:=Aside0.mk hl228_3
    clear hi228_3 hl228_3
    have HR228_4:=Aside0.mk hi228_4
    have HC228_4:=Aside0.mk hl228_4
    clear hi228_4 hl228_4
    replace p228:=eq_true p228
    replace q228:=eq_true q228
    try go_wp2_with (first|((with_reducible refine gate_dst (N:=5) rfl ?_);refine bx_ (N:=5) (cs:=#[.string (⟨#[]⟩:ByteArray),.string (⟨#[]⟩:ByteArray),.slice none 0 0,.slice none 0 0,.slice none 0 0,.int .i64 0]) (t:=76) ?_;intro gb229 hg w9 hbox hb;have BK229:=Aside0.mk (hbox);have GW229:=Aside0.mk ((gs_ hg (bl_ HB.out):w.heap.size≤gb229));have GE229:=Aside0.mk ((gs_ hg (bl_ HB.out):w.heap.size≤gb229));replace HB:=Aside0.mk (below_step (bl_ HB.out) hb);clear hb hbox hg;obtain ⟨hcz10_0,hcz10_1,hcz10_2,hcz10_3,hcz10_4,hcz10_5,hfz10_0,hfz10_1,hfz10_2,hfz10_3,hfz10_4,hfz10_5⟩:=zf6_ BK229.out))
    have n0_:Aside0 (((((((w9.setCell ⟨gb229,0,none⟩ (.string ((rd_T76 l0 x8_1).f0))).setCell ⟨gb229,1,none⟩ (.string ((rd_T76 l0 x8_1).f1))).setCell ⟨gb229,2,none⟩ (.slice A228_2 ((rd_T76 l0 x8_1).f2).length c228_2)).setCell ⟨gb229,3,none⟩ (.slice A228_3 ((rd_T76 l0 x8_1).f3).length c228_3)).setCell ⟨gb229,4,none⟩ (.slice A228_4 ((rd_T76 l0 x8_1).f4).length c228_4)).setCell ⟨gb229,5,none⟩ (.int .i64 ((rd_T76 l0 x8_1).f5))).heap[gb229]?=some (.cells #[.string ((rd_T76 l0 x8_1).f0),.string ((rd_T76 l0 x8_1).f1),.slice A228_2 ((rd_T76 l0 x8_1).f2).length c228_2,.slice A228_3 ((rd_T76 l0 x8_1).f3).length c228_3,.slice A228_4 ((rd_T76 l0 x8_1).f4).length c228_4,.int .i64 ((rd_T76 l0 x8_1).f5)] 76 (0,0))):=⟨kbc_ BK229.out⟩
    have n1_:Aside0 (Below w.heap.size w ((((((w9.setCell ⟨gb229,0,none⟩ (.string ((rd_T76 l0 x8_1).f0))).setCell ⟨gb229,1,none⟩ (.string ((rd_T76 l0 x8_1).f1))).setCell ⟨gb229,2,none⟩ (.slice A228_2 ((rd_T76 l0 x8_1).f2).length c228_2)).setCell ⟨gb229,3,none⟩ (.slice A228_3 ((rd_T76 l0 x8_1).f3).length c228_3)).setCell ⟨gb229,4,none⟩ (.slice A228_4 ((rd_T76 l0 x8_1).f4).length c228_4)).setCell ⟨gb229,5,none⟩ (.int .i64 ((rd_T76 l0 x8_1).f5)))):=⟨bl_ HB.out⟩
    (try clear BK229)
    (try clear HB)
    generalize ((((((w9.setCell ⟨gb229,0,none⟩ (.string ((rd_T76 l0 x8_1).f0))).setCell ⟨gb229,1,none⟩ (.string ((rd_T76 l0 x8_1).f1))).setCell ⟨gb229,2,none⟩ (.slice A228_2 ((rd_T76 l0 x8_1).f2).length c228_2)).setCell ⟨gb229,3,none⟩ (.slice A228_3 ((rd_T76 l0 x8_1).f3).length c228_3)).setCell ⟨gb229,4,none⟩ (.slice A228_4 ((rd_T76 l0 x8_1).f4).length c228_4)).setCell ⟨gb229,5,none⟩ (.int .i64 ((rd_T76 l0 x8_1).f5)))=w11 at n0_ n1_ ⊢
    have BK229:=n0_
    have HB:=n1_
    clear n0_ n1_
    replace BK229:=Aside0.mk (blk_drew BK229.out)
    replace HB:=Aside0.mk (below_drew1 HB.out)
    refine start_ (n:=9) (S:=fun w'=>w'.cell? ⟨gb229,0,none⟩=some (.string ((rd_T76 l0 x8_1).f0))∧w'.cell? ⟨gb229,1,none⟩=some (.string ((rd_T76 l0 x8_1).f1))∧w'.cell? ⟨gb229,2,none⟩=some (.slice A228_2 ((rd_T76 l0 x8_1).f2).length c228_2)∧w'.cell? ⟨gb229,3,none⟩=some (.slice A228_3 ((rd_T76 l0 x8_1).f3).length c228_3)∧w'.cell? ⟨gb229,4,none⟩=some (.slice A228_4 ((rd_T76 l0 x8_1).f4).length c228_4)∧w'.cell? ⟨gb229,5,none⟩=some (.int .i64 ((rd_T76 l0 x8_1).f5))) (ds:=[]) (flg 9 0) (by kernel_rfl) rfl (by kernel_rfl) ⟨zc_ BK229.out 0,zc_ BK229.out 1,zc_ BK229.out 2,zc_ BK229.out 3,zc_ BK229.out 4,zc_ BK229.out 5⟩ (fun hHeld=>?_);refine with_tabW tree_Depth.tab5 tree_Depth.bits5 (fun HT_ HW_=>?_)
    generalize w11.drew=w12 at BK229 HB hHeld ⊢
    refine pu_ 0 12 (flg 9 1) ?_
    refine pu_ 1 13 (flg 9 3) ?_
    refine pu_ 4 16 (flg 9 19) ?_
    refine ta_ 2 14 (flg 9 23) hHeld ?_
    refine ta_ 5 17 (flg 9 55) hHeld ?_
    refine one_ (i:=3) (N:=some 15) (flg 9 63) rfl rfl (one_of HT_.out (by kernel_rfl)) (by decide) (fun K hK=>?_)
    refine goes_ Tryd.func18 (by kernel_rfl) rfl #[.slice A228_3 ((rd_T76 l0 x8_1).f3).length c228_3] (by rfl) rfl rfl ar_ ?_
    with_reducible refine (ih k1 (by have:=HK1.out;omega) _ _ ((rd_T76 l0 x8_1).f3) t230 _ ?side1 ?side2 A5.out).mono ?_
    (case side1=>exact kc_ HR228_3.out HB.out)
    (case side2=>exact HC228_3.out)
    rintro e w13 ⟨rfl,hb⟩
    refine ⟨_,rfl,?_⟩
    replace BK229:=Aside0.mk (bb_ BK229.out hb)
    replace HB:=Aside0.mk (below_step (bl_ HB.out) hb)
    refine ko_ hK (fun hHeld=>?_)
    clear hK K
    refine nm_ ?_
    refine one_ (i:=6) (N:=some 18) (flg 9 127) rfl rfl (one_of HT_.out (by kernel_rfl)) (by decide) (fun K hK=>?_)
    refine goes_ Tryd.func18 (by kernel_rfl) rfl #[.slice A228_4 ((rd_T76 l0 x8_1).f4).length c228_4] (by rfl) rfl rfl ar_ ?_
    with_reducible refine (ih k1 (by have:=HK1.out;omega) _ _ ((rd_T76 l0 x8_1).f4) t231 _ ?side1 ?side2 A6.out).mono ?_
    (case side1=>exact kc_ HR228_4.out HB.out)
    (case side2=>exact HC228_4.out)
    rintro e w14 ⟨rfl,hb⟩
    refine ⟨_,rfl,?_⟩
    replace BK229:=Aside0.mk (bb_ BK229.out hb)
    replace HB:=Aside0.mk (below_step (bl_ HB.out) hb)
    refine ko_ hK (fun hHeld=>?_)
    clear hK K
    refine nm_ ?_
    refine pu_ 7 19 (flg 9 255) ?_
    refine pu_ 8 3 (flg 9 511) ?_
    refine done_ (done_of HT_.out (by kernel_rfl)) ?_
    try go_wp2
    go_roundg k1
    case measure=>have:=HK1.out;omega
    case rel=>exact ⟨(ji8),(wrap64 (x8_1+1)),(by first|rfl|(simp;done)|(simp only [← hji8] <;> (first|rfl|simp))|(simp [*];done)),rf_,H',⟨by have:=HK1.out;omega⟩,⟨bl_ HB.out⟩⟩
   ·rw [if_neg c2] at H
    have c2b0:=decide_eq_false c2
    clear c2
    obtain rfl:=Option.some.inj H
    go_wp2
    go_ret
    exact ⟨rt_,bl_ HB.out⟩
end Go.Proofs.YtnnbbeloifhofaaDoor.P
end
section
namespace Go.Proofs.YtnnbbeloifhofaaDoor.P
open Go Go.RowKit Go.Proofs
open Go.Proofs.YtnnbbeloifhofaaDoorW.PrintWords Go.Proofs.YtnnbbeloifhofaaDoorW.PrintLast Go.Proofs.YtnnbbeloifhofaaDoorW.PrintMore
theorem rdRE (pre:List RE) (x:RE) (xs:List RE):rd_T24 (pre++x :: xs) (pre.length:Int)=x:=getD_mid ..
theorem rdRS (pre:List RS) (x:RS) (xs:List RS):rd_T29 (pre++x :: xs) (pre.length:Int)=x:=getD_mid ..
theorem rdTE (pre:List TE) (x:TE) (xs:List TE):rd_T33 (pre++x :: xs) (pre.length:Int)=x:=getD_mid ..
theorem rdTS (pre:List TS) (x:TS) (xs:List TS):rd_T76 (pre++x :: xs) (pre.length:Int)=x:=getD_mid ..
theorem snoc {α:Type} (pre:List α) (x:α) (xs:List α):pre++x :: xs=(pre++[x])++xs:=by simp
theorem size_loop : ∀ (xs pre:List RE) (acc:Int),(∀ y ∈ xs,Ev (fun k=>helmsmanref12_size.f k y.f3) (szEs y.f3:Int))→(pre++xs).length < 4611686018427387904→0≤acc→acc+szEs xs < 4611686018427387904→
    Ev (fun k=>helmsmanref12_size.l0 k (pre++xs) acc pre.length) (acc+szEs xs - xs.length):=by
  intro xs
  induction xs with
  | nil=>
    intro pre acc _ _ _ _
    refine Ev.step (fun k=>helmsmanref12_size.l0.eq_2 _ _ _ k) (Ev.no (end_not pre) ?_)
    rw [szEs,List.length_nil];simpa using Ev.now acc
  | cons x xs ih=>
    intro pre acc h hl h0 h1
    refine Ev.step (fun k=>helmsmanref12_size.l0.eq_2 _ _ _ k) (Ev.yes (mid_lt pre x xs) (Ev.yes (by omega) ?_))
    rw [rdRE]
    refine Ev.bind (h x (List.mem_cons_self ..)) ?_
    rw [szEs,szE_eq] at h1
    rw [next_len pre x xs hl,wrap64_small (by omega) (by omega),snoc]
    have:=ih (pre++[x]) (acc+szEs x.f3) (fun y hy=>h y (List.mem_cons_of_mem _ hy)) (by rw [← snoc];exact hl) (by omega) (by push_cast at h1 ⊢;omega)
    rw [show acc+(szEs (x :: xs):Int) - ((x :: xs).length:Int)=acc+(szEs x.f3:Int)+(szEs xs:Int) - (xs.length:Int) by rw [szEs,szE_eq,List.length_cons];push_cast;omega]
    exact this
theorem size_ev' : ∀ x:RE,bulkE x < 1099511627776→Ev (fun k=>helmsmanref12_size.f k x.f3) (szEs x.f3:Int):=RE.all fun x ih hb=>by
  rw [bulkE_eq] at hb
  have hl:=len_bulkEs x.f3
  have hs:=szEs_bulk x.f3
  refine Ev.step (fun k=>helmsmanref12_size.f.eq_2 _ k) ?_
  have:=size_loop x.f3 [] (x.f3.length:Int) (fun y hy=>ih y hy (by have:=mem_bulkEs hy;omega)) (by rw [List.nil_append];omega) (by omega) (by omega)
  rw [show (x.f3.length:Int)+(szEs x.f3:Int) - (x.f3.length:Int)=szEs x.f3 by omega] at this
  exact this
theorem size_ev (l:List RE) (hb:bulkEs l < 1099511627775):Ev (fun k=>helmsmanref12_size.f k l) (szEs l:Int):=
  size_ev' ⟨⟨#[]⟩,⟨#[]⟩,0,l,0⟩ (by rw [bulkE_eq];exact (show 0+0+bulkEs l+1 < _ by omega))
theorem Size_loop : ∀ (xs pre:List RS) (acc:Int),(∀ y ∈ xs,bulkS y < 1099511627775∧Ev (fun k=>helmsmanref12_Size.f k y.f3) (szSs y.f3:Int)∧Ev (fun k=>helmsmanref12_Size.f k y.f4) (szSs y.f4:Int))→(pre++xs).length < 4611686018427387904→0≤acc→acc+szSs xs < 4611686018427387904→
    Ev (fun k=>helmsmanref12_Size.l0 k (pre++xs) acc pre.length) (acc+szSs xs - xs.length):=by
  intro xs
  induction xs with
  | nil=>
    intro pre acc _ _ _ _
    refine Ev.step (fun k=>helmsmanref12_Size.l0.eq_2 _ _ _ k) (Ev.no (end_not pre) ?_)
    rw [szSs,List.length_nil];simpa using Ev.now acc
  | cons x xs ih=>
    intro pre acc h hl h0 h1
    obtain ⟨hb,ha,hc⟩:=h x (List.mem_cons_self ..)
    rw [bulkS_eq] at hb
    rw [szSs,szS_eq] at h1
    refine Ev.step (fun k=>helmsmanref12_Size.l0.eq_2 _ _ _ k) (Ev.yes (mid_lt pre x xs) (Ev.yes (by omega) ?_))
    rw [rdRS]
    refine Ev.bind (size_ev x.f2 (by omega)) (Ev.bind ha (Ev.bind hc ?_))
    rw [next_len pre x xs hl,wrap64_small (x:=acc+(szEs x.f2:Int)) (by omega) (by omega),wrap64_small (x:=acc+(szEs x.f2:Int)+(szSs x.f3:Int)) (by omega) (by omega),wrap64_small (by omega) (by omega),snoc]
    have:=ih (pre++[x]) (acc+szEs x.f2+szSs x.f3+szSs x.f4) (fun y hy=>h y (List.mem_cons_of_mem _ hy)) (by rw [← snoc];exact hl) (by omega) (by push_cast at h1 ⊢;omega)
    rw [show acc+(szSs (x :: xs):Int) - ((x :: xs).length:Int)=acc+(szEs x.f2:Int)+(szSs x.f3:Int)+(szSs x.f4:Int)+(szSs xs:Int) - (xs.length:Int) by rw [szSs,szS_eq,List.length_cons];push_cast;omega]
    exact this
theorem Size_of (l:List RS) (hb:bulkSs l < 1099511627775) (h : ∀ y ∈ l,Ev (fun k=>helmsmanref12_Size.f k y.f3) (szSs y.f3:Int)∧Ev (fun k=>helmsmanref12_Size.f k y.f4) (szSs y.f4:Int)):Ev (fun k=>helmsmanref12_Size.f k l) (szSs l:Int):=by
  have hl:=len_bulkSs l
  have hs:=szSs_bulk l
  refine Ev.step (fun k=>helmsmanref12_Size.f.eq_2 _ k) ?_
  have:=Size_loop l [] (l.length:Int) (fun y hy=>⟨by have:=mem_bulkSs hy;omega,h y hy⟩) (by rw [List.nil_append];omega) (by omega) (by omega)
  rw [show (l.length:Int)+(szSs l:Int) - (l.length:Int)=szSs l by omega] at this
  exact this
theorem Size_ev' : ∀ x:RS,bulkS x < 1099511627775→Ev (fun k=>helmsmanref12_Size.f k x.f3) (szSs x.f3:Int)∧Ev (fun k=>helmsmanref12_Size.f k x.f4) (szSs x.f4:Int):=RS.all fun x iha ihb hb=>by
  rw [bulkS_eq] at hb
  exact ⟨Size_of _ (by omega) (fun y hy=>iha y hy (by have:=mem_bulkSs hy;omega)),Size_of _ (by omega) (fun y hy=>ihb y hy (by have:=mem_bulkSs hy;omega))⟩
theorem Size_ev (l:List RS) (hb:bulkSs l < 1099511627775):Ev (fun k=>helmsmanref12_Size.f k l) (szSs l:Int):=
  Size_of l hb (fun y hy=>Size_ev' y (by have:=mem_bulkSs hy;omega))
theorem convE_f3 (x:RE):(convE x).f3=convEs x.f3:=by rw [convE_eq]
theorem convS_f2 (x:RS):(convS x).f2=convEs x.f2:=by rw [convS_eq]
theorem convS_f3 (x:RS):(convS x).f3=convSs x.f3:=by rw [convS_eq]
theorem convS_f4 (x:RS):(convS x).f4=convSs x.f4:=by rw [convS_eq]
theorem exprs_loop : ∀ (xs:List RE) (pre:List TE) (n acc:Int),(∀ y ∈ xs,Ev (fun k=>tree_exprs.f k (convEs y.f3)) (szEs y.f3:Int))→n=((pre++convEs xs).length:Int)→(pre++convEs xs).length < 4611686018427387904→0≤acc→acc+szEs xs < 4611686018427387904→
    Ev (fun k=>tree_exprs.l0 k acc (pre++convEs xs) n pre.length) (acc+szEs xs):=by
  intro xs
  induction xs with
  | nil=>
    intro pre n acc _ hn _ _ _
    subst hn
    refine Ev.step (fun k=>tree_exprs.l0.eq_2 _ _ _ _ k) (Ev.no (end_not pre) ?_)
    rw [szEs];simpa using Ev.now acc
  | cons x xs ih=>
    intro pre n acc h hn hl h0 h1
    subst hn
    rw [convEs] at hl ⊢
    rw [szEs,szE_eq] at h1
    refine Ev.step (fun k=>tree_exprs.l0.eq_2 _ _ _ _ k) (Ev.yes (mid_lt pre (convE x) (convEs xs)) (Ev.yes (by omega) (Ev.yes (mid_lt pre (convE x) (convEs xs)) ?_)))
    rw [rdTE,convE_f3]
    refine Ev.bind (h x (List.mem_cons_self ..)) ?_
    rw [next_len pre (convE x) (convEs xs) hl,wrap64_small (x:=1+(szEs x.f3:Int)) (by omega) (by omega),wrap64_small (x:=acc+(1+(szEs x.f3:Int))) (by omega) (by omega)]
    have:=ih (pre++[convE x]) ((pre++convE x :: convEs xs).length:Int) (acc+(1+szEs x.f3)) (fun y hy=>h y (List.mem_cons_of_mem _ hy)) (by rw [← snoc]) (by rw [← snoc];exact hl) (by omega) (by omega)
    rw [← snoc] at this
    rw [szEs,szE_eq,show acc+(((szEs x.f3+1+szEs xs:Nat)):Int)=acc+(1+(szEs x.f3:Int))+(szEs xs:Int) by push_cast;omega]
    exact this
theorem exprs_ev' : ∀ x:RE,bulkE x < 1099511627776→Ev (fun k=>tree_exprs.f k (convEs x.f3)) (szEs x.f3:Int):=RE.all fun x ih hb=>by
  rw [bulkE_eq] at hb
  have hl:=len_bulkEs x.f3
  have hs:=szEs_bulk x.f3
  refine Ev.step (fun k=>tree_exprs.f.eq_2 _ k) ?_
  have:=exprs_loop x.f3 [] ((convEs x.f3).length:Int) 0 (fun y hy=>ih y hy (by have:=mem_bulkEs hy;omega)) rfl (by rw [List.nil_append,convEs_len];omega) (by omega) (by omega)
  rw [Int.zero_add] at this
  exact this
theorem exprs_ev (l:List RE) (hb:bulkEs l < 1099511627775):Ev (fun k=>tree_exprs.f k (convEs l)) (szEs l:Int):=
  exprs_ev' ⟨⟨#[]⟩,⟨#[]⟩,0,l,0⟩ (by rw [bulkE_eq];exact (show 0+0+bulkEs l+1 < _ by omega))
theorem stmts_loop : ∀ (xs:List RS) (pre:List TS) (n acc:Int),(∀ y ∈ xs,bulkS y < 1099511627775∧Ev (fun k=>tree_stmts.f k (convSs y.f3)) (szSs y.f3:Int)∧Ev (fun k=>tree_stmts.f k (convSs y.f4)) (szSs y.f4:Int))→n=((pre++convSs xs).length:Int)→(pre++convSs xs).length < 4611686018427387904→0≤acc→acc+szSs xs < 4611686018427387904→
    Ev (fun k=>tree_stmts.l0 k acc (pre++convSs xs) n pre.length) (acc+szSs xs):=by
  intro xs
  induction xs with
  | nil=>
    intro pre n acc _ hn _ _ _
    subst hn
    refine Ev.step (fun k=>tree_stmts.l0.eq_2 _ _ _ _ k) (Ev.no (end_not pre) ?_)
    rw [szSs];simpa using Ev.now acc
  | cons x xs ih=>
    intro pre n acc h hn hl h0 h1
    obtain ⟨hb,ha,hc⟩:=h x (List.mem_cons_self ..)
    rw [bulkS_eq] at hb
    subst hn
    rw [convSs] at hl ⊢
    rw [szSs,szS_eq] at h1
    refine Ev.step (fun k=>tree_stmts.l0.eq_2 _ _ _ _ k) (Ev.yes (mid_lt pre (convS x) (convSs xs)) (Ev.yes (by omega) (Ev.yes (mid_lt pre (convS x) (convSs xs)) ?_)))
    rw [rdTS,convS_f2,convS_f3,convS_f4]
    refine Ev.bind (exprs_ev x.f2 (by omega)) (Ev.bind ha (Ev.bind hc ?_))
    rw [next_len pre (convS x) (convSs xs) hl,wrap64_small (x:=1+(szEs x.f2:Int)) (by omega) (by omega),wrap64_small (x:=1+(szEs x.f2:Int)+(szSs x.f3:Int)) (by omega) (by omega),wrap64_small (x:=1+(szEs x.f2:Int)+(szSs x.f3:Int)+(szSs x.f4:Int)) (by omega) (by omega),wrap64_small (by omega) (by omega)]
    have:=ih (pre++[convS x]) ((pre++convS x :: convSs xs).length:Int) (acc+(1+szEs x.f2+szSs x.f3+szSs x.f4)) (fun y hy=>h y (List.mem_cons_of_mem _ hy)) (by rw [← snoc]) (by rw [← snoc];exact hl) (by omega) (by omega)
    rw [← snoc] at this
    rw [szSs,szS_eq,show acc+(((szEs x.f2+szSs x.f3+szSs x.f4+1+szSs xs:Nat)):Int)=acc+(1+(szEs x.f2:Int)+(szSs x.f3:Int)+(szSs x.f4:Int))+(szSs xs:Int) by push_cast;omega]
    exact this
theorem stmts_of (l:List RS) (hb:bulkSs l < 1099511627775) (h : ∀ y ∈ l,Ev (fun k=>tree_stmts.f k (convSs y.f3)) (szSs y.f3:Int)∧Ev (fun k=>tree_stmts.f k (convSs y.f4)) (szSs y.f4:Int)):Ev (fun k=>tree_stmts.f k (convSs l)) (szSs l:Int):=by
  have hl:=len_bulkSs l
  have hs:=szSs_bulk l
  refine Ev.step (fun k=>tree_stmts.f.eq_2 _ k) ?_
  have:=stmts_loop l [] ((convSs l).length:Int) 0 (fun y hy=>⟨by have:=mem_bulkSs hy;omega,h y hy⟩) rfl (by rw [List.nil_append,convSs_len];omega) (by omega) (by omega)
  rw [Int.zero_add] at this
  exact this
theorem stmts_ev' : ∀ x:RS,bulkS x < 1099511627775→Ev (fun k=>tree_stmts.f k (convSs x.f3)) (szSs x.f3:Int)∧Ev (fun k=>tree_stmts.f k (convSs x.f4)) (szSs x.f4:Int):=RS.all fun x iha ihb hb=>by
  rw [bulkS_eq] at hb
  exact ⟨stmts_of _ (by omega) (fun y hy=>iha y hy (by have:=mem_bulkSs hy;omega)),stmts_of _ (by omega) (fun y hy=>ihb y hy (by have:=mem_bulkSs hy;omega))⟩
theorem stmts_ev (l:List RS) (hb:bulkSs l < 1099511627775):Ev (fun k=>tree_stmts.f k (convSs l)) (szSs l:Int):=
  stmts_of l hb (fun y hy=>stmts_ev' y (by have:=mem_bulkSs hy;omega))
theorem Depth_loop : ∀ (xs pre:List RS) (acc:Nat),(∀ y ∈ xs,Ev (fun k=>helmsmanref12_Depth.f k y.f3) (dpSs y.f3:Int)∧Ev (fun k=>helmsmanref12_Depth.f k y.f4) (dpSs y.f4:Int))→(pre++xs).length < 4611686018427387904→max (acc+1) (dpSs xs) < 4611686018427387904→
    Ev (fun k=>helmsmanref12_Depth.l0 k (pre++xs) acc pre.length) ((max (acc+1) (dpSs xs):Nat):Int):=by
  intro xs
  induction xs with
  | nil=>
    intro pre acc _ _ h1
    refine Ev.step (fun k=>helmsmanref12_Depth.l0.eq_2 _ _ _ k) (Ev.no (end_not pre) ?_)
    rw [dpSs,Nat.max_eq_left (Nat.zero_le _)] at *
    rw [wrap64_small (by omega) (by omega)]
    exact Ev.now _
  | cons x xs ih=>
    intro pre acc h hl h1
    obtain ⟨ha,hc⟩:=h x (List.mem_cons_self ..)
    rw [dpSs,dpS_eq] at h1 ⊢
    refine Ev.step (fun k=>helmsmanref12_Depth.l0.eq_2 _ _ _ k) (Ev.yes (mid_lt pre x xs) (Ev.yes (by omega) ?_))
    rw [rdRS]
    refine Ev.bind ha (Ev.bind hc ?_)
    rw [next_len pre x xs hl,snoc pre x xs]
    have key : ∀ m:Nat,max (acc+1) (max (max (dpSs x.f3) (dpSs x.f4)+1) (dpSs xs))=max (m+1) (dpSs xs)→Ev (fun k=>helmsmanref12_Depth.l0 k (pre++[x]++xs) m (pre++[x]).length) ((max (acc+1) (max (max (dpSs x.f3) (dpSs x.f4)+1) (dpSs xs)):Nat):Int):=by
      intro m hm
      rw [hm]
      exact ih (pre++[x]) m (fun y hy=>h y (List.mem_cons_of_mem _ hy)) (by rw [← snoc];exact hl) (by omega)
    by_cases c1:(dpSs x.f4:Int) > dpSs x.f3
    · refine Ev.yes c1 ?_
      by_cases c2:(dpSs x.f4:Int) > acc
      · exact Ev.yes c2 (key _ (by omega))
      · exact Ev.no c2 (key _ (by omega))
    · refine Ev.no c1 ?_
      by_cases c2:(dpSs x.f3:Int) > acc
      · exact Ev.yes c2 (key _ (by omega))
      · exact Ev.no c2 (key _ (by omega))
theorem Depth_of (l:List RS) (hb:bulkSs l < 1099511627775) (h : ∀ y ∈ l,Ev (fun k=>helmsmanref12_Depth.f k y.f3) (dpSs y.f3:Int)∧Ev (fun k=>helmsmanref12_Depth.f k y.f4) (dpSs y.f4:Int)):Ev (fun k=>helmsmanref12_Depth.f k l) (dpSs l:Int):=by
  have hl:=len_bulkSs l
  have hs:=szSs_bulk l
  have hd:=dpSs_sz l
  refine Ev.step (fun k=>helmsmanref12_Depth.f.eq_2 _ k) ?_
  cases l with
  | nil=>exact Ev.yes rfl (Ev.now _)
  | cons x xs=>
    refine Ev.no (by rw [List.length_cons];omega) ?_
    have:=Depth_loop (x :: xs) [] 0 h (by rw [List.nil_append];omega) (by omega)
    rw [show max (0+1) (dpSs (x :: xs))=dpSs (x :: xs) by rw [dpSs];omega] at this
    exact this
theorem Depth_ev' : ∀ x:RS,bulkS x < 1099511627775→Ev (fun k=>helmsmanref12_Depth.f k x.f3) (dpSs x.f3:Int)∧Ev (fun k=>helmsmanref12_Depth.f k x.f4) (dpSs x.f4:Int):=RS.all fun x iha ihb hb=>by
  rw [bulkS_eq] at hb
  exact ⟨Depth_of _ (by omega) (fun y hy=>iha y hy (by have:=mem_bulkSs hy;omega)),Depth_of _ (by omega) (fun y hy=>ihb y hy (by have:=mem_bulkSs hy;omega))⟩
theorem Depth_ev (l:List RS) (hb:bulkSs l < 1099511627775):Ev (fun k=>helmsmanref12_Depth.f k l) (dpSs l:Int):=
  Depth_of l hb (fun y hy=>Depth_ev' y (by have:=mem_bulkSs hy;omega))
theorem mx_int (a b:Int):mx a b=max a b:=by unfold mx;split <;> omega
theorem tDepth_loop : ∀ (xs:List RS) (pre:List TS) (n acc:Int),(∀ y ∈ xs,Ev (fun k=>tree_Depth.f k (convSs y.f3)) (dpSs y.f3:Int)∧Ev (fun k=>tree_Depth.f k (convSs y.f4)) (dpSs y.f4:Int))→n=((pre++convSs xs).length:Int)→(pre++convSs xs).length < 4611686018427387904→-1≤acc→max acc (dpSs xs) < 4611686018427387904→
    Ev (fun k=>tree_Depth.l0 k acc (pre++convSs xs) n pre.length) (max (acc+1) (dpSs xs)):=by
  intro xs
  induction xs with
  | nil=>
    intro pre n acc _ hn _ h0 h1
    subst hn
    refine Ev.step (fun k=>tree_Depth.l0.eq_2 _ _ _ _ k) (Ev.no (end_not pre) ?_)
    rw [dpSs] at *
    rw [wrap64_small (by omega) (by omega),show max (acc+1) ((0:Nat):Int)=acc+1 by omega]
    exact Ev.now _
  | cons x xs ih=>
    intro pre n acc h hn hl h0 h1
    obtain ⟨ha,hc⟩:=h x (List.mem_cons_self ..)
    subst hn
    rw [convSs] at hl ⊢
    rw [dpSs,dpS_eq] at h1 ⊢
    refine Ev.step (fun k=>tree_Depth.l0.eq_2 _ _ _ _ k) (Ev.yes (mid_lt pre (convS x) (convSs xs)) (Ev.yes (by omega) (Ev.yes (mid_lt pre (convS x) (convSs xs)) ?_)))
    rw [rdTS,convS_f3,convS_f4]
    refine Ev.bind ha (Ev.bind hc ?_)
    rw [next_len pre (convS x) (convSs xs) hl,mx_int,mx_int]
    have:=ih (pre++[convS x]) ((pre++convS x :: convSs xs).length:Int) (max (max acc (dpSs x.f3)) (dpSs x.f4)) (fun y hy=>h y (List.mem_cons_of_mem _ hy)) (by rw [← snoc]) (by rw [← snoc];exact hl) (by omega) (by omega)
    rw [← snoc] at this
    rw [show max (acc+1) ((max (max (dpSs x.f3) (dpSs x.f4)+1) (dpSs xs):Nat):Int)=max (max (max acc (dpSs x.f3:Int)) (dpSs x.f4:Int)+1) (dpSs xs:Int) by omega]
    exact this
theorem tDepth_of (l:List RS) (hb:bulkSs l < 1099511627775) (h : ∀ y ∈ l,Ev (fun k=>tree_Depth.f k (convSs y.f3)) (dpSs y.f3:Int)∧Ev (fun k=>tree_Depth.f k (convSs y.f4)) (dpSs y.f4:Int)):Ev (fun k=>tree_Depth.f k (convSs l)) (dpSs l:Int):=by
  have hl:=len_bulkSs l
  have hs:=szSs_bulk l
  have hd:=dpSs_sz l
  refine Ev.step (fun k=>tree_Depth.f.eq_2 _ k) ?_
  have:=tDepth_loop l [] ((convSs l).length:Int) (-1) h rfl (by rw [List.nil_append,convSs_len];omega) (by omega) (by omega)
  rw [show max ((-1:Int)+1) (dpSs l:Int)=dpSs l by omega] at this
  exact this
theorem tDepth_ev' : ∀ x:RS,bulkS x < 1099511627775→Ev (fun k=>tree_Depth.f k (convSs x.f3)) (dpSs x.f3:Int)∧Ev (fun k=>tree_Depth.f k (convSs x.f4)) (dpSs x.f4:Int):=RS.all fun x iha ihb hb=>by
  rw [bulkS_eq] at hb
  exact ⟨tDepth_of _ (by omega) (fun y hy=>iha y hy (by have:=mem_bulkSs hy;omega)),tDepth_of _ (by omega) (fun y hy=>ihb y hy (by have:=mem_bulkSs hy;omega))⟩
theorem tDepth_ev (l:List RS) (hb:bulkSs l < 1099511627775):Ev (fun k=>tree_Depth.f k (convSs l)) (dpSs l:Int):=
  tDepth_of l hb (fun y hy=>tDepth_ev' y (by have:=mem_bulkSs hy;omega))
end Go.Proofs.YtnnbbeloifhofaaDoor.P
end
section
namespace Go.Proofs.YtnnbbeloifhofaaDoor.P
open Go.RowKit Go.Proofs.YtnnbbeloifhofaaDoorW.PrintWords Go.Proofs.YtnnbbeloifhofaaDoorW.PrintLast Go.Proofs.YtnnbbeloifhofaaDoorW.PrintMore
attribute [local go_sem] max2_int min2_int max_two min_two max_three min_three max_four min_four
set_option linter.unusedVariables false
set_option linter.unusedSimpArgs false
def slices_Equal_string_string.l0:Nat→List ByteArray→List ByteArray→Int→Int→Option (Bool)
 | 0,_,_,_,_=>none
 | k+1,x0,x1,x12,x13=>if x13 < x12 then (if 0≤x13 then (if x13 < (x0.length:Int) then (if x13 < (x1.length:Int) then (if (rdOf ByteArray.empty x0 x13).toList=(rdOf ByteArray.empty x1 x13).toList then (slices_Equal_string_string.l0 k x0 x1 x12 (wrap64 (x13+1))) else (some false)) else (none)) else (none)) else (none)) else (some true)
def slices_Equal_string_string.f (k:Nat) (l0:List ByteArray) (l1:List ByteArray):Option (Bool):=if (l0.length:Int)=(l1.length:Int) then (slices_Equal_string_string.l0 k l0 l1 (l0.length:Int) 0) else (some false)
set_option maxHeartbeats 8000000 in
set_option maxRecDepth 100000 in
theorem slices_Equal_string_string.calls (k:Nat) (A0:Option Addr) (c0:Nat) (l0:List ByteArray) (A1:Option Addr) (c1:Nat) (l1:List ByteArray) (r:Bool) (w:World) (hr0:Kd.C Kd.string w A0 l0.length l0) (hc0:l0.length≤c0) (hr1:Kd.C Kd.string w A1 l1.length l1) (hc1:l1.length≤c1) (h:slices_Equal_string_string.f k l0 l1=some r) :
  Calls Tryd.prog 45 #[.slice A0 l0.length c0,.slice A1 l1.length c1] w fun e w'=>e=.returned (.bool r)∧Drawn0 w w':=by
 have HR0:=Aside0.mk hr0
 have HC0:=Aside0.mk hc0
 clear hr0 hc0
 have HR1:=Aside0.mk hr1
 have HC1:=Aside0.mk hc1
 clear hr1 hc1
 have H:(if (l0.length:Int)=(l1.length:Int) then (slices_Equal_string_string.l0 k l0 l1 (l0.length:Int) 0) else (some false))=some r:=h
 clear h
 by_cases c3:(l0.length:Int)=(l1.length:Int)
 ·rw [if_pos c3] at H
  have c3b0:((l0.length:Int) == (l1.length:Int))=true:=beq_iff_eq.mpr c3
  have c3b1:((l0.length:Int) != (l1.length:Int))=false:=bne_eq_false_iff_eq.mpr c3
  have c3b2:(l0.length == l1.length)=true:=by first|simpa using c3|(simp at c3 ⊢;omega)
  clear c3
  have H':=Aside0.mk H
  clear H
  go_enter Tryd.func45,Tryd.ntmps45
  go_wp2
  repeat (go_quiet (fail);try go_wp2)
  (try simp only [Act.put,List.setIfInBounds_toArray,List.set_cons_succ,List.set_cons_zero])
  go_loopg [13] k (fun kq v13 w'=>∃ (x13_1:Int),v13=.int .i64 x13_1∧Aside0 (slices_Equal_string_string.l0 kq l0 l1 (l0.length:Int) x13_1=some r)∧Aside0 (kq≤k)∧Drawn0 w w')
  case atStart=>exact ⟨(0),rf_,H',⟨Nat.le_refl _⟩,by repeat (first|exact Drawn0.refl _|apply Drawn0.step)⟩
  case round=>
   clear H'
   obtain ⟨x13_1,rfl,HA,HK1,⟨m1,rfl⟩⟩:=hrel
   cases gk with
   | zero=>exact absurd HA.out (by simp [slices_Equal_string_string.l0])
   | succ k1=>
    have H:=HA.out
    clear HA
    simp only [slices_Equal_string_string.l0] at H
    by_cases c4:x13_1 < (l0.length:Int)
    ·rw [if_pos c4] at H
     have c4b0:=decide_eq_true c4
     clear c4
     revert H
     refine gd_ fun c5 H=>?_
     have c5b0:=decide_eq_true c5
     clear c5
     revert H
     refine gd_ fun c6 H=>?_
     have c6b0:=decide_eq_true c6
     clear c6
     revert H
     refine gd_ fun c7 H=>?_
     have c7b0:=decide_eq_true c7
     clear c7
     by_cases c8:(rdOf ByteArray.empty l0 x13_1).toList=(rdOf ByteArray.empty l1 x13_1).toList
     ·rw [if_pos c8] at H
      have c8b0:=bqt_ c8
      have c8b1:=bnf_ c8
      clear c8
      have H':=Aside0.mk H
      clear H
      have p346:0≤(x13_1:Int):=of_decide_eq_true as_
      have q346:x13_1 < (l0.length:Int):=of_decide_eq_true as_
      obtain ⟨ad346,e346,hx346_0⟩:=Kd.at_string HR0.out x13_1 p346 q346
      cases e346
      replace p346:=eq_true p346
      replace q346:=eq_true q346
      have p347:0≤(x13_1:Int):=of_decide_eq_true as_
      have q347:x13_1 < (l1.length:Int):=of_decide_eq_true as_
      obtain ⟨ad347,e347,hx347_0⟩:=Kd.at_string HR1.out x13_1 p347 q347
      cases e347
      replace p347:=eq_true p347
      replace q347:=eq_true q347
      go_wp2
      repeat (go_quiet (fail);try go_wp2)
      go_roundg k1
      case measure=>have:=HK1.out;omega
      case rel=>exact ⟨(wrap64 (x13_1+1)),rf_,H',⟨by have:=HK1.out;omega⟩,by repeat (first|exact Drawn0.refl _|apply Drawn0.step)⟩
     ·rw [if_neg c8] at H
      have c8b0:=bqf_ c8
      have c8b1:=bnt_ c8
      obtain rfl:=Option.some.inj H
      have p346:0≤(x13_1:Int):=of_decide_eq_true as_
      have q346:x13_1 < (l0.length:Int):=of_decide_eq_true as_
      obtain ⟨ad346,e346,hx346_0⟩:=Kd.at_string HR0.out x13_1 p346 q346
      cases e346
      replace p346:=eq_true p346
      replace q346:=eq_true q346
      have p347:0≤(x13_1:Int):=of_decide_eq_true as_
      have q347:x13_1 < (l1.length:Int):=of_decide_eq_true as_
      obtain ⟨ad347,e347,hx347_0⟩:=Kd.at_string HR1.out x13_1 p347 q347
      cases e347
      replace p347:=eq_true p347
      replace q347:=eq_true q347
      go_wp2
      repeat (go_quiet (fail);try go_wp2)
      go_ret
      exact ⟨by first|rfl|(simp;done)|(simp [*];done),by repeat (first|exact Drawn0.refl _|apply Drawn0.step)⟩
    ·rw [if_neg c4] at H
     have c4b0:=decide_eq_false c4
     clear c4
     obtain rfl:=Option.some.inj H
     go_wp2
     repeat (go_quiet (fail);try go_wp2)
     go_ret
     exact ⟨by first|rfl|(simp;done)|(simp [*];done),by repeat (first|exact Drawn0.refl _|apply Drawn0.step)⟩
 ·rw [if_neg c3] at H
  have c3b0:((l0.length:Int) == (l1.length:Int))=false:=beq_eq_false_iff_ne.mpr c3
  have c3b1:((l0.length:Int) != (l1.length:Int))=true:=bne_iff_ne.mpr c3
  have c3b2:(l0.length == l1.length)=false:=by first|simpa using c3|(simp at c3 ⊢;omega)
  obtain rfl:=Option.some.inj H
  go_enter Tryd.func45,Tryd.ntmps45
  go_wp2
  repeat (go_quiet (fail);try go_wp2)
  go_ret
  exact ⟨by first|rfl|(simp;done)|(simp [*];done),by repeat (first|exact Drawn0.refl _|apply Drawn0.step)⟩
end Go.Proofs.YtnnbbeloifhofaaDoor.P
end
section
namespace Go.Proofs.YtnnbbeloifhofaaDoor.P
open Go.RowKit Go.Proofs.YtnnbbeloifhofaaDoorW.PrintWords Go.Proofs.YtnnbbeloifhofaaDoorW.PrintLast Go.Proofs.YtnnbbeloifhofaaDoorW.PrintMore
attribute [local go_sem] max2_int min2_int max_two min_two max_three min_three max_four min_four
set_option linter.unusedVariables false
set_option linter.unusedSimpArgs false
def tree_Same_1.f (k:Nat) (a0_0:ByteArray) (l0_1:List ByteArray) (a1_0:ByteArray) (l1_1:List ByteArray):Option (Bool):=if a0_0.toList=a1_0.toList then ((slices_Equal_string_string.f k l0_1 l1_1).bind fun t350=>(some t350)) else (some false)
set_option maxHeartbeats 8000000 in
set_option maxRecDepth 100000 in
theorem tree_Same_1.calls (k:Nat) (a0_0:ByteArray) (A0_1:Option Addr) (c0_1:Nat) (l0_1:List ByteArray) (a1_0:ByteArray) (A1_1:Option Addr) (c1_1:Nat) (l1_1:List ByteArray) (r:Bool) (w:World) (hr0_1:Kd.C Kd.string w A0_1 l0_1.length l0_1) (hc0_1:l0_1.length≤c0_1) (hr1_1:Kd.C Kd.string w A1_1 l1_1.length l1_1) (hc1_1:l1_1.length≤c1_1) (h:tree_Same_1.f k a0_0 l0_1 a1_0 l1_1=some r) :
  Calls Tryd.prog 44 #[.agg #[.string a0_0,.slice A0_1 l0_1.length c0_1],.agg #[.string a1_0,.slice A1_1 l1_1.length c1_1]] w fun e w'=>e=.returned (.bool r)∧Below w.heap.size w w':=by
 have hu79:=Tryd.underlying79
 have HR0_1:=Aside0.mk hr0_1
 have HC0_1:=Aside0.mk hc0_1
 clear hr0_1 hc0_1
 have HR1_1:=Aside0.mk hr1_1
 have HC1_1:=Aside0.mk hc1_1
 clear hr1_1 hc1_1
 have HB:=Aside0.mk (Below.refl w.heap.size w)
 have H:(if a0_0.toList=a1_0.toList then ((slices_Equal_string_string.f k l0_1 l1_1).bind fun t350=>(some t350)) else (some false))=some r:=h
 clear h
 by_cases c3:a0_0.toList=a1_0.toList
 ·rw [if_pos c3] at H
  have c3b0:=bqt_ c3
  have c3b1:=bnf_ c3
  clear c3
  revert H
  refine bd_ fun t350 A4 H=>?_
  obtain rfl:=Option.some.inj H
  go_enter Tryd.func44,Tryd.ntmps44
  go_wp2_with (first|((with_reducible refine gate_dst (N:=2) rfl ?_);refine bx_ (N:=2) (cs:=#[.string a0_0,.slice A0_1 l0_1.length c0_1]) (t:=79) ?_;intro gb348 hg w5 hbox hb;have BK348:=Aside0.mk (hbox);have GW348:=Aside0.mk ((gs_ hg (bl_ HB.out):w.heap.size≤gb348));have GE348:=Aside0.mk ((gs_ hg (bl_ HB.out):w.heap.size≤gb348));replace HB:=Aside0.mk (below_step (bl_ HB.out) hb);clear hb hbox hg)|((with_reducible refine gate_dst (N:=3) rfl ?_);refine bx_ (N:=3) (cs:=#[.string a1_0,.slice A1_1 l1_1.length c1_1]) (t:=79) ?_;intro gb349 hg w6 hbox hb;have BK349:=Aside0.mk (hbox);have GW349:=Aside0.mk ((gs_ hg (bl_ HB.out):w.heap.size≤gb349));have GE349:=Aside0.mk ((gs_ hg (bl_ HB.out):w.heap.size≤gb349));replace HB:=Aside0.mk (below_step (bl_ HB.out) hb);have NB348_349:=Aside0.mk ((nl_ hg BK348.out:gb348≠gb349));have NB349_348:=Aside0.mk ((nr_ hg BK348.out:gb349≠gb348));replace BK348:=Aside0.mk (bb_ BK348.out hb);clear hb hbox hg;have hnb7:=NB348_349.out;have hnc7:=NB349_348.out;obtain ⟨hcz8_0,hcz8_1,hfz8_0,hfz8_1⟩:=zf2_ BK348.out;obtain ⟨hcz9_0,hcz9_1,hfz9_0,hfz9_1⟩:=zf2_ BK349.out)|(go_at_call 45;(with_reducible refine (slices_Equal_string_string.calls k _ _ l0_1 _ _ l1_1 t350 _ ?side1 ?side2 ?side3 ?side4 A4.out).mono ?_);(case side1=>exact kc_ HR0_1.out HB.out);(case side2=>exact HC0_1.out);(case side3=>exact kc_ HR1_1.out HB.out);(case side4=>exact HC1_1.out);rintro e w' ⟨rfl,⟨nd,rfl⟩⟩))
  go_ret
  exact ⟨rt_,bl_ HB.out⟩
 ·rw [if_neg c3] at H
  have c3b0:=bqf_ c3
  have c3b1:=bnt_ c3
  obtain rfl:=Option.some.inj H
  go_enter Tryd.func44,Tryd.ntmps44
  go_wp2_with (first|((with_reducible refine gate_dst (N:=2) rfl ?_);refine bx_ (N:=2) (cs:=#[.string a0_0,.slice A0_1 l0_1.length c0_1]) (t:=79) ?_;intro gb348 hg w10 hbox hb;have BK348:=Aside0.mk (hbox);have GW348:=Aside0.mk ((gs_ hg (bl_ HB.out):w.heap.size≤gb348));have GE348:=Aside0.mk ((gs_ hg (bl_ HB.out):w.heap.size≤gb348));replace HB:=Aside0.mk (below_step (bl_ HB.out) hb);clear hb hbox hg)|((with_reducible refine gate_dst (N:=3) rfl ?_);refine bx_ (N:=3) (cs:=#[.string a1_0,.slice A1_1 l1_1.length c1_1]) (t:=79) ?_;intro gb349 hg w11 hbox hb;have BK349:=Aside0.mk (hbox);have GW349:=Aside0.mk ((gs_ hg (bl_ HB.out):w.heap.size≤gb349));have GE349:=Aside0.mk ((gs_ hg (bl_ HB.out):w.heap.size≤gb349));replace HB:=Aside0.mk (below_step (bl_ HB.out) hb);have NB348_349:=Aside0.mk ((nl_ hg BK348.out:gb348≠gb349));have NB349_348:=Aside0.mk ((nr_ hg BK348.out:gb349≠gb348));replace BK348:=Aside0.mk (bb_ BK348.out hb);clear hb hbox hg;have hnb12:=NB348_349.out;have hnc12:=NB349_348.out;obtain ⟨hcz13_0,hcz13_1,hfz13_0,hfz13_1⟩:=zf2_ BK348.out;obtain ⟨hcz14_0,hcz14_1,hfz14_0,hfz14_1⟩:=zf2_ BK349.out))
  go_ret
  exact ⟨rt_,bl_ HB.out⟩
end Go.Proofs.YtnnbbeloifhofaaDoor.P
end
section
namespace Go.Proofs.YtnnbbeloifhofaaDoor.P
open Go.RowKit Go.Proofs.YtnnbbeloifhofaaDoorW.PrintWords Go.Proofs.YtnnbbeloifhofaaDoorW.PrintLast Go.Proofs.YtnnbbeloifhofaaDoorW.PrintMore
attribute [local go_sem] max2_int min2_int max_two min_two max_three min_three max_four min_four
set_option linter.unusedVariables false
set_option linter.unusedSimpArgs false
def tree_Enum_at_tree_Same_1.l0:Nat→List (S79)→List (S79)→Int→Int→Option (Bool)
 | 0,_,_,_,_=>none
 | k+1,x1,x15,x16,x17=>if x17 < x16 then (if 0≤x17 then (if x17 < (x15.length:Int) then (if x17 < (x1.length:Int) then ((tree_Same_1.f k ((rd_T79 x15 x17).f0) ((rd_T79 x15 x17).f1) ((rd_T79 x1 x17).f0) ((rd_T79 x1 x17).f1)).bind fun t355=>(if t355=true then (tree_Enum_at_tree_Same_1.l0 k x1 x15 x16 (wrap64 (x17+1))) else (some false))) else (none)) else (none)) else (none)) else (some true)
def tree_Enum_at_tree_Same_1.f (k:Nat) (l0:List (S79)) (l1:List (S79))  : Option (Bool):=if (l0.length:Int)=(l1.length:Int) then (tree_Enum_at_tree_Same_1.l0 k l1 l0 (l0.length:Int) 0) else (some false)
set_option maxHeartbeats 8000000 in
set_option maxRecDepth 100000 in
theorem tree_Enum_at_tree_Same_1.calls (k:Nat) (A0:Option Addr) (c0:Nat) (l0:List (S79)) (A1:Option Addr) (c1:Nat) (l1:List (S79))  (r:Bool) (w:World) (hr0:Kd.C k79 w A0 l0.length l0) (hc0:l0.length≤c0) (hr1:Kd.C k79 w A1 l1.length l1) (hc1:l1.length≤c1) (h:tree_Enum_at_tree_Same_1.f k l0 l1=some r) :
  Calls Tryd.prog 49 #[.slice A0 l0.length c0,.slice A1 l1.length c1,.func (.func 44) #[] #[]] w fun e w'=>e=.returned (.bool r)∧Below w.heap.size w w':=by
 have hu79:=Tryd.underlying79
 have HR0:=Aside0.mk hr0
 have HC0:=Aside0.mk hc0
 clear hr0 hc0
 have HR1:=Aside0.mk hr1
 have HC1:=Aside0.mk hc1
 clear hr1 hc1
 have HB:=Aside0.mk (Below.refl w.heap.size w)
 have H:(if (l0.length:Int)=(l1.length:Int) then (tree_Enum_at_tree_Same_1.l0 k l1 l0 (l0.length:Int) 0) else (some false))=some r:=h
 clear h
 by_cases c4:(l0.length:Int)=(l1.length:Int)
 ·rw [if_pos c4] at H
  have c4b0:((l0.length:Int) == (l1.length:Int))=true:=beq_iff_eq.mpr c4
  have c4b1:((l0.length:Int) != (l1.length:Int))=false:=bne_eq_false_iff_eq.mpr c4
  have c4b2:(l0.length == l1.length)=true:=by first|simpa using c4|(simp at c4 ⊢;omega)
  clear c4
  have H':=Aside0.mk H
  clear H
  go_enter Tryd.func49,Tryd.ntmps49
  go_wp2
  (try simp only [Act.put,List.setIfInBounds_toArray,List.set_cons_succ,List.set_cons_zero])
  go_loopg [17] k (fun kq v17 w'=>∃ (x17_1:Int),v17=.int .i64 x17_1∧Aside0 (tree_Enum_at_tree_Same_1.l0 kq l1 l0 (l0.length:Int) x17_1=some r)∧Aside0 (kq≤k)∧Aside0 (Below w.heap.size w w'))
  case atStart=>exact ⟨(0),rf_,H',⟨Nat.le_refl _⟩,⟨bl_ HB.out⟩⟩
  case round=>
   clear H'
   obtain ⟨x17_1,rfl,HA,HK1,HB⟩:=hrel
   cases gk with
   | zero=>exact absurd HA.out (by simp [tree_Enum_at_tree_Same_1.l0])
   | succ k1=>
    have H:=HA.out
    clear HA
    simp only [tree_Enum_at_tree_Same_1.l0] at H
    by_cases c5:x17_1 < (l0.length:Int)
    ·rw [if_pos c5] at H
     have c5b0:=decide_eq_true c5
     clear c5
     revert H
     refine gd_ fun c6 H=>?_
     have c6b0:=decide_eq_true c6
     clear c6
     revert H
     refine gd_ fun c7 H=>?_
     have c7b0:=decide_eq_true c7
     clear c7
     revert H
     refine gd_ fun c8 H=>?_
     have c8b0:=decide_eq_true c8
     clear c8
     revert H
     refine bd_ fun t355 A9 H=>?_
     by_cases c10:t355=true
     ·subst c10
      replace H:=ip_ H
      have H':=Aside0.mk H
      clear H
      have p351:0≤(x17_1:Int):=of_decide_eq_true as_
      have q351:x17_1 < (l0.length:Int):=of_decide_eq_true as_
      obtain ⟨ad351,A351_1,c351_1,e351,hx351_0,hx351_1,hl351_1,hi351_1⟩:=at_T79 HR0.out x17_1 p351 q351
      cases e351
      replace hx351_0:=(cb_ HB.out hx351_0:_)
      replace hx351_1:=(cb_ HB.out hx351_1:_)
      have HR351_1:=Aside0.mk hi351_1
      have HC351_1:=Aside0.mk hl351_1
      clear hi351_1 hl351_1
      replace p351:=eq_true p351
      replace q351:=eq_true q351
      go_wp2_with (first|((with_reducible refine gate_dst (N:=8) rfl ?_);refine bx_ (N:=8) (cs:=#[.string (⟨#[]⟩:ByteArray),.slice none 0 0]) (t:=79) ?_;intro gb352 hg w11 hbox hb;have BK352:=Aside0.mk (hbox);have GW352:=Aside0.mk ((gs_ hg (bl_ HB.out):w.heap.size≤gb352));have GE352:=Aside0.mk ((gs_ hg (bl_ HB.out):w.heap.size≤gb352));replace HB:=Aside0.mk (below_step (bl_ HB.out) hb);clear hb hbox hg;obtain ⟨hcz12_0,hcz12_1,hfz12_0,hfz12_1⟩:=zf2_ BK352.out;have p353:0≤(x17_1:Int):=of_decide_eq_true as_;have q353:x17_1 < (l1.length:Int):=of_decide_eq_true as_;obtain ⟨ad353,A353_1,c353_1,e353,hx353_0,hx353_1,hl353_1,hi353_1⟩:=at_T79 HR1.out x17_1 p353 q353;cases e353;have hn353_0:ad353.block≠gb352:=Nat.ne_of_lt (Nat.lt_of_lt_of_le (by have:=World.block_lt_of_cell? _ _ hx353_0;first|rwa [add_block] at this|exact this) GW352.out);have hn353_1:ad353.block≠gb352:=Nat.ne_of_lt (Nat.lt_of_lt_of_le (by have:=World.block_lt_of_cell? _ _ hx353_0;first|rwa [add_block] at this|exact this) GW352.out);replace hx353_0:=(cb_ HB.out hx353_0:_);replace hx353_1:=(cb_ HB.out hx353_1:_);have HR353_1:=Aside0.mk hi353_1;have HC353_1:=Aside0.mk hl353_1;clear hi353_1 hl353_1;replace hx353_0:=(cell_far (p:=⟨gb352,0,none⟩) (ab_ hn353_0) (.string ((rd_T79 l0 x17_1).f0))).trans hx353_0;replace hx353_1:=(cell_far (p:=⟨gb352,0,none⟩) (ab_ hn353_0) (.string ((rd_T79 l0 x17_1).f0))).trans hx353_1;replace hx353_0:=(cell_far (p:=⟨gb352,1,none⟩) (ab_ hn353_1) (.slice A351_1 ((rd_T79 l0 x17_1).f1).length c351_1)).trans hx353_0;replace hx353_1:=(cell_far (p:=⟨gb352,1,none⟩) (ab_ hn353_1) (.slice A351_1 ((rd_T79 l0 x17_1).f1).length c351_1)).trans hx353_1;clear hn353_0;clear hn353_1;replace p353:=eq_true p353;replace q353:=eq_true q353)|((with_reducible refine gate_dst (N:=9) rfl ?_);refine bx_ (N:=9) (cs:=#[.string (⟨#[]⟩:ByteArray),.slice none 0 0]) (t:=79) ?_;intro gb354 hg w13 hbox hb;have n0_:=Aside0.mk (blk_below (g:=gb352) (o:=.cells #[.string ((rd_T79 l0 x17_1).f0),.slice A351_1 ((rd_T79 l0 x17_1).f1).length c351_1] 79 (0,0)) (kbc_ BK352.out) hb);have n1_:=Aside0.mk (below_step (bl_ HB.out) hb);have n2_:=Aside0.mk (hbox);have n3_:=Aside0.mk ((gs_ hg (bl_ HB.out):w.heap.size≤gb354));have n4_:=Aside0.mk ((gs_ hg (bl_ HB.out):w.heap.size≤gb354));have n5_:=Aside0.mk ((by rw [hg];exact Nat.ne_of_lt (blk_lt (g:=gb352) (o:=.cells #[.string ((rd_T79 l0 x17_1).f0),.slice A351_1 ((rd_T79 l0 x17_1).f1).length c351_1] 79 (0,0)) (kbc_ BK352.out)):gb352≠gb354));have n6_:=Aside0.mk ((by rw [hg];exact Nat.ne_of_gt (blk_lt (g:=gb352) (o:=.cells #[.string ((rd_T79 l0 x17_1).f0),.slice A351_1 ((rd_T79 l0 x17_1).f1).length c351_1] 79 (0,0)) (kbc_ BK352.out)):gb354≠gb352));clear BK352;clear HB;have BK352:=n0_;have HB:=n1_;have BK354:=n2_;have GW354:=n3_;have GE354:=n4_;have NB352_354:=n5_;have NB354_352:=n6_;clear n0_ n1_ n2_ n3_ n4_ n5_ n6_;clear hb hbox hg;have hnb14:=NB354_352.out;have hnc14:=NB352_354.out;obtain ⟨hcz15_0,hcz15_1,hfz15_0,hfz15_1⟩:=zf2_ BK354.out;obtain ⟨hcz16_0,hcz16_1,hfz16_0,hfz16_1⟩:=zf2_ BK352.out)|((with_reducible refine (tree_Same_1.calls k1 ((rd_T79 l0 x17_1).f0) _ _ ((rd_T79 l0 x17_1).f1) ((rd_T79 l1 x17_1).f0) _ _ ((rd_T79 l1 x17_1).f1) true _ ?side1 ?side2 ?side3 ?side4 A9.out).mono ?_);(case side1=>exact Kd.C_below HR351_1.out (bl_ HB.out));(case side2=>exact HC351_1.out);(case side3=>exact Kd.C_below HR353_1.out (bl_ HB.out));(case side4=>exact HC353_1.out);rintro e w17 ⟨rfl,hb⟩;replace BK352:=Aside0.mk (blk_below (g:=gb352) (o:=.cells #[.string ((rd_T79 l0 x17_1).f0),.slice A351_1 ((rd_T79 l0 x17_1).f1).length c351_1] 79 (0,0)) (kbc_ BK352.out) hb);replace BK354:=Aside0.mk (blk_below (g:=gb354) (o:=.cells #[.string ((rd_T79 l1 x17_1).f0),.slice A353_1 ((rd_T79 l1 x17_1).f1).length c353_1] 79 (0,0)) (kbc_ BK354.out) hb);replace HB:=Aside0.mk (below_step (bl_ HB.out) hb)))
      go_roundg k1
      case measure=>have:=HK1.out;omega
      case rel=>exact ⟨(wrap64 (x17_1+1)),rf_,H',⟨by have:=HK1.out;omega⟩,⟨bl_ HB.out⟩⟩
     ·replace c10:=Bool.eq_false_iff.mpr c10
      subst c10
      replace H:=in_ H
      obtain rfl:=Option.some.inj H
      have p351:0≤(x17_1:Int):=of_decide_eq_true as_
      have q351:x17_1 < (l0.length:Int):=of_decide_eq_true as_
      obtain ⟨ad351,A351_1,c351_1,e351,hx351_0,hx351_1,hl351_1,hi351_1⟩:=at_T79 HR0.out x17_1 p351 q351
      cases e351
      replace hx351_0:=(cb_ HB.out hx351_0:_)
      replace hx351_1:=(cb_ HB.out hx351_1:_)
      have HR351_1:=Aside0.mk hi351_1
      have HC351_1:=Aside0.mk hl351_1
      clear hi351_1 hl351_1
      replace p351:=eq_true p351
      replace q351:=eq_true q351
      go_wp2_with (first|((with_reducible refine gate_dst (N:=8) rfl ?_);refine bx_ (N:=8) (cs:=#[.string (⟨#[]⟩:ByteArray),.slice none 0 0]) (t:=79) ?_;intro gb352 hg w18 hbox hb;have BK352:=Aside0.mk (hbox);have GW352:=Aside0.mk ((gs_ hg (bl_ HB.out):w.heap.size≤gb352));have GE352:=Aside0.mk ((gs_ hg (bl_ HB.out):w.heap.size≤gb352));replace HB:=Aside0.mk (below_step (bl_ HB.out) hb);clear hb hbox hg;obtain ⟨hcz19_0,hcz19_1,hfz19_0,hfz19_1⟩:=zf2_ BK352.out;have p353:0≤(x17_1:Int):=of_decide_eq_true as_;have q353:x17_1 < (l1.length:Int):=of_decide_eq_true as_;obtain ⟨ad353,A353_1,c353_1,e353,hx353_0,hx353_1,hl353_1,hi353_1⟩:=at_T79 HR1.out x17_1 p353 q353;cases e353;have hn353_0:ad353.block≠gb352:=Nat.ne_of_lt (Nat.lt_of_lt_of_le (by have:=World.block_lt_of_cell? _ _ hx353_0;first|rwa [add_block] at this|exact this) GW352.out);have hn353_1:ad353.block≠gb352:=Nat.ne_of_lt (Nat.lt_of_lt_of_le (by have:=World.block_lt_of_cell? _ _ hx353_0;first|rwa [add_block] at this|exact this) GW352.out);replace hx353_0:=(cb_ HB.out hx353_0:_);replace hx353_1:=(cb_ HB.out hx353_1:_);have HR353_1:=Aside0.mk hi353_1;have HC353_1:=Aside0.mk hl353_1;clear hi353_1 hl353_1;replace hx353_0:=(cell_far (p:=⟨gb352,0,none⟩) (ab_ hn353_0) (.string ((rd_T79 l0 x17_1).f0))).trans hx353_0;replace hx353_1:=(cell_far (p:=⟨gb352,0,none⟩) (ab_ hn353_0) (.string ((rd_T79 l0 x17_1).f0))).trans hx353_1;replace hx353_0:=(cell_far (p:=⟨gb352,1,none⟩) (ab_ hn353_1) (.slice A351_1 ((rd_T79 l0 x17_1).f1).length c351_1)).trans hx353_0;replace hx353_1:=(cell_far (p:=⟨gb352,1,none⟩) (ab_ hn353_1) (.slice A351_1 ((rd_T79 l0 x17_1).f1).length c351_1)).trans hx353_1;clear hn353_0;clear hn353_1;replace p353:=eq_true p353;replace q353:=eq_true q353)|((with_reducible refine gate_dst (N:=9) rfl ?_);refine bx_ (N:=9) (cs:=#[.string (⟨#[]⟩:ByteArray),.slice none 0 0]) (t:=79) ?_;intro gb354 hg w20 hbox hb;have n0_:=Aside0.mk (blk_below (g:=gb352) (o:=.cells #[.string ((rd_T79 l0 x17_1).f0),.slice A351_1 ((rd_T79 l0 x17_1).f1).length c351_1] 79 (0,0)) (kbc_ BK352.out) hb);have n1_:=Aside0.mk (below_step (bl_ HB.out) hb);have n2_:=Aside0.mk (hbox);have n3_:=Aside0.mk ((gs_ hg (bl_ HB.out):w.heap.size≤gb354));have n4_:=Aside0.mk ((gs_ hg (bl_ HB.out):w.heap.size≤gb354));have n5_:=Aside0.mk ((by rw [hg];exact Nat.ne_of_lt (blk_lt (g:=gb352) (o:=.cells #[.string ((rd_T79 l0 x17_1).f0),.slice A351_1 ((rd_T79 l0 x17_1).f1).length c351_1] 79 (0,0)) (kbc_ BK352.out)):gb352≠gb354));have n6_:=Aside0.mk ((by rw [hg];exact Nat.ne_of_gt (blk_lt (g:=gb352) (o:=.cells #[.string ((rd_T79 l0 x17_1).f0),.slice A351_1 ((rd_T79 l0 x17_1).f1).length c351_1] 79 (0,0)) (kbc_ BK352.out)):gb354≠gb352));clear BK352;clear HB;have BK352:=n0_;have HB:=n1_;have BK354:=n2_;have GW354:=n3_;have GE354:=n4_;have NB352_354:=n5_;have NB354_352:=n6_;clear n0_ n1_ n2_ n3_ n4_ n5_ n6_;clear hb hbox hg;have hnb21:=NB354_352.out;have hnc21:=NB352_354.out;obtain ⟨hcz22_0,hcz22_1,hfz22_0,hfz22_1⟩:=zf2_ BK354.out;obtain ⟨hcz23_0,hcz23_1,hfz23_0,hfz23_1⟩:=zf2_ BK352.out)|((with_reducible refine (tree_Same_1.calls k1 ((rd_T79 l0 x17_1).f0) _ _ ((rd_T79 l0 x17_1).f1) ((rd_T79 l1 x17_1).f0) _ _ ((rd_T79 l1 x17_1).f1) false _ ?side1 ?side2 ?side3 ?side4 A9.out).mono ?_);(case side1=>exact Kd.C_below HR351_1.out (bl_ HB.out));(case side2=>exact HC351_1.out);(case side3=>exact Kd.C_below HR353_1.out (bl_ HB.out));(case side4=>exact HC353_1.out);rintro e w24 ⟨rfl,hb⟩;replace BK352:=Aside0.mk (blk_below (g:=gb352) (o:=.cells #[.string ((rd_T79 l0 x17_1).f0),.slice A351_1 ((rd_T79 l0 x17_1).f1).length c351_1] 79 (0,0)) (kbc_ BK352.out) hb);replace BK354:=Aside0.mk (blk_below (g:=gb354) (o:=.cells #[.string ((rd_T79 l1 x17_1).f0),.slice A353_1 ((rd_T79 l1 x17_1).f1).length c353_1] 79 (0,0)) (kbc_ BK354.out) hb);replace HB:=Aside0.mk (below_step (bl_ HB.out) hb)))
      go_ret
      exact ⟨rt_,bl_ HB.out⟩
    ·rw [if_neg c5] at H
     have c5b0:=decide_eq_false c5
     clear c5
     obtain rfl:=Option.some.inj H
     go_wp2
     go_ret
     exact ⟨rt_,bl_ HB.out⟩
 ·rw [if_neg c4] at H
  have c4b0:((l0.length:Int) == (l1.length:Int))=false:=beq_eq_false_iff_ne.mpr c4
  have c4b1:((l0.length:Int) != (l1.length:Int))=true:=bne_iff_ne.mpr c4
  have c4b2:(l0.length == l1.length)=false:=by first|simpa using c4|(simp at c4 ⊢;omega)
  obtain rfl:=Option.some.inj H
  go_enter Tryd.func49,Tryd.ntmps49
  go_wp2
  go_ret
  exact ⟨rt_,bl_ HB.out⟩
end Go.Proofs.YtnnbbeloifhofaaDoor.P
end
section
namespace Go.Proofs.YtnnbbeloifhofaaDoor.P
open Go.RowKit Go.Proofs.YtnnbbeloifhofaaDoorW.PrintWords Go.Proofs.YtnnbbeloifhofaaDoorW.PrintLast Go.Proofs.YtnnbbeloifhofaaDoorW.PrintMore
attribute [local go_sem] max2_int min2_int max_two min_two max_three min_three max_four min_four
set_option linter.unusedVariables false
set_option linter.unusedSimpArgs false
theorem eqA80 (d:Nat) (w:World) (x0 y0:ByteArray) (x1 y1:ByteArray) (x2 y2:Int) :
    (Op.equalIn (d+2) 80 (.agg #[.string x0,.string x1,.int .i64 x2]) (.agg #[.string y0,.string y1,.int .i64 y2])).run Tryd.prog w=.ok (x0.toList == y0.toList && (x1.toList == y1.toList && (x2 == y2))) w:=by
  refine eqA_of Tryd.underlying80 (by kernel_rfl) ?_
  refine eqf_cons (by rfl) (by go_simp;rfl) (by go_simp;rfl) (by go_simp) ?_
  refine eqf_cons (by rfl) (by go_simp;rfl) (by go_simp;rfl) (by go_simp) ?_
  exact eqf_last (by rfl) (by go_simp;rfl) (by go_simp;rfl) (by go_simp)
end Go.Proofs.YtnnbbeloifhofaaDoor.P
end
section
namespace Go.Proofs.YtnnbbeloifhofaaDoor.P
open Go.RowKit Go.Proofs.YtnnbbeloifhofaaDoorW.PrintWords Go.Proofs.YtnnbbeloifhofaaDoorW.PrintLast Go.Proofs.YtnnbbeloifhofaaDoorW.PrintMore
attribute [local go_sem] max2_int min2_int max_two min_two max_three min_three max_four min_four
set_option linter.unusedVariables false
set_option linter.unusedSimpArgs false
attribute [local go_sem high] eqA80
def tree_Var.l0:Nat→List (S80)→List (S80)→Int→Int→Option (Bool)
 | 0,_,_,_,_=>none
 | k+1,x0,x1,x12,x13=>if x13 < x12 then (if 0≤x13 then (if x13 < (x0.length:Int) then (if x13 < (x1.length:Int) then (if (!((((rd_T80 x0 x13).f0).toList) == (((rd_T80 x1 x13).f0).toList)) || (!((((rd_T80 x0 x13).f1).toList) == (((rd_T80 x1 x13).f1).toList)) || (!(((rd_T80 x0 x13).f2) == ((rd_T80 x1 x13).f2)))))=true then (some false) else (tree_Var.l0 k x0 x1 x12 (wrap64 (x13+1)))) else (none)) else (none)) else (none)) else (some true)
def tree_Var.f (k:Nat) (l0:List (S80)) (l1:List (S80)):Option (Bool):=if (l0.length:Int)=(l1.length:Int) then (tree_Var.l0 k l0 l1 (l0.length:Int) 0) else (some false)
set_option maxHeartbeats 8000000 in
set_option maxRecDepth 100000 in
theorem tree_Var.calls (k:Nat) (A0:Option Addr) (c0:Nat) (l0:List (S80)) (A1:Option Addr) (c1:Nat) (l1:List (S80)) (r:Bool) (w:World) (hr0:Kd.C k80 w A0 l0.length l0) (hc0:l0.length≤c0) (hr1:Kd.C k80 w A1 l1.length l1) (hc1:l1.length≤c1) (h:tree_Var.f k l0 l1=some r) :
  Calls Tryd.prog 50 #[.slice A0 l0.length c0,.slice A1 l1.length c1] w fun e w'=>e=.returned (.bool r)∧Drawn0 w w':=by
 have hu80:=Tryd.underlying80
 have HR0:=Aside0.mk hr0
 have HC0:=Aside0.mk hc0
 clear hr0 hc0
 have HR1:=Aside0.mk hr1
 have HC1:=Aside0.mk hc1
 clear hr1 hc1
 have H:(if (l0.length:Int)=(l1.length:Int) then (tree_Var.l0 k l0 l1 (l0.length:Int) 0) else (some false))=some r:=h
 clear h
 by_cases c3:(l0.length:Int)=(l1.length:Int)
 ·rw [if_pos c3] at H
  have c3b0:((l0.length:Int) == (l1.length:Int))=true:=beq_iff_eq.mpr c3
  have c3b1:((l0.length:Int) != (l1.length:Int))=false:=bne_eq_false_iff_eq.mpr c3
  have c3b2:(l0.length == l1.length)=true:=by first|simpa using c3|(simp at c3 ⊢;omega)
  clear c3
  have H':=Aside0.mk H
  clear H
  go_enter Tryd.func50,Tryd.ntmps50
  go_wp2
  repeat (go_quiet (fail);try go_wp2)
  (try simp only [Act.put,List.setIfInBounds_toArray,List.set_cons_succ,List.set_cons_zero])
  go_loopg [13] k (fun kq v13 w'=>∃ (x13_1:Int),v13=.int .i64 x13_1∧Aside0 (tree_Var.l0 kq l0 l1 (l0.length:Int) x13_1=some r)∧Aside0 (kq≤k)∧Drawn0 w w')
  case atStart=>exact ⟨(0),rf_,H',⟨Nat.le_refl _⟩,by repeat (first|exact Drawn0.refl _|apply Drawn0.step)⟩
  case round=>
   clear H'
   obtain ⟨x13_1,rfl,HA,HK1,⟨m1,rfl⟩⟩:=hrel
   cases gk with
   | zero=>exact absurd HA.out (by simp [tree_Var.l0])
   | succ k1=>
    have H:=HA.out
    clear HA
    simp only [tree_Var.l0] at H
    by_cases c4:x13_1 < (l0.length:Int)
    ·rw [if_pos c4] at H
     have c4b0:=decide_eq_true c4
     clear c4
     revert H
     refine gd_ fun c5 H=>?_
     have c5b0:=decide_eq_true c5
     clear c5
     revert H
     refine gd_ fun c6 H=>?_
     have c6b0:=decide_eq_true c6
     clear c6
     revert H
     refine gd_ fun c7 H=>?_
     have c7b0:=decide_eq_true c7
     clear c7
     by_cases c8:(!((((rd_T80 l0 x13_1).f0).toList) == (((rd_T80 l1 x13_1).f0).toList)) || (!((((rd_T80 l0 x13_1).f1).toList) == (((rd_T80 l1 x13_1).f1).toList)) || (!(((rd_T80 l0 x13_1).f2) == ((rd_T80 l1 x13_1).f2)))))=true
     ·rw [if_pos c8] at H
      have c8b0:(!((((rd_T80 l0 x13_1).f0).toList) == (((rd_T80 l1 x13_1).f0).toList)) || (!((((rd_T80 l0 x13_1).f1).toList) == (((rd_T80 l1 x13_1).f1).toList)) || (!(((rd_T80 l0 x13_1).f2) == ((rd_T80 l1 x13_1).f2)))))=true:=c8
      clear c8
      obtain rfl:=Option.some.inj H
      have p356:0≤(x13_1:Int):=of_decide_eq_true as_
      have q356:x13_1 < (l0.length:Int):=of_decide_eq_true as_
      obtain ⟨ad356,e356,hx356_0,hx356_1,hx356_2⟩:=at_T80 HR0.out x13_1 p356 q356
      cases e356
      replace p356:=eq_true p356
      replace q356:=eq_true q356
      have p357:0≤(x13_1:Int):=of_decide_eq_true as_
      have q357:x13_1 < (l1.length:Int):=of_decide_eq_true as_
      obtain ⟨ad357,e357,hx357_0,hx357_1,hx357_2⟩:=at_T80 HR1.out x13_1 p357 q357
      cases e357
      replace p357:=eq_true p357
      replace q357:=eq_true q357
      go_wp2
      repeat (go_quiet (fail);try go_wp2)
      go_ret
      exact ⟨by first|rfl|(simp;done)|(simp [*];done),by repeat (first|exact Drawn0.refl _|apply Drawn0.step)⟩
     ·rw [if_neg c8] at H
      have c8b0:(!((((rd_T80 l0 x13_1).f0).toList) == (((rd_T80 l1 x13_1).f0).toList)) || (!((((rd_T80 l0 x13_1).f1).toList) == (((rd_T80 l1 x13_1).f1).toList)) || (!(((rd_T80 l0 x13_1).f2) == ((rd_T80 l1 x13_1).f2)))))=false:=by simpa using c8
      clear c8
      have H':=Aside0.mk H
      clear H
      have p356:0≤(x13_1:Int):=of_decide_eq_true as_
      have q356:x13_1 < (l0.length:Int):=of_decide_eq_true as_
      obtain ⟨ad356,e356,hx356_0,hx356_1,hx356_2⟩:=at_T80 HR0.out x13_1 p356 q356
      cases e356
      replace p356:=eq_true p356
      replace q356:=eq_true q356
      have p357:0≤(x13_1:Int):=of_decide_eq_true as_
      have q357:x13_1 < (l1.length:Int):=of_decide_eq_true as_
      obtain ⟨ad357,e357,hx357_0,hx357_1,hx357_2⟩:=at_T80 HR1.out x13_1 p357 q357
      cases e357
      replace p357:=eq_true p357
      replace q357:=eq_true q357
      go_wp2
      repeat (go_quiet (fail);try go_wp2)
      go_roundg k1
      case measure=>have:=HK1.out;omega
      case rel=>exact ⟨(wrap64 (x13_1+1)),rf_,H',⟨by have:=HK1.out;omega⟩,by repeat (first|exact Drawn0.refl _|apply Drawn0.step)⟩
    ·rw [if_neg c4] at H
     have c4b0:=decide_eq_false c4
     clear c4
     obtain rfl:=Option.some.inj H
     go_wp2
     repeat (go_quiet (fail);try go_wp2)
     go_ret
     exact ⟨by first|rfl|(simp;done)|(simp [*];done),by repeat (first|exact Drawn0.refl _|apply Drawn0.step)⟩
 ·rw [if_neg c3] at H
  have c3b0:((l0.length:Int) == (l1.length:Int))=false:=beq_eq_false_iff_ne.mpr c3
  have c3b1:((l0.length:Int) != (l1.length:Int))=true:=bne_iff_ne.mpr c3
  have c3b2:(l0.length == l1.length)=false:=by first|simpa using c3|(simp at c3 ⊢;omega)
  obtain rfl:=Option.some.inj H
  go_enter Tryd.func50,Tryd.ntmps50
  go_wp2
  repeat (go_quiet (fail);try go_wp2)
  go_ret
  exact ⟨by first|rfl|(simp;done)|(simp [*];done),by repeat (first|exact Drawn0.refl _|apply Drawn0.step)⟩
end Go.Proofs.YtnnbbeloifhofaaDoor.P
end
section
namespace Go.Proofs.YtnnbbeloifhofaaDoor.P
open Go.RowKit Go.Proofs.YtnnbbeloifhofaaDoorW.PrintWords Go.Proofs.YtnnbbeloifhofaaDoorW.PrintLast Go.Proofs.YtnnbbeloifhofaaDoorW.PrintMore
attribute [local go_sem] max2_int min2_int max_two min_two max_three min_three max_four min_four
set_option linter.unusedVariables false
set_option linter.unusedSimpArgs false
mutual
def tree_SameExpr.f:Nat→ByteArray→ByteArray→Int→List (S33)→Int→ByteArray→ByteArray→Int→List (S33)→Int→Option (Bool)
 | 0,_,_,_,_,_,_,_,_,_,_=>none
 | k+1,a0_0,a0_1,a0_2,l0_3,a0_4,a1_0,a1_1,a1_2,l1_3,a1_4=>if a0_0.toList=a1_0.toList then (if a0_1.toList=a1_1.toList then (if a0_2=a1_2 then ((tree_Expr_at_tree_SameExpr.f k l0_3 l1_3).bind fun t340=>(some t340)) else (some false)) else (some false)) else (some false)
def tree_Expr_at_tree_SameExpr.l0:Nat→List (S33)→List (S33)→Int→Int→Option (Bool)
 | 0,_,_,_,_=>none
 | k+1,x1,x15,x16,x17=>if x17 < x16 then (if 0≤x17 then (if x17 < (x15.length:Int) then (if x17 < (x1.length:Int) then ((tree_SameExpr.f k ((rd_T33 x15 x17).f0) ((rd_T33 x15 x17).f1) ((rd_T33 x15 x17).f2) ((rd_T33 x15 x17).f3) ((rd_T33 x15 x17).f4) ((rd_T33 x1 x17).f0) ((rd_T33 x1 x17).f1) ((rd_T33 x1 x17).f2) ((rd_T33 x1 x17).f3) ((rd_T33 x1 x17).f4)).bind fun t345=>(if t345=true then (tree_Expr_at_tree_SameExpr.l0 k x1 x15 x16 (wrap64 (x17+1))) else (some false))) else (none)) else (none)) else (none)) else (some true)
def tree_Expr_at_tree_SameExpr.f:Nat→List (S33)→List (S33)→Option (Bool)
 | 0,_,_=>none
 | k+1,l0,l1=>if (l0.length:Int)=(l1.length:Int) then (tree_Expr_at_tree_SameExpr.l0 k l1 l0 (l0.length:Int) 0) else (some false)
end
abbrev tree_SameExpr.Stmt (k:Nat):Prop:=∀ (a0_0:ByteArray) (a0_1:ByteArray) (a0_2:Int) (A0_3:Option Addr) (c0_3:Nat) (l0_3:List (S33)) (a0_4:Int) (a1_0:ByteArray) (a1_1:ByteArray) (a1_2:Int) (A1_3:Option Addr) (c1_3:Nat) (l1_3:List (S33)) (a1_4:Int) (r:Bool) (w:World) (hr0_3:Kd.C k33 w A0_3 l0_3.length l0_3) (hc0_3:l0_3.length≤c0_3) (hr1_3:Kd.C k33 w A1_3 l1_3.length l1_3) (hc1_3:l1_3.length≤c1_3) (h:tree_SameExpr.f k a0_0 a0_1 a0_2 l0_3 a0_4 a1_0 a1_1 a1_2 l1_3 a1_4=some r),
  Calls Tryd.prog 26 #[.agg #[.string a0_0,.string a0_1,.int .i64 a0_2,.slice A0_3 l0_3.length c0_3,.int .i64 a0_4],.agg #[.string a1_0,.string a1_1,.int .i64 a1_2,.slice A1_3 l1_3.length c1_3,.int .i64 a1_4]] w fun e w'=>e=.returned (.bool r)∧Below w.heap.size w w'
abbrev tree_Expr_at_tree_SameExpr.Stmt (k:Nat):Prop:=∀ (A0:Option Addr) (c0:Nat) (l0:List (S33)) (A1:Option Addr) (c1:Nat) (l1:List (S33))  (r:Bool) (w:World) (hr0:Kd.C k33 w A0 l0.length l0) (hc0:l0.length≤c0) (hr1:Kd.C k33 w A1 l1.length l1) (hc1:l1.length≤c1) (h:tree_Expr_at_tree_SameExpr.f k l0 l1=some r),
  Calls Tryd.prog 43 #[.slice A0 l0.length c0,.slice A1 l1.length c1,.func (.func 26) #[] #[]] w fun e w'=>e=.returned (.bool r)∧Below w.heap.size w w'
end Go.Proofs.YtnnbbeloifhofaaDoor.P
end
section
namespace Go.Proofs.YtnnbbeloifhofaaDoor.P
open Go.RowKit Go.Proofs.YtnnbbeloifhofaaDoorW.PrintWords Go.Proofs.YtnnbbeloifhofaaDoorW.PrintLast Go.Proofs.YtnnbbeloifhofaaDoorW.PrintMore
attribute [local go_sem] max2_int min2_int max_two min_two max_three min_three max_four min_four
set_option linter.unusedVariables false
set_option linter.unusedSimpArgs false
mutual
def tree_Stmt_at_tree_sameStmt.l0:Nat→List (S76)→List (S76)→Int→Int→Option (Bool)
 | 0,_,_,_,_=>none
 | k+1,x1,x15,x16,x17=>if x17 < x16 then (if 0≤x17 then (if x17 < (x15.length:Int) then (if x17 < (x1.length:Int) then ((tree_sameStmt.f k ((rd_T76 x15 x17).f0) ((rd_T76 x15 x17).f1) ((rd_T76 x15 x17).f2) ((rd_T76 x15 x17).f3) ((rd_T76 x15 x17).f4) ((rd_T76 x15 x17).f5) ((rd_T76 x1 x17).f0) ((rd_T76 x1 x17).f1) ((rd_T76 x1 x17).f2) ((rd_T76 x1 x17).f3) ((rd_T76 x1 x17).f4) ((rd_T76 x1 x17).f5)).bind fun t362=>(if t362=true then (tree_Stmt_at_tree_sameStmt.l0 k x1 x15 x16 (wrap64 (x17+1))) else (some false))) else (none)) else (none)) else (none)) else (some true)
def tree_Stmt_at_tree_sameStmt.f:Nat→List (S76)→List (S76)→Option (Bool)
 | 0,_,_=>none
 | k+1,l0,l1=>if (l0.length:Int)=(l1.length:Int) then (tree_Stmt_at_tree_sameStmt.l0 k l1 l0 (l0.length:Int) 0) else (some false)
def tree_sameStmt.f:Nat→ByteArray→ByteArray→List (S33)→List (S76)→List (S76)→Int→ByteArray→ByteArray→List (S33)→List (S76)→List (S76)→Int→Option (Bool)
 | 0,_,_,_,_,_,_,_,_,_,_,_,_=>none
 | k+1,a0_0,a0_1,l0_2,l0_3,l0_4,a0_5,a1_0,a1_1,l1_2,l1_3,l1_4,a1_5=>if a0_0.toList=a1_0.toList then (if a0_1.toList=a1_1.toList then ((tree_Expr_at_tree_SameExpr.f k l0_2 l1_2).bind fun t365=>(if t365=true then ((tree_Stmt_at_tree_sameStmt.f k l0_3 l1_3).bind fun t366=>(if t366=true then ((tree_Stmt_at_tree_sameStmt.f k l0_4 l1_4).bind fun t367=>(some t367)) else (some false))) else (some false))) else (some false)) else (some false)
end
abbrev tree_Stmt_at_tree_sameStmt.Stmt (k:Nat):Prop:=∀ (A0:Option Addr) (c0:Nat) (l0:List (S76)) (A1:Option Addr) (c1:Nat) (l1:List (S76))  (r:Bool) (w:World) (hr0:Kd.C k76 w A0 l0.length l0) (hc0:l0.length≤c0) (hr1:Kd.C k76 w A1 l1.length l1) (hc1:l1.length≤c1) (h:tree_Stmt_at_tree_sameStmt.f k l0 l1=some r),
  Calls Tryd.prog 47 #[.slice A0 l0.length c0,.slice A1 l1.length c1,.func (.func 48) #[] #[]] w fun e w'=>e=.returned (.bool r)∧Below w.heap.size w w'
abbrev tree_sameStmt.Stmt (k:Nat):Prop:=∀ (a0_0:ByteArray) (a0_1:ByteArray) (A0_2:Option Addr) (c0_2:Nat) (l0_2:List (S33)) (A0_3:Option Addr) (c0_3:Nat) (l0_3:List (S76)) (A0_4:Option Addr) (c0_4:Nat) (l0_4:List (S76)) (a0_5:Int) (a1_0:ByteArray) (a1_1:ByteArray) (A1_2:Option Addr) (c1_2:Nat) (l1_2:List (S33)) (A1_3:Option Addr) (c1_3:Nat) (l1_3:List (S76)) (A1_4:Option Addr) (c1_4:Nat) (l1_4:List (S76)) (a1_5:Int) (r:Bool) (w:World) (hr0_2:Kd.C k33 w A0_2 l0_2.length l0_2) (hc0_2:l0_2.length≤c0_2) (hr0_3:Kd.C k76 w A0_3 l0_3.length l0_3) (hc0_3:l0_3.length≤c0_3) (hr0_4:Kd.C k76 w A0_4 l0_4.length l0_4) (hc0_4:l0_4.length≤c0_4) (hr1_2:Kd.C k33 w A1_2 l1_2.length l1_2) (hc1_2:l1_2.length≤c1_2) (hr1_3:Kd.C k76 w A1_3 l1_3.length l1_3) (hc1_3:l1_3.length≤c1_3) (hr1_4:Kd.C k76 w A1_4 l1_4.length l1_4) (hc1_4:l1_4.length≤c1_4) (h:tree_sameStmt.f k a0_0 a0_1 l0_2 l0_3 l0_4 a0_5 a1_0 a1_1 l1_2 l1_3 l1_4 a1_5=some r),
  Calls Tryd.prog 48 #[.agg #[.string a0_0,.string a0_1,.slice A0_2 l0_2.length c0_2,.slice A0_3 l0_3.length c0_3,.slice A0_4 l0_4.length c0_4,.int .i64 a0_5],.agg #[.string a1_0,.string a1_1,.slice A1_2 l1_2.length c1_2,.slice A1_3 l1_3.length c1_3,.slice A1_4 l1_4.length c1_4,.int .i64 a1_5]] w fun e w'=>e=.returned (.bool r)∧Below w.heap.size w w'
end Go.Proofs.YtnnbbeloifhofaaDoor.P
end
section
namespace Go.Proofs.YtnnbbeloifhofaaDoor.P
open Go.RowKit Go.Proofs.YtnnbbeloifhofaaDoorW.PrintWords Go.Proofs.YtnnbbeloifhofaaDoorW.PrintLast Go.Proofs.YtnnbbeloifhofaaDoorW.PrintMore
attribute [local go_sem] max2_int min2_int max_two min_two max_three min_three max_four min_four
set_option linter.unusedVariables false
set_option linter.unusedSimpArgs false
set_option maxHeartbeats 8000000 in
set_option maxRecDepth 100000 in
theorem tree_Stmt_at_tree_sameStmt.step (k:Nat) (ih47 : ∀ m_,m_ < k→tree_Stmt_at_tree_sameStmt.Stmt m_) (ih48 : ∀ m_,m_ < k→tree_sameStmt.Stmt m_):tree_Stmt_at_tree_sameStmt.Stmt k:=by
 intro A0 c0 l0 A1 c1 l1 r w hr0 hc0 hr1 hc1 h
 cases k with
 | zero=>exact absurd h (by simp [tree_Stmt_at_tree_sameStmt.f])
 | succ k=>
 simp only [tree_Stmt_at_tree_sameStmt.f] at h
 have hu76:=Tryd.underlying76
 have HR0:=Aside0.mk hr0
 have HC0:=Aside0.mk hc0
 clear hr0 hc0
 have HR1:=Aside0.mk hr1
 have HC1:=Aside0.mk hc1
 clear hr1 hc1
 have HB:=Aside0.mk (Below.refl w.heap.size w)
 have H:(if (l0.length:Int)=(l1.length:Int) then (tree_Stmt_at_tree_sameStmt.l0 k l1 l0 (l0.length:Int) 0) else (some false))=some r:=h
 clear h
 by_cases c4:(l0.length:Int)=(l1.length:Int)
 ·rw [if_pos c4] at H
  have c4b0:((l0.length:Int) == (l1.length:Int))=true:=beq_iff_eq.mpr c4
  have c4b1:((l0.length:Int) != (l1.length:Int))=false:=bne_eq_false_iff_eq.mpr c4
  have c4b2:(l0.length == l1.length)=true:=by first|simpa using c4|(simp at c4 ⊢;omega)
  clear c4
  have H':=Aside0.mk H
  clear H
  go_enter Tryd.func47,Tryd.ntmps47
  go_wp2
  (try simp only [Act.put,List.setIfInBounds_toArray,List.set_cons_succ,List.set_cons_zero])
  go_loopg [17] k (fun kq v17 w'=>∃ (x17_1:Int),v17=.int .i64 x17_1∧Aside0 (tree_Stmt_at_tree_sameStmt.l0 kq l1 l0 (l0.length:Int) x17_1=some r)∧Aside0 (kq≤k)∧Aside0 (Below w.heap.size w w'))
  case atStart=>exact ⟨(0),rf_,H',⟨Nat.le_refl _⟩,⟨bl_ HB.out⟩⟩
  case round=>
   clear H'
   obtain ⟨x17_1,rfl,HA,HK1,HB⟩:=hrel
   cases gk with
   | zero=>exact absurd HA.out (by simp [tree_Stmt_at_tree_sameStmt.l0])
   | succ k1=>
    have H:=HA.out
    clear HA
    simp only [tree_Stmt_at_tree_sameStmt.l0] at H
    by_cases c5:x17_1 < (l0.length:Int)
    ·rw [if_pos c5] at H
     have c5b0:=decide_eq_true c5
     clear c5
     revert H
     refine gd_ fun c6 H=>?_
     have c6b0:=decide_eq_true c6
     clear c6
     revert H
     refine gd_ fun c7 H=>?_
     have c7b0:=decide_eq_true c7
     clear c7
     revert H
     refine gd_ fun c8 H=>?_
     have c8b0:=decide_eq_true c8
     clear c8
     revert H
     refine bd_ fun t362 A9 H=>?_
     by_cases c10:t362=true
     ·subst c10
      replace H:=ip_ H
      have H':=Aside0.mk H
      clear H
      have p358:0≤(x17_1:Int):=of_decide_eq_true as_
      have q358:x17_1 < (l0.length:Int):=of_decide_eq_true as_
      obtain ⟨ad358,A358_2,c358_2,A358_3,c358_3,A358_4,c358_4,e358,hx358_0,hx358_1,hx358_2,hx358_3,hx358_4,hx358_5,hl358_2,hi358_2,hl358_3,hi358_3,hl358_4,hi358_4⟩:=at_T76 HR0.out x17_1 p358 q358
      cases e358
      replace hx358_0:=(cb_ HB.out hx358_0:_)
      replace hx358_1:=(cb_ HB.out hx358_1:_)
      replace hx358_2:=(cb_ HB.out hx358_2:_)
      replace hx358_3:=(cb_ HB.out hx358_3:_)
      replace hx358_4:=(cb_ HB.out hx358_4:_)
      replace hx358_5:=(cb_ HB.out hx358_5:_)
      have HR358_2:=Aside0.mk hi358_2
      have HC358_2:=Aside0.mk hl358_2
      clear hi358_2 hl358_2
      have HR358_3:=Aside0.mk hi358_3
      have HC358_3:=Aside0.mk hl358_3
      clear hi358_3 hl358_3
      have HR358_4:=Aside0.mk hi358_4
      have HC358_4:=Aside0.mk hl358_4
      clear hi358_4 hl358_4
      replace p358:=eq_true p358
      replace q358:=eq_true q358
      go_wp2_with (first|((with_reducible refine gate_dst (N:=8) rfl ?_);refine bx_ (N:=8) (cs:=#[.string (⟨#[]⟩:ByteArray),.string (⟨#[]⟩:ByteArray),.slice none 0 0,.slice none 0 0,.slice none 0 0,.int .i64 0]) (t:=76) ?_;intro gb359 hg w11 hbox hb;have BK359:=Aside0.mk (hbox);have GW359:=Aside0.mk ((gs_ hg (bl_ HB.out):w.heap.size≤gb359));have GE359:=Aside0.mk ((gs_ hg (bl_ HB.out):w.heap.size≤gb359));replace HB:=Aside0.mk (below_step (bl_ HB.out) hb);clear hb hbox hg;obtain ⟨hcz12_0,hcz12_1,hcz12_2,hcz12_3,hcz12_4,hcz12_5,hfz12_0,hfz12_1,hfz12_2,hfz12_3,hfz12_4,hfz12_5⟩:=zf6_ BK359.out;have p360:0≤(x17_1:Int):=of_decide_eq_true as_;have q360:x17_1 < (l1.length:Int):=of_decide_eq_true as_;obtain ⟨ad360,A360_2,c360_2,A360_3,c360_3,A360_4,c360_4,e360,hx360_0,hx360_1,hx360_2,hx360_3,hx360_4,hx360_5,hl360_2,hi360_2,hl360_3,hi360_3,hl360_4,hi360_4⟩:=at_T76 HR1.out x17_1 p360 q360;cases e360;have hn360_0:ad360.block≠gb359:=Nat.ne_of_lt (Nat.lt_of_lt_of_le (by have:=World.block_lt_of_cell? _ _ hx360_0;first|rwa [add_block] at this|exact this) GW359.out);have hn360_1:ad360.block≠gb359:=Nat.ne_of_lt (Nat.lt_of_lt_of_le (by have:=World.block_lt_of_cell? _ _ hx360_0;first|rwa [add_block] at this|exact this) GW359.out);have hn360_2:ad360.block≠gb359:=Nat.ne_of_lt (Nat.lt_of_lt_of_le (by have:=World.block_lt_of_cell? _ _ hx360_0;first|rwa [add_block] at this|exact this) GW359.out);have hn360_3:ad360.block≠gb359:=Nat.ne_of_lt (Nat.lt_of_lt_of_le (by have:=World.block_lt_of_cell? _ _ hx360_0;first|rwa [add_block] at this|exact this) GW359.out);have hn360_4:ad360.block≠gb359:=Nat.ne_of_lt (Nat.lt_of_lt_of_le (by have:=World.block_lt_of_cell? _ _ hx360_0;first|rwa [add_block] at this|exact this) GW359.out);have hn360_5:ad360.block≠gb359:=Nat.ne_of_lt (Nat.lt_of_lt_of_le (by have:=World.block_lt_of_cell? _ _ hx360_0;first|rwa [add_block] at this|exact this) GW359.out);replace hx360_0:=(cb_ HB.out hx360_0:_);replace hx360_1:=(cb_ HB.out hx360_1:_);replace hx360_2:=(cb_ HB.out hx360_2:_);replace hx360_3:=(cb_ HB.out hx360_3:_);replace hx360_4:=(cb_ HB.out hx360_4:_);replace hx360_5:=(cb_ HB.out hx360_5:_);have HR360_2:=Aside0.mk hi360_2;have HC360_2:=Aside0.mk hl360_2;clear hi360_2 hl360_2;have HR360_3:=Aside0.mk hi360_3;have HC360_3:=Aside0.mk hl360_3;clear hi360_3 hl360_3;have HR360_4:=Aside0.mk hi360_4;have HC360_4:=Aside0.mk hl360_4;clear hi360_4 hl360_4;replace hx360_0:=(cell_far (p:=⟨gb359,0,none⟩) (ab_ hn360_0) (.string ((rd_T76 l0 x17_1).f0))).trans hx360_0;replace hx360_1:=(cell_far (p:=⟨gb359,0,none⟩) (ab_ hn360_0) (.string ((rd_T76 l0 x17_1).f0))).trans hx360_1;replace hx360_2:=(cell_far (p:=⟨gb359,0,none⟩) (ab_ hn360_0) (.string ((rd_T76 l0 x17_1).f0))).trans hx360_2;replace hx360_3:=(cell_far (p:=⟨gb359,0,none⟩) (ab_ hn360_0) (.string ((rd_T76 l0 x17_1).f0))).trans hx360_3;replace hx360_4:=(cell_far (p:=⟨gb359,0,none⟩) (ab_ hn360_0) (.string ((rd_T76 l0 x17_1).f0))).trans hx360_4;replace hx360_5:=(cell_far (p:=⟨gb359,0,none⟩) (ab_ hn360_0) (.string ((rd_T76 l0 x17_1).f0))).trans hx360_5;replace hx360_0:=(cell_far (p:=⟨gb359,1,none⟩) (ab_ hn360_1) (.string ((rd_T76 l0 x17_1).f1))).trans hx360_0;replace hx360_1:=(cell_far (p:=⟨gb359,1,none⟩) (ab_ hn360_1) (.string ((rd_T76 l0 x17_1).f1))).trans hx360_1;replace hx360_2:=(cell_far (p:=⟨gb359,1,none⟩) (ab_ hn360_1) (.string ((rd_T76 l0 x17_1).f1))).trans hx360_2;replace hx360_3:=(cell_far (p:=⟨gb359,1,none⟩) (ab_ hn360_1) (.string ((rd_T76 l0 x17_1).f1))).trans hx360_3;replace hx360_4:=(cell_far (p:=⟨gb359,1,none⟩) (ab_ hn360_1) (.string ((rd_T76 l0 x17_1).f1))).trans hx360_4;replace hx360_5:=(cell_far (p:=⟨gb359,1,none⟩) (ab_ hn360_1) (.string ((rd_T76 l0 x17_1).f1))).trans hx360_5;replace hx360_0:=(cell_far (p:=⟨gb359,2,none⟩) (ab_ hn360_2) (.slice A358_2 ((rd_T76 l0 x17_1).f2).length c358_2)).trans hx360_0;replace hx360_1:=(cell_far (p:=⟨gb359,2,none⟩) (ab_ hn360_2) (.slice A358_2 ((rd_T76 l0 x17_1).f2).length c358_2)).trans hx360_1;replace hx360_2:=(cell_far (p:=⟨gb359,2,none⟩) (ab_ hn360_2) (.slice A358_2 ((rd_T76 l0 x17_1).f2).length c358_2)).trans hx360_2;replace hx360_3:=(cell_far (p:=⟨gb359,2,none⟩) (ab_ hn360_2) (.slice A358_2 ((rd_T76 l0 x17_1).f2).length c358_2)).trans hx360_3;replace hx360_4:=(cell_far (p:=⟨gb359,2,none⟩) (ab_ hn360_2) (.slice A358_2 ((rd_T76 l0 x17_1).f2).length c358_2)).trans hx360_4;replace hx360_5:=(cell_far (p:=⟨gb359,2,none⟩) (ab_ hn360_2) (.slice A358_2 ((rd_T76 l0 x17_1).f2).length c358_2)).trans hx360_5;replace hx360_0:=(cell_far (p:=⟨gb359,3,none⟩) (ab_ hn360_3) (.slice A358_3 ((rd_T76 l0 x17_1).f3).length c358_3)).trans hx360_0;replace hx360_1:=(cell_far (p:=⟨gb359,3,none⟩) (ab_ hn360_3) (.slice A358_3 ((rd_T76 l0 x17_1).f3).length c358_3)).trans hx360_1;replace hx360_2:=(cell_far (p:=⟨gb359,3,none⟩) (ab_ hn360_3) (.slice A358_3 ((rd_T76 l0 x17_1).f3).length c358_3)).trans hx360_2;replace hx360_3:=(cell_far (p:=⟨gb359,3,none⟩) (ab_ hn360_3) (.slice A358_3 ((rd_T76 l0 x17_1).f3).length c358_3)).trans hx360_3;replace hx360_4:=(cell_far (p:=⟨gb359,3,none⟩) (ab_ hn360_3) (.slice A358_3 ((rd_T76 l0 x17_1).f3).length c358_3)).trans hx360_4;replace hx360_5:=(cell_far (p:=⟨gb359,3,none⟩) (ab_ hn360_3) (.slice A358_3 ((rd_T76 l0 x17_1).f3).length c358_3)).trans hx360_5;replace hx360_0:=(cell_far (p:=⟨gb359,4,none⟩) (ab_ hn360_4) (.slice A358_4 ((rd_T76 l0 x17_1).f4).length c358_4)).trans hx360_0;replace hx360_1:=(cell_far (p:=⟨gb359,4,none⟩) (ab_ hn360_4) (.slice A358_4 ((rd_T76 l0 x17_1).f4).length c358_4)).trans hx360_1;replace hx360_2:=(cell_far (p:=⟨gb359,4,none⟩) (ab_ hn360_4) (.slice A358_4 ((rd_T76 l0 x17_1).f4).length c358_4)).trans hx360_2;replace hx360_3:=(cell_far (p:=⟨gb359,4,none⟩) (ab_ hn360_4) (.slice A358_4 ((rd_T76 l0 x17_1).f4).length c358_4)).trans hx360_3;replace hx360_4:=(cell_far (p:=⟨gb359,4,none⟩) (ab_ hn360_4) (.slice A358_4 ((rd_T76 l0 x17_1).f4).length c358_4)).trans hx360_4;replace hx360_5:=(cell_far (p:=⟨gb359,4,none⟩) (ab_ hn360_4) (.slice A358_4 ((rd_T76 l0 x17_1).f4).length c358_4)).trans hx360_5;replace hx360_0:=(cell_far (p:=⟨gb359,5,none⟩) (ab_ hn360_5) (.int .i64 ((rd_T76 l0 x17_1).f5))).trans hx360_0;replace hx360_1:=(cell_far (p:=⟨gb359,5,none⟩) (ab_ hn360_5) (.int .i64 ((rd_T76 l0 x17_1).f5))).trans hx360_1;replace hx360_2:=(cell_far (p:=⟨gb359,5,none⟩) (ab_ hn360_5) (.int .i64 ((rd_T76 l0 x17_1).f5))).trans hx360_2;replace hx360_3:=(cell_far (p:=⟨gb359,5,none⟩) (ab_ hn360_5) (.int .i64 ((rd_T76 l0 x17_1).f5))).trans hx360_3;replace hx360_4:=(cell_far (p:=⟨gb359,5,none⟩) (ab_ hn360_5) (.int .i64 ((rd_T76 l0 x17_1).f5))).trans hx360_4;replace hx360_5:=(cell_far (p:=⟨gb359,5,none⟩) (ab_ hn360_5) (.int .i64 ((rd_T76 l0 x17_1).f5))).trans hx360_5;clear hn360_0;clear hn360_1;clear hn360_2;clear hn360_3;clear hn360_4;clear hn360_5;replace p360:=eq_true p360;replace q360:=eq_true q360)|((with_reducible refine gate_dst (N:=9) rfl ?_);refine bx_ (N:=9) (cs:=#[.string (⟨#[]⟩:ByteArray),.string (⟨#[]⟩:ByteArray),.slice none 0 0,.slice none 0 0,.slice none 0 0,.int .i64 0]) (t:=76) ?_;intro gb361 hg w13 hbox hb;have n0_:=Aside0.mk (blk_below (g:=gb359) (o:=.cells #[.string ((rd_T76 l0 x17_1).f0),.string ((rd_T76 l0 x17_1).f1),.slice A358_2 ((rd_T76 l0 x17_1).f2).length c358_2,.slice A358_3 ((rd_T76 l0 x17_1).f3).length c358_3,.slice A358_4 ((rd_T76 l0 x17_1).f4).length c358_4,.int .i64 ((rd_T76 l0 x17_1).f5)] 76 (0,0)) (kbc_ BK359.out) hb);have n1_:=Aside0.mk (below_step (bl_ HB.out) hb);have n2_:=Aside0.mk (hbox);have n3_:=Aside0.mk ((gs_ hg (bl_ HB.out):w.heap.size≤gb361));have n4_:=Aside0.mk ((gs_ hg (bl_ HB.out):w.heap.size≤gb361));have n5_:=Aside0.mk ((by rw [hg];exact Nat.ne_of_lt (blk_lt (g:=gb359) (o:=.cells #[.string ((rd_T76 l0 x17_1).f0),.string ((rd_T76 l0 x17_1).f1),.slice A358_2 ((rd_T76 l0 x17_1).f2).length c358_2,.slice A358_3 ((rd_T76 l0 x17_1).f3).length c358_3,.slice A358_4 ((rd_T76 l0 x17_1).f4).length c358_4,.int .i64 ((rd_T76 l0 x17_1).f5)] 76 (0,0)) (kbc_ BK359.out)):gb359≠gb361));have n6_:=Aside0.mk ((by rw [hg];exact Nat.ne_of_gt (blk_lt (g:=gb359) (o:=.cells #[.string ((rd_T76 l0 x17_1).f0),.string ((rd_T76 l0 x17_1).f1),.slice A358_2 ((rd_T76 l0 x17_1).f2).length c358_2,.slice A358_3 ((rd_T76 l0 x17_1).f3).length c358_3,.slice A358_4 ((rd_T76 l0 x17_1).f4).length c358_4,.int .i64 ((rd_T76 l0 x17_1).f5)] 76 (0,0)) (kbc_ BK359.out)):gb361≠gb359));clear BK359;clear HB;have BK359:=n0_;have HB:=n1_;have BK361:=n2_;have GW361:=n3_;have GE361:=n4_;have NB359_361:=n5_;have NB361_359:=n6_;clear n0_ n1_ n2_ n3_ n4_ n5_ n6_;clear hb hbox hg;have hnb14:=NB361_359.out;have hnc14:=NB359_361.out;obtain ⟨hcz15_0,hcz15_1,hcz15_2,hcz15_3,hcz15_4,hcz15_5,hfz15_0,hfz15_1,hfz15_2,hfz15_3,hfz15_4,hfz15_5⟩:=zf6_ BK361.out;obtain ⟨hcz16_0,hcz16_1,hcz16_2,hcz16_3,hcz16_4,hcz16_5,hfz16_0,hfz16_1,hfz16_2,hfz16_3,hfz16_4,hfz16_5⟩:=zf6_ BK359.out)|((with_reducible refine (ih48 k1 (by have:=HK1.out;omega) ((rd_T76 l0 x17_1).f0) ((rd_T76 l0 x17_1).f1) _ _ ((rd_T76 l0 x17_1).f2) _ _ ((rd_T76 l0 x17_1).f3) _ _ ((rd_T76 l0 x17_1).f4) ((rd_T76 l0 x17_1).f5) ((rd_T76 l1 x17_1).f0) ((rd_T76 l1 x17_1).f1) _ _ ((rd_T76 l1 x17_1).f2) _ _ ((rd_T76 l1 x17_1).f3) _ _ ((rd_T76 l1 x17_1).f4) ((rd_T76 l1 x17_1).f5) true _ ?side1 ?side2 ?side3 ?side4 ?side5 ?side6 ?side7 ?side8 ?side9 ?side10 ?side11 ?side12 A9.out).mono ?_);(case side1=>exact Kd.C_below HR358_2.out (bl_ HB.out));(case side2=>exact HC358_2.out);(case side3=>exact Kd.C_below HR358_3.out (bl_ HB.out));(case side4=>exact HC358_3.out);(case side5=>exact Kd.C_below HR358_4.out (bl_ HB.out));(case side6=>exact HC358_4.out);(case side7=>exact Kd.C_below HR360_2.out (bl_ HB.out));(case side8=>exact HC360_2.out);(case side9=>exact Kd.C_below HR360_3.out (bl_ HB.out));(case side10=>exact HC360_3.out);(case side11=>exact Kd.C_below HR360_4.out (bl_ HB.out));(case side12=>exact HC360_4.out);rintro e w17 ⟨rfl,hb⟩;replace BK359:=Aside0.mk (blk_below (g:=gb359) (o:=.cells #[.string ((rd_T76 l0 x17_1).f0),.string ((rd_T76 l0 x17_1).f1),.slice A358_2 ((rd_T76 l0 x17_1).f2).length c358_2,.slice A358_3 ((rd_T76 l0 x17_1).f3).length c358_3,.slice A358_4 ((rd_T76 l0 x17_1).f4).length c358_4,.int .i64 ((rd_T76 l0 x17_1).f5)] 76 (0,0)) (kbc_ BK359.out) hb);replace BK361:=Aside0.mk (blk_below (g:=gb361) (o:=.cells #[.string ((rd_T76 l1 x17_1).f0),.string ((rd_T76 l1 x17_1).f1),.slice A360_2 ((rd_T76 l1 x17_1).f2).length c360_2,.slice A360_3 ((rd_T76 l1 x17_1).f3).length c360_3,.slice A360_4 ((rd_T76 l1 x17_1).f4).length c360_4,.int .i64 ((rd_T76 l1 x17_1).f5)] 76 (0,0)) (kbc_ BK361.out) hb);replace HB:=Aside0.mk (below_step (bl_ HB.out) hb)))
      go_roundg k1
      case measure=>have:=HK1.out;omega
      case rel=>exact ⟨(wrap64 (x17_1+1)),rf_,H',⟨by have:=HK1.out;omega⟩,⟨bl_ HB.out⟩⟩
     ·replace c10:=Bool.eq_false_iff.mpr c10
      subst c10
      replace H:=in_ H
      obtain rfl:=Option.some.inj H
      have p358:0≤(x17_1:Int):=of_decide_eq_true as_
      have q358:x17_1 < (l0.length:Int):=of_decide_eq_true as_
      obtain ⟨ad358,A358_2,c358_2,A358_3,c358_3,A358_4,c358_4,e358,hx358_0,hx358_1,hx358_2,hx358_3,hx358_4,hx358_5,hl358_2,hi358_2,hl358_3,hi358_3,hl358_4,hi358_4⟩:=at_T76 HR0.out x17_1 p358 q358
      cases e358
      replace hx358_0:=(cb_ HB.out hx358_0:_)
      replace hx358_1:=(cb_ HB.out hx358_1:_)
      replace hx358_2:=(cb_ HB.out hx358_2:_)
      replace hx358_3:=(cb_ HB.out hx358_3:_)
      replace hx358_4:=(cb_ HB.out hx358_4:_)
      replace hx358_5:=(cb_ HB.out hx358_5:_)
      have HR358_2:=Aside0.mk hi358_2
      have HC358_2:=Aside0.mk hl358_2
      clear hi358_2 hl358_2
      have HR358_3:=Aside0.mk hi358_3
      have HC358_3:=Aside0.mk hl358_3
      clear hi358_3 hl358_3
      have HR358_4:=Aside0.mk hi358_4
      have HC358_4:=Aside0.mk hl358_4
      clear hi358_4 hl358_4
      replace p358:=eq_true p358
      replace q358:=eq_true q358
      go_wp2_with (first|((with_reducible refine gate_dst (N:=8) rfl ?_);refine bx_ (N:=8) (cs:=#[.string (⟨#[]⟩:ByteArray),.string (⟨#[]⟩:ByteArray),.slice none 0 0,.slice none 0 0,.slice none 0 0,.int .i64 0]) (t:=76) ?_;intro gb359 hg w18 hbox hb;have BK359:=Aside0.mk (hbox);have GW359:=Aside0.mk ((gs_ hg (bl_ HB.out):w.heap.size≤gb359));have GE359:=Aside0.mk ((gs_ hg (bl_ HB.out):w.heap.size≤gb359));replace HB:=Aside0.mk (below_step (bl_ HB.out) hb);clear hb hbox hg;obtain ⟨hcz19_0,hcz19_1,hcz19_2,hcz19_3,hcz19_4,hcz19_5,hfz19_0,hfz19_1,hfz19_2,hfz19_3,hfz19_4,hfz19_5⟩:=zf6_ BK359.out;have p360:0≤(x17_1:Int):=of_decide_eq_true as_;have q360:x17_1 < (l1.length:Int):=of_decide_eq_true as_;obtain ⟨ad360,A360_2,c360_2,A360_3,c360_3,A360_4,c360_4,e360,hx360_0,hx360_1,hx360_2,hx360_3,hx360_4,hx360_5,hl360_2,hi360_2,hl360_3,hi360_3,hl360_4,hi360_4⟩:=at_T76 HR1.out x17_1 p360 q360;cases e360;have hn360_0:ad360.block≠gb359:=Nat.ne_of_lt (Nat.lt_of_lt_of_le (by have:=World.block_lt_of_cell? _ _ hx360_0;first|rwa [add_block] at this|exact this) GW359.out);have hn360_1:ad360.block≠gb359:=Nat.ne_of_lt (Nat.lt_of_lt_of_le (by have:=World.block_lt_of_cell? _ _ hx360_0;first|rwa [add_block] at this|exact this) GW359.out);have hn360_2:ad360.block≠gb359:=Nat.ne_of_lt (Nat.lt_of_lt_of_le (by have:=World.block_lt_of_cell? _ _ hx360_0;first|rwa [add_block] at this|exact this) GW359.out);have hn360_3:ad360.block≠gb359:=Nat.ne_of_lt (Nat.lt_of_lt_of_le (by have:=World.block_lt_of_cell? _ _ hx360_0;first|rwa [add_block] at this|exact this) GW359.out);have hn360_4:ad360.block≠gb359:=Nat.ne_of_lt (Nat.lt_of_lt_of_le (by have:=World.block_lt_of_cell? _ _ hx360_0;first|rwa [add_block] at this|exact this) GW359.out);have hn360_5:ad360.block≠gb359:=Nat.ne_of_lt (Nat.lt_of_lt_of_le (by have:=World.block_lt_of_cell? _ _ hx360_0;first|rwa [add_block] at this|exact this) GW359.out);replace hx360_0:=(cb_ HB.out hx360_0:_);replace hx360_1:=(cb_ HB.out hx360_1:_);replace hx360_2:=(cb_ HB.out hx360_2:_);replace hx360_3:=(cb_ HB.out hx360_3:_);replace hx360_4:=(cb_ HB.out hx360_4:_);replace hx360_5:=(cb_ HB.out hx360_5:_);have HR360_2:=Aside0.mk hi360_2;have HC360_2:=Aside0.mk hl360_2;clear hi360_2 hl360_2;have HR360_3:=Aside0.mk hi360_3;have HC360_3:=Aside0.mk hl360_3;clear hi360_3 hl360_3;have HR360_4:=Aside0.mk hi360_4;have HC360_4:=Aside0.mk hl360_4;clear hi360_4 hl360_4;replace hx360_0:=(cell_far (p:=⟨gb359,0,none⟩) (ab_ hn360_0) (.string ((rd_T76 l0 x17_1).f0))).trans hx360_0;replace hx360_1:=(cell_far (p:=⟨gb359,0,none⟩) (ab_ hn360_0) (.string ((rd_T76 l0 x17_1).f0))).trans hx360_1;replace hx360_2:=(cell_far (p:=⟨gb359,0,none⟩) (ab_ hn360_0) (.string ((rd_T76 l0 x17_1).f0))).trans hx360_2;replace hx360_3:=(cell_far (p:=⟨gb359,0,none⟩) (ab_ hn360_0) (.string ((rd_T76 l0 x17_1).f0))).trans hx360_3;replace hx360_4:=(cell_far (p:=⟨gb359,0,none⟩) (ab_ hn360_0) (.string ((rd_T76 l0 x17_1).f0))).trans hx360_4;replace hx360_5:=(cell_far (p:=⟨gb359,0,none⟩) (ab_ hn360_0) (.string ((rd_T76 l0 x17_1).f0))).trans hx360_5;replace hx360_0:=(cell_far (p:=⟨gb359,1,none⟩) (ab_ hn360_1) (.string ((rd_T76 l0 x17_1).f1))).trans hx360_0;replace hx360_1:=(cell_far (p:=⟨gb359,1,none⟩) (ab_ hn360_1) (.string ((rd_T76 l0 x17_1).f1))).trans hx360_1;replace hx360_2:=(cell_far (p:=⟨gb359,1,none⟩) (ab_ hn360_1) (.string ((rd_T76 l0 x17_1).f1))).trans hx360_2;replace hx360_3:=(cell_far (p:=⟨gb359,1,none⟩) (ab_ hn360_1) (.string ((rd_T76 l0 x17_1).f1))).trans hx360_3;replace hx360_4:=(cell_far (p:=⟨gb359,1,none⟩) (ab_ hn360_1) (.string ((rd_T76 l0 x17_1).f1))).trans hx360_4;replace hx360_5:=(cell_far (p:=⟨gb359,1,none⟩) (ab_ hn360_1) (.string ((rd_T76 l0 x17_1).f1))).trans hx360_5;replace hx360_0:=(cell_far (p:=⟨gb359,2,none⟩) (ab_ hn360_2) (.slice A358_2 ((rd_T76 l0 x17_1).f2).length c358_2)).trans hx360_0;replace hx360_1:=(cell_far (p:=⟨gb359,2,none⟩) (ab_ hn360_2) (.slice A358_2 ((rd_T76 l0 x17_1).f2).length c358_2)).trans hx360_1;replace hx360_2:=(cell_far (p:=⟨gb359,2,none⟩) (ab_ hn360_2) (.slice A358_2 ((rd_T76 l0 x17_1).f2).length c358_2)).trans hx360_2;replace hx360_3:=(cell_far (p:=⟨gb359,2,none⟩) (ab_ hn360_2) (.slice A358_2 ((rd_T76 l0 x17_1).f2).length c358_2)).trans hx360_3;replace hx360_4:=(cell_far (p:=⟨gb359,2,none⟩) (ab_ hn360_2) (.slice A358_2 ((rd_T76 l0 x17_1).f2).length c358_2)).trans hx360_4;replace hx360_5:=(cell_far (p:=⟨gb359,2,none⟩) (ab_ hn360_2) (.slice A358_2 ((rd_T76 l0 x17_1).f2).length c358_2)).trans hx360_5;replace hx360_0:=(cell_far (p:=⟨gb359,3,none⟩) (ab_ hn360_3) (.slice A358_3 ((rd_T76 l0 x17_1).f3).length c358_3)).trans hx360_0;replace hx360_1:=(cell_far (p:=⟨gb359,3,none⟩) (ab_ hn360_3) (.slice A358_3 ((rd_T76 l0 x17_1).f3).length c358_3)).trans hx360_1;replace hx360_2:=(cell_far (p:=⟨gb359,3,none⟩) (ab_ hn360_3) (.slice A358_3 ((rd_T76 l0 x17_1).f3).length c358_3)).trans hx360_2;replace hx360_3:=(cell_far (p:=⟨gb359,3,none⟩) (ab_ hn360_3) (.slice A358_3 ((rd_T76 l0 x17_1).f3).length c358_3)).trans hx360_3;replace hx360_4:=(cell_far (p:=⟨gb359,3,none⟩) (ab_ hn360_3) (.slice A358_3 ((rd_T76 l0 x17_1).f3).length c358_3)).trans hx360_4;replace hx360_5:=(cell_far (p:=⟨gb359,3,none⟩) (ab_ hn360_3) (.slice A358_3 ((rd_T76 l0 x17_1).f3).length c358_3)).trans hx360_5;replace hx360_0:=(cell_far (p:=⟨gb359,4,none⟩) (ab_ hn360_4) (.slice A358_4 ((rd_T76 l0 x17_1).f4).length c358_4)).trans hx360_0;replace hx360_1:=(cell_far (p:=⟨gb359,4,none⟩) (ab_ hn360_4) (.slice A358_4 ((rd_T76 l0 x17_1).f4).length c358_4)).trans hx360_1;replace hx360_2:=(cell_far (p:=⟨gb359,4,none⟩) (ab_ hn360_4) (.slice A358_4 ((rd_T76 l0 x17_1).f4).length c358_4)).trans hx360_2;replace hx360_3:=(cell_far (p:=⟨gb359,4,none⟩) (ab_ hn360_4) (.slice A358_4 ((rd_T76 l0 x17_1).f4).length c358_4)).trans hx360_3;replace hx360_4:=(cell_far (p:=⟨gb359,4,none⟩) (ab_ hn360_4) (.slice A358_4 ((rd_T76 l0 x17_1).f4).length c358_4)).trans hx360_4;replace hx360_5:=(cell_far (p:=⟨gb359,4,none⟩) (ab_ hn360_4) (.slice A358_4 ((rd_T76 l0 x17_1).f4).length c358_4)).trans hx360_5;replace hx360_0:=(cell_far (p:=⟨gb359,5,none⟩) (ab_ hn360_5) (.int .i64 ((rd_T76 l0 x17_1).f5))).trans hx360_0;replace hx360_1:=(cell_far (p:=⟨gb359,5,none⟩) (ab_ hn360_5) (.int .i64 ((rd_T76 l0 x17_1).f5))).trans hx360_1;replace hx360_2:=(cell_far (p:=⟨gb359,5,none⟩) (ab_ hn360_5) (.int .i64 ((rd_T76 l0 x17_1).f5))).trans hx360_2;replace hx360_3:=(cell_far (p:=⟨gb359,5,none⟩) (ab_ hn360_5) (.int .i64 ((rd_T76 l0 x17_1).f5))).trans hx360_3;replace hx360_4:=(cell_far (p:=⟨gb359,5,none⟩) (ab_ hn360_5) (.int .i64 ((rd_T76 l0 x17_1).f5))).trans hx360_4;replace hx360_5:=(cell_far (p:=⟨gb359,5,none⟩) (ab_ hn360_5) (.int .i64 ((rd_T76 l0 x17_1).f5))).trans hx360_5;clear hn360_0;clear hn360_1;clear hn360_2;clear hn360_3;clear hn360_4;clear hn360_5;replace p360:=eq_true p360;replace q360:=eq_true q360)|((with_reducible refine gate_dst (N:=9) rfl ?_);refine bx_ (N:=9) (cs:=#[.string (⟨#[]⟩:ByteArray),.string (⟨#[]⟩:ByteArray),.slice none 0 0,.slice none 0 0,.slice none 0 0,.int .i64 0]) (t:=76) ?_;intro gb361 hg w20 hbox hb;have n0_:=Aside0.mk (blk_below (g:=gb359) (o:=.cells #[.string ((rd_T76 l0 x17_1).f0),.string ((rd_T76 l0 x17_1).f1),.slice A358_2 ((rd_T76 l0 x17_1).f2).length c358_2,.slice A358_3 ((rd_T76 l0 x17_1).f3).length c358_3,.slice A358_4 ((rd_T76 l0 x17_1).f4).length c358_4,.int .i64 ((rd_T76 l0 x17_1).f5)] 76 (0,0)) (kbc_ BK359.out) hb);have n1_:=Aside0.mk (below_step (bl_ HB.out) hb);have n2_:=Aside0.mk (hbox);have n3_:=Aside0.mk ((gs_ hg (bl_ HB.out):w.heap.size≤gb361));have n4_:=Aside0.mk ((gs_ hg (bl_ HB.out):w.heap.size≤gb361));have n5_:=Aside0.mk ((by rw [hg];exact Nat.ne_of_lt (blk_lt (g:=gb359) (o:=.cells #[.string ((rd_T76 l0 x17_1).f0),.string ((rd_T76 l0 x17_1).f1),.slice A358_2 ((rd_T76 l0 x17_1).f2).length c358_2,.slice A358_3 ((rd_T76 l0 x17_1).f3).length c358_3,.slice A358_4 ((rd_T76 l0 x17_1).f4).length c358_4,.int .i64 ((rd_T76 l0 x17_1).f5)] 76 (0,0)) (kbc_ BK359.out)):gb359≠gb361));have n6_:=Aside0.mk ((by rw [hg];exact Nat.ne_of_gt (blk_lt (g:=gb359) (o:=.cells #[.string ((rd_T76 l0 x17_1).f0),.string ((rd_T76 l0 x17_1).f1),.slice A358_2 ((rd_T76 l0 x17_1).f2).length c358_2,.slice A358_3 ((rd_T76 l0 x17_1).f3).length c358_3,.slice A358_4 ((rd_T76 l0 x17_1).f4).length c358_4,.int .i64 ((rd_T76 l0 x17_1).f5)] 76 (0,0)) (kbc_ BK359.out)):gb361≠gb359));clear BK359;clear HB;have BK359:=n0_;have HB:=n1_;have BK361:=n2_;have GW361:=n3_;have GE361:=n4_;have NB359_361:=n5_;have NB361_359:=n6_;clear n0_ n1_ n2_ n3_ n4_ n5_ n6_;clear hb hbox hg;have hnb21:=NB361_359.out;have hnc21:=NB359_361.out;obtain ⟨hcz22_0,hcz22_1,hcz22_2,hcz22_3,hcz22_4,hcz22_5,hfz22_0,hfz22_1,hfz22_2,hfz22_3,hfz22_4,hfz22_5⟩:=zf6_ BK361.out;obtain ⟨hcz23_0,hcz23_1,hcz23_2,hcz23_3,hcz23_4,hcz23_5,hfz23_0,hfz23_1,hfz23_2,hfz23_3,hfz23_4,hfz23_5⟩:=zf6_ BK359.out)|((with_reducible refine (ih48 k1 (by have:=HK1.out;omega) ((rd_T76 l0 x17_1).f0) ((rd_T76 l0 x17_1).f1) _ _ ((rd_T76 l0 x17_1).f2) _ _ ((rd_T76 l0 x17_1).f3) _ _ ((rd_T76 l0 x17_1).f4) ((rd_T76 l0 x17_1).f5) ((rd_T76 l1 x17_1).f0) ((rd_T76 l1 x17_1).f1) _ _ ((rd_T76 l1 x17_1).f2) _ _ ((rd_T76 l1 x17_1).f3) _ _ ((rd_T76 l1 x17_1).f4) ((rd_T76 l1 x17_1).f5) false _ ?side1 ?side2 ?side3 ?side4 ?side5 ?side6 ?side7 ?side8 ?side9 ?side10 ?side11 ?side12 A9.out).mono ?_);(case side1=>exact Kd.C_below HR358_2.out (bl_ HB.out));(case side2=>exact HC358_2.out);(case side3=>exact Kd.C_below HR358_3.out (bl_ HB.out));(case side4=>exact HC358_3.out);(case side5=>exact Kd.C_below HR358_4.out (bl_ HB.out));(case side6=>exact HC358_4.out);(case side7=>exact Kd.C_below HR360_2.out (bl_ HB.out));(case side8=>exact HC360_2.out);(case side9=>exact Kd.C_below HR360_3.out (bl_ HB.out));(case side10=>exact HC360_3.out);(case side11=>exact Kd.C_below HR360_4.out (bl_ HB.out));(case side12=>exact HC360_4.out);rintro e w24 ⟨rfl,hb⟩;replace BK359:=Aside0.mk (blk_below (g:=gb359) (o:=.cells #[.string ((rd_T76 l0 x17_1).f0),.string ((rd_T76 l0 x17_1).f1),.slice A358_2 ((rd_T76 l0 x17_1).f2).length c358_2,.slice A358_3 ((rd_T76 l0 x17_1).f3).length c358_3,.slice A358_4 ((rd_T76 l0 x17_1).f4).length c358_4,.int .i64 ((rd_T76 l0 x17_1).f5)] 76 (0,0)) (kbc_ BK359.out) hb);replace BK361:=Aside0.mk (blk_below (g:=gb361) (o:=.cells #[.string ((rd_T76 l1 x17_1).f0),.string ((rd_T76 l1 x17_1).f1),.slice A360_2 ((rd_T76 l1 x17_1).f2).length c360_2,.slice A360_3 ((rd_T76 l1 x17_1).f3).length c360_3,.slice A360_4 ((rd_T76 l1 x17_1).f4).length c360_4,.int .i64 ((rd_T76 l1 x17_1).f5)] 76 (0,0)) (kbc_ BK361.out) hb);replace HB:=Aside0.mk (below_step (bl_ HB.out) hb)))
      go_ret
      exact ⟨rt_,bl_ HB.out⟩
    ·rw [if_neg c5] at H
     have c5b0:=decide_eq_false c5
     clear c5
     obtain rfl:=Option.some.inj H
     go_wp2
     go_ret
     exact ⟨rt_,bl_ HB.out⟩
 ·rw [if_neg c4] at H
  have c4b0:((l0.length:Int) == (l1.length:Int))=false:=beq_eq_false_iff_ne.mpr c4
  have c4b1:((l0.length:Int) != (l1.length:Int))=true:=bne_iff_ne.mpr c4
  have c4b2:(l0.length == l1.length)=false:=by first|simpa using c4|(simp at c4 ⊢;omega)
  obtain rfl:=Option.some.inj H
  go_enter Tryd.func47,Tryd.ntmps47
  go_wp2
  go_ret
  exact ⟨rt_,bl_ HB.out⟩
end Go.Proofs.YtnnbbeloifhofaaDoor.P
end
section
namespace Go.Proofs.YtnnbbeloifhofaaDoor.P
open Go.RowKit Go.Proofs.YtnnbbeloifhofaaDoorW.PrintWords Go.Proofs.YtnnbbeloifhofaaDoorW.PrintLast Go.Proofs.YtnnbbeloifhofaaDoorW.PrintMore
attribute [local go_sem] max2_int min2_int max_two min_two max_three min_three max_four min_four
set_option linter.unusedVariables false
set_option linter.unusedSimpArgs false
set_option maxHeartbeats 8000000 in
set_option maxRecDepth 100000 in
theorem tree_SameExpr.step (k:Nat) (ih26 : ∀ m_,m_ < k→tree_SameExpr.Stmt m_) (ih43 : ∀ m_,m_ < k→tree_Expr_at_tree_SameExpr.Stmt m_):tree_SameExpr.Stmt k:=by
 intro a0_0 a0_1 a0_2 A0_3 c0_3 l0_3 a0_4 a1_0 a1_1 a1_2 A1_3 c1_3 l1_3 a1_4 r w hr0_3 hc0_3 hr1_3 hc1_3 h
 cases k with
 | zero=>exact absurd h (by simp [tree_SameExpr.f])
 | succ k=>
 simp only [tree_SameExpr.f] at h
 have hu33:=Tryd.underlying33
 have HR0_3:=Aside0.mk hr0_3
 have HC0_3:=Aside0.mk hc0_3
 clear hr0_3 hc0_3
 have HR1_3:=Aside0.mk hr1_3
 have HC1_3:=Aside0.mk hc1_3
 clear hr1_3 hc1_3
 have HB:=Aside0.mk (Below.refl w.heap.size w)
 have H:(if a0_0.toList=a1_0.toList then (if a0_1.toList=a1_1.toList then (if a0_2=a1_2 then ((tree_Expr_at_tree_SameExpr.f k l0_3 l1_3).bind fun t340=>(some t340)) else (some false)) else (some false)) else (some false))=some r:=h
 clear h
 by_cases c3:a0_0.toList=a1_0.toList
 ·rw [if_pos c3] at H
  have c3b0:=bqt_ c3
  have c3b1:=bnf_ c3
  clear c3
  by_cases c4:a0_1.toList=a1_1.toList
  ·rw [if_pos c4] at H
   have c4b0:=bqt_ c4
   have c4b1:=bnf_ c4
   clear c4
   by_cases c5:a0_2=a1_2
   ·rw [if_pos c5] at H
    have c5b0:(a0_2 == a1_2)=true:=beq_iff_eq.mpr c5
    have c5b1:(a0_2 != a1_2)=false:=bne_eq_false_iff_eq.mpr c5
    clear c5
    revert H
    refine bd_ fun t340 A6 H=>?_
    obtain rfl:=Option.some.inj H
    go_enter Tryd.func26,Tryd.ntmps26
    go_wp2_with (first|((with_reducible refine gate_dst (N:=2) rfl ?_);refine bx_ (N:=2) (cs:=#[.string a0_0,.string a0_1,.int .i64 a0_2,.slice A0_3 l0_3.length c0_3,.int .i64 a0_4]) (t:=33) ?_;intro gb338 hg w7 hbox hb;have BK338:=Aside0.mk (hbox);have GW338:=Aside0.mk ((gs_ hg (bl_ HB.out):w.heap.size≤gb338));have GE338:=Aside0.mk ((gs_ hg (bl_ HB.out):w.heap.size≤gb338));replace HB:=Aside0.mk (below_step (bl_ HB.out) hb);clear hb hbox hg)|((with_reducible refine gate_dst (N:=3) rfl ?_);refine bx_ (N:=3) (cs:=#[.string a1_0,.string a1_1,.int .i64 a1_2,.slice A1_3 l1_3.length c1_3,.int .i64 a1_4]) (t:=33) ?_;intro gb339 hg w8 hbox hb;have BK339:=Aside0.mk (hbox);have GW339:=Aside0.mk ((gs_ hg (bl_ HB.out):w.heap.size≤gb339));have GE339:=Aside0.mk ((gs_ hg (bl_ HB.out):w.heap.size≤gb339));replace HB:=Aside0.mk (below_step (bl_ HB.out) hb);have NB338_339:=Aside0.mk ((nl_ hg BK338.out:gb338≠gb339));have NB339_338:=Aside0.mk ((nr_ hg BK338.out:gb339≠gb338));replace BK338:=Aside0.mk (bb_ BK338.out hb);clear hb hbox hg;have hnb9:=NB338_339.out;have hnc9:=NB339_338.out;obtain ⟨hcz10_0,hcz10_1,hcz10_2,hcz10_3,hcz10_4,hfz10_0,hfz10_1,hfz10_2,hfz10_3,hfz10_4⟩:=zf5_ BK338.out;obtain ⟨hcz11_0,hcz11_1,hcz11_2,hcz11_3,hcz11_4,hfz11_0,hfz11_1,hfz11_2,hfz11_3,hfz11_4⟩:=zf5_ BK339.out)|(go_at_call 43;(with_reducible refine (ih43 k (by omega) _ _ l0_3 _ _ l1_3 t340 _ ?side1 ?side2 ?side3 ?side4 A6.out).mono ?_);(case side1=>exact kc_ HR0_3.out HB.out);(case side2=>exact HC0_3.out);(case side3=>exact kc_ HR1_3.out HB.out);(case side4=>exact HC1_3.out);rintro e w12 ⟨rfl,hb⟩;replace BK338:=Aside0.mk (bb_ BK338.out hb);replace BK339:=Aside0.mk (bb_ BK339.out hb);replace HB:=Aside0.mk (below_step (bl_ HB.out) hb)))
    go_ret
    exact ⟨rt_,bl_ HB.out⟩
   ·rw [if_neg c5] at H
    have c5b0:(a0_2 == a1_2)=false:=beq_eq_false_iff_ne.mpr c5
    have c5b1:(a0_2 != a1_2)=true:=bne_iff_ne.mpr c5
    obtain rfl:=Option.some.inj H
    go_enter Tryd.func26,Tryd.ntmps26
    go_wp2_with (first|((with_reducible refine gate_dst (N:=2) rfl ?_);refine bx_ (N:=2) (cs:=#[.string a0_0,.string a0_1,.int .i64 a0_2,.slice A0_3 l0_3.length c0_3,.int .i64 a0_4]) (t:=33) ?_;intro gb338 hg w13 hbox hb;have BK338:=Aside0.mk (hbox);have GW338:=Aside0.mk ((gs_ hg (bl_ HB.out):w.heap.size≤gb338));have GE338:=Aside0.mk ((gs_ hg (bl_ HB.out):w.heap.size≤gb338));replace HB:=Aside0.mk (below_step (bl_ HB.out) hb);clear hb hbox hg)|((with_reducible refine gate_dst (N:=3) rfl ?_);refine bx_ (N:=3) (cs:=#[.string a1_0,.string a1_1,.int .i64 a1_2,.slice A1_3 l1_3.length c1_3,.int .i64 a1_4]) (t:=33) ?_;intro gb339 hg w14 hbox hb;have BK339:=Aside0.mk (hbox);have GW339:=Aside0.mk ((gs_ hg (bl_ HB.out):w.heap.size≤gb339));have GE339:=Aside0.mk ((gs_ hg (bl_ HB.out):w.heap.size≤gb339));replace HB:=Aside0.mk (below_step (bl_ HB.out) hb);have NB338_339:=Aside0.mk ((nl_ hg BK338.out:gb338≠gb339));have NB339_338:=Aside0.mk ((nr_ hg BK338.out:gb339≠gb338));replace BK338:=Aside0.mk (bb_ BK338.out hb);clear hb hbox hg;have hnb15:=NB338_339.out;have hnc15:=NB339_338.out;obtain ⟨hcz16_0,hcz16_1,hcz16_2,hcz16_3,hcz16_4,hfz16_0,hfz16_1,hfz16_2,hfz16_3,hfz16_4⟩:=zf5_ BK338.out;obtain ⟨hcz17_0,hcz17_1,hcz17_2,hcz17_3,hcz17_4,hfz17_0,hfz17_1,hfz17_2,hfz17_3,hfz17_4⟩:=zf5_ BK339.out))
    go_ret
    exact ⟨rt_,bl_ HB.out⟩
  ·rw [if_neg c4] at H
   have c4b0:=bqf_ c4
   have c4b1:=bnt_ c4
   obtain rfl:=Option.some.inj H
   go_enter Tryd.func26,Tryd.ntmps26
   go_wp2_with (first|((with_reducible refine gate_dst (N:=2) rfl ?_);refine bx_ (N:=2) (cs:=#[.string a0_0,.string a0_1,.int .i64 a0_2,.slice A0_3 l0_3.length c0_3,.int .i64 a0_4]) (t:=33) ?_;intro gb338 hg w18 hbox hb;have BK338:=Aside0.mk (hbox);have GW338:=Aside0.mk ((gs_ hg (bl_ HB.out):w.heap.size≤gb338));have GE338:=Aside0.mk ((gs_ hg (bl_ HB.out):w.heap.size≤gb338));replace HB:=Aside0.mk (below_step (bl_ HB.out) hb);clear hb hbox hg)|((with_reducible refine gate_dst (N:=3) rfl ?_);refine bx_ (N:=3) (cs:=#[.string a1_0,.string a1_1,.int .i64 a1_2,.slice A1_3 l1_3.length c1_3,.int .i64 a1_4]) (t:=33) ?_;intro gb339 hg w19 hbox hb;have BK339:=Aside0.mk (hbox);have GW339:=Aside0.mk ((gs_ hg (bl_ HB.out):w.heap.size≤gb339));have GE339:=Aside0.mk ((gs_ hg (bl_ HB.out):w.heap.size≤gb339));replace HB:=Aside0.mk (below_step (bl_ HB.out) hb);have NB338_339:=Aside0.mk ((nl_ hg BK338.out:gb338≠gb339));have NB339_338:=Aside0.mk ((nr_ hg BK338.out:gb339≠gb338));replace BK338:=Aside0.mk (bb_ BK338.out hb);clear hb hbox hg;have hnb20:=NB338_339.out;have hnc20:=NB339_338.out;obtain ⟨hcz21_0,hcz21_1,hcz21_2,hcz21_3,hcz21_4,hfz21_0,hfz21_1,hfz21_2,hfz21_3,hfz21_4⟩:=zf5_ BK338.out;obtain ⟨hcz22_0,hcz22_1,hcz22_2,hcz22_3,hcz22_4,hfz22_0,hfz22_1,hfz22_2,hfz22_3,hfz22_4⟩:=zf5_ BK339.out))
   go_ret
   exact ⟨rt_,bl_ HB.out⟩
 ·rw [if_neg c3] at H
  have c3b0:=bqf_ c3
  have c3b1:=bnt_ c3
  obtain rfl:=Option.some.inj H
  go_enter Tryd.func26,Tryd.ntmps26
  go_wp2_with (first|((with_reducible refine gate_dst (N:=2) rfl ?_);refine bx_ (N:=2) (cs:=#[.string a0_0,.string a0_1,.int .i64 a0_2,.slice A0_3 l0_3.length c0_3,.int .i64 a0_4]) (t:=33) ?_;intro gb338 hg w23 hbox hb;have BK338:=Aside0.mk (hbox);have GW338:=Aside0.mk ((gs_ hg (bl_ HB.out):w.heap.size≤gb338));have GE338:=Aside0.mk ((gs_ hg (bl_ HB.out):w.heap.size≤gb338));replace HB:=Aside0.mk (below_step (bl_ HB.out) hb);clear hb hbox hg)|((with_reducible refine gate_dst (N:=3) rfl ?_);refine bx_ (N:=3) (cs:=#[.string a1_0,.string a1_1,.int .i64 a1_2,.slice A1_3 l1_3.length c1_3,.int .i64 a1_4]) (t:=33) ?_;intro gb339 hg w24 hbox hb;have BK339:=Aside0.mk (hbox);have GW339:=Aside0.mk ((gs_ hg (bl_ HB.out):w.heap.size≤gb339));have GE339:=Aside0.mk ((gs_ hg (bl_ HB.out):w.heap.size≤gb339));replace HB:=Aside0.mk (below_step (bl_ HB.out) hb);have NB338_339:=Aside0.mk ((nl_ hg BK338.out:gb338≠gb339));have NB339_338:=Aside0.mk ((nr_ hg BK338.out:gb339≠gb338));replace BK338:=Aside0.mk (bb_ BK338.out hb);clear hb hbox hg;have hnb25:=NB338_339.out;have hnc25:=NB339_338.out;obtain ⟨hcz26_0,hcz26_1,hcz26_2,hcz26_3,hcz26_4,hfz26_0,hfz26_1,hfz26_2,hfz26_3,hfz26_4⟩:=zf5_ BK338.out;obtain ⟨hcz27_0,hcz27_1,hcz27_2,hcz27_3,hcz27_4,hfz27_0,hfz27_1,hfz27_2,hfz27_3,hfz27_4⟩:=zf5_ BK339.out))
  go_ret
  exact ⟨rt_,bl_ HB.out⟩
end Go.Proofs.YtnnbbeloifhofaaDoor.P
end
section
namespace Go.Proofs.YtnnbbeloifhofaaDoor.P
open Go.RowKit Go.Proofs.YtnnbbeloifhofaaDoorW.PrintWords Go.Proofs.YtnnbbeloifhofaaDoorW.PrintLast Go.Proofs.YtnnbbeloifhofaaDoorW.PrintMore
attribute [local go_sem] max2_int min2_int max_two min_two max_three min_three max_four min_four
set_option linter.unusedVariables false
set_option linter.unusedSimpArgs false
set_option maxHeartbeats 8000000 in
set_option maxRecDepth 100000 in
theorem tree_Expr_at_tree_SameExpr.step (k:Nat) (ih26 : ∀ m_,m_ < k→tree_SameExpr.Stmt m_) (ih43 : ∀ m_,m_ < k→tree_Expr_at_tree_SameExpr.Stmt m_):tree_Expr_at_tree_SameExpr.Stmt k:=by
 intro A0 c0 l0 A1 c1 l1 r w hr0 hc0 hr1 hc1 h
 cases k with
 | zero=>exact absurd h (by simp [tree_Expr_at_tree_SameExpr.f])
 | succ k=>
 simp only [tree_Expr_at_tree_SameExpr.f] at h
 have hu33:=Tryd.underlying33
 have HR0:=Aside0.mk hr0
 have HC0:=Aside0.mk hc0
 clear hr0 hc0
 have HR1:=Aside0.mk hr1
 have HC1:=Aside0.mk hc1
 clear hr1 hc1
 have HB:=Aside0.mk (Below.refl w.heap.size w)
 have H:(if (l0.length:Int)=(l1.length:Int) then (tree_Expr_at_tree_SameExpr.l0 k l1 l0 (l0.length:Int) 0) else (some false))=some r:=h
 clear h
 by_cases c4:(l0.length:Int)=(l1.length:Int)
 ·rw [if_pos c4] at H
  have c4b0:((l0.length:Int) == (l1.length:Int))=true:=beq_iff_eq.mpr c4
  have c4b1:((l0.length:Int) != (l1.length:Int))=false:=bne_eq_false_iff_eq.mpr c4
  have c4b2:(l0.length == l1.length)=true:=by first|simpa using c4|(simp at c4 ⊢;omega)
  clear c4
  have H':=Aside0.mk H
  clear H
  go_enter Tryd.func43,Tryd.ntmps43
  go_wp2
  (try simp only [Act.put,List.setIfInBounds_toArray,List.set_cons_succ,List.set_cons_zero])
  go_loopg [17] k (fun kq v17 w'=>∃ (x17_1:Int),v17=.int .i64 x17_1∧Aside0 (tree_Expr_at_tree_SameExpr.l0 kq l1 l0 (l0.length:Int) x17_1=some r)∧Aside0 (kq≤k)∧Aside0 (Below w.heap.size w w'))
  case atStart=>exact ⟨(0),rf_,H',⟨Nat.le_refl _⟩,⟨bl_ HB.out⟩⟩
  case round=>
   clear H'
   obtain ⟨x17_1,rfl,HA,HK1,HB⟩:=hrel
   cases gk with
   | zero=>exact absurd HA.out (by simp [tree_Expr_at_tree_SameExpr.l0])
   | succ k1=>
    have H:=HA.out
    clear HA
    simp only [tree_Expr_at_tree_SameExpr.l0] at H
    by_cases c5:x17_1 < (l0.length:Int)
    ·rw [if_pos c5] at H
     have c5b0:=decide_eq_true c5
     clear c5
     revert H
     refine gd_ fun c6 H=>?_
     have c6b0:=decide_eq_true c6
     clear c6
     revert H
     refine gd_ fun c7 H=>?_
     have c7b0:=decide_eq_true c7
     clear c7
     revert H
     refine gd_ fun c8 H=>?_
     have c8b0:=decide_eq_true c8
     clear c8
     revert H
     refine bd_ fun t345 A9 H=>?_
     by_cases c10:t345=true
     ·subst c10
      replace H:=ip_ H
      have H':=Aside0.mk H
      clear H
      have p341:0≤(x17_1:Int):=of_decide_eq_true as_
      have q341:x17_1 < (l0.length:Int):=of_decide_eq_true as_
      obtain ⟨ad341,A341_3,c341_3,e341,hx341_0,hx341_1,hx341_2,hx341_3,hx341_4,hl341_3,hi341_3⟩:=at_T33 HR0.out x17_1 p341 q341
      cases e341
      replace hx341_0:=(cb_ HB.out hx341_0:_)
      replace hx341_1:=(cb_ HB.out hx341_1:_)
      replace hx341_2:=(cb_ HB.out hx341_2:_)
      replace hx341_3:=(cb_ HB.out hx341_3:_)
      replace hx341_4:=(cb_ HB.out hx341_4:_)
      have HR341_3:=Aside0.mk hi341_3
      have HC341_3:=Aside0.mk hl341_3
      clear hi341_3 hl341_3
      replace p341:=eq_true p341
      replace q341:=eq_true q341
      go_wp2_with (first|((with_reducible refine gate_dst (N:=8) rfl ?_);refine bx_ (N:=8) (cs:=#[.string (⟨#[]⟩:ByteArray),.string (⟨#[]⟩:ByteArray),.int .i64 0,.slice none 0 0,.int .i64 0]) (t:=33) ?_;intro gb342 hg w11 hbox hb;have BK342:=Aside0.mk (hbox);have GW342:=Aside0.mk ((gs_ hg (bl_ HB.out):w.heap.size≤gb342));have GE342:=Aside0.mk ((gs_ hg (bl_ HB.out):w.heap.size≤gb342));replace HB:=Aside0.mk (below_step (bl_ HB.out) hb);clear hb hbox hg;obtain ⟨hcz12_0,hcz12_1,hcz12_2,hcz12_3,hcz12_4,hfz12_0,hfz12_1,hfz12_2,hfz12_3,hfz12_4⟩:=zf5_ BK342.out;have p343:0≤(x17_1:Int):=of_decide_eq_true as_;have q343:x17_1 < (l1.length:Int):=of_decide_eq_true as_;obtain ⟨ad343,A343_3,c343_3,e343,hx343_0,hx343_1,hx343_2,hx343_3,hx343_4,hl343_3,hi343_3⟩:=at_T33 HR1.out x17_1 p343 q343;cases e343;have hn343_0:ad343.block≠gb342:=Nat.ne_of_lt (Nat.lt_of_lt_of_le (by have:=World.block_lt_of_cell? _ _ hx343_0;first|rwa [add_block] at this|exact this) GW342.out);have hn343_1:ad343.block≠gb342:=Nat.ne_of_lt (Nat.lt_of_lt_of_le (by have:=World.block_lt_of_cell? _ _ hx343_0;first|rwa [add_block] at this|exact this) GW342.out);have hn343_2:ad343.block≠gb342:=Nat.ne_of_lt (Nat.lt_of_lt_of_le (by have:=World.block_lt_of_cell? _ _ hx343_0;first|rwa [add_block] at this|exact this) GW342.out);have hn343_3:ad343.block≠gb342:=Nat.ne_of_lt (Nat.lt_of_lt_of_le (by have:=World.block_lt_of_cell? _ _ hx343_0;first|rwa [add_block] at this|exact this) GW342.out);have hn343_4:ad343.block≠gb342:=Nat.ne_of_lt (Nat.lt_of_lt_of_le (by have:=World.block_lt_of_cell? _ _ hx343_0;first|rwa [add_block] at this|exact this) GW342.out);replace hx343_0:=(cb_ HB.out hx343_0:_);replace hx343_1:=(cb_ HB.out hx343_1:_);replace hx343_2:=(cb_ HB.out hx343_2:_);replace hx343_3:=(cb_ HB.out hx343_3:_);replace hx343_4:=(cb_ HB.out hx343_4:_);have HR343_3:=Aside0.mk hi343_3;have HC343_3:=Aside0.mk hl343_3;clear hi343_3 hl343_3;replace hx343_0:=(cell_far (p:=⟨gb342,0,none⟩) (ab_ hn343_0) (.string ((rd_T33 l0 x17_1).f0))).trans hx343_0;replace hx343_1:=(cell_far (p:=⟨gb342,0,none⟩) (ab_ hn343_0) (.string ((rd_T33 l0 x17_1).f0))).trans hx343_1;replace hx343_2:=(cell_far (p:=⟨gb342,0,none⟩) (ab_ hn343_0) (.string ((rd_T33 l0 x17_1).f0))).trans hx343_2;replace hx343_3:=(cell_far (p:=⟨gb342,0,none⟩) (ab_ hn343_0) (.string ((rd_T33 l0 x17_1).f0))).trans hx343_3;replace hx343_4:=(cell_far (p:=⟨gb342,0,none⟩) (ab_ hn343_0) (.string ((rd_T33 l0 x17_1).f0))).trans hx343_4;replace hx343_0:=(cell_far (p:=⟨gb342,1,none⟩) (ab_ hn343_1) (.string ((rd_T33 l0 x17_1).f1))).trans hx343_0;replace hx343_1:=(cell_far (p:=⟨gb342,1,none⟩) (ab_ hn343_1) (.string ((rd_T33 l0 x17_1).f1))).trans hx343_1;replace hx343_2:=(cell_far (p:=⟨gb342,1,none⟩) (ab_ hn343_1) (.string ((rd_T33 l0 x17_1).f1))).trans hx343_2;replace hx343_3:=(cell_far (p:=⟨gb342,1,none⟩) (ab_ hn343_1) (.string ((rd_T33 l0 x17_1).f1))).trans hx343_3;replace hx343_4:=(cell_far (p:=⟨gb342,1,none⟩) (ab_ hn343_1) (.string ((rd_T33 l0 x17_1).f1))).trans hx343_4;replace hx343_0:=(cell_far (p:=⟨gb342,2,none⟩) (ab_ hn343_2) (.int .i64 ((rd_T33 l0 x17_1).f2))).trans hx343_0;replace hx343_1:=(cell_far (p:=⟨gb342,2,none⟩) (ab_ hn343_2) (.int .i64 ((rd_T33 l0 x17_1).f2))).trans hx343_1;replace hx343_2:=(cell_far (p:=⟨gb342,2,none⟩) (ab_ hn343_2) (.int .i64 ((rd_T33 l0 x17_1).f2))).trans hx343_2;replace hx343_3:=(cell_far (p:=⟨gb342,2,none⟩) (ab_ hn343_2) (.int .i64 ((rd_T33 l0 x17_1).f2))).trans hx343_3;replace hx343_4:=(cell_far (p:=⟨gb342,2,none⟩) (ab_ hn343_2) (.int .i64 ((rd_T33 l0 x17_1).f2))).trans hx343_4;replace hx343_0:=(cell_far (p:=⟨gb342,3,none⟩) (ab_ hn343_3) (.slice A341_3 ((rd_T33 l0 x17_1).f3).length c341_3)).trans hx343_0;replace hx343_1:=(cell_far (p:=⟨gb342,3,none⟩) (ab_ hn343_3) (.slice A341_3 ((rd_T33 l0 x17_1).f3).length c341_3)).trans hx343_1;replace hx343_2:=(cell_far (p:=⟨gb342,3,none⟩) (ab_ hn343_3) (.slice A341_3 ((rd_T33 l0 x17_1).f3).length c341_3)).trans hx343_2;replace hx343_3:=(cell_far (p:=⟨gb342,3,none⟩) (ab_ hn343_3) (.slice A341_3 ((rd_T33 l0 x17_1).f3).length c341_3)).trans hx343_3;replace hx343_4:=(cell_far (p:=⟨gb342,3,none⟩) (ab_ hn343_3) (.slice A341_3 ((rd_T33 l0 x17_1).f3).length c341_3)).trans hx343_4;replace hx343_0:=(cell_far (p:=⟨gb342,4,none⟩) (ab_ hn343_4) (.int .i64 ((rd_T33 l0 x17_1).f4))).trans hx343_0;replace hx343_1:=(cell_far (p:=⟨gb342,4,none⟩) (ab_ hn343_4) (.int .i64 ((rd_T33 l0 x17_1).f4))).trans hx343_1;replace hx343_2:=(cell_far (p:=⟨gb342,4,none⟩) (ab_ hn343_4) (.int .i64 ((rd_T33 l0 x17_1).f4))).trans hx343_2;replace hx343_3:=(cell_far (p:=⟨gb342,4,none⟩) (ab_ hn343_4) (.int .i64 ((rd_T33 l0 x17_1).f4))).trans hx343_3;replace hx343_4:=(cell_far (p:=⟨gb342,4,none⟩) (ab_ hn343_4) (.int .i64 ((rd_T33 l0 x17_1).f4))).trans hx343_4;clear hn343_0;clear hn343_1;clear hn343_2;clear hn343_3;clear hn343_4;replace p343:=eq_true p343;replace q343:=eq_true q343)|((with_reducible refine gate_dst (N:=9) rfl ?_);refine bx_ (N:=9) (cs:=#[.string (⟨#[]⟩:ByteArray),.string (⟨#[]⟩:ByteArray),.int .i64 0,.slice none 0 0,.int .i64 0]) (t:=33) ?_;intro gb344 hg w13 hbox hb;have n0_:=Aside0.mk (blk_below (g:=gb342) (o:=.cells #[.string ((rd_T33 l0 x17_1).f0),.string ((rd_T33 l0 x17_1).f1),.int .i64 ((rd_T33 l0 x17_1).f2),.slice A341_3 ((rd_T33 l0 x17_1).f3).length c341_3,.int .i64 ((rd_T33 l0 x17_1).f4)] 33 (0,0)) (kbc_ BK342.out) hb);have n1_:=Aside0.mk (below_step (bl_ HB.out) hb);have n2_:=Aside0.mk (hbox);have n3_:=Aside0.mk ((gs_ hg (bl_ HB.out):w.heap.size≤gb344));have n4_:=Aside0.mk ((gs_ hg (bl_ HB.out):w.heap.size≤gb344));have n5_:=Aside0.mk ((by rw [hg];exact Nat.ne_of_lt (blk_lt (g:=gb342) (o:=.cells #[.string ((rd_T33 l0 x17_1).f0),.string ((rd_T33 l0 x17_1).f1),.int .i64 ((rd_T33 l0 x17_1).f2),.slice A341_3 ((rd_T33 l0 x17_1).f3).length c341_3,.int .i64 ((rd_T33 l0 x17_1).f4)] 33 (0,0)) (kbc_ BK342.out)):gb342≠gb344));have n6_:=Aside0.mk ((by rw [hg];exact Nat.ne_of_gt (blk_lt (g:=gb342) (o:=.cells #[.string ((rd_T33 l0 x17_1).f0),.string ((rd_T33 l0 x17_1).f1),.int .i64 ((rd_T33 l0 x17_1).f2),.slice A341_3 ((rd_T33 l0 x17_1).f3).length c341_3,.int .i64 ((rd_T33 l0 x17_1).f4)] 33 (0,0)) (kbc_ BK342.out)):gb344≠gb342));clear BK342;clear HB;have BK342:=n0_;have HB:=n1_;have BK344:=n2_;have GW344:=n3_;have GE344:=n4_;have NB342_344:=n5_;have NB344_342:=n6_;clear n0_ n1_ n2_ n3_ n4_ n5_ n6_;clear hb hbox hg;have hnb14:=NB344_342.out;have hnc14:=NB342_344.out;obtain ⟨hcz15_0,hcz15_1,hcz15_2,hcz15_3,hcz15_4,hfz15_0,hfz15_1,hfz15_2,hfz15_3,hfz15_4⟩:=zf5_ BK344.out;obtain ⟨hcz16_0,hcz16_1,hcz16_2,hcz16_3,hcz16_4,hfz16_0,hfz16_1,hfz16_2,hfz16_3,hfz16_4⟩:=zf5_ BK342.out)|((with_reducible refine (ih26 k1 (by have:=HK1.out;omega) ((rd_T33 l0 x17_1).f0) ((rd_T33 l0 x17_1).f1) ((rd_T33 l0 x17_1).f2) _ _ ((rd_T33 l0 x17_1).f3) ((rd_T33 l0 x17_1).f4) ((rd_T33 l1 x17_1).f0) ((rd_T33 l1 x17_1).f1) ((rd_T33 l1 x17_1).f2) _ _ ((rd_T33 l1 x17_1).f3) ((rd_T33 l1 x17_1).f4) true _ ?side1 ?side2 ?side3 ?side4 A9.out).mono ?_);(case side1=>exact Kd.C_below HR341_3.out (bl_ HB.out));(case side2=>exact HC341_3.out);(case side3=>exact Kd.C_below HR343_3.out (bl_ HB.out));(case side4=>exact HC343_3.out);rintro e w17 ⟨rfl,hb⟩;replace BK342:=Aside0.mk (blk_below (g:=gb342) (o:=.cells #[.string ((rd_T33 l0 x17_1).f0),.string ((rd_T33 l0 x17_1).f1),.int .i64 ((rd_T33 l0 x17_1).f2),.slice A341_3 ((rd_T33 l0 x17_1).f3).length c341_3,.int .i64 ((rd_T33 l0 x17_1).f4)] 33 (0,0)) (kbc_ BK342.out) hb);replace BK344:=Aside0.mk (blk_below (g:=gb344) (o:=.cells #[.string ((rd_T33 l1 x17_1).f0),.string ((rd_T33 l1 x17_1).f1),.int .i64 ((rd_T33 l1 x17_1).f2),.slice A343_3 ((rd_T33 l1 x17_1).f3).length c343_3,.int .i64 ((rd_T33 l1 x17_1).f4)] 33 (0,0)) (kbc_ BK344.out) hb);replace HB:=Aside0.mk (below_step (bl_ HB.out) hb)))
      go_roundg k1
      case measure=>have:=HK1.out;omega
      case rel=>exact ⟨(wrap64 (x17_1+1)),rf_,H',⟨by have:=HK1.out;omega⟩,⟨bl_ HB.out⟩⟩
     ·replace c10:=Bool.eq_false_iff.mpr c10
      subst c10
      replace H:=in_ H
      obtain rfl:=Option.some.inj H
      have p341:0≤(x17_1:Int):=of_decide_eq_true as_
      have q341:x17_1 < (l0.length:Int):=of_decide_eq_true as_
      obtain ⟨ad341,A341_3,c341_3,e341,hx341_0,hx341_1,hx341_2,hx341_3,hx341_4,hl341_3,hi341_3⟩:=at_T33 HR0.out x17_1 p341 q341
      cases e341
      replace hx341_0:=(cb_ HB.out hx341_0:_)
      replace hx341_1:=(cb_ HB.out hx341_1:_)
      replace hx341_2:=(cb_ HB.out hx341_2:_)
      replace hx341_3:=(cb_ HB.out hx341_3:_)
      replace hx341_4:=(cb_ HB.out hx341_4:_)
      have HR341_3:=Aside0.mk hi341_3
      have HC341_3:=Aside0.mk hl341_3
      clear hi341_3 hl341_3
      replace p341:=eq_true p341
      replace q341:=eq_true q341
      go_wp2_with (first|((with_reducible refine gate_dst (N:=8) rfl ?_);refine bx_ (N:=8) (cs:=#[.string (⟨#[]⟩:ByteArray),.string (⟨#[]⟩:ByteArray),.int .i64 0,.slice none 0 0,.int .i64 0]) (t:=33) ?_;intro gb342 hg w18 hbox hb;have BK342:=Aside0.mk (hbox);have GW342:=Aside0.mk ((gs_ hg (bl_ HB.out):w.heap.size≤gb342));have GE342:=Aside0.mk ((gs_ hg (bl_ HB.out):w.heap.size≤gb342));replace HB:=Aside0.mk (below_step (bl_ HB.out) hb);clear hb hbox hg;obtain ⟨hcz19_0,hcz19_1,hcz19_2,hcz19_3,hcz19_4,hfz19_0,hfz19_1,hfz19_2,hfz19_3,hfz19_4⟩:=zf5_ BK342.out;have p343:0≤(x17_1:Int):=of_decide_eq_true as_;have q343:x17_1 < (l1.length:Int):=of_decide_eq_true as_;obtain ⟨ad343,A343_3,c343_3,e343,hx343_0,hx343_1,hx343_2,hx343_3,hx343_4,hl343_3,hi343_3⟩:=at_T33 HR1.out x17_1 p343 q343;cases e343;have hn343_0:ad343.block≠gb342:=Nat.ne_of_lt (Nat.lt_of_lt_of_le (by have:=World.block_lt_of_cell? _ _ hx343_0;first|rwa [add_block] at this|exact this) GW342.out);have hn343_1:ad343.block≠gb342:=Nat.ne_of_lt (Nat.lt_of_lt_of_le (by have:=World.block_lt_of_cell? _ _ hx343_0;first|rwa [add_block] at this|exact this) GW342.out);have hn343_2:ad343.block≠gb342:=Nat.ne_of_lt (Nat.lt_of_lt_of_le (by have:=World.block_lt_of_cell? _ _ hx343_0;first|rwa [add_block] at this|exact this) GW342.out);have hn343_3:ad343.block≠gb342:=Nat.ne_of_lt (Nat.lt_of_lt_of_le (by have:=World.block_lt_of_cell? _ _ hx343_0;first|rwa [add_block] at this|exact this) GW342.out);have hn343_4:ad343.block≠gb342:=Nat.ne_of_lt (Nat.lt_of_lt_of_le (by have:=World.block_lt_of_cell? _ _ hx343_0;first|rwa [add_block] at this|exact this) GW342.out);replace hx343_0:=(cb_ HB.out hx343_0:_);replace hx343_1:=(cb_ HB.out hx343_1:_);replace hx343_2:=(cb_ HB.out hx343_2:_);replace hx343_3:=(cb_ HB.out hx343_3:_);replace hx343_4:=(cb_ HB.out hx343_4:_);have HR343_3:=Aside0.mk hi343_3;have HC343_3:=Aside0.mk hl343_3;clear hi343_3 hl343_3;replace hx343_0:=(cell_far (p:=⟨gb342,0,none⟩) (ab_ hn343_0) (.string ((rd_T33 l0 x17_1).f0))).trans hx343_0;replace hx343_1:=(cell_far (p:=⟨gb342,0,none⟩) (ab_ hn343_0) (.string ((rd_T33 l0 x17_1).f0))).trans hx343_1;replace hx343_2:=(cell_far (p:=⟨gb342,0,none⟩) (ab_ hn343_0) (.string ((rd_T33 l0 x17_1).f0))).trans hx343_2;replace hx343_3:=(cell_far (p:=⟨gb342,0,none⟩) (ab_ hn343_0) (.string ((rd_T33 l0 x17_1).f0))).trans hx343_3;replace hx343_4:=(cell_far (p:=⟨gb342,0,none⟩) (ab_ hn343_0) (.string ((rd_T33 l0 x17_1).f0))).trans hx343_4;replace hx343_0:=(cell_far (p:=⟨gb342,1,none⟩) (ab_ hn343_1) (.string ((rd_T33 l0 x17_1).f1))).trans hx343_0;replace hx343_1:=(cell_far (p:=⟨gb342,1,none⟩) (ab_ hn343_1) (.string ((rd_T33 l0 x17_1).f1))).trans hx343_1;replace hx343_2:=(cell_far (p:=⟨gb342,1,none⟩) (ab_ hn343_1) (.string ((rd_T33 l0 x17_1).f1))).trans hx343_2;replace hx343_3:=(cell_far (p:=⟨gb342,1,none⟩) (ab_ hn343_1) (.string ((rd_T33 l0 x17_1).f1))).trans hx343_3;replace hx343_4:=(cell_far (p:=⟨gb342,1,none⟩) (ab_ hn343_1) (.string ((rd_T33 l0 x17_1).f1))).trans hx343_4;replace hx343_0:=(cell_far (p:=⟨gb342,2,none⟩) (ab_ hn343_2) (.int .i64 ((rd_T33 l0 x17_1).f2))).trans hx343_0;replace hx343_1:=(cell_far (p:=⟨gb342,2,none⟩) (ab_ hn343_2) (.int .i64 ((rd_T33 l0 x17_1).f2))).trans hx343_1;replace hx343_2:=(cell_far (p:=⟨gb342,2,none⟩) (ab_ hn343_2) (.int .i64 ((rd_T33 l0 x17_1).f2))).trans hx343_2;replace hx343_3:=(cell_far (p:=⟨gb342,2,none⟩) (ab_ hn343_2) (.int .i64 ((rd_T33 l0 x17_1).f2))).trans hx343_3;replace hx343_4:=(cell_far (p:=⟨gb342,2,none⟩) (ab_ hn343_2) (.int .i64 ((rd_T33 l0 x17_1).f2))).trans hx343_4;replace hx343_0:=(cell_far (p:=⟨gb342,3,none⟩) (ab_ hn343_3) (.slice A341_3 ((rd_T33 l0 x17_1).f3).length c341_3)).trans hx343_0;replace hx343_1:=(cell_far (p:=⟨gb342,3,none⟩) (ab_ hn343_3) (.slice A341_3 ((rd_T33 l0 x17_1).f3).length c341_3)).trans hx343_1;replace hx343_2:=(cell_far (p:=⟨gb342,3,none⟩) (ab_ hn343_3) (.slice A341_3 ((rd_T33 l0 x17_1).f3).length c341_3)).trans hx343_2;replace hx343_3:=(cell_far (p:=⟨gb342,3,none⟩) (ab_ hn343_3) (.slice A341_3 ((rd_T33 l0 x17_1).f3).length c341_3)).trans hx343_3;replace hx343_4:=(cell_far (p:=⟨gb342,3,none⟩) (ab_ hn343_3) (.slice A341_3 ((rd_T33 l0 x17_1).f3).length c341_3)).trans hx343_4;replace hx343_0:=(cell_far (p:=⟨gb342,4,none⟩) (ab_ hn343_4) (.int .i64 ((rd_T33 l0 x17_1).f4))).trans hx343_0;replace hx343_1:=(cell_far (p:=⟨gb342,4,none⟩) (ab_ hn343_4) (.int .i64 ((rd_T33 l0 x17_1).f4))).trans hx343_1;replace hx343_2:=(cell_far (p:=⟨gb342,4,none⟩) (ab_ hn343_4) (.int .i64 ((rd_T33 l0 x17_1).f4))).trans hx343_2;replace hx343_3:=(cell_far (p:=⟨gb342,4,none⟩) (ab_ hn343_4) (.int .i64 ((rd_T33 l0 x17_1).f4))).trans hx343_3;replace hx343_4:=(cell_far (p:=⟨gb342,4,none⟩) (ab_ hn343_4) (.int .i64 ((rd_T33 l0 x17_1).f4))).trans hx343_4;clear hn343_0;clear hn343_1;clear hn343_2;clear hn343_3;clear hn343_4;replace p343:=eq_true p343;replace q343:=eq_true q343)|((with_reducible refine gate_dst (N:=9) rfl ?_);refine bx_ (N:=9) (cs:=#[.string (⟨#[]⟩:ByteArray),.string (⟨#[]⟩:ByteArray),.int .i64 0,.slice none 0 0,.int .i64 0]) (t:=33) ?_;intro gb344 hg w20 hbox hb;have n0_:=Aside0.mk (blk_below (g:=gb342) (o:=.cells #[.string ((rd_T33 l0 x17_1).f0),.string ((rd_T33 l0 x17_1).f1),.int .i64 ((rd_T33 l0 x17_1).f2),.slice A341_3 ((rd_T33 l0 x17_1).f3).length c341_3,.int .i64 ((rd_T33 l0 x17_1).f4)] 33 (0,0)) (kbc_ BK342.out) hb);have n1_:=Aside0.mk (below_step (bl_ HB.out) hb);have n2_:=Aside0.mk (hbox);have n3_:=Aside0.mk ((gs_ hg (bl_ HB.out):w.heap.size≤gb344));have n4_:=Aside0.mk ((gs_ hg (bl_ HB.out):w.heap.size≤gb344));have n5_:=Aside0.mk ((by rw [hg];exact Nat.ne_of_lt (blk_lt (g:=gb342) (o:=.cells #[.string ((rd_T33 l0 x17_1).f0),.string ((rd_T33 l0 x17_1).f1),.int .i64 ((rd_T33 l0 x17_1).f2),.slice A341_3 ((rd_T33 l0 x17_1).f3).length c341_3,.int .i64 ((rd_T33 l0 x17_1).f4)] 33 (0,0)) (kbc_ BK342.out)):gb342≠gb344));have n6_:=Aside0.mk ((by rw [hg];exact Nat.ne_of_gt (blk_lt (g:=gb342) (o:=.cells #[.string ((rd_T33 l0 x17_1).f0),.string ((rd_T33 l0 x17_1).f1),.int .i64 ((rd_T33 l0 x17_1).f2),.slice A341_3 ((rd_T33 l0 x17_1).f3).length c341_3,.int .i64 ((rd_T33 l0 x17_1).f4)] 33 (0,0)) (kbc_ BK342.out)):gb344≠gb342));clear BK342;clear HB;have BK342:=n0_;have HB:=n1_;have BK344:=n2_;have GW344:=n3_;have GE344:=n4_;have NB342_344:=n5_;have NB344_342:=n6_;clear n0_ n1_ n2_ n3_ n4_ n5_ n6_;clear hb hbox hg;have hnb21:=NB344_342.out;have hnc21:=NB342_344.out;obtain ⟨hcz22_0,hcz22_1,hcz22_2,hcz22_3,hcz22_4,hfz22_0,hfz22_1,hfz22_2,hfz22_3,hfz22_4⟩:=zf5_ BK344.out;obtain ⟨hcz23_0,hcz23_1,hcz23_2,hcz23_3,hcz23_4,hfz23_0,hfz23_1,hfz23_2,hfz23_3,hfz23_4⟩:=zf5_ BK342.out)|((with_reducible refine (ih26 k1 (by have:=HK1.out;omega) ((rd_T33 l0 x17_1).f0) ((rd_T33 l0 x17_1).f1) ((rd_T33 l0 x17_1).f2) _ _ ((rd_T33 l0 x17_1).f3) ((rd_T33 l0 x17_1).f4) ((rd_T33 l1 x17_1).f0) ((rd_T33 l1 x17_1).f1) ((rd_T33 l1 x17_1).f2) _ _ ((rd_T33 l1 x17_1).f3) ((rd_T33 l1 x17_1).f4) false _ ?side1 ?side2 ?side3 ?side4 A9.out).mono ?_);(case side1=>exact Kd.C_below HR341_3.out (bl_ HB.out));(case side2=>exact HC341_3.out);(case side3=>exact Kd.C_below HR343_3.out (bl_ HB.out));(case side4=>exact HC343_3.out);rintro e w24 ⟨rfl,hb⟩;replace BK342:=Aside0.mk (blk_below (g:=gb342) (o:=.cells #[.string ((rd_T33 l0 x17_1).f0),.string ((rd_T33 l0 x17_1).f1),.int .i64 ((rd_T33 l0 x17_1).f2),.slice A341_3 ((rd_T33 l0 x17_1).f3).length c341_3,.int .i64 ((rd_T33 l0 x17_1).f4)] 33 (0,0)) (kbc_ BK342.out) hb);replace BK344:=Aside0.mk (blk_below (g:=gb344) (o:=.cells #[.string ((rd_T33 l1 x17_1).f0),.string ((rd_T33 l1 x17_1).f1),.int .i64 ((rd_T33 l1 x17_1).f2),.slice A343_3 ((rd_T33 l1 x17_1).f3).length c343_3,.int .i64 ((rd_T33 l1 x17_1).f4)] 33 (0,0)) (kbc_ BK344.out) hb);replace HB:=Aside0.mk (below_step (bl_ HB.out) hb)))
      go_ret
      exact ⟨rt_,bl_ HB.out⟩
    ·rw [if_neg c5] at H
     have c5b0:=decide_eq_false c5
     clear c5
     obtain rfl:=Option.some.inj H
     go_wp2
     go_ret
     exact ⟨rt_,bl_ HB.out⟩
 ·rw [if_neg c4] at H
  have c4b0:((l0.length:Int) == (l1.length:Int))=false:=beq_eq_false_iff_ne.mpr c4
  have c4b1:((l0.length:Int) != (l1.length:Int))=true:=bne_iff_ne.mpr c4
  have c4b2:(l0.length == l1.length)=false:=by first|simpa using c4|(simp at c4 ⊢;omega)
  obtain rfl:=Option.some.inj H
  go_enter Tryd.func43,Tryd.ntmps43
  go_wp2
  go_ret
  exact ⟨rt_,bl_ HB.out⟩
end Go.Proofs.YtnnbbeloifhofaaDoor.P
end
section
namespace Go.Proofs.YtnnbbeloifhofaaDoor.P
open Go.RowKit Go.Proofs.YtnnbbeloifhofaaDoorW.PrintWords Go.Proofs.YtnnbbeloifhofaaDoorW.PrintLast Go.Proofs.YtnnbbeloifhofaaDoorW.PrintMore
attribute [local go_sem] max2_int min2_int max_two min_two max_three min_three max_four min_four
set_option linter.unusedVariables false
set_option linter.unusedSimpArgs false
theorem tree_SameExpr_ring.all (k:Nat):tree_SameExpr.Stmt k∧tree_Expr_at_tree_SameExpr.Stmt k:=by
  induction k using Nat.strongRecOn with
  | _ k ih=>
  exact ⟨tree_SameExpr.step k (fun m_ h_=>(ih m_ h_).1) (fun m_ h_=>(ih m_ h_).2),tree_Expr_at_tree_SameExpr.step k (fun m_ h_=>(ih m_ h_).1) (fun m_ h_=>(ih m_ h_).2)⟩
theorem tree_SameExpr.calls (k:Nat):tree_SameExpr.Stmt k:=(tree_SameExpr_ring.all k).1
theorem tree_Expr_at_tree_SameExpr.calls (k:Nat):tree_Expr_at_tree_SameExpr.Stmt k:=(tree_SameExpr_ring.all k).2
end Go.Proofs.YtnnbbeloifhofaaDoor.P
end
section
namespace Go.Proofs.YtnnbbeloifhofaaDoor.P
open Go.RowKit Go.Proofs.YtnnbbeloifhofaaDoorW.PrintWords Go.Proofs.YtnnbbeloifhofaaDoorW.PrintLast Go.Proofs.YtnnbbeloifhofaaDoorW.PrintMore
attribute [local go_sem] max2_int min2_int max_two min_two max_three min_three max_four min_four
set_option linter.unusedVariables false
set_option linter.unusedSimpArgs false
set_option maxHeartbeats 8000000 in
set_option maxRecDepth 100000 in
theorem tree_sameStmt.step (k:Nat) (ih47 : ∀ m_,m_ < k→tree_Stmt_at_tree_sameStmt.Stmt m_) (ih48 : ∀ m_,m_ < k→tree_sameStmt.Stmt m_):tree_sameStmt.Stmt k:=by
 intro a0_0 a0_1 A0_2 c0_2 l0_2 A0_3 c0_3 l0_3 A0_4 c0_4 l0_4 a0_5 a1_0 a1_1 A1_2 c1_2 l1_2 A1_3 c1_3 l1_3 A1_4 c1_4 l1_4 a1_5 r w hr0_2 hc0_2 hr0_3 hc0_3 hr0_4 hc0_4 hr1_2 hc1_2 hr1_3 hc1_3 hr1_4 hc1_4 h
 cases k with
 | zero=>exact absurd h (by simp [tree_sameStmt.f])
 | succ k=>
 simp only [tree_sameStmt.f] at h
 have hu76:=Tryd.underlying76
 have HR0_2:=Aside0.mk hr0_2
 have HC0_2:=Aside0.mk hc0_2
 clear hr0_2 hc0_2
 have HR0_3:=Aside0.mk hr0_3
 have HC0_3:=Aside0.mk hc0_3
 clear hr0_3 hc0_3
 have HR0_4:=Aside0.mk hr0_4
 have HC0_4:=Aside0.mk hc0_4
 clear hr0_4 hc0_4
 have HR1_2:=Aside0.mk hr1_2
 have HC1_2:=Aside0.mk hc1_2
 clear hr1_2 hc1_2
 have HR1_3:=Aside0.mk hr1_3
 have HC1_3:=Aside0.mk hc1_3
 clear hr1_3 hc1_3
 have HR1_4:=Aside0.mk hr1_4
 have HC1_4:=Aside0.mk hc1_4
 clear hr1_4 hc1_4
 have HB:=Aside0.mk (Below.refl w.heap.size w)
 have H:(if a0_0.toList=a1_0.toList then (if a0_1.toList=a1_1.toList then ((tree_Expr_at_tree_SameExpr.f k l0_2 l1_2).bind fun t365=>(if t365=true then ((tree_Stmt_at_tree_sameStmt.f k l0_3 l1_3).bind fun t366=>(if t366=true then ((tree_Stmt_at_tree_sameStmt.f k l0_4 l1_4).bind fun t367=>(some t367)) else (some false))) else (some false))) else (some false)) else (some false))=some r:=h
 clear h
 by_cases c3:a0_0.toList=a1_0.toList
 ·rw [if_pos c3] at H
  have c3b0:=bqt_ c3
  have c3b1:=bnf_ c3
  clear c3
  by_cases c4:a0_1.toList=a1_1.toList
  ·rw [if_pos c4] at H
   have c4b0:=bqt_ c4
   have c4b1:=bnf_ c4
   clear c4
   revert H
   refine bd_ fun t365 A5 H=>?_
   by_cases c6:t365=true
   ·subst c6
    replace H:=ip_ H
    revert H
    refine bd_ fun t366 A7 H=>?_
    by_cases c8:t366=true
    ·subst c8
     replace H:=ip_ H
     revert H
     refine bd_ fun t367 A9 H=>?_
     obtain rfl:=Option.some.inj H
     go_enter Tryd.func48,Tryd.ntmps48
     go_wp2_with (first|((with_reducible refine gate_dst (N:=2) rfl ?_);refine bx_ (N:=2) (cs:=#[.string a0_0,.string a0_1,.slice A0_2 l0_2.length c0_2,.slice A0_3 l0_3.length c0_3,.slice A0_4 l0_4.length c0_4,.int .i64 a0_5]) (t:=76) ?_;intro gb363 hg w10 hbox hb;have BK363:=Aside0.mk (hbox);have GW363:=Aside0.mk ((gs_ hg (bl_ HB.out):w.heap.size≤gb363));have GE363:=Aside0.mk ((gs_ hg (bl_ HB.out):w.heap.size≤gb363));replace HB:=Aside0.mk (below_step (bl_ HB.out) hb);clear hb hbox hg)|((with_reducible refine gate_dst (N:=3) rfl ?_);refine bx_ (N:=3) (cs:=#[.string a1_0,.string a1_1,.slice A1_2 l1_2.length c1_2,.slice A1_3 l1_3.length c1_3,.slice A1_4 l1_4.length c1_4,.int .i64 a1_5]) (t:=76) ?_;intro gb364 hg w11 hbox hb;have BK364:=Aside0.mk (hbox);have GW364:=Aside0.mk ((gs_ hg (bl_ HB.out):w.heap.size≤gb364));have GE364:=Aside0.mk ((gs_ hg (bl_ HB.out):w.heap.size≤gb364));replace HB:=Aside0.mk (below_step (bl_ HB.out) hb);have NB363_364:=Aside0.mk ((nl_ hg BK363.out:gb363≠gb364));have NB364_363:=Aside0.mk ((nr_ hg BK363.out:gb364≠gb363));replace BK363:=Aside0.mk (bb_ BK363.out hb);clear hb hbox hg;have hnb12:=NB363_364.out;have hnc12:=NB364_363.out;obtain ⟨hcz13_0,hcz13_1,hcz13_2,hcz13_3,hcz13_4,hcz13_5,hfz13_0,hfz13_1,hfz13_2,hfz13_3,hfz13_4,hfz13_5⟩:=zf6_ BK363.out;obtain ⟨hcz14_0,hcz14_1,hcz14_2,hcz14_3,hcz14_4,hcz14_5,hfz14_0,hfz14_1,hfz14_2,hfz14_3,hfz14_4,hfz14_5⟩:=zf6_ BK364.out)|(go_at_call 43;(with_reducible refine (tree_Expr_at_tree_SameExpr.calls k _ _ l0_2 _ _ l1_2 true _ ?side1 ?side2 ?side3 ?side4 A5.out).mono ?_);(case side1=>exact kc_ HR0_2.out HB.out);(case side2=>exact HC0_2.out);(case side3=>exact kc_ HR1_2.out HB.out);(case side4=>exact HC1_2.out);rintro e w15 ⟨rfl,hb⟩;replace BK363:=Aside0.mk (bb_ BK363.out hb);replace BK364:=Aside0.mk (bb_ BK364.out hb);replace HB:=Aside0.mk (below_step (bl_ HB.out) hb);obtain ⟨hcz16_0,hcz16_1,hcz16_2,hcz16_3,hcz16_4,hcz16_5,hfz16_0,hfz16_1,hfz16_2,hfz16_3,hfz16_4,hfz16_5⟩:=zf6_ BK363.out;obtain ⟨hcz17_0,hcz17_1,hcz17_2,hcz17_3,hcz17_4,hcz17_5,hfz17_0,hfz17_1,hfz17_2,hfz17_3,hfz17_4,hfz17_5⟩:=zf6_ BK364.out)|(go_at_call 47;(with_reducible refine (ih47 k (by omega) _ _ l0_3 _ _ l1_3 true _ ?side1 ?side2 ?side3 ?side4 A7.out).mono ?_);(case side1=>exact kc_ HR0_3.out HB.out);(case side2=>exact HC0_3.out);(case side3=>exact kc_ HR1_3.out HB.out);(case side4=>exact HC1_3.out);rintro e w18 ⟨rfl,hb⟩;replace BK363:=Aside0.mk (bb_ BK363.out hb);replace BK364:=Aside0.mk (bb_ BK364.out hb);replace HB:=Aside0.mk (below_step (bl_ HB.out) hb);obtain ⟨hcz19_0,hcz19_1,hcz19_2,hcz19_3,hcz19_4,hcz19_5,hfz19_0,hfz19_1,hfz19_2,hfz19_3,hfz19_4,hfz19_5⟩:=zf6_ BK363.out;obtain ⟨hcz20_0,hcz20_1,hcz20_2,hcz20_3,hcz20_4,hcz20_5,hfz20_0,hfz20_1,hfz20_2,hfz20_3,hfz20_4,hfz20_5⟩:=zf6_ BK364.out)|(go_at_call 47;(with_reducible refine (ih47 k (by omega) _ _ l0_4 _ _ l1_4 t367 _ ?side1 ?side2 ?side3 ?side4 A9.out).mono ?_);(case side1=>exact kc_ HR0_4.out HB.out);(case side2=>exact HC0_4.out);(case side3=>exact kc_ HR1_4.out HB.out);(case side4=>exact HC1_4.out);rintro e w21 ⟨rfl,hb⟩;replace BK363:=Aside0.mk (bb_ BK363.out hb);replace BK364:=Aside0.mk (bb_ BK364.out hb);replace HB:=Aside0.mk (below_step (bl_ HB.out) hb)))
     go_ret
     exact ⟨rt_,bl_ HB.out⟩
    ·replace c8:=Bool.eq_false_iff.mpr c8
     subst c8
     replace H:=in_ H
     obtain rfl:=Option.some.inj H
     go_enter Tryd.func48,Tryd.ntmps48
     go_wp2_with (first|((with_reducible refine gate_dst (N:=2) rfl ?_);refine bx_ (N:=2) (cs:=#[.string a0_0,.string a0_1,.slice A0_2 l0_2.length c0_2,.slice A0_3 l0_3.length c0_3,.slice A0_4 l0_4.length c0_4,.int .i64 a0_5]) (t:=76) ?_;intro gb363 hg w22 hbox hb;have BK363:=Aside0.mk (hbox);have GW363:=Aside0.mk ((gs_ hg (bl_ HB.out):w.heap.size≤gb363));have GE363:=Aside0.mk ((gs_ hg (bl_ HB.out):w.heap.size≤gb363));replace HB:=Aside0.mk (below_step (bl_ HB.out) hb);clear hb hbox hg)|((with_reducible refine gate_dst (N:=3) rfl ?_);refine bx_ (N:=3) (cs:=#[.string a1_0,.string a1_1,.slice A1_2 l1_2.length c1_2,.slice A1_3 l1_3.length c1_3,.slice A1_4 l1_4.length c1_4,.int .i64 a1_5]) (t:=76) ?_;intro gb364 hg w23 hbox hb;have BK364:=Aside0.mk (hbox);have GW364:=Aside0.mk ((gs_ hg (bl_ HB.out):w.heap.size≤gb364));have GE364:=Aside0.mk ((gs_ hg (bl_ HB.out):w.heap.size≤gb364));replace HB:=Aside0.mk (below_step (bl_ HB.out) hb);have NB363_364:=Aside0.mk ((nl_ hg BK363.out:gb363≠gb364));have NB364_363:=Aside0.mk ((nr_ hg BK363.out:gb364≠gb363));replace BK363:=Aside0.mk (bb_ BK363.out hb);clear hb hbox hg;have hnb24:=NB363_364.out;have hnc24:=NB364_363.out;obtain ⟨hcz25_0,hcz25_1,hcz25_2,hcz25_3,hcz25_4,hcz25_5,hfz25_0,hfz25_1,hfz25_2,hfz25_3,hfz25_4,hfz25_5⟩:=zf6_ BK363.out;obtain ⟨hcz26_0,hcz26_1,hcz26_2,hcz26_3,hcz26_4,hcz26_5,hfz26_0,hfz26_1,hfz26_2,hfz26_3,hfz26_4,hfz26_5⟩:=zf6_ BK364.out)|(go_at_call 43;(with_reducible refine (tree_Expr_at_tree_SameExpr.calls k _ _ l0_2 _ _ l1_2 true _ ?side1 ?side2 ?side3 ?side4 A5.out).mono ?_);(case side1=>exact kc_ HR0_2.out HB.out);(case side2=>exact HC0_2.out);(case side3=>exact kc_ HR1_2.out HB.out);(case side4=>exact HC1_2.out);rintro e w27 ⟨rfl,hb⟩;replace BK363:=Aside0.mk (bb_ BK363.out hb);replace BK364:=Aside0.mk (bb_ BK364.out hb);replace HB:=Aside0.mk (below_step (bl_ HB.out) hb);obtain ⟨hcz28_0,hcz28_1,hcz28_2,hcz28_3,hcz28_4,hcz28_5,hfz28_0,hfz28_1,hfz28_2,hfz28_3,hfz28_4,hfz28_5⟩:=zf6_ BK363.out;obtain ⟨hcz29_0,hcz29_1,hcz29_2,hcz29_3,hcz29_4,hcz29_5,hfz29_0,hfz29_1,hfz29_2,hfz29_3,hfz29_4,hfz29_5⟩:=zf6_ BK364.out)|(go_at_call 47;(with_reducible refine (ih47 k (by omega) _ _ l0_3 _ _ l1_3 false _ ?side1 ?side2 ?side3 ?side4 A7.out).mono ?_);(case side1=>exact kc_ HR0_3.out HB.out);(case side2=>exact HC0_3.out);(case side3=>exact kc_ HR1_3.out HB.out);(case side4=>exact HC1_3.out);rintro e w30 ⟨rfl,hb⟩;replace BK363:=Aside0.mk (bb_ BK363.out hb);replace BK364:=Aside0.mk (bb_ BK364.out hb);replace HB:=Aside0.mk (below_step (bl_ HB.out) hb)))
     go_ret
     exact ⟨rt_,bl_ HB.out⟩
   ·replace c6:=Bool.eq_false_iff.mpr c6
    subst c6
    replace H:=in_ H
    obtain rfl:=Option.some.inj H
    go_enter Tryd.func48,Tryd.ntmps48
    go_wp2_with (first|((with_reducible refine gate_dst (N:=2) rfl ?_);refine bx_ (N:=2) (cs:=#[.string a0_0,.string a0_1,.slice A0_2 l0_2.length c0_2,.slice A0_3 l0_3.length c0_3,.slice A0_4 l0_4.length c0_4,.int .i64 a0_5]) (t:=76) ?_;intro gb363 hg w31 hbox hb;have BK363:=Aside0.mk (hbox);have GW363:=Aside0.mk ((gs_ hg (bl_ HB.out):w.heap.size≤gb363));have GE363:=Aside0.mk ((gs_ hg (bl_ HB.out):w.heap.size≤gb363));replace HB:=Aside0.mk (below_step (bl_ HB.out) hb);clear hb hbox hg)|((with_reducible refine gate_dst (N:=3) rfl ?_);refine bx_ (N:=3) (cs:=#[.string a1_0,.string a1_1,.slice A1_2 l1_2.length c1_2,.slice A1_3 l1_3.length c1_3,.slice A1_4 l1_4.length c1_4,.int .i64 a1_5]) (t:=76) ?_;intro gb364 hg w32 hbox hb;have BK364:=Aside0.mk (hbox);have GW364:=Aside0.mk ((gs_ hg (bl_ HB.out):w.heap.size≤gb364));have GE364:=Aside0.mk ((gs_ hg (bl_ HB.out):w.heap.size≤gb364));replace HB:=Aside0.mk (below_step (bl_ HB.out) hb);have NB363_364:=Aside0.mk ((nl_ hg BK363.out:gb363≠gb364));have NB364_363:=Aside0.mk ((nr_ hg BK363.out:gb364≠gb363));replace BK363:=Aside0.mk (bb_ BK363.out hb);clear hb hbox hg;have hnb33:=NB363_364.out;have hnc33:=NB364_363.out;obtain ⟨hcz34_0,hcz34_1,hcz34_2,hcz34_3,hcz34_4,hcz34_5,hfz34_0,hfz34_1,hfz34_2,hfz34_3,hfz34_4,hfz34_5⟩:=zf6_ BK363.out;obtain ⟨hcz35_0,hcz35_1,hcz35_2,hcz35_3,hcz35_4,hcz35_5,hfz35_0,hfz35_1,hfz35_2,hfz35_3,hfz35_4,hfz35_5⟩:=zf6_ BK364.out)|(go_at_call 43;(with_reducible refine (tree_Expr_at_tree_SameExpr.calls k _ _ l0_2 _ _ l1_2 false _ ?side1 ?side2 ?side3 ?side4 A5.out).mono ?_);(case side1=>exact kc_ HR0_2.out HB.out);(case side2=>exact HC0_2.out);(case side3=>exact kc_ HR1_2.out HB.out);(case side4=>exact HC1_2.out);rintro e w36 ⟨rfl,hb⟩;replace BK363:=Aside0.mk (bb_ BK363.out hb);replace BK364:=Aside0.mk (bb_ BK364.out hb);replace HB:=Aside0.mk (below_step (bl_ HB.out) hb)))
    go_ret
    exact ⟨rt_,bl_ HB.out⟩
  ·rw [if_neg c4] at H
   have c4b0:=bqf_ c4
   have c4b1:=bnt_ c4
   obtain rfl:=Option.some.inj H
   go_enter Tryd.func48,Tryd.ntmps48
   go_wp2_with (first|((with_reducible refine gate_dst (N:=2) rfl ?_);refine bx_ (N:=2) (cs:=#[.string a0_0,.string a0_1,.slice A0_2 l0_2.length c0_2,.slice A0_3 l0_3.length c0_3,.slice A0_4 l0_4.length c0_4,.int .i64 a0_5]) (t:=76) ?_;intro gb363 hg w37 hbox hb;have BK363:=Aside0.mk (hbox);have GW363:=Aside0.mk ((gs_ hg (bl_ HB.out):w.heap.size≤gb363));have GE363:=Aside0.mk ((gs_ hg (bl_ HB.out):w.heap.size≤gb363));replace HB:=Aside0.mk (below_step (bl_ HB.out) hb);clear hb hbox hg)|((with_reducible refine gate_dst (N:=3) rfl ?_);refine bx_ (N:=3) (cs:=#[.string a1_0,.string a1_1,.slice A1_2 l1_2.length c1_2,.slice A1_3 l1_3.length c1_3,.slice A1_4 l1_4.length c1_4,.int .i64 a1_5]) (t:=76) ?_;intro gb364 hg w38 hbox hb;have BK364:=Aside0.mk (hbox);have GW364:=Aside0.mk ((gs_ hg (bl_ HB.out):w.heap.size≤gb364));have GE364:=Aside0.mk ((gs_ hg (bl_ HB.out):w.heap.size≤gb364));replace HB:=Aside0.mk (below_step (bl_ HB.out) hb);have NB363_364:=Aside0.mk ((nl_ hg BK363.out:gb363≠gb364));have NB364_363:=Aside0.mk ((nr_ hg BK363.out:gb364≠gb363));replace BK363:=Aside0.mk (bb_ BK363.out hb);clear hb hbox hg;have hnb39:=NB363_364.out;have hnc39:=NB364_363.out;obtain ⟨hcz40_0,hcz40_1,hcz40_2,hcz40_3,hcz40_4,hcz40_5,hfz40_0,hfz40_1,hfz40_2,hfz40_3,hfz40_4,hfz40_5⟩:=zf6_ BK363.out;obtain ⟨hcz41_0,hcz41_1,hcz41_2,hcz41_3,hcz41_4,hcz41_5,hfz41_0,hfz41_1,hfz41_2,hfz41_3,hfz41_4,hfz41_5⟩:=zf6_ BK364.out))
   go_ret
   exact ⟨rt_,bl_ HB.out⟩
 ·rw [if_neg c3] at H
  have c3b0:=bqf_ c3
  have c3b1:=bnt_ c3
  obtain rfl:=Option.some.inj H
  go_enter Tryd.func48,Tryd.ntmps48
  go_wp2_with (first|((with_reducible refine gate_dst (N:=2) rfl ?_);refine bx_ (N:=2) (cs:=#[.string a0_0,.string a0_1,.slice A0_2 l0_2.length c0_2,.slice A0_3 l0_3.length c0_3,.slice A0_4 l0_4.length c0_4,.int .i64 a0_5]) (t:=76) ?_;intro gb363 hg w42 hbox hb;have BK363:=Aside0.mk (hbox);have GW363:=Aside0.mk ((gs_ hg (bl_ HB.out):w.heap.size≤gb363));have GE363:=Aside0.mk ((gs_ hg (bl_ HB.out):w.heap.size≤gb363));replace HB:=Aside0.mk (below_step (bl_ HB.out) hb);clear hb hbox hg)|((with_reducible refine gate_dst (N:=3) rfl ?_);refine bx_ (N:=3) (cs:=#[.string a1_0,.string a1_1,.slice A1_2 l1_2.length c1_2,.slice A1_3 l1_3.length c1_3,.slice A1_4 l1_4.length c1_4,.int .i64 a1_5]) (t:=76) ?_;intro gb364 hg w43 hbox hb;have BK364:=Aside0.mk (hbox);have GW364:=Aside0.mk ((gs_ hg (bl_ HB.out):w.heap.size≤gb364));have GE364:=Aside0.mk ((gs_ hg (bl_ HB.out):w.heap.size≤gb364));replace HB:=Aside0.mk (below_step (bl_ HB.out) hb);have NB363_364:=Aside0.mk ((nl_ hg BK363.out:gb363≠gb364));have NB364_363:=Aside0.mk ((nr_ hg BK363.out:gb364≠gb363));replace BK363:=Aside0.mk (bb_ BK363.out hb);clear hb hbox hg;have hnb44:=NB363_364.out;have hnc44:=NB364_363.out;obtain ⟨hcz45_0,hcz45_1,hcz45_2,hcz45_3,hcz45_4,hcz45_5,hfz45_0,hfz45_1,hfz45_2,hfz45_3,hfz45_4,hfz45_5⟩:=zf6_ BK363.out;obtain ⟨hcz46_0,hcz46_1,hcz46_2,hcz46_3,hcz46_4,hcz46_5,hfz46_0,hfz46_1,hfz46_2,hfz46_3,hfz46_4,hfz46_5⟩:=zf6_ BK364.out))
  go_ret
  exact ⟨rt_,bl_ HB.out⟩
end Go.Proofs.YtnnbbeloifhofaaDoor.P
end
section
namespace Go.Proofs.YtnnbbeloifhofaaDoor.P
open Go.RowKit Go.Proofs.YtnnbbeloifhofaaDoorW.PrintWords Go.Proofs.YtnnbbeloifhofaaDoorW.PrintLast Go.Proofs.YtnnbbeloifhofaaDoorW.PrintMore
attribute [local go_sem] max2_int min2_int max_two min_two max_three min_three max_four min_four
set_option linter.unusedVariables false
set_option linter.unusedSimpArgs false
theorem tree_Stmt_at_tree_sameStmt_ring.all (k:Nat):tree_Stmt_at_tree_sameStmt.Stmt k∧tree_sameStmt.Stmt k:=by
  induction k using Nat.strongRecOn with
  | _ k ih=>
  exact ⟨tree_Stmt_at_tree_sameStmt.step k (fun m_ h_=>(ih m_ h_).1) (fun m_ h_=>(ih m_ h_).2),tree_sameStmt.step k (fun m_ h_=>(ih m_ h_).1) (fun m_ h_=>(ih m_ h_).2)⟩
theorem tree_Stmt_at_tree_sameStmt.calls (k:Nat):tree_Stmt_at_tree_sameStmt.Stmt k:=(tree_Stmt_at_tree_sameStmt_ring.all k).1
end Go.Proofs.YtnnbbeloifhofaaDoor.P
end
section
namespace Go.Proofs.YtnnbbeloifhofaaDoor.P
open Go.RowKit Go.Proofs.YtnnbbeloifhofaaDoorW.PrintWords Go.Proofs.YtnnbbeloifhofaaDoorW.PrintLast Go.Proofs.YtnnbbeloifhofaaDoorW.PrintMore
attribute [local go_sem] max2_int min2_int max_two min_two max_three min_three max_four min_four
set_option linter.unusedVariables false
set_option linter.unusedSimpArgs false
def tree_Same_2.f (k:Nat) (a0_0:ByteArray) (l0_1:List (S76)) (a1_0:ByteArray) (l1_1:List (S76)):Option (Bool):=if a0_0.toList=a1_0.toList then ((tree_Stmt_at_tree_sameStmt.f k l0_1 l1_1).bind fun t370=>(some t370)) else (some false)
set_option maxHeartbeats 8000000 in
set_option maxRecDepth 100000 in
theorem tree_Same_2.calls (k:Nat) (a0_0:ByteArray) (A0_1:Option Addr) (c0_1:Nat) (l0_1:List (S76)) (a1_0:ByteArray) (A1_1:Option Addr) (c1_1:Nat) (l1_1:List (S76)) (r:Bool) (w:World) (hr0_1:Kd.C k76 w A0_1 l0_1.length l0_1) (hc0_1:l0_1.length≤c0_1) (hr1_1:Kd.C k76 w A1_1 l1_1.length l1_1) (hc1_1:l1_1.length≤c1_1) (h:tree_Same_2.f k a0_0 l0_1 a1_0 l1_1=some r) :
  Calls Tryd.prog 46 #[.agg #[.string a0_0,.slice A0_1 l0_1.length c0_1],.agg #[.string a1_0,.slice A1_1 l1_1.length c1_1]] w fun e w'=>e=.returned (.bool r)∧Below w.heap.size w w':=by
 have hu66:=Tryd.underlying66
 have HR0_1:=Aside0.mk hr0_1
 have HC0_1:=Aside0.mk hc0_1
 clear hr0_1 hc0_1
 have HR1_1:=Aside0.mk hr1_1
 have HC1_1:=Aside0.mk hc1_1
 clear hr1_1 hc1_1
 have HB:=Aside0.mk (Below.refl w.heap.size w)
 have H:(if a0_0.toList=a1_0.toList then ((tree_Stmt_at_tree_sameStmt.f k l0_1 l1_1).bind fun t370=>(some t370)) else (some false))=some r:=h
 clear h
 by_cases c3:a0_0.toList=a1_0.toList
 ·rw [if_pos c3] at H
  have c3b0:=bqt_ c3
  have c3b1:=bnf_ c3
  clear c3
  revert H
  refine bd_ fun t370 A4 H=>?_
  obtain rfl:=Option.some.inj H
  go_enter Tryd.func46,Tryd.ntmps46
  go_wp2_with (first|((with_reducible refine gate_dst (N:=2) rfl ?_);refine bx_ (N:=2) (cs:=#[.string a0_0,.slice A0_1 l0_1.length c0_1]) (t:=66) ?_;intro gb368 hg w5 hbox hb;have BK368:=Aside0.mk (hbox);have GW368:=Aside0.mk ((gs_ hg (bl_ HB.out):w.heap.size≤gb368));have GE368:=Aside0.mk ((gs_ hg (bl_ HB.out):w.heap.size≤gb368));replace HB:=Aside0.mk (below_step (bl_ HB.out) hb);clear hb hbox hg)|((with_reducible refine gate_dst (N:=3) rfl ?_);refine bx_ (N:=3) (cs:=#[.string a1_0,.slice A1_1 l1_1.length c1_1]) (t:=66) ?_;intro gb369 hg w6 hbox hb;have BK369:=Aside0.mk (hbox);have GW369:=Aside0.mk ((gs_ hg (bl_ HB.out):w.heap.size≤gb369));have GE369:=Aside0.mk ((gs_ hg (bl_ HB.out):w.heap.size≤gb369));replace HB:=Aside0.mk (below_step (bl_ HB.out) hb);have NB368_369:=Aside0.mk ((nl_ hg BK368.out:gb368≠gb369));have NB369_368:=Aside0.mk ((nr_ hg BK368.out:gb369≠gb368));replace BK368:=Aside0.mk (bb_ BK368.out hb);clear hb hbox hg;have hnb7:=NB368_369.out;have hnc7:=NB369_368.out;obtain ⟨hcz8_0,hcz8_1,hfz8_0,hfz8_1⟩:=zf2_ BK368.out;obtain ⟨hcz9_0,hcz9_1,hfz9_0,hfz9_1⟩:=zf2_ BK369.out)|(go_at_call 47;(with_reducible refine (tree_Stmt_at_tree_sameStmt.calls k _ _ l0_1 _ _ l1_1 t370 _ ?side1 ?side2 ?side3 ?side4 A4.out).mono ?_);(case side1=>exact kc_ HR0_1.out HB.out);(case side2=>exact HC0_1.out);(case side3=>exact kc_ HR1_1.out HB.out);(case side4=>exact HC1_1.out);rintro e w10 ⟨rfl,hb⟩;replace BK368:=Aside0.mk (bb_ BK368.out hb);replace BK369:=Aside0.mk (bb_ BK369.out hb);replace HB:=Aside0.mk (below_step (bl_ HB.out) hb)))
  go_ret
  exact ⟨rt_,bl_ HB.out⟩
 ·rw [if_neg c3] at H
  have c3b0:=bqf_ c3
  have c3b1:=bnt_ c3
  obtain rfl:=Option.some.inj H
  go_enter Tryd.func46,Tryd.ntmps46
  go_wp2_with (first|((with_reducible refine gate_dst (N:=2) rfl ?_);refine bx_ (N:=2) (cs:=#[.string a0_0,.slice A0_1 l0_1.length c0_1]) (t:=66) ?_;intro gb368 hg w11 hbox hb;have BK368:=Aside0.mk (hbox);have GW368:=Aside0.mk ((gs_ hg (bl_ HB.out):w.heap.size≤gb368));have GE368:=Aside0.mk ((gs_ hg (bl_ HB.out):w.heap.size≤gb368));replace HB:=Aside0.mk (below_step (bl_ HB.out) hb);clear hb hbox hg)|((with_reducible refine gate_dst (N:=3) rfl ?_);refine bx_ (N:=3) (cs:=#[.string a1_0,.slice A1_1 l1_1.length c1_1]) (t:=66) ?_;intro gb369 hg w12 hbox hb;have BK369:=Aside0.mk (hbox);have GW369:=Aside0.mk ((gs_ hg (bl_ HB.out):w.heap.size≤gb369));have GE369:=Aside0.mk ((gs_ hg (bl_ HB.out):w.heap.size≤gb369));replace HB:=Aside0.mk (below_step (bl_ HB.out) hb);have NB368_369:=Aside0.mk ((nl_ hg BK368.out:gb368≠gb369));have NB369_368:=Aside0.mk ((nr_ hg BK368.out:gb369≠gb368));replace BK368:=Aside0.mk (bb_ BK368.out hb);clear hb hbox hg;have hnb13:=NB368_369.out;have hnc13:=NB369_368.out;obtain ⟨hcz14_0,hcz14_1,hfz14_0,hfz14_1⟩:=zf2_ BK368.out;obtain ⟨hcz15_0,hcz15_1,hfz15_0,hfz15_1⟩:=zf2_ BK369.out))
  go_ret
  exact ⟨rt_,bl_ HB.out⟩
end Go.Proofs.YtnnbbeloifhofaaDoor.P
end
section
namespace Go.Proofs.YtnnbbeloifhofaaDoor.P
open Go.RowKit Go.Proofs.YtnnbbeloifhofaaDoorW.PrintWords Go.Proofs.YtnnbbeloifhofaaDoorW.PrintLast Go.Proofs.YtnnbbeloifhofaaDoorW.PrintMore
attribute [local go_sem] max2_int min2_int max_two min_two max_three min_three max_four min_four
set_option linter.unusedVariables false
set_option linter.unusedSimpArgs false
def tree_Proc_at_tree_Same_2.l0:Nat→List (S66)→List (S66)→Int→Int→Option (Bool)
 | 0,_,_,_,_=>none
 | k+1,x1,x15,x16,x17=>if x17 < x16 then (if 0≤x17 then (if x17 < (x15.length:Int) then (if x17 < (x1.length:Int) then ((tree_Same_2.f k ((rd_T66 x15 x17).f0) ((rd_T66 x15 x17).f1) ((rd_T66 x1 x17).f0) ((rd_T66 x1 x17).f1)).bind fun t375=>(if t375=true then (tree_Proc_at_tree_Same_2.l0 k x1 x15 x16 (wrap64 (x17+1))) else (some false))) else (none)) else (none)) else (none)) else (some true)
def tree_Proc_at_tree_Same_2.f (k:Nat) (l0:List (S66)) (l1:List (S66))  : Option (Bool):=if (l0.length:Int)=(l1.length:Int) then (tree_Proc_at_tree_Same_2.l0 k l1 l0 (l0.length:Int) 0) else (some false)
set_option maxHeartbeats 8000000 in
set_option maxRecDepth 100000 in
theorem tree_Proc_at_tree_Same_2.calls (k:Nat) (A0:Option Addr) (c0:Nat) (l0:List (S66)) (A1:Option Addr) (c1:Nat) (l1:List (S66))  (r:Bool) (w:World) (hr0:Kd.C k66 w A0 l0.length l0) (hc0:l0.length≤c0) (hr1:Kd.C k66 w A1 l1.length l1) (hc1:l1.length≤c1) (h:tree_Proc_at_tree_Same_2.f k l0 l1=some r) :
  Calls Tryd.prog 51 #[.slice A0 l0.length c0,.slice A1 l1.length c1,.func (.func 46) #[] #[]] w fun e w'=>e=.returned (.bool r)∧Below w.heap.size w w':=by
 have hu66:=Tryd.underlying66
 have HR0:=Aside0.mk hr0
 have HC0:=Aside0.mk hc0
 clear hr0 hc0
 have HR1:=Aside0.mk hr1
 have HC1:=Aside0.mk hc1
 clear hr1 hc1
 have HB:=Aside0.mk (Below.refl w.heap.size w)
 have H:(if (l0.length:Int)=(l1.length:Int) then (tree_Proc_at_tree_Same_2.l0 k l1 l0 (l0.length:Int) 0) else (some false))=some r:=h
 clear h
 by_cases c4:(l0.length:Int)=(l1.length:Int)
 ·rw [if_pos c4] at H
  have c4b0:((l0.length:Int) == (l1.length:Int))=true:=beq_iff_eq.mpr c4
  have c4b1:((l0.length:Int) != (l1.length:Int))=false:=bne_eq_false_iff_eq.mpr c4
  have c4b2:(l0.length == l1.length)=true:=by first|simpa using c4|(simp at c4 ⊢;omega)
  clear c4
  have H':=Aside0.mk H
  clear H
  go_enter Tryd.func51,Tryd.ntmps51
  go_wp2
  (try simp only [Act.put,List.setIfInBounds_toArray,List.set_cons_succ,List.set_cons_zero])
  go_loopg [17] k (fun kq v17 w'=>∃ (x17_1:Int),v17=.int .i64 x17_1∧Aside0 (tree_Proc_at_tree_Same_2.l0 kq l1 l0 (l0.length:Int) x17_1=some r)∧Aside0 (kq≤k)∧Aside0 (Below w.heap.size w w'))
  case atStart=>exact ⟨(0),rf_,H',⟨Nat.le_refl _⟩,⟨bl_ HB.out⟩⟩
  case round=>
   clear H'
   obtain ⟨x17_1,rfl,HA,HK1,HB⟩:=hrel
   cases gk with
   | zero=>exact absurd HA.out (by simp [tree_Proc_at_tree_Same_2.l0])
   | succ k1=>
    have H:=HA.out
    clear HA
    simp only [tree_Proc_at_tree_Same_2.l0] at H
    by_cases c5:x17_1 < (l0.length:Int)
    ·rw [if_pos c5] at H
     have c5b0:=decide_eq_true c5
     clear c5
     revert H
     refine gd_ fun c6 H=>?_
     have c6b0:=decide_eq_true c6
     clear c6
     revert H
     refine gd_ fun c7 H=>?_
     have c7b0:=decide_eq_true c7
     clear c7
     revert H
     refine gd_ fun c8 H=>?_
     have c8b0:=decide_eq_true c8
     clear c8
     revert H
     refine bd_ fun t375 A9 H=>?_
     by_cases c10:t375=true
     ·subst c10
      replace H:=ip_ H
      have H':=Aside0.mk H
      clear H
      have p371:0≤(x17_1:Int):=of_decide_eq_true as_
      have q371:x17_1 < (l0.length:Int):=of_decide_eq_true as_
      obtain ⟨ad371,A371_1,c371_1,e371,hx371_0,hx371_1,hl371_1,hi371_1⟩:=at_T66 HR0.out x17_1 p371 q371
      cases e371
      replace hx371_0:=(cb_ HB.out hx371_0:_)
      replace hx371_1:=(cb_ HB.out hx371_1:_)
      have HR371_1:=Aside0.mk hi371_1
      have HC371_1:=Aside0.mk hl371_1
      clear hi371_1 hl371_1
      replace p371:=eq_true p371
      replace q371:=eq_true q371
      go_wp2_with (first|((with_reducible refine gate_dst (N:=8) rfl ?_);refine bx_ (N:=8) (cs:=#[.string (⟨#[]⟩:ByteArray),.slice none 0 0]) (t:=66) ?_;intro gb372 hg w11 hbox hb;have BK372:=Aside0.mk (hbox);have GW372:=Aside0.mk ((gs_ hg (bl_ HB.out):w.heap.size≤gb372));have GE372:=Aside0.mk ((gs_ hg (bl_ HB.out):w.heap.size≤gb372));replace HB:=Aside0.mk (below_step (bl_ HB.out) hb);clear hb hbox hg;obtain ⟨hcz12_0,hcz12_1,hfz12_0,hfz12_1⟩:=zf2_ BK372.out;have p373:0≤(x17_1:Int):=of_decide_eq_true as_;have q373:x17_1 < (l1.length:Int):=of_decide_eq_true as_;obtain ⟨ad373,A373_1,c373_1,e373,hx373_0,hx373_1,hl373_1,hi373_1⟩:=at_T66 HR1.out x17_1 p373 q373;cases e373;have hn373_0:ad373.block≠gb372:=Nat.ne_of_lt (Nat.lt_of_lt_of_le (by have:=World.block_lt_of_cell? _ _ hx373_0;first|rwa [add_block] at this|exact this) GW372.out);have hn373_1:ad373.block≠gb372:=Nat.ne_of_lt (Nat.lt_of_lt_of_le (by have:=World.block_lt_of_cell? _ _ hx373_0;first|rwa [add_block] at this|exact this) GW372.out);replace hx373_0:=(cb_ HB.out hx373_0:_);replace hx373_1:=(cb_ HB.out hx373_1:_);have HR373_1:=Aside0.mk hi373_1;have HC373_1:=Aside0.mk hl373_1;clear hi373_1 hl373_1;replace hx373_0:=(cell_far (p:=⟨gb372,0,none⟩) (ab_ hn373_0) (.string ((rd_T66 l0 x17_1).f0))).trans hx373_0;replace hx373_1:=(cell_far (p:=⟨gb372,0,none⟩) (ab_ hn373_0) (.string ((rd_T66 l0 x17_1).f0))).trans hx373_1;replace hx373_0:=(cell_far (p:=⟨gb372,1,none⟩) (ab_ hn373_1) (.slice A371_1 ((rd_T66 l0 x17_1).f1).length c371_1)).trans hx373_0;replace hx373_1:=(cell_far (p:=⟨gb372,1,none⟩) (ab_ hn373_1) (.slice A371_1 ((rd_T66 l0 x17_1).f1).length c371_1)).trans hx373_1;clear hn373_0;clear hn373_1;replace p373:=eq_true p373;replace q373:=eq_true q373)|((with_reducible refine gate_dst (N:=9) rfl ?_);refine bx_ (N:=9) (cs:=#[.string (⟨#[]⟩:ByteArray),.slice none 0 0]) (t:=66) ?_;intro gb374 hg w13 hbox hb;have n0_:=Aside0.mk (blk_below (g:=gb372) (o:=.cells #[.string ((rd_T66 l0 x17_1).f0),.slice A371_1 ((rd_T66 l0 x17_1).f1).length c371_1] 66 (0,0)) (kbc_ BK372.out) hb);have n1_:=Aside0.mk (below_step (bl_ HB.out) hb);have n2_:=Aside0.mk (hbox);have n3_:=Aside0.mk ((gs_ hg (bl_ HB.out):w.heap.size≤gb374));have n4_:=Aside0.mk ((gs_ hg (bl_ HB.out):w.heap.size≤gb374));have n5_:=Aside0.mk ((by rw [hg];exact Nat.ne_of_lt (blk_lt (g:=gb372) (o:=.cells #[.string ((rd_T66 l0 x17_1).f0),.slice A371_1 ((rd_T66 l0 x17_1).f1).length c371_1] 66 (0,0)) (kbc_ BK372.out)):gb372≠gb374));have n6_:=Aside0.mk ((by rw [hg];exact Nat.ne_of_gt (blk_lt (g:=gb372) (o:=.cells #[.string ((rd_T66 l0 x17_1).f0),.slice A371_1 ((rd_T66 l0 x17_1).f1).length c371_1] 66 (0,0)) (kbc_ BK372.out)):gb374≠gb372));clear BK372;clear HB;have BK372:=n0_;have HB:=n1_;have BK374:=n2_;have GW374:=n3_;have GE374:=n4_;have NB372_374:=n5_;have NB374_372:=n6_;clear n0_ n1_ n2_ n3_ n4_ n5_ n6_;clear hb hbox hg;have hnb14:=NB374_372.out;have hnc14:=NB372_374.out;obtain ⟨hcz15_0,hcz15_1,hfz15_0,hfz15_1⟩:=zf2_ BK374.out;obtain ⟨hcz16_0,hcz16_1,hfz16_0,hfz16_1⟩:=zf2_ BK372.out)|((with_reducible refine (tree_Same_2.calls k1 ((rd_T66 l0 x17_1).f0) _ _ ((rd_T66 l0 x17_1).f1) ((rd_T66 l1 x17_1).f0) _ _ ((rd_T66 l1 x17_1).f1) true _ ?side1 ?side2 ?side3 ?side4 A9.out).mono ?_);(case side1=>exact Kd.C_below HR371_1.out (bl_ HB.out));(case side2=>exact HC371_1.out);(case side3=>exact Kd.C_below HR373_1.out (bl_ HB.out));(case side4=>exact HC373_1.out);rintro e w17 ⟨rfl,hb⟩;replace BK372:=Aside0.mk (blk_below (g:=gb372) (o:=.cells #[.string ((rd_T66 l0 x17_1).f0),.slice A371_1 ((rd_T66 l0 x17_1).f1).length c371_1] 66 (0,0)) (kbc_ BK372.out) hb);replace BK374:=Aside0.mk (blk_below (g:=gb374) (o:=.cells #[.string ((rd_T66 l1 x17_1).f0),.slice A373_1 ((rd_T66 l1 x17_1).f1).length c373_1] 66 (0,0)) (kbc_ BK374.out) hb);replace HB:=Aside0.mk (below_step (bl_ HB.out) hb)))
      go_roundg k1
      case measure=>have:=HK1.out;omega
      case rel=>exact ⟨(wrap64 (x17_1+1)),rf_,H',⟨by have:=HK1.out;omega⟩,⟨bl_ HB.out⟩⟩
     ·replace c10:=Bool.eq_false_iff.mpr c10
      subst c10
      replace H:=in_ H
      obtain rfl:=Option.some.inj H
      have p371:0≤(x17_1:Int):=of_decide_eq_true as_
      have q371:x17_1 < (l0.length:Int):=of_decide_eq_true as_
      obtain ⟨ad371,A371_1,c371_1,e371,hx371_0,hx371_1,hl371_1,hi371_1⟩:=at_T66 HR0.out x17_1 p371 q371
      cases e371
      replace hx371_0:=(cb_ HB.out hx371_0:_)
      replace hx371_1:=(cb_ HB.out hx371_1:_)
      have HR371_1:=Aside0.mk hi371_1
      have HC371_1:=Aside0.mk hl371_1
      clear hi371_1 hl371_1
      replace p371:=eq_true p371
      replace q371:=eq_true q371
      go_wp2_with (first|((with_reducible refine gate_dst (N:=8) rfl ?_);refine bx_ (N:=8) (cs:=#[.string (⟨#[]⟩:ByteArray),.slice none 0 0]) (t:=66) ?_;intro gb372 hg w18 hbox hb;have BK372:=Aside0.mk (hbox);have GW372:=Aside0.mk ((gs_ hg (bl_ HB.out):w.heap.size≤gb372));have GE372:=Aside0.mk ((gs_ hg (bl_ HB.out):w.heap.size≤gb372));replace HB:=Aside0.mk (below_step (bl_ HB.out) hb);clear hb hbox hg;obtain ⟨hcz19_0,hcz19_1,hfz19_0,hfz19_1⟩:=zf2_ BK372.out;have p373:0≤(x17_1:Int):=of_decide_eq_true as_;have q373:x17_1 < (l1.length:Int):=of_decide_eq_true as_;obtain ⟨ad373,A373_1,c373_1,e373,hx373_0,hx373_1,hl373_1,hi373_1⟩:=at_T66 HR1.out x17_1 p373 q373;cases e373;have hn373_0:ad373.block≠gb372:=Nat.ne_of_lt (Nat.lt_of_lt_of_le (by have:=World.block_lt_of_cell? _ _ hx373_0;first|rwa [add_block] at this|exact this) GW372.out);have hn373_1:ad373.block≠gb372:=Nat.ne_of_lt (Nat.lt_of_lt_of_le (by have:=World.block_lt_of_cell? _ _ hx373_0;first|rwa [add_block] at this|exact this) GW372.out);replace hx373_0:=(cb_ HB.out hx373_0:_);replace hx373_1:=(cb_ HB.out hx373_1:_);have HR373_1:=Aside0.mk hi373_1;have HC373_1:=Aside0.mk hl373_1;clear hi373_1 hl373_1;replace hx373_0:=(cell_far (p:=⟨gb372,0,none⟩) (ab_ hn373_0) (.string ((rd_T66 l0 x17_1).f0))).trans hx373_0;replace hx373_1:=(cell_far (p:=⟨gb372,0,none⟩) (ab_ hn373_0) (.string ((rd_T66 l0 x17_1).f0))).trans hx373_1;replace hx373_0:=(cell_far (p:=⟨gb372,1,none⟩) (ab_ hn373_1) (.slice A371_1 ((rd_T66 l0 x17_1).f1).length c371_1)).trans hx373_0;replace hx373_1:=(cell_far (p:=⟨gb372,1,none⟩) (ab_ hn373_1) (.slice A371_1 ((rd_T66 l0 x17_1).f1).length c371_1)).trans hx373_1;clear hn373_0;clear hn373_1;replace p373:=eq_true p373;replace q373:=eq_true q373)|((with_reducible refine gate_dst (N:=9) rfl ?_);refine bx_ (N:=9) (cs:=#[.string (⟨#[]⟩:ByteArray),.slice none 0 0]) (t:=66) ?_;intro gb374 hg w20 hbox hb;have n0_:=Aside0.mk (blk_below (g:=gb372) (o:=.cells #[.string ((rd_T66 l0 x17_1).f0),.slice A371_1 ((rd_T66 l0 x17_1).f1).length c371_1] 66 (0,0)) (kbc_ BK372.out) hb);have n1_:=Aside0.mk (below_step (bl_ HB.out) hb);have n2_:=Aside0.mk (hbox);have n3_:=Aside0.mk ((gs_ hg (bl_ HB.out):w.heap.size≤gb374));have n4_:=Aside0.mk ((gs_ hg (bl_ HB.out):w.heap.size≤gb374));have n5_:=Aside0.mk ((by rw [hg];exact Nat.ne_of_lt (blk_lt (g:=gb372) (o:=.cells #[.string ((rd_T66 l0 x17_1).f0),.slice A371_1 ((rd_T66 l0 x17_1).f1).length c371_1] 66 (0,0)) (kbc_ BK372.out)):gb372≠gb374));have n6_:=Aside0.mk ((by rw [hg];exact Nat.ne_of_gt (blk_lt (g:=gb372) (o:=.cells #[.string ((rd_T66 l0 x17_1).f0),.slice A371_1 ((rd_T66 l0 x17_1).f1).length c371_1] 66 (0,0)) (kbc_ BK372.out)):gb374≠gb372));clear BK372;clear HB;have BK372:=n0_;have HB:=n1_;have BK374:=n2_;have GW374:=n3_;have GE374:=n4_;have NB372_374:=n5_;have NB374_372:=n6_;clear n0_ n1_ n2_ n3_ n4_ n5_ n6_;clear hb hbox hg;have hnb21:=NB374_372.out;have hnc21:=NB372_374.out;obtain ⟨hcz22_0,hcz22_1,hfz22_0,hfz22_1⟩:=zf2_ BK374.out;obtain ⟨hcz23_0,hcz23_1,hfz23_0,hfz23_1⟩:=zf2_ BK372.out)|((with_reducible refine (tree_Same_2.calls k1 ((rd_T66 l0 x17_1).f0) _ _ ((rd_T66 l0 x17_1).f1) ((rd_T66 l1 x17_1).f0) _ _ ((rd_T66 l1 x17_1).f1) false _ ?side1 ?side2 ?side3 ?side4 A9.out).mono ?_);(case side1=>exact Kd.C_below HR371_1.out (bl_ HB.out));(case side2=>exact HC371_1.out);(case side3=>exact Kd.C_below HR373_1.out (bl_ HB.out));(case side4=>exact HC373_1.out);rintro e w24 ⟨rfl,hb⟩;replace BK372:=Aside0.mk (blk_below (g:=gb372) (o:=.cells #[.string ((rd_T66 l0 x17_1).f0),.slice A371_1 ((rd_T66 l0 x17_1).f1).length c371_1] 66 (0,0)) (kbc_ BK372.out) hb);replace BK374:=Aside0.mk (blk_below (g:=gb374) (o:=.cells #[.string ((rd_T66 l1 x17_1).f0),.slice A373_1 ((rd_T66 l1 x17_1).f1).length c373_1] 66 (0,0)) (kbc_ BK374.out) hb);replace HB:=Aside0.mk (below_step (bl_ HB.out) hb)))
      go_ret
      exact ⟨rt_,bl_ HB.out⟩
    ·rw [if_neg c5] at H
     have c5b0:=decide_eq_false c5
     clear c5
     obtain rfl:=Option.some.inj H
     go_wp2
     go_ret
     exact ⟨rt_,bl_ HB.out⟩
 ·rw [if_neg c4] at H
  have c4b0:((l0.length:Int) == (l1.length:Int))=false:=beq_eq_false_iff_ne.mpr c4
  have c4b1:((l0.length:Int) != (l1.length:Int))=true:=bne_iff_ne.mpr c4
  have c4b2:(l0.length == l1.length)=false:=by first|simpa using c4|(simp at c4 ⊢;omega)
  obtain rfl:=Option.some.inj H
  go_enter Tryd.func51,Tryd.ntmps51
  go_wp2
  go_ret
  exact ⟨rt_,bl_ HB.out⟩
end Go.Proofs.YtnnbbeloifhofaaDoor.P
end
section
namespace Go.Proofs.YtnnbbeloifhofaaDoor.P
open Go.RowKit Go.Proofs.YtnnbbeloifhofaaDoorW.PrintWords Go.Proofs.YtnnbbeloifhofaaDoorW.PrintLast Go.Proofs.YtnnbbeloifhofaaDoorW.PrintMore
attribute [local go_sem] max2_int min2_int max_two min_two max_three min_three max_four min_four
set_option linter.unusedVariables false
set_option linter.unusedSimpArgs false
def tree_Same.f (k:Nat) (l0_0:List (S79)) (l0_1:List (S80)) (l0_2:List (S66)) (l0_3:List (S76)) (l1_0:List (S79)) (l1_1:List (S80)) (l1_2:List (S66)) (l1_3:List (S76)):Option (Bool):=(tree_Enum_at_tree_Same_1.f k l0_0 l1_0).bind fun t378=>(if t378=true then ((tree_Var.f k l0_1 l1_1).bind fun t379=>(if t379=true then ((tree_Proc_at_tree_Same_2.f k l0_2 l1_2).bind fun t380=>(if t380=true then ((tree_Stmt_at_tree_sameStmt.f k l0_3 l1_3).bind fun t381=>(some t381)) else (some false))) else (some false))) else (some false))
set_option maxHeartbeats 8000000 in
set_option maxRecDepth 100000 in
theorem tree_Same.calls (k:Nat) (A0_0:Option Addr) (c0_0:Nat) (l0_0:List (S79)) (A0_1:Option Addr) (c0_1:Nat) (l0_1:List (S80)) (A0_2:Option Addr) (c0_2:Nat) (l0_2:List (S66)) (A0_3:Option Addr) (c0_3:Nat) (l0_3:List (S76)) (A1_0:Option Addr) (c1_0:Nat) (l1_0:List (S79)) (A1_1:Option Addr) (c1_1:Nat) (l1_1:List (S80)) (A1_2:Option Addr) (c1_2:Nat) (l1_2:List (S66)) (A1_3:Option Addr) (c1_3:Nat) (l1_3:List (S76)) (r:Bool) (w:World) (hr0_0:Kd.C k79 w A0_0 l0_0.length l0_0) (hc0_0:l0_0.length≤c0_0) (hr0_1:Kd.C k80 w A0_1 l0_1.length l0_1) (hc0_1:l0_1.length≤c0_1) (hr0_2:Kd.C k66 w A0_2 l0_2.length l0_2) (hc0_2:l0_2.length≤c0_2) (hr0_3:Kd.C k76 w A0_3 l0_3.length l0_3) (hc0_3:l0_3.length≤c0_3) (hr1_0:Kd.C k79 w A1_0 l1_0.length l1_0) (hc1_0:l1_0.length≤c1_0) (hr1_1:Kd.C k80 w A1_1 l1_1.length l1_1) (hc1_1:l1_1.length≤c1_1) (hr1_2:Kd.C k66 w A1_2 l1_2.length l1_2) (hc1_2:l1_2.length≤c1_2) (hr1_3:Kd.C k76 w A1_3 l1_3.length l1_3) (hc1_3:l1_3.length≤c1_3) (h:tree_Same.f k l0_0 l0_1 l0_2 l0_3 l1_0 l1_1 l1_2 l1_3=some r) :
  Calls Tryd.prog 28 #[.agg #[.slice A0_0 l0_0.length c0_0,.slice A0_1 l0_1.length c0_1,.slice A0_2 l0_2.length c0_2,.slice A0_3 l0_3.length c0_3],.agg #[.slice A1_0 l1_0.length c1_0,.slice A1_1 l1_1.length c1_1,.slice A1_2 l1_2.length c1_2,.slice A1_3 l1_3.length c1_3]] w fun e w'=>e=.returned (.bool r)∧Below w.heap.size w w':=by
 have hu50:=Tryd.underlying50
 have HR0_0:=Aside0.mk hr0_0
 have HC0_0:=Aside0.mk hc0_0
 clear hr0_0 hc0_0
 have HR0_1:=Aside0.mk hr0_1
 have HC0_1:=Aside0.mk hc0_1
 clear hr0_1 hc0_1
 have HR0_2:=Aside0.mk hr0_2
 have HC0_2:=Aside0.mk hc0_2
 clear hr0_2 hc0_2
 have HR0_3:=Aside0.mk hr0_3
 have HC0_3:=Aside0.mk hc0_3
 clear hr0_3 hc0_3
 have HR1_0:=Aside0.mk hr1_0
 have HC1_0:=Aside0.mk hc1_0
 clear hr1_0 hc1_0
 have HR1_1:=Aside0.mk hr1_1
 have HC1_1:=Aside0.mk hc1_1
 clear hr1_1 hc1_1
 have HR1_2:=Aside0.mk hr1_2
 have HC1_2:=Aside0.mk hc1_2
 clear hr1_2 hc1_2
 have HR1_3:=Aside0.mk hr1_3
 have HC1_3:=Aside0.mk hc1_3
 clear hr1_3 hc1_3
 have HB:=Aside0.mk (Below.refl w.heap.size w)
 have H:((tree_Enum_at_tree_Same_1.f k l0_0 l1_0).bind fun t378=>(if t378=true then ((tree_Var.f k l0_1 l1_1).bind fun t379=>(if t379=true then ((tree_Proc_at_tree_Same_2.f k l0_2 l1_2).bind fun t380=>(if t380=true then ((tree_Stmt_at_tree_sameStmt.f k l0_3 l1_3).bind fun t381=>(some t381)) else (some false))) else (some false))) else (some false)))=some r:=h
 clear h
 revert H
 refine bd_ fun t378 A3 H=>?_
 by_cases c4:t378=true
 ·subst c4
  replace H:=ip_ H
  revert H
  refine bd_ fun t379 A5 H=>?_
  by_cases c6:t379=true
  ·subst c6
   replace H:=ip_ H
   revert H
   refine bd_ fun t380 A7 H=>?_
   by_cases c8:t380=true
   ·subst c8
    replace H:=ip_ H
    revert H
    refine bd_ fun t381 A9 H=>?_
    obtain rfl:=Option.some.inj H
    go_enter Tryd.func28,Tryd.ntmps28
    go_wp2_with (first|((with_reducible refine gate_dst (N:=2) rfl ?_);refine bx_ (N:=2) (cs:=#[.slice A0_0 l0_0.length c0_0,.slice A0_1 l0_1.length c0_1,.slice A0_2 l0_2.length c0_2,.slice A0_3 l0_3.length c0_3]) (t:=50) ?_;intro gb376 hg w10 hbox hb;have BK376:=Aside0.mk (hbox);have GW376:=Aside0.mk ((gs_ hg (bl_ HB.out):w.heap.size≤gb376));have GE376:=Aside0.mk ((gs_ hg (bl_ HB.out):w.heap.size≤gb376));replace HB:=Aside0.mk (below_step (bl_ HB.out) hb);clear hb hbox hg)|((with_reducible refine gate_dst (N:=3) rfl ?_);refine bx_ (N:=3) (cs:=#[.slice A1_0 l1_0.length c1_0,.slice A1_1 l1_1.length c1_1,.slice A1_2 l1_2.length c1_2,.slice A1_3 l1_3.length c1_3]) (t:=50) ?_;intro gb377 hg w11 hbox hb;have BK377:=Aside0.mk (hbox);have GW377:=Aside0.mk ((gs_ hg (bl_ HB.out):w.heap.size≤gb377));have GE377:=Aside0.mk ((gs_ hg (bl_ HB.out):w.heap.size≤gb377));replace HB:=Aside0.mk (below_step (bl_ HB.out) hb);have NB376_377:=Aside0.mk ((nl_ hg BK376.out:gb376≠gb377));have NB377_376:=Aside0.mk ((nr_ hg BK376.out:gb377≠gb376));replace BK376:=Aside0.mk (bb_ BK376.out hb);clear hb hbox hg;have hnb12:=NB376_377.out;have hnc12:=NB377_376.out;obtain ⟨hcz13_0,hcz13_1,hcz13_2,hcz13_3,hfz13_0,hfz13_1,hfz13_2,hfz13_3⟩:=zf4_ BK376.out;obtain ⟨hcz14_0,hcz14_1,hcz14_2,hcz14_3,hfz14_0,hfz14_1,hfz14_2,hfz14_3⟩:=zf4_ BK377.out)|((with_reducible refine gate_callee (f:=49) rfl ?_);refine goesL_ (some 12) rfl rfl Tryd.func49 (by kernel_rfl) rfl #[.slice A0_0 l0_0.length c0_0,.slice A1_0 l1_0.length c1_0,.func (.func 44) #[] #[]] rfl ar_ ?_;(with_reducible refine (tree_Enum_at_tree_Same_1.calls k _ _ l0_0 _ _ l1_0 true _ ?side1 ?side2 ?side3 ?side4 A3.out).mono ?_);(case side1=>exact kc_ HR0_0.out HB.out);(case side2=>exact HC0_0.out);(case side3=>exact kc_ HR1_0.out HB.out);(case side4=>exact HC1_0.out);rintro e w15 ⟨rfl,hb⟩;refine ⟨_,rfl,?_⟩;replace BK376:=Aside0.mk (bb_ BK376.out hb);replace BK377:=Aside0.mk (bb_ BK377.out hb);replace HB:=Aside0.mk (below_step (bl_ HB.out) hb);obtain ⟨hcz16_0,hcz16_1,hcz16_2,hcz16_3,hfz16_0,hfz16_1,hfz16_2,hfz16_3⟩:=zf4_ BK376.out;obtain ⟨hcz17_0,hcz17_1,hcz17_2,hcz17_3,hfz17_0,hfz17_1,hfz17_2,hfz17_3⟩:=zf4_ BK377.out)|(go_at_call 50;(with_reducible refine (tree_Var.calls k _ _ l0_1 _ _ l1_1 true _ ?side1 ?side2 ?side3 ?side4 A5.out).mono ?_);(case side1=>exact kc_ HR0_1.out HB.out);(case side2=>exact HC0_1.out);(case side3=>exact kc_ HR1_1.out HB.out);(case side4=>exact HC1_1.out);rintro e w' ⟨rfl,⟨nd,rfl⟩⟩)|(go_at_call 51;(with_reducible refine (tree_Proc_at_tree_Same_2.calls k _ _ l0_2 _ _ l1_2 true _ ?side1 ?side2 ?side3 ?side4 A7.out).mono ?_);(case side1=>repeat (first|exact (Kd.C_below HR0_2.out (bl_ HB.out))|(with_reducible refine Kd.C_alloc ?_ _)|(with_reducible refine Kd.C_drewN ?_ _)|(with_reducible refine Kd.C_drew ?_)));(case side2=>exact HC0_2.out);(case side3=>repeat (first|exact (Kd.C_below HR1_2.out (bl_ HB.out))|(with_reducible refine Kd.C_alloc ?_ _)|(with_reducible refine Kd.C_drewN ?_ _)|(with_reducible refine Kd.C_drew ?_)));(case side4=>exact HC1_2.out);rintro e w18 ⟨rfl,hb⟩;replace BK376:=Aside0.mk (bb_ BK376.out hb);replace BK377:=Aside0.mk (bb_ BK377.out hb);replace HB:=Aside0.mk (below_step (bl_ HB.out) hb);obtain ⟨hcz19_0,hcz19_1,hcz19_2,hcz19_3,hfz19_0,hfz19_1,hfz19_2,hfz19_3⟩:=zf4_ BK376.out;obtain ⟨hcz20_0,hcz20_1,hcz20_2,hcz20_3,hfz20_0,hfz20_1,hfz20_2,hfz20_3⟩:=zf4_ BK377.out)|(go_at_call 47;(with_reducible refine (tree_Stmt_at_tree_sameStmt.calls k _ _ l0_3 _ _ l1_3 t381 _ ?side1 ?side2 ?side3 ?side4 A9.out).mono ?_);(case side1=>exact kc_ HR0_3.out HB.out);(case side2=>exact HC0_3.out);(case side3=>exact kc_ HR1_3.out HB.out);(case side4=>exact HC1_3.out);rintro e w21 ⟨rfl,hb⟩;replace BK376:=Aside0.mk (bb_ BK376.out hb);replace BK377:=Aside0.mk (bb_ BK377.out hb);replace HB:=Aside0.mk (below_step (bl_ HB.out) hb)))
    go_ret
    exact ⟨rt_,bl_ HB.out⟩
   ·replace c8:=Bool.eq_false_iff.mpr c8
    subst c8
    replace H:=in_ H
    obtain rfl:=Option.some.inj H
    go_enter Tryd.func28,Tryd.ntmps28
    go_wp2_with (first|((with_reducible refine gate_dst (N:=2) rfl ?_);refine bx_ (N:=2) (cs:=#[.slice A0_0 l0_0.length c0_0,.slice A0_1 l0_1.length c0_1,.slice A0_2 l0_2.length c0_2,.slice A0_3 l0_3.length c0_3]) (t:=50) ?_;intro gb376 hg w22 hbox hb;have BK376:=Aside0.mk (hbox);have GW376:=Aside0.mk ((gs_ hg (bl_ HB.out):w.heap.size≤gb376));have GE376:=Aside0.mk ((gs_ hg (bl_ HB.out):w.heap.size≤gb376));replace HB:=Aside0.mk (below_step (bl_ HB.out) hb);clear hb hbox hg)|((with_reducible refine gate_dst (N:=3) rfl ?_);refine bx_ (N:=3) (cs:=#[.slice A1_0 l1_0.length c1_0,.slice A1_1 l1_1.length c1_1,.slice A1_2 l1_2.length c1_2,.slice A1_3 l1_3.length c1_3]) (t:=50) ?_;intro gb377 hg w23 hbox hb;have BK377:=Aside0.mk (hbox);have GW377:=Aside0.mk ((gs_ hg (bl_ HB.out):w.heap.size≤gb377));have GE377:=Aside0.mk ((gs_ hg (bl_ HB.out):w.heap.size≤gb377));replace HB:=Aside0.mk (below_step (bl_ HB.out) hb);have NB376_377:=Aside0.mk ((nl_ hg BK376.out:gb376≠gb377));have NB377_376:=Aside0.mk ((nr_ hg BK376.out:gb377≠gb376));replace BK376:=Aside0.mk (bb_ BK376.out hb);clear hb hbox hg;have hnb24:=NB376_377.out;have hnc24:=NB377_376.out;obtain ⟨hcz25_0,hcz25_1,hcz25_2,hcz25_3,hfz25_0,hfz25_1,hfz25_2,hfz25_3⟩:=zf4_ BK376.out;obtain ⟨hcz26_0,hcz26_1,hcz26_2,hcz26_3,hfz26_0,hfz26_1,hfz26_2,hfz26_3⟩:=zf4_ BK377.out)|((with_reducible refine gate_callee (f:=49) rfl ?_);refine goesL_ (some 12) rfl rfl Tryd.func49 (by kernel_rfl) rfl #[.slice A0_0 l0_0.length c0_0,.slice A1_0 l1_0.length c1_0,.func (.func 44) #[] #[]] rfl ar_ ?_;(with_reducible refine (tree_Enum_at_tree_Same_1.calls k _ _ l0_0 _ _ l1_0 true _ ?side1 ?side2 ?side3 ?side4 A3.out).mono ?_);(case side1=>exact kc_ HR0_0.out HB.out);(case side2=>exact HC0_0.out);(case side3=>exact kc_ HR1_0.out HB.out);(case side4=>exact HC1_0.out);rintro e w27 ⟨rfl,hb⟩;refine ⟨_,rfl,?_⟩;replace BK376:=Aside0.mk (bb_ BK376.out hb);replace BK377:=Aside0.mk (bb_ BK377.out hb);replace HB:=Aside0.mk (below_step (bl_ HB.out) hb);obtain ⟨hcz28_0,hcz28_1,hcz28_2,hcz28_3,hfz28_0,hfz28_1,hfz28_2,hfz28_3⟩:=zf4_ BK376.out;obtain ⟨hcz29_0,hcz29_1,hcz29_2,hcz29_3,hfz29_0,hfz29_1,hfz29_2,hfz29_3⟩:=zf4_ BK377.out)|(go_at_call 50;(with_reducible refine (tree_Var.calls k _ _ l0_1 _ _ l1_1 true _ ?side1 ?side2 ?side3 ?side4 A5.out).mono ?_);(case side1=>exact kc_ HR0_1.out HB.out);(case side2=>exact HC0_1.out);(case side3=>exact kc_ HR1_1.out HB.out);(case side4=>exact HC1_1.out);rintro e w' ⟨rfl,⟨nd,rfl⟩⟩)|(go_at_call 51;(with_reducible refine (tree_Proc_at_tree_Same_2.calls k _ _ l0_2 _ _ l1_2 false _ ?side1 ?side2 ?side3 ?side4 A7.out).mono ?_);(case side1=>repeat (first|exact (Kd.C_below HR0_2.out (bl_ HB.out))|(with_reducible refine Kd.C_alloc ?_ _)|(with_reducible refine Kd.C_drewN ?_ _)|(with_reducible refine Kd.C_drew ?_)));(case side2=>exact HC0_2.out);(case side3=>repeat (first|exact (Kd.C_below HR1_2.out (bl_ HB.out))|(with_reducible refine Kd.C_alloc ?_ _)|(with_reducible refine Kd.C_drewN ?_ _)|(with_reducible refine Kd.C_drew ?_)));(case side4=>exact HC1_2.out);rintro e w30 ⟨rfl,hb⟩;replace BK376:=Aside0.mk (bb_ BK376.out hb);replace BK377:=Aside0.mk (bb_ BK377.out hb);replace HB:=Aside0.mk (below_step (bl_ HB.out) hb)))
    go_ret
    exact ⟨rt_,bl_ HB.out⟩
  ·replace c6:=Bool.eq_false_iff.mpr c6
   subst c6
   replace H:=in_ H
   obtain rfl:=Option.some.inj H
   go_enter Tryd.func28,Tryd.ntmps28
   go_wp2_with (first|((with_reducible refine gate_dst (N:=2) rfl ?_);refine bx_ (N:=2) (cs:=#[.slice A0_0 l0_0.length c0_0,.slice A0_1 l0_1.length c0_1,.slice A0_2 l0_2.length c0_2,.slice A0_3 l0_3.length c0_3]) (t:=50) ?_;intro gb376 hg w31 hbox hb;have BK376:=Aside0.mk (hbox);have GW376:=Aside0.mk ((gs_ hg (bl_ HB.out):w.heap.size≤gb376));have GE376:=Aside0.mk ((gs_ hg (bl_ HB.out):w.heap.size≤gb376));replace HB:=Aside0.mk (below_step (bl_ HB.out) hb);clear hb hbox hg)|((with_reducible refine gate_dst (N:=3) rfl ?_);refine bx_ (N:=3) (cs:=#[.slice A1_0 l1_0.length c1_0,.slice A1_1 l1_1.length c1_1,.slice A1_2 l1_2.length c1_2,.slice A1_3 l1_3.length c1_3]) (t:=50) ?_;intro gb377 hg w32 hbox hb;have BK377:=Aside0.mk (hbox);have GW377:=Aside0.mk ((gs_ hg (bl_ HB.out):w.heap.size≤gb377));have GE377:=Aside0.mk ((gs_ hg (bl_ HB.out):w.heap.size≤gb377));replace HB:=Aside0.mk (below_step (bl_ HB.out) hb);have NB376_377:=Aside0.mk ((nl_ hg BK376.out:gb376≠gb377));have NB377_376:=Aside0.mk ((nr_ hg BK376.out:gb377≠gb376));replace BK376:=Aside0.mk (bb_ BK376.out hb);clear hb hbox hg;have hnb33:=NB376_377.out;have hnc33:=NB377_376.out;obtain ⟨hcz34_0,hcz34_1,hcz34_2,hcz34_3,hfz34_0,hfz34_1,hfz34_2,hfz34_3⟩:=zf4_ BK376.out;obtain ⟨hcz35_0,hcz35_1,hcz35_2,hcz35_3,hfz35_0,hfz35_1,hfz35_2,hfz35_3⟩:=zf4_ BK377.out)|((with_reducible refine gate_callee (f:=49) rfl ?_);refine goesL_ (some 12) rfl rfl Tryd.func49 (by kernel_rfl) rfl #[.slice A0_0 l0_0.length c0_0,.slice A1_0 l1_0.length c1_0,.func (.func 44) #[] #[]] rfl ar_ ?_;(with_reducible refine (tree_Enum_at_tree_Same_1.calls k _ _ l0_0 _ _ l1_0 true _ ?side1 ?side2 ?side3 ?side4 A3.out).mono ?_);(case side1=>exact kc_ HR0_0.out HB.out);(case side2=>exact HC0_0.out);(case side3=>exact kc_ HR1_0.out HB.out);(case side4=>exact HC1_0.out);rintro e w36 ⟨rfl,hb⟩;refine ⟨_,rfl,?_⟩;replace BK376:=Aside0.mk (bb_ BK376.out hb);replace BK377:=Aside0.mk (bb_ BK377.out hb);replace HB:=Aside0.mk (below_step (bl_ HB.out) hb);obtain ⟨hcz37_0,hcz37_1,hcz37_2,hcz37_3,hfz37_0,hfz37_1,hfz37_2,hfz37_3⟩:=zf4_ BK376.out;obtain ⟨hcz38_0,hcz38_1,hcz38_2,hcz38_3,hfz38_0,hfz38_1,hfz38_2,hfz38_3⟩:=zf4_ BK377.out)|(go_at_call 50;(with_reducible refine (tree_Var.calls k _ _ l0_1 _ _ l1_1 false _ ?side1 ?side2 ?side3 ?side4 A5.out).mono ?_);(case side1=>exact kc_ HR0_1.out HB.out);(case side2=>exact HC0_1.out);(case side3=>exact kc_ HR1_1.out HB.out);(case side4=>exact HC1_1.out);rintro e w' ⟨rfl,⟨nd,rfl⟩⟩))
   go_ret
   exact ⟨rt_,bl_ HB.out⟩
 ·replace c4:=Bool.eq_false_iff.mpr c4
  subst c4
  replace H:=in_ H
  obtain rfl:=Option.some.inj H
  go_enter Tryd.func28,Tryd.ntmps28
  go_wp2_with (first|((with_reducible refine gate_dst (N:=2) rfl ?_);refine bx_ (N:=2) (cs:=#[.slice A0_0 l0_0.length c0_0,.slice A0_1 l0_1.length c0_1,.slice A0_2 l0_2.length c0_2,.slice A0_3 l0_3.length c0_3]) (t:=50) ?_;intro gb376 hg w39 hbox hb;have BK376:=Aside0.mk (hbox);have GW376:=Aside0.mk ((gs_ hg (bl_ HB.out):w.heap.size≤gb376));have GE376:=Aside0.mk ((gs_ hg (bl_ HB.out):w.heap.size≤gb376));replace HB:=Aside0.mk (below_step (bl_ HB.out) hb);clear hb hbox hg)|((with_reducible refine gate_dst (N:=3) rfl ?_);refine bx_ (N:=3) (cs:=#[.slice A1_0 l1_0.length c1_0,.slice A1_1 l1_1.length c1_1,.slice A1_2 l1_2.length c1_2,.slice A1_3 l1_3.length c1_3]) (t:=50) ?_;intro gb377 hg w40 hbox hb;have BK377:=Aside0.mk (hbox);have GW377:=Aside0.mk ((gs_ hg (bl_ HB.out):w.heap.size≤gb377));have GE377:=Aside0.mk ((gs_ hg (bl_ HB.out):w.heap.size≤gb377));replace HB:=Aside0.mk (below_step (bl_ HB.out) hb);have NB376_377:=Aside0.mk ((nl_ hg BK376.out:gb376≠gb377));have NB377_376:=Aside0.mk ((nr_ hg BK376.out:gb377≠gb376));replace BK376:=Aside0.mk (bb_ BK376.out hb);clear hb hbox hg;have hnb41:=NB376_377.out;have hnc41:=NB377_376.out;obtain ⟨hcz42_0,hcz42_1,hcz42_2,hcz42_3,hfz42_0,hfz42_1,hfz42_2,hfz42_3⟩:=zf4_ BK376.out;obtain ⟨hcz43_0,hcz43_1,hcz43_2,hcz43_3,hfz43_0,hfz43_1,hfz43_2,hfz43_3⟩:=zf4_ BK377.out)|((with_reducible refine gate_callee (f:=49) rfl ?_);refine goesL_ (some 12) rfl rfl Tryd.func49 (by kernel_rfl) rfl #[.slice A0_0 l0_0.length c0_0,.slice A1_0 l1_0.length c1_0,.func (.func 44) #[] #[]] rfl ar_ ?_;(with_reducible refine (tree_Enum_at_tree_Same_1.calls k _ _ l0_0 _ _ l1_0 false _ ?side1 ?side2 ?side3 ?side4 A3.out).mono ?_);(case side1=>exact kc_ HR0_0.out HB.out);(case side2=>exact HC0_0.out);(case side3=>exact kc_ HR1_0.out HB.out);(case side4=>exact HC1_0.out);rintro e w44 ⟨rfl,hb⟩;refine ⟨_,rfl,?_⟩;replace BK376:=Aside0.mk (bb_ BK376.out hb);replace BK377:=Aside0.mk (bb_ BK377.out hb);replace HB:=Aside0.mk (below_step (bl_ HB.out) hb)))
  go_ret
  exact ⟨rt_,bl_ HB.out⟩
end Go.Proofs.YtnnbbeloifhofaaDoor.P
end
section
namespace Go.Proofs.YtnnbbeloifhofaaDoor.P
open Go Go.RowKit Go.Proofs
open Go.Proofs.YtnnbbeloifhofaaDoorW.PrintWords Go.Proofs.YtnnbbeloifhofaaDoorW.PrintLast Go.Proofs.YtnnbbeloifhofaaDoorW.PrintMore
theorem getD_mem' {α:Type} {l:List α} {i:Nat} (z:α) (h:i < l.length):l.getD i z ∈ l:=by
  rw [List.getD_eq_getElem?_getD,List.getElem?_eq_getElem h,Option.getD_some];exact List.getElem_mem h
end Go.Proofs.YtnnbbeloifhofaaDoor.P
end
section
namespace Go.Proofs.YtnnbbeloifhofaaDoor.P
open Go.RowKit Go.Proofs.YtnnbbeloifhofaaDoorW.PrintWords Go.Proofs.YtnnbbeloifhofaaDoorW.PrintLast Go.Proofs.YtnnbbeloifhofaaDoorW.PrintMore
attribute [local go_sem] max2_int min2_int max_two min_two max_three min_three max_four min_four
set_option linter.unusedVariables false
set_option linter.unusedSimpArgs false
mutual
def helmsmanlaw12_Expr.l0:Nat→List (S24)→Int→Int→ByteArray→ByteArray→Int→List (S33)→Int→Option (ByteArray × ByteArray × Int × (List (S33)) × Int)
 | 0,_,_,_,_,_,_,_,_=>none
 | k+1,x16,x17,x18,x115000,x115001,x115002,x115003,x115004=>if x18 < x17 then (if 0≤x18 then (if x18 < (x16.length:Int) then ((helmsmanlaw12_Expr.f k ((rd_T24 x16 x18).f0) ((rd_T24 x16 x18).f1) ((rd_T24 x16 x18).f2) ((rd_T24 x16 x18).f3) ((rd_T24 x16 x18).f4)).bind fun bt117=>(if x115003.length < 1954687338268 then (helmsmanlaw12_Expr.l0 k x16 x17 (wrap64 (x18+1)) x115000 x115001 x115002 (x115003++[(⟨bt117.1,bt117.2.1,bt117.2.2.1,bt117.2.2.2.1,bt117.2.2.2.2⟩:S33)]) x115004) else (none))) else (none)) else (none)) else (some (x115000,x115001,x115002,x115003,x115004))
def helmsmanlaw12_Expr.f:Nat→ByteArray→ByteArray→Int→List (S24)→Int→Option (ByteArray × ByteArray × Int × (List (S33)) × Int)
 | 0,_,_,_,_,_=>none
 | k+1,a0_0,a0_1,a0_2,l0_3,a0_4=>helmsmanlaw12_Expr.l0 k l0_3 (l0_3.length:Int) 0 a0_0 a0_1 a0_2 ([]:List (S33)) a0_4
end
def helmsmanlaw12_Expr.T5:Bool × List (List Nat × List Nat):=(true,[([],[]),([0],[0]),([],[]),([2],[2]),([3],[3]),([1,4,3],[1,4]),([0,1,2,3,4,5],[]),([6,5,5,0,1,2,3,4,5],[5,6])])
def helmsmanlaw12_Expr.B5:List Nat:=[0,1,0,4,12,31,63,127]
theorem helmsmanlaw12_Expr.tab5:rtab .any (opsOf Tryd.f11 5)=helmsmanlaw12_Expr.T5:=by kernel_rfl
theorem helmsmanlaw12_Expr.bits5:waitsOk helmsmanlaw12_Expr.T5.2 helmsmanlaw12_Expr.B5=true:=by kernel_rfl
set_option maxHeartbeats 8000000 in
set_option maxRecDepth 100000 in
theorem helmsmanlaw12_Expr.calls (k:Nat) : ∀ (a0_0:ByteArray) (a0_1:ByteArray) (a0_2:Int) (A0_3:Option Addr) (c0_3:Nat) (l0_3:List (S24)) (a0_4:Int) (r1:ByteArray) (r2:ByteArray) (r3:Int) (r4:List (S33)) (r5:Int) (w:World) (hr0_3:Kd.C k24 w A0_3 l0_3.length l0_3) (hc0_3:l0_3.length≤c0_3) (h:helmsmanlaw12_Expr.f k a0_0 a0_1 a0_2 l0_3 a0_4=some (r1,r2,r3,r4,r5)),
  Calls Tryd.prog 11 #[.agg #[.string a0_0,.string a0_1,.int .i64 a0_2,.slice A0_3 l0_3.length c0_3,.int .i64 a0_4]] w fun e w'=>∃ v3_:Value,e=.returned (.agg #[.string r1,.string r2,.int .i64 r3,v3_,.int .i64 r5])∧Kd.R k33 33 w' w.heap.size (fun _=>True) v3_ r4∧Below w.heap.size w w':=by
 induction k using Nat.strongRecOn with
 | _ k ih=>
 intro a0_0 a0_1 a0_2 A0_3 c0_3 l0_3 a0_4 r1 r2 r3 r4 r5 w hr0_3 hc0_3 h
 cases k with
 | zero=>exact absurd h (by simp [helmsmanlaw12_Expr.f])
 | succ k=>
 simp only [helmsmanlaw12_Expr.f] at h
 have hu24:=Tryd.underlying24
 have hu33:=Tryd.underlying33
 have HR0_3:=Aside0.mk hr0_3
 have HC0_3:=Aside0.mk hc0_3
 clear hr0_3 hc0_3
 have HB:=Aside0.mk (Below.refl w.heap.size w)
 have H:(helmsmanlaw12_Expr.l0 k l0_3 (l0_3.length:Int) 0 a0_0 a0_1 a0_2 ([]:List (S33)) a0_4)=some (r1,r2,r3,r4,r5):=h
 clear h
 have H':=Aside0.mk H
 clear H
 go_enter Tryd.func11,Tryd.ntmps11
 go_wp2_with (first|((with_reducible refine gate_dst (N:=1) rfl ?_);refine bx_ (N:=1) (cs:=#[.string a0_0,.string a0_1,.int .i64 a0_2,.slice A0_3 l0_3.length c0_3,.int .i64 a0_4]) (t:=24) ?_;intro gb112 hg w2 hbox hb;have BK112:=Aside0.mk (hbox);have GW112:=Aside0.mk ((gs_ hg (bl_ HB.out):w.heap.size≤gb112));have GE112:=Aside0.mk ((gs_ hg (bl_ HB.out):w.heap.size≤gb112));replace HB:=Aside0.mk (below_step (bl_ HB.out) hb);clear hb hbox hg)|((with_reducible refine gate_dst (N:=2) rfl ?_);refine bx_ (N:=2) (cs:=#[.string (⟨#[]⟩:ByteArray),.string (⟨#[]⟩:ByteArray),.int .i64 0,.slice none 0 0,.int .i64 0]) (t:=33) ?_;intro gb113 hg w3 hbox hb;have BK113:=Aside0.mk (hbox);have GW113:=Aside0.mk ((gs_ hg (bl_ HB.out):w.heap.size≤gb113));have GE113:=Aside0.mk ((gs_ hg (bl_ HB.out):w.heap.size≤gb113));replace HB:=Aside0.mk (below_step (bl_ HB.out) hb);have NB112_113:=Aside0.mk ((nl_ hg BK112.out:gb112≠gb113));have NB113_112:=Aside0.mk ((nr_ hg BK112.out:gb113≠gb112));replace BK112:=Aside0.mk (bb_ BK112.out hb);clear hb hbox hg;have hnb4:=NB112_113.out;have hnc4:=NB113_112.out;obtain ⟨hcz5_0,hcz5_1,hcz5_2,hcz5_3,hcz5_4,hfz5_0,hfz5_1,hfz5_2,hfz5_3,hfz5_4⟩:=zf5_ BK112.out)|((with_reducible refine gate_dst (N:=3) rfl ?_);refine bx_ (N:=3) (cs:=#[.string (⟨#[]⟩:ByteArray),.string (⟨#[]⟩:ByteArray),.int .i64 0,.slice none 0 0,.int .i64 0]) (t:=33) ?_;intro gb114 hg w6 hbox hb;have BK114:=Aside0.mk (hbox);have GW114:=Aside0.mk ((gs_ hg (bl_ HB.out):w.heap.size≤gb114));have GE114:=Aside0.mk ((gs_ hg (bl_ HB.out):w.heap.size≤gb114));replace HB:=Aside0.mk (below_step (bl_ HB.out) hb);have NB112_114:=Aside0.mk ((nl_ hg BK112.out:gb112≠gb114));have NB114_112:=Aside0.mk ((nr_ hg BK112.out:gb114≠gb112));replace BK112:=Aside0.mk (bb_ BK112.out hb);have NB113_114:=Aside0.mk ((nl_ hg BK113.out:gb113≠gb114));have NB114_113:=Aside0.mk ((nr_ hg BK113.out:gb114≠gb113));replace BK113:=Aside0.mk (bb_ BK113.out hb);clear hb hbox hg;have hnb7:=NB114_112.out;have hnc7:=NB112_114.out;have hnb8:=NB114_113.out;have hnc8:=NB113_114.out;obtain ⟨hcz9_0,hcz9_1,hcz9_2,hcz9_3,hcz9_4,hfz9_0,hfz9_1,hfz9_2,hfz9_3,hfz9_4⟩:=zf5_ BK114.out;obtain ⟨hcz10_0,hcz10_1,hcz10_2,hcz10_3,hcz10_4,hfz10_0,hfz10_1,hfz10_2,hfz10_3,hfz10_4⟩:=zf5_ BK112.out))
 (try simp only [Act.put,List.setIfInBounds_toArray,List.set_cons_succ,List.set_cons_zero])
 go_loopg [18] k (fun kq v18 w'=>∃ (x18_1:Int) (x115003_1:List (S33)) (u115003:Value),v18=.int .i64 x18_1∧Aside0 (helmsmanlaw12_Expr.l0 kq l0_3 (l0_3.length:Int) x18_1 a0_0 a0_1 a0_2 x115003_1 a0_4=some (r1,r2,r3,r4,r5))∧Aside0 (kq≤k)∧Aside0 (Kd.R k33 33 w' w.heap.size (fun k_=>k_≠gb113∧k_≠gb114) u115003 x115003_1)∧Aside0 (w'.heap[gb112]?=some (.cells #[.string a0_0,.string a0_1,.int .i64 a0_2,(.slice A0_3 l0_3.length c0_3),.int .i64 a0_4] 24 (0,0)))∧Aside0 (w'.heap[gb113]?=some (.cells #[.string (⟨#[]⟩:ByteArray),.string (⟨#[]⟩:ByteArray),.int .i64 0,(.slice none 0 0),.int .i64 0] 33 (0,0)))∧Aside0 (w'.heap[gb114]?=some (.cells #[.string a0_0,.string a0_1,.int .i64 a0_2,u115003,.int .i64 a0_4] 33 (0,0)))∧Aside0 (Below w.heap.size w w'))
 case atStart=>exact ⟨(0),(([]:List (S33))),(.slice none 0 0),rf_,H',⟨Nat.le_refl _⟩,⟨by first|exact Kd.R_nil _ _ _ _ _|exact Kd.N_nil _ _ _ _ _|exact Kd.V_nil _ _ _ _ _|exact Kd.Q_nil _ _ _ _ _|exact Kd.S_nil _ _ _ _ _⟩,⟨kbc_ BK112.out⟩,⟨kbc_ BK113.out⟩,⟨kbc_ BK114.out⟩,⟨bl_ HB.out⟩⟩
 case round=>
  clear H'
  obtain ⟨x18_1,x115003_1,u115003,rfl,HA,HK1,HO_115003,BK112,BK113,BK114,HB⟩:=hrel
  cases gk with
  | zero=>exact absurd HA.out (by simp [helmsmanlaw12_Expr.l0])
  | succ k1=>
   have H:=HA.out
   clear HA
   simp only [helmsmanlaw12_Expr.l0] at H
   by_cases c11:x18_1 < (l0_3.length:Int)
   ·rw [if_pos c11] at H
    have c11b0:=decide_eq_true c11
    clear c11
    revert H
    refine gd_ fun c12 H=>?_
    have c12b0:=decide_eq_true c12
    clear c12
    revert H
    refine gd_ fun c13 H=>?_
    have c13b0:=decide_eq_true c13
    clear c13
    replace H:=Option.bind_eq_some_iff.mp H
    obtain ⟨⟨t117,t118,t119,t120,t123⟩,A140,H⟩:=H
    replace H:(if x115003_1.length < 1954687338268 then (helmsmanlaw12_Expr.l0 k1 l0_3 (l0_3.length:Int) (wrap64 (x18_1+1)) a0_0 a0_1 a0_2 (x115003_1++[(⟨t117,t118,t119,t120,t123⟩:S33)]) a0_4) else (none))=some (r1,r2,r3,r4,r5):=H
    have A14:=Aside0.mk A140
    clear A140
    revert H
    refine gd_ fun c15 H=>?_
    have LMc15:=Aside0.mk c15
    clear c15
    obtain ⟨y124,hy124⟩ : ∃ y_:List (S33),y_=(x115003_1++[(⟨t117,t118,t119,t120,t123⟩:S33)]):=⟨_,rfl⟩
    replace H:(helmsmanlaw12_Expr.l0 k1 l0_3 (l0_3.length:Int) (wrap64 (x18_1+1)) a0_0 a0_1 a0_2 y124 a0_4)=some (r1,r2,r3,r4,r5):=by first|(rw [hy124];with_reducible exact H)|(have H2_:=(Option.bind_some _ _).symm.trans H;rw [hy124];with_reducible exact H2_)|(have H2_:=(Option.bind_some _ _).symm.trans H;with_reducible exact H2_)|with_reducible exact H|(rw [hy124];exact H)|exact H
    have Ny124:=Aside0.mk hy124
    clear hy124
    have H':=Aside0.mk H
    clear H
    have p115:0≤(x18_1:Int):=of_decide_eq_true as_
    have q115:x18_1 < (l0_3.length:Int):=of_decide_eq_true as_
    obtain ⟨ad115,A115_3,c115_3,e115,hx115_0,hx115_1,hx115_2,hx115_3,hx115_4,hl115_3,hi115_3⟩:=at_T24 HR0_3.out x18_1 p115 q115
    cases e115
    replace hx115_0:=(cb_ HB.out hx115_0:_)
    replace hx115_1:=(cb_ HB.out hx115_1:_)
    replace hx115_2:=(cb_ HB.out hx115_2:_)
    replace hx115_3:=(cb_ HB.out hx115_3:_)
    replace hx115_4:=(cb_ HB.out hx115_4:_)
    have HR115_3:=Aside0.mk hi115_3
    have HC115_3:=Aside0.mk hl115_3
    clear hi115_3 hl115_3
    replace p115:=eq_true p115
    replace q115:=eq_true q115
    try go_wp2_with (first|((with_reducible refine gate_dst (N:=5) rfl ?_);refine bx_ (N:=5) (cs:=#[.string (⟨#[]⟩:ByteArray),.string (⟨#[]⟩:ByteArray),.int .i64 0,.slice none 0 0,.int .i64 0]) (t:=24) ?_;intro gb116 hg w16 hbox hb;have n0_:=Aside0.mk (Kd.R_below (by (with_reducible repeat (first|apply Kd.R_alloc|apply Kd.R_drewN|apply Kd.R_drew));exact HO_115003.out) hb);have n1_:=Aside0.mk (bb_ BK112.out hb);have n2_:=Aside0.mk (bb_ BK113.out hb);have n3_:=Aside0.mk (bb_ BK114.out hb);have n4_:=Aside0.mk (below_step (bl_ HB.out) hb);have n5_:=Aside0.mk (hbox);have n6_:=Aside0.mk ((gs_ hg (bl_ HB.out):w.heap.size≤gb116));have n7_:=Aside0.mk ((gs_ hg (bl_ HB.out):w.heap.size≤gb116));have n8_:=Aside0.mk ((nl_ hg BK112.out:gb112≠gb116));have n9_:=Aside0.mk ((nr_ hg BK112.out:gb116≠gb112));have n10_:=Aside0.mk ((nl_ hg BK113.out:gb113≠gb116));have n11_:=Aside0.mk ((nr_ hg BK113.out:gb116≠gb113));have n12_:=Aside0.mk ((nl_ hg BK114.out:gb114≠gb116));have n13_:=Aside0.mk ((nr_ hg BK114.out:gb116≠gb114));clear HO_115003;clear BK112;clear BK113;clear BK114;clear HB;have HO_115003:=n0_;have BK112:=n1_;have BK113:=n2_;have BK114:=n3_;have HB:=n4_;have BK116:=n5_;have GW116:=n6_;have GE116:=n7_;have NB112_116:=n8_;have NB116_112:=n9_;have NB113_116:=n10_;have NB116_113:=n11_;have NB114_116:=n12_;have NB116_114:=n13_;clear n0_ n1_ n2_ n3_ n4_ n5_ n6_ n7_ n8_ n9_ n10_ n11_ n12_ n13_;clear hb hbox hg;have hnb17:=NB116_112.out;have hnc17:=NB112_116.out;have hnb18:=NB116_113.out;have hnc18:=NB113_116.out;have hnb19:=NB116_114.out;have hnc19:=NB114_116.out;obtain ⟨hcz20_0,hcz20_1,hcz20_2,hcz20_3,hcz20_4,hfz20_0,hfz20_1,hfz20_2,hfz20_3,hfz20_4⟩:=zf5_ BK116.out))
    have n0_:Aside0 (Kd.R k33 33 (((((w16.setCell ⟨gb116,0,none⟩ (.string ((rd_T24 l0_3 x18_1).f0))).setCell ⟨gb116,1,none⟩ (.string ((rd_T24 l0_3 x18_1).f1))).setCell ⟨gb116,2,none⟩ (.int .i64 ((rd_T24 l0_3 x18_1).f2))).setCell ⟨gb116,3,none⟩ (.slice A115_3 ((rd_T24 l0_3 x18_1).f3).length c115_3)).setCell ⟨gb116,4,none⟩ (.int .i64 ((rd_T24 l0_3 x18_1).f4))) w.heap.size (fun k_=>k_≠gb113∧k_≠gb114) u115003 x115003_1):=⟨by (with_reducible repeat (first|apply Kd.R_alloc|apply Kd.R_drewN|apply Kd.R_drew));exact Kd.R_mono (Kd.R_far (p:=⟨gb116,4,none⟩) (Kd.R_far (p:=⟨gb116,3,none⟩) (Kd.R_far (p:=⟨gb116,2,none⟩) (Kd.R_far (p:=⟨gb116,1,none⟩) (Kd.R_far (p:=⟨gb116,0,none⟩) (Kd.R_types HO_115003.out BK116.out (by decide)) (fun _ hk=>hk.2) (.string ((rd_T24 l0_3 x18_1).f0))) (fun _ hk=>hk.2) (.string ((rd_T24 l0_3 x18_1).f1))) (fun _ hk=>hk.2) (.int .i64 ((rd_T24 l0_3 x18_1).f2))) (fun _ hk=>hk.2) (.slice A115_3 ((rd_T24 l0_3 x18_1).f3).length c115_3)) (fun _ hk=>hk.2) (.int .i64 ((rd_T24 l0_3 x18_1).f4))) (fun _ hk=>⟨hk.1.1,hk.1.2⟩)⟩
    have n1_:Aside0 ((((((w16.setCell ⟨gb116,0,none⟩ (.string ((rd_T24 l0_3 x18_1).f0))).setCell ⟨gb116,1,none⟩ (.string ((rd_T24 l0_3 x18_1).f1))).setCell ⟨gb116,2,none⟩ (.int .i64 ((rd_T24 l0_3 x18_1).f2))).setCell ⟨gb116,3,none⟩ (.slice A115_3 ((rd_T24 l0_3 x18_1).f3).length c115_3)).setCell ⟨gb116,4,none⟩ (.int .i64 ((rd_T24 l0_3 x18_1).f4))).heap[gb112]?=some (.cells #[.string a0_0,.string a0_1,.int .i64 a0_2,.slice (some ad115) l0_3.length c0_3,.int .i64 a0_4] 24 (0,0))):=⟨kbc_ BK112.out⟩
    have n2_:Aside0 ((((((w16.setCell ⟨gb116,0,none⟩ (.string ((rd_T24 l0_3 x18_1).f0))).setCell ⟨gb116,1,none⟩ (.string ((rd_T24 l0_3 x18_1).f1))).setCell ⟨gb116,2,none⟩ (.int .i64 ((rd_T24 l0_3 x18_1).f2))).setCell ⟨gb116,3,none⟩ (.slice A115_3 ((rd_T24 l0_3 x18_1).f3).length c115_3)).setCell ⟨gb116,4,none⟩ (.int .i64 ((rd_T24 l0_3 x18_1).f4))).heap[gb113]?=some (.cells #[.string (⟨#[]⟩:ByteArray),.string (⟨#[]⟩:ByteArray),.int .i64 0,.slice none 0 0,.int .i64 0] 33 (0,0))):=⟨kbc_ BK113.out⟩
    have n3_:Aside0 ((((((w16.setCell ⟨gb116,0,none⟩ (.string ((rd_T24 l0_3 x18_1).f0))).setCell ⟨gb116,1,none⟩ (.string ((rd_T24 l0_3 x18_1).f1))).setCell ⟨gb116,2,none⟩ (.int .i64 ((rd_T24 l0_3 x18_1).f2))).setCell ⟨gb116,3,none⟩ (.slice A115_3 ((rd_T24 l0_3 x18_1).f3).length c115_3)).setCell ⟨gb116,4,none⟩ (.int .i64 ((rd_T24 l0_3 x18_1).f4))).heap[gb114]?=some (.cells #[.string a0_0,.string a0_1,.int .i64 a0_2,u115003,.int .i64 a0_4] 33 (0,0))):=⟨kbc_ BK114.out⟩
    have n4_:Aside0 ((((((w16.setCell ⟨gb116,0,none⟩ (.string ((rd_T24 l0_3 x18_1).f0))).setCell ⟨gb116,1,none⟩ (.string ((rd_T24 l0_3 x18_1).f1))).setCell ⟨gb116,2,none⟩ (.int .i64 ((rd_T24 l0_3 x18_1).f2))).setCell ⟨gb116,3,none⟩ (.slice A115_3 ((rd_T24 l0_3 x18_1).f3).length c115_3)).setCell ⟨gb116,4,none⟩ (.int .i64 ((rd_T24 l0_3 x18_1).f4))).heap[gb116]?=some (.cells #[.string ((rd_T24 l0_3 x18_1).f0),.string ((rd_T24 l0_3 x18_1).f1),.int .i64 ((rd_T24 l0_3 x18_1).f2),.slice A115_3 ((rd_T24 l0_3 x18_1).f3).length c115_3,.int .i64 ((rd_T24 l0_3 x18_1).f4)] 24 (0,0))):=⟨kbc_ BK116.out⟩
    have n5_:Aside0 (Below w.heap.size w (((((w16.setCell ⟨gb116,0,none⟩ (.string ((rd_T24 l0_3 x18_1).f0))).setCell ⟨gb116,1,none⟩ (.string ((rd_T24 l0_3 x18_1).f1))).setCell ⟨gb116,2,none⟩ (.int .i64 ((rd_T24 l0_3 x18_1).f2))).setCell ⟨gb116,3,none⟩ (.slice A115_3 ((rd_T24 l0_3 x18_1).f3).length c115_3)).setCell ⟨gb116,4,none⟩ (.int .i64 ((rd_T24 l0_3 x18_1).f4)))):=⟨bl_ HB.out⟩
    (try clear HO_115003)
    (try clear BK112)
    (try clear BK113)
    (try clear BK114)
    (try clear BK116)
    (try clear HB)
    generalize (((((w16.setCell ⟨gb116,0,none⟩ (.string ((rd_T24 l0_3 x18_1).f0))).setCell ⟨gb116,1,none⟩ (.string ((rd_T24 l0_3 x18_1).f1))).setCell ⟨gb116,2,none⟩ (.int .i64 ((rd_T24 l0_3 x18_1).f2))).setCell ⟨gb116,3,none⟩ (.slice A115_3 ((rd_T24 l0_3 x18_1).f3).length c115_3)).setCell ⟨gb116,4,none⟩ (.int .i64 ((rd_T24 l0_3 x18_1).f4)))=w21 at n0_ n1_ n2_ n3_ n4_ n5_ ⊢
    have HO_115003:=n0_
    have BK112:=n1_
    have BK113:=n2_
    have BK114:=n3_
    have BK116:=n4_
    have HB:=n5_
    clear n0_ n1_ n2_ n3_ n4_ n5_
    replace HO_115003:=Aside0.mk (Kd.R_drew HO_115003.out)
    replace BK112:=Aside0.mk (blk_drew BK112.out)
    replace BK113:=Aside0.mk (blk_drew BK113.out)
    replace BK114:=Aside0.mk (blk_drew BK114.out)
    replace BK116:=Aside0.mk (blk_drew BK116.out)
    replace HB:=Aside0.mk (below_drew1 HB.out)
    refine start_ (n:=8) (S:=fun w'=>w'.cell? ⟨gb114,0,none⟩=some (.string a0_0)∧w'.cell? ⟨gb114,1,none⟩=some (.string a0_1)∧w'.cell? ⟨gb114,2,none⟩=some (.int .i64 a0_2)∧w'.cell? ⟨gb114,3,none⟩=some (u115003)∧w'.cell? ⟨gb114,4,none⟩=some (.int .i64 a0_4)∧w'.cell? ⟨gb116,0,none⟩=some (.string ((rd_T24 l0_3 x18_1).f0))∧w'.cell? ⟨gb116,1,none⟩=some (.string ((rd_T24 l0_3 x18_1).f1))∧w'.cell? ⟨gb116,2,none⟩=some (.int .i64 ((rd_T24 l0_3 x18_1).f2))∧w'.cell? ⟨gb116,3,none⟩=some (.slice A115_3 ((rd_T24 l0_3 x18_1).f3).length c115_3)∧w'.cell? ⟨gb116,4,none⟩=some (.int .i64 ((rd_T24 l0_3 x18_1).f4))) (ds:=[7]) (flg 8 0) (by kernel_rfl) rfl (by kernel_rfl) ⟨zc_ BK114.out 0,zc_ BK114.out 1,zc_ BK114.out 2,zc_ BK114.out 3,zc_ BK114.out 4,zc_ BK116.out 0,zc_ BK116.out 1,zc_ BK116.out 2,zc_ BK116.out 3,zc_ BK116.out 4⟩ (fun hHeld=>?_);refine with_tabW helmsmanlaw12_Expr.tab5 helmsmanlaw12_Expr.bits5 (fun HT_ HW_=>?_)
    generalize w21.drew=w22 at HO_115003 BK112 BK113 BK114 BK116 HB hHeld ⊢
    refine pu_ 0 22 (flg 8 1) ?_
    refine ta_ 1 23 (flg 8 3) hHeld ?_
    refine ta_ 2 24 (flg 8 7) hHeld ?_
    refine one_ (i:=3) (N:=some 25) (flg 8 15) rfl rfl (one_of HT_.out (by kernel_rfl)) (by decide) (fun K hK=>?_)
    refine goes_ Tryd.func11 (by kernel_rfl) rfl #[.agg #[.string ((rd_T24 l0_3 x18_1).f0),.string ((rd_T24 l0_3 x18_1).f1),.int .i64 ((rd_T24 l0_3 x18_1).f2),.slice A115_3 ((rd_T24 l0_3 x18_1).f3).length c115_3,.int .i64 ((rd_T24 l0_3 x18_1).f4)]] (by rfl) rfl rfl ar_ ?_
    with_reducible refine (ih k1 (by have:=HK1.out;omega) ((rd_T24 l0_3 x18_1).f0) ((rd_T24 l0_3 x18_1).f1) ((rd_T24 l0_3 x18_1).f2) _ _ ((rd_T24 l0_3 x18_1).f3) ((rd_T24 l0_3 x18_1).f4) t117 t118 t119 t120 t123 _ ?side1 ?side2 A14.out).mono ?_
    (case side1=>exact kc_ HR115_3.out HB.out)
    (case side2=>exact HC115_3.out)
    rintro e w23 ⟨v121,rfl,ho0,hb⟩
    refine ⟨_,rfl,?_⟩
    have HO122:=Aside0.mk (Kd.R_lower (Kd.R_newB (Kd.R_newB (Kd.R_new' ho0 (Kd.R_lt (by (with_reducible repeat (first|apply Kd.R_alloc|apply Kd.R_drewN|apply Kd.R_drew));exact HO_115003.out))) (g:=gb113) (o:=.cells #[.string (⟨#[]⟩:ByteArray),.string (⟨#[]⟩:ByteArray),.int .i64 0,.slice none 0 0,.int .i64 0] 33 (0,0)) (kb_ BK113.out)) (g:=gb114) (o:=.cells #[.string a0_0,.string a0_1,.int .i64 a0_2,u115003,.int .i64 a0_4] 33 (0,0)) (kb_ BK114.out)) (below_size (bl_ HB.out)))
    replace HO_115003:=Aside0.mk (Kd.R_elder' (by (with_reducible repeat (first|apply Kd.R_alloc|apply Kd.R_drewN|apply Kd.R_drew));exact HO_115003.out) (Kd.R_base ho0) hb)
    replace BK112:=Aside0.mk (bb_ BK112.out hb)
    replace BK113:=Aside0.mk (bb_ BK113.out hb)
    replace BK114:=Aside0.mk (bb_ BK114.out hb)
    replace BK116:=Aside0.mk (bb_ BK116.out hb)
    replace HB:=Aside0.mk (below_step (bl_ HB.out) hb)
    (try clear ho0)
    obtain ⟨Ao25,co25,eo25⟩:=Kd.R_slice HO122.out
    (first|subst eo25|(injection eo25 with f1_ f2_ f3_;have f4_:=f1_.symm;have f5_:=f3_.symm;clear f1_ f2_ f3_;subst f4_;subst f5_))
    refine ko_ hK (fun hHeld=>?_)
    clear hK K
    refine nm_ ?_
    refine one_ (i:=4) (N:=some 26) (flg 8 31) rfl rfl (one_of HT_.out (by kernel_rfl)) (by decide) (fun K hK=>?_)
    refine value_ (w1:=?_) (v:=?_) (by rfl) rfl ?_ ?_
    rotate_left 2
    ·go_simp
     constructor
     ·rfl
     ·rfl
    refine hK.out _ _ ⟨(blk_cell (blk_alloc BK114.out _) 0).trans rfl,(blk_cell (blk_alloc BK114.out _) 1).trans rfl,(blk_cell (blk_alloc BK114.out _) 2).trans rfl,(blk_cell (blk_alloc BK114.out _) 3).trans rfl,(blk_cell (blk_alloc BK114.out _) 4).trans rfl,(blk_cell (blk_alloc BK116.out _) 0).trans rfl,(blk_cell (blk_alloc BK116.out _) 1).trans rfl,(blk_cell (blk_alloc BK116.out _) 2).trans rfl,(blk_cell (blk_alloc BK116.out _) 3).trans rfl,(blk_cell (blk_alloc BK116.out _) 4).trans rfl⟩ (fun hHeld=>?_)
    clear hK K
    refine nm_ ?_
    refine one_ (i:=5) (N:=some 27) (flg 8 63) rfl rfl (one_of HT_.out (by kernel_rfl)) (by decide) (fun K hK=>?_)
    refine Kd.R_append_step k33 (w0:=w) w.heap.size (by rfl) (.tmp 23) (.tmp 26) 31 33 (.agg #[(.string ⟨#[]⟩),(.string ⟨#[]⟩),(.int .i64 0),(.slice none 0 0),(.int .i64 0)]) 72 rfl Tryd.underlying31 info33 rfl (by decide) (by omega) u115003 x115003_1 (⟨t117,t118,t119,t120,t123⟩:S33) [.string t117,.string t118,.int .i64 t119,.slice Ao25 t120.length co25,.int .i64 t123] (fun k_=>k_≠gb113∧k_≠gb114) (fun k_=>((fun k_=>k_≠gb113∧k_≠gb114)) k_∧some k_≠(u115003:Value).ownBlock) rfl rfl ?aP (fun _ hk=>hk) ?aF ?aO ?aB ?aS ?aL ?_
    (case aP=>exact k33_mkM _ _ _ (⟨t117,t118,t119,t120,t123⟩:S33) (Kd.R_mono (HO122.out) (fun k_ hk=>⟨⟨hk.1.2,hk.2⟩,hk.1.1.2⟩)))
    (case aB=>exact (bl_ HB.out))
    (case aF=>exact (fun k_ hk=>⟨Kd.freshB (g:=gb113) (o:=.cells #[.string (⟨#[]⟩:ByteArray),.string (⟨#[]⟩:ByteArray),.int .i64 0,.slice none 0 0,.int .i64 0] 33 (0,0)) (kb_ BK113.out) k_ hk,Kd.freshB (g:=gb114) (o:=.cells #[.string a0_0,.string a0_1,.int .i64 a0_2,u115003,.int .i64 a0_4] 33 (0,0)) (kb_ BK114.out) k_ hk⟩))
    (case aO=>exact (by (with_reducible repeat (first|apply Kd.R_alloc|apply Kd.R_drewN|apply Kd.R_drew));exact Kd.R_mono HO_115003.out (fun _ hk=>⟨hk.1.1,hk.1.2⟩)))
    (case aS=>exact (below_size (bl_ HB.out)))
    (case aL=>have:=LMc15.out;omega)
    intro v125 w24 ho hb hg hat
    rw [← Ny124.out] at ho
    have n0_:=Aside0.mk (bg_ BK112.out hg (Kd.R_ne HO_115003.out BK112.out (by decide)))
    have n1_:=Aside0.mk (bg_ BK113.out hg (Kd.R_away HO_115003.out (fun _ hk=>hk.1.1)))
    have n2_:=Aside0.mk (bg_ BK114.out hg (Kd.R_away HO_115003.out (fun _ hk=>hk.1.2)))
    have n3_:=Aside0.mk (bg_ BK116.out hg (Kd.R_ne HO_115003.out BK116.out (by decide)))
    have n4_:=Aside0.mk (hb)
    have n5_:=Aside0.mk (ho)
    clear BK112
    clear BK113
    clear BK114
    clear BK116
    clear HB
    clear HO_115003
    clear HO122
    have BK112:=n0_
    have BK113:=n1_
    have BK114:=n2_
    have BK116:=n3_
    have HB:=n4_
    have HO126:=n5_
    clear n0_ n1_ n2_ n3_ n4_ n5_
    clear ho hb hg hat
    obtain ⟨Ao26,co26,eo26⟩:=Kd.R_slice HO126.out
    (first|subst eo26|(injection eo26 with f1_ f2_ f3_;have f4_:=f1_.symm;have f5_:=f3_.symm;clear f1_ f2_ f3_;subst f4_;subst f5_))
    refine ko_ hK (fun hHeld=>?_)
    clear hK K
    refine nm_ ?_
    refine pu_ 6 28 (flg 8 127) ?_
    refine last_ (i:=7) (N:=none) (flg 8 255) rfl rfl (one_of HT_.out (by kernel_rfl)) (by decide) (fun K hK=>?_)
    have hs27:w24.cell? ⟨gb114,3,none⟩=some (u115003):=zc_ BK114.out 3
    have hfs27:=blk_frozen BK114.out 3
    have hns27_0:=NB112_114.out
    have hns27_1:=NB113_114.out
    have hns27_3:=NB116_114.out
    have hms27_0:=NB114_112.out
    have hms27_1:=NB114_113.out
    have hms27_3:=NB114_116.out
    refine skip_ (w1:=?_) (by rfl) rfl ?_ ?_
    rotate_left
    ·go_simp
     rfl
    refine hK.out _ _ ?_
    clear hK K
    refine done_ (done_of HT_.out (by kernel_rfl)) ?_
    try go_wp2
    go_roundg k1
    case measure=>have:=HK1.out;omega
    case rel=>exact ⟨(wrap64 (x18_1+1)),(y124),(.slice Ao26 y124.length co26),rf_,H',⟨by have:=HK1.out;omega⟩,⟨by (with_reducible repeat (first|apply Kd.R_alloc|apply Kd.R_drewN|apply Kd.R_drew));exact Kd.R_mono (Kd.R_far (p:=⟨gb114,3,none⟩) (Kd.R_mono HO126.out (fun k_ hk=>(⟨hk,hk.2⟩:_∧k_≠gb114))) (fun _ hk=>hk.2) (.slice Ao26 y124.length co26)) (fun _ hk=>⟨hk.1.1,hk.1.2⟩)⟩,⟨kbc_ BK112.out⟩,⟨kbc_ BK113.out⟩,⟨kbc_ BK114.out⟩,⟨bl_ HB.out⟩⟩
   ·rw [if_neg c11] at H
    have c11b0:=decide_eq_false c11
    clear c11
    simp only [Option.some.injEq,Prod.mk.injEq] at H
    obtain ⟨rfl,rfl,rfl,rfl,rfl⟩:=H
    have hnb28:=NB114_112.out
    have hnc28:=NB112_114.out
    have hnb29:=NB114_113.out
    have hnc29:=NB113_114.out
    obtain ⟨hcz30_0,hcz30_1,hcz30_2,hcz30_3,hcz30_4,hfz30_0,hfz30_1,hfz30_2,hfz30_3,hfz30_4⟩:=zf5_ BK114.out
    have hnb31:=NB113_112.out
    have hnc31:=NB112_113.out
    obtain ⟨hcz32_0,hcz32_1,hcz32_2,hcz32_3,hcz32_4,hfz32_0,hfz32_1,hfz32_2,hfz32_3,hfz32_4⟩:=zf5_ BK113.out
    obtain ⟨Ao33,co33,eo33⟩:=Kd.R_slice HO_115003.out
    subst eo33
    go_wp2
    refine bodyPost_ret (results_cell_row rfl _ _ gb113 33 #[.string a0_0,.string a0_1,.int .i64 a0_2,.slice Ao33 x115003_1.length co33,.int .i64 a0_4] (0,0) _ rfl (kbc_ BK113.out) Tryd.underlying33 rfl (by kernel_rfl)) rfl ?_
    exact ⟨_,rt_,by (with_reducible repeat (first|apply Kd.R_alloc|apply Kd.R_drewN|apply Kd.R_drew));exact Kd.R_mono (Kd.R_far (p:=⟨gb113,4,none⟩) (Kd.R_far (p:=⟨gb113,3,none⟩) (Kd.R_far (p:=⟨gb113,2,none⟩) (Kd.R_far (p:=⟨gb113,1,none⟩) (Kd.R_far (p:=⟨gb113,0,none⟩) (Kd.R_mono HO_115003.out (fun k_ hk=>(⟨hk,hk.1⟩:_∧k_≠gb113))) (fun _ hk=>hk.2) (.string a0_0)) (fun _ hk=>hk.2) (.string a0_1)) (fun _ hk=>hk.2) (.int .i64 a0_2)) (fun _ hk=>hk.2) (.slice Ao33 x115003_1.length co33)) (fun _ hk=>hk.2) (.int .i64 a0_4)) (fun _ hk=>trivial),bl_ HB.out⟩
end Go.Proofs.YtnnbbeloifhofaaDoor.P
end
section
namespace Go.Proofs.YtnnbbeloifhofaaDoor.P
open Go.RowKit Go.Proofs.YtnnbbeloifhofaaDoorW.PrintWords Go.Proofs.YtnnbbeloifhofaaDoorW.PrintLast Go.Proofs.YtnnbbeloifhofaaDoorW.PrintMore
attribute [local go_sem] max2_int min2_int max_two min_two max_three min_three max_four min_four
set_option linter.unusedVariables false
set_option linter.unusedSimpArgs false
mutual
def helmsmanlaw12_Stmts.l0:Nat→List (S76)→List (S29)→Int→Int→Option ((List (S76)))
 | 0,_,_,_,_=>none
 | k+1,x3,x9,x10,x11=>if x11 < x10 then (if 0≤x11 then (if x11 < (x9.length:Int) then ((helmsmanlaw12_Stmts.f k ((rd_T29 x9 x11).f3)).bind fun t182=>((helmsmanlaw12_Stmts.f k ((rd_T29 x9 x11).f4)).bind fun t185=>(helmsmanlaw12_Stmts.l1 k x3 x9 x10 x11 ((rd_T29 x9 x11).f2) (((rd_T29 x9 x11).f2).length:Int) 0 ((rd_T29 x9 x11).f0) ((rd_T29 x9 x11).f1) ([]:List (S33)) t182 t185 ((rd_T29 x9 x11).f5)))) else (none)) else (none)) else (some x3)
def helmsmanlaw12_Stmts.l1:Nat→List (S76)→List (S29)→Int→Int→List (S24)→Int→Int→ByteArray→ByteArray→List (S33)→List (S76)→List (S76)→Int→Option ((List (S76)))
 | 0,_,_,_,_,_,_,_,_,_,_,_,_,_=>none
 | k+1,x3,x9,x10,x11,x29,x30,x31,x189000,x189001,x189002,x189003,x189004,x189005=>if x31 < x30 then (if 0≤x31 then (if x31 < (x29.length:Int) then ((helmsmanlaw12_Expr.f k ((rd_T24 x29 x31).f0) ((rd_T24 x29 x31).f1) ((rd_T24 x29 x31).f2) ((rd_T24 x29 x31).f3) ((rd_T24 x29 x31).f4)).bind fun bt191=>(if x189002.length < 1954687338268 then (helmsmanlaw12_Stmts.l1 k x3 x9 x10 x11 x29 x30 (wrap64 (x31+1)) x189000 x189001 (x189002++[(⟨bt191.1,bt191.2.1,bt191.2.2.1,bt191.2.2.2.1,bt191.2.2.2.2⟩:S33)]) x189003 x189004 x189005) else (none))) else (none)) else (none)) else (if x3.length < 1256584717458 then (helmsmanlaw12_Stmts.l0 k (x3++[(⟨x189000,x189001,x189002,x189003,x189004,x189005⟩:S76)]) x9 x10 (wrap64 (x11+1))) else (none))
def helmsmanlaw12_Stmts.f:Nat→List (S29)→Option ((List (S76)))
 | 0,_=>none
 | k+1,l0=>helmsmanlaw12_Stmts.l0 k ([]:List (S76)) l0 (l0.length:Int) 0
end
def helmsmanlaw12_Stmts.T5:Bool × List (List Nat × List Nat):=(true,[([],[]),([0],[0]),([],[]),([2],[2]),([],[]),([4],[4]),([],[]),([6],[6]),([7],[7]),([],[]),([9],[9]),([10,8],[10]),([1,3,5,8,11],[1,3,5,8,11]),([],[]),([13,12,11,0,1,2,3,4,5,6,7,8,9,10,11,12,13],[12,13])])
def helmsmanlaw12_Stmts.B5:List Nat:=[0,1,0,4,0,16,0,64,192,0,512,1984,4095,0,16383]
theorem helmsmanlaw12_Stmts.tab5:rtab .any (opsOf Tryd.f24 5)=helmsmanlaw12_Stmts.T5:=by kernel_rfl
theorem helmsmanlaw12_Stmts.bits5:waitsOk helmsmanlaw12_Stmts.T5.2 helmsmanlaw12_Stmts.B5=true:=by kernel_rfl
def helmsmanlaw12_Stmts.T9:Bool × List (List Nat × List Nat):=(true,[([],[]),([0],[0]),([],[]),([2],[2]),([3],[3]),([1,4,3],[1,4]),([0,1,2,3,4,5],[]),([6,5,5,0,1,2,3,4,5],[5,6])])
def helmsmanlaw12_Stmts.B9:List Nat:=[0,1,0,4,12,31,63,127]
theorem helmsmanlaw12_Stmts.tab9:rtab .any (opsOf Tryd.f24 9)=helmsmanlaw12_Stmts.T9:=by kernel_rfl
theorem helmsmanlaw12_Stmts.bits9:waitsOk helmsmanlaw12_Stmts.T9.2 helmsmanlaw12_Stmts.B9=true:=by kernel_rfl
set_option maxHeartbeats 8000000 in
set_option maxRecDepth 100000 in
theorem helmsmanlaw12_Stmts.calls (k:Nat) : ∀ (A0:Option Addr) (c0:Nat) (l0:List (S29)) (r:List (S76)) (w:World) (hr0:Kd.C k29 w A0 l0.length l0) (hc0:l0.length≤c0) (h:helmsmanlaw12_Stmts.f k l0=some r),
  Calls Tryd.prog 24 #[.slice A0 l0.length c0] w fun e w'=>∃ v0_:Value,e=.returned (v0_)∧Kd.R k76 76 w' w.heap.size (fun _=>True) v0_ r∧Below w.heap.size w w':=by
 induction k using Nat.strongRecOn with
 | _ k ih=>
 intro A0 c0 l0 r w hr0 hc0 h
 cases k with
 | zero=>exact absurd h (by simp [helmsmanlaw12_Stmts.f])
 | succ k=>
 simp only [helmsmanlaw12_Stmts.f] at h
 have hu29:=Tryd.underlying29
 have hu76:=Tryd.underlying76
 have hu24:=Tryd.underlying24
 have HR0:=Aside0.mk hr0
 have HC0:=Aside0.mk hc0
 clear hr0 hc0
 have HB:=Aside0.mk (Below.refl w.heap.size w)
 have H:(helmsmanlaw12_Stmts.l0 k ([]:List (S76)) l0 (l0.length:Int) 0)=some r:=h
 clear h
 have H':=Aside0.mk H
 clear H
 go_enter Tryd.func24,Tryd.ntmps24
 go_wp2
 (try simp only [Act.put,List.setIfInBounds_toArray,List.set_cons_succ,List.set_cons_zero])
 go_loopg [3,11] k (fun kq v3 v11 w'=>∃ (x3_1:List (S76)) (x11_1:Int),v11=.int .i64 x11_1∧Aside0 (helmsmanlaw12_Stmts.l0 kq x3_1 l0 (l0.length:Int) x11_1=some r)∧Aside0 (kq≤k)∧Aside0 (Kd.R k76 76 w' w.heap.size (fun _=>True) v3 x3_1)∧Aside0 (Below w.heap.size w w'))
 case atStart=>exact ⟨(([]:List (S76))),(0),rf_,H',⟨Nat.le_refl _⟩,⟨by first|exact Kd.R_nil _ _ _ _ _|exact Kd.N_nil _ _ _ _ _|exact Kd.V_nil _ _ _ _ _|exact Kd.Q_nil _ _ _ _ _|exact Kd.S_nil _ _ _ _ _⟩,⟨bl_ HB.out⟩⟩
 case round=>
  clear H'
  obtain ⟨x3_1,x11_1,rfl,HA,HK1,HO_3,HB⟩:=hrel
  cases gk with
  | zero=>exact absurd HA.out (by simp [helmsmanlaw12_Stmts.l0])
  | succ k1=>
   have H:=HA.out
   clear HA
   simp only [helmsmanlaw12_Stmts.l0] at H
   by_cases c2:x11_1 < (l0.length:Int)
   ·rw [if_pos c2] at H
    have c2b0:=decide_eq_true c2
    clear c2
    revert H
    refine gd_ fun c3 H=>?_
    have c3b0:=decide_eq_true c3
    clear c3
    revert H
    refine gd_ fun c4 H=>?_
    have c4b0:=decide_eq_true c4
    clear c4
    revert H
    refine bd_ fun t182 A5 H=>?_
    revert H
    refine bd_ fun t185 A6 H=>?_
    have H':=Aside0.mk H
    clear H
    have p180:0≤(x11_1:Int):=of_decide_eq_true as_
    have q180:x11_1 < (l0.length:Int):=of_decide_eq_true as_
    obtain ⟨ad180,A180_2,c180_2,A180_3,c180_3,A180_4,c180_4,e180,hx180_0,hx180_1,hx180_2,hx180_3,hx180_4,hx180_5,hl180_2,hi180_2,hl180_3,hi180_3,hl180_4,hi180_4⟩:=at_T29 HR0.out x11_1 p180 q180
    cases e180
    replace hx180_0:=(cb_ HB.out hx180_0:_)
    replace hx180_1:=(cb_ HB.out hx180_1:_)
    replace hx180_2:=(cb_ HB.out hx180_2:_)
    replace hx180_3:=(cb_ HB.out hx180_3:_)
    replace hx180_4:=(cb_ HB.out hx180_4:_)
    replace hx180_5:=(cb_ HB.out hx180_5:_)
    have HR180_2:=Aside0.mk hi180_2
    have HC180_2:=Aside0.mk hl180_2
    clear hi180_2 hl180_2
    have HR180_3:=Aside0.mk hi180_3
    have HC180_3:=Aside0.mk hl180_3
    clear hi180_3 hl180_3
    have HR180_4:=Aside0.mk hi180_4
    have HC180_4:=Aside0.mk hl180_4
    clear hi180_4 hl180_4
    replace p180:=eq_true p180
    replace q180:=eq_true q180
    try go_wp2_with (first|((with_reducible refine gate_dst (N:=5) rfl ?_);refine bx_ (N:=5) (cs:=#[.string (⟨#[]⟩:ByteArray),.string (⟨#[]⟩:ByteArray),.slice none 0 0,.slice none 0 0,.slice none 0 0,.int .i64 0]) (t:=29) ?_;intro gb181 hg w7 hbox hb;have n0_:=Aside0.mk (Kd.R_below (by (with_reducible repeat (first|apply Kd.R_alloc|apply Kd.R_drewN|apply Kd.R_drew));exact HO_3.out) hb);have n1_:=Aside0.mk (below_step (bl_ HB.out) hb);have n2_:=Aside0.mk (hbox);have n3_:=Aside0.mk ((gs_ hg (bl_ HB.out):w.heap.size≤gb181));have n4_:=Aside0.mk ((gs_ hg (bl_ HB.out):w.heap.size≤gb181));clear HO_3;clear HB;have HO_3:=n0_;have HB:=n1_;have BK181:=n2_;have GW181:=n3_;have GE181:=n4_;clear n0_ n1_ n2_ n3_ n4_;clear hb hbox hg;obtain ⟨hcz8_0,hcz8_1,hcz8_2,hcz8_3,hcz8_4,hcz8_5,hfz8_0,hfz8_1,hfz8_2,hfz8_3,hfz8_4,hfz8_5⟩:=zf6_ BK181.out))
    have n0_:Aside0 (Kd.R k76 76 ((((((w7.setCell ⟨gb181,0,none⟩ (.string ((rd_T29 l0 x11_1).f0))).setCell ⟨gb181,1,none⟩ (.string ((rd_T29 l0 x11_1).f1))).setCell ⟨gb181,2,none⟩ (.slice A180_2 ((rd_T29 l0 x11_1).f2).length c180_2)).setCell ⟨gb181,3,none⟩ (.slice A180_3 ((rd_T29 l0 x11_1).f3).length c180_3)).setCell ⟨gb181,4,none⟩ (.slice A180_4 ((rd_T29 l0 x11_1).f4).length c180_4)).setCell ⟨gb181,5,none⟩ (.int .i64 ((rd_T29 l0 x11_1).f5))) w.heap.size (fun _=>True) u3 x3_1):=⟨by (with_reducible repeat (first|apply Kd.R_alloc|apply Kd.R_drewN|apply Kd.R_drew));exact Kd.R_mono (Kd.R_far (p:=⟨gb181,5,none⟩) (Kd.R_far (p:=⟨gb181,4,none⟩) (Kd.R_far (p:=⟨gb181,3,none⟩) (Kd.R_far (p:=⟨gb181,2,none⟩) (Kd.R_far (p:=⟨gb181,1,none⟩) (Kd.R_far (p:=⟨gb181,0,none⟩) (Kd.R_types HO_3.out BK181.out (by decide)) (fun _ hk=>hk.2) (.string ((rd_T29 l0 x11_1).f0))) (fun _ hk=>hk.2) (.string ((rd_T29 l0 x11_1).f1))) (fun _ hk=>hk.2) (.slice A180_2 ((rd_T29 l0 x11_1).f2).length c180_2)) (fun _ hk=>hk.2) (.slice A180_3 ((rd_T29 l0 x11_1).f3).length c180_3)) (fun _ hk=>hk.2) (.slice A180_4 ((rd_T29 l0 x11_1).f4).length c180_4)) (fun _ hk=>hk.2) (.int .i64 ((rd_T29 l0 x11_1).f5))) (fun _ hk=>trivial)⟩
    have n1_:Aside0 (((((((w7.setCell ⟨gb181,0,none⟩ (.string ((rd_T29 l0 x11_1).f0))).setCell ⟨gb181,1,none⟩ (.string ((rd_T29 l0 x11_1).f1))).setCell ⟨gb181,2,none⟩ (.slice A180_2 ((rd_T29 l0 x11_1).f2).length c180_2)).setCell ⟨gb181,3,none⟩ (.slice A180_3 ((rd_T29 l0 x11_1).f3).length c180_3)).setCell ⟨gb181,4,none⟩ (.slice A180_4 ((rd_T29 l0 x11_1).f4).length c180_4)).setCell ⟨gb181,5,none⟩ (.int .i64 ((rd_T29 l0 x11_1).f5))).heap[gb181]?=some (.cells #[.string ((rd_T29 l0 x11_1).f0),.string ((rd_T29 l0 x11_1).f1),.slice A180_2 ((rd_T29 l0 x11_1).f2).length c180_2,.slice A180_3 ((rd_T29 l0 x11_1).f3).length c180_3,.slice A180_4 ((rd_T29 l0 x11_1).f4).length c180_4,.int .i64 ((rd_T29 l0 x11_1).f5)] 29 (0,0))):=⟨kbc_ BK181.out⟩
    have n2_:Aside0 (Below w.heap.size w ((((((w7.setCell ⟨gb181,0,none⟩ (.string ((rd_T29 l0 x11_1).f0))).setCell ⟨gb181,1,none⟩ (.string ((rd_T29 l0 x11_1).f1))).setCell ⟨gb181,2,none⟩ (.slice A180_2 ((rd_T29 l0 x11_1).f2).length c180_2)).setCell ⟨gb181,3,none⟩ (.slice A180_3 ((rd_T29 l0 x11_1).f3).length c180_3)).setCell ⟨gb181,4,none⟩ (.slice A180_4 ((rd_T29 l0 x11_1).f4).length c180_4)).setCell ⟨gb181,5,none⟩ (.int .i64 ((rd_T29 l0 x11_1).f5)))):=⟨bl_ HB.out⟩
    (try clear HO_3)
    (try clear BK181)
    (try clear HB)
    generalize ((((((w7.setCell ⟨gb181,0,none⟩ (.string ((rd_T29 l0 x11_1).f0))).setCell ⟨gb181,1,none⟩ (.string ((rd_T29 l0 x11_1).f1))).setCell ⟨gb181,2,none⟩ (.slice A180_2 ((rd_T29 l0 x11_1).f2).length c180_2)).setCell ⟨gb181,3,none⟩ (.slice A180_3 ((rd_T29 l0 x11_1).f3).length c180_3)).setCell ⟨gb181,4,none⟩ (.slice A180_4 ((rd_T29 l0 x11_1).f4).length c180_4)).setCell ⟨gb181,5,none⟩ (.int .i64 ((rd_T29 l0 x11_1).f5)))=w9 at n0_ n1_ n2_ ⊢
    have HO_3:=n0_
    have BK181:=n1_
    have HB:=n2_
    clear n0_ n1_ n2_
    replace HO_3:=Aside0.mk (Kd.R_drew HO_3.out)
    replace BK181:=Aside0.mk (blk_drew BK181.out)
    replace HB:=Aside0.mk (below_drew1 HB.out)
    refine start_ (n:=15) (S:=fun w'=>w'.cell? ⟨gb181,0,none⟩=some (.string ((rd_T29 l0 x11_1).f0))∧w'.cell? ⟨gb181,1,none⟩=some (.string ((rd_T29 l0 x11_1).f1))∧w'.cell? ⟨gb181,2,none⟩=some (.slice A180_2 ((rd_T29 l0 x11_1).f2).length c180_2)∧w'.cell? ⟨gb181,3,none⟩=some (.slice A180_3 ((rd_T29 l0 x11_1).f3).length c180_3)∧w'.cell? ⟨gb181,4,none⟩=some (.slice A180_4 ((rd_T29 l0 x11_1).f4).length c180_4)∧w'.cell? ⟨gb181,5,none⟩=some (.int .i64 ((rd_T29 l0 x11_1).f5))) (ds:=[]) (flg 15 0) (by kernel_rfl) rfl (by kernel_rfl) ⟨zc_ BK181.out 0,zc_ BK181.out 1,zc_ BK181.out 2,zc_ BK181.out 3,zc_ BK181.out 4,zc_ BK181.out 5⟩ (fun hHeld=>?_);refine with_tabW helmsmanlaw12_Stmts.tab5 helmsmanlaw12_Stmts.bits5 (fun HT_ HW_=>?_)
    generalize w9.drew=w10 at HO_3 BK181 HB hHeld ⊢
    refine pu_ 0 15 (flg 15 1) ?_
    refine pu_ 2 17 (flg 15 5) ?_
    refine pu_ 4 19 (flg 15 21) ?_
    refine pu_ 6 21 (flg 15 85) ?_
    refine pu_ 9 24 (flg 15 597) ?_
    refine ta_ 1 16 (flg 15 599) hHeld ?_
    refine ta_ 3 18 (flg 15 607) hHeld ?_
    refine ta_ 5 20 (flg 15 639) hHeld ?_
    refine ta_ 7 22 (flg 15 767) hHeld ?_
    refine ta_ 10 25 (flg 15 1791) hHeld ?_
    refine join_ (σ:=Value × Value × Nat) 1 (flg 15 16383) (fun s_=>[(23,s_.1),(26,s_.2.1),(6,.pointer (some ⟨s_.2.2,0,none⟩)),(27,.agg #[.string ((rd_T29 l0 x11_1).f0),.string ((rd_T29 l0 x11_1).f1),.slice none 0 0,s_.1,s_.2.1,.int .i64 ((rd_T29 l0 x11_1).f5)])]) (fun s_ w'=>(w'.cell? ⟨gb181,0,none⟩=some (.string ((rd_T29 l0 x11_1).f0))∧w'.cell? ⟨gb181,1,none⟩=some (.string ((rd_T29 l0 x11_1).f1))∧w'.cell? ⟨gb181,2,none⟩=some (.slice A180_2 ((rd_T29 l0 x11_1).f2).length c180_2)∧w'.cell? ⟨gb181,3,none⟩=some (.slice A180_3 ((rd_T29 l0 x11_1).f3).length c180_3)∧w'.cell? ⟨gb181,4,none⟩=some (.slice A180_4 ((rd_T29 l0 x11_1).f4).length c180_4)∧w'.cell? ⟨gb181,5,none⟩=some (.int .i64 ((rd_T29 l0 x11_1).f5)))∧(Kd.R k76 76 w' w.heap.size (fun k_=>some k_≠(s_.2.1:Value).ownBlock∧some k_≠(u3:Value).ownBlock∧k_≠s_.2.2) s_.1 t182)∧(Kd.R k76 76 w' w.heap.size (fun k_=>some k_≠(s_.1:Value).ownBlock∧some k_≠(u3:Value).ownBlock∧k_≠s_.2.2) s_.2.1 t185)∧(Kd.R k76 76 w' w.heap.size (fun k_=>some k_≠(s_.1:Value).ownBlock∧some k_≠(s_.2.1:Value).ownBlock∧k_≠s_.2.2) u3 x3_1)∧(w'.heap[gb181]?=some (.cells #[.string ((rd_T29 l0 x11_1).f0),.string ((rd_T29 l0 x11_1).f1),.slice A180_2 ((rd_T29 l0 x11_1).f2).length c180_2,.slice A180_3 ((rd_T29 l0 x11_1).f3).length c180_3,.slice A180_4 ((rd_T29 l0 x11_1).f4).length c180_4,.int .i64 ((rd_T29 l0 x11_1).f5)] 29 (0,0)))∧(w'.heap[s_.2.2]?=some (.cells #[.string (⟨#[]⟩:ByteArray),.string (⟨#[]⟩:ByteArray),.slice none 0 0,.slice none 0 0,.slice none 0 0,.int .i64 0] 76 (0,0)))∧(w.heap.size≤s_.2.2)∧(w.heap.size≤s_.2.2)∧(gb181≠s_.2.2)∧(s_.2.2≠gb181)∧(Below w.heap.size w w')) ?_ ?_
    rotate_left
    ·intro hCont
     refine two_ (i:=8) (j:=13) (Ni:=some 23) (Nj:=some 6) (flg 15 2047) (flg 15 9983) rfl rfl rfl rfl (two_of HT_.out (by kernel_rfl)) (by decide) (by decide) (fun K hK=>?_) (fun K hK=>?_)
     ·skip
      refine goes_ Tryd.func24 (by kernel_rfl) rfl #[.slice A180_3 ((rd_T29 l0 x11_1).f3).length c180_3] (by rfl) rfl rfl ar_ ?_
      with_reducible refine (ih k1 (by have:=HK1.out;omega) _ _ ((rd_T29 l0 x11_1).f3) t182 _ ?side1 ?side2 A5.out).mono ?_
      (case side1=>exact kc_ HR180_3.out HB.out)
      (case side2=>exact HC180_3.out)
      rintro e w11 ⟨v183,rfl,ho0,hb⟩
      refine ⟨_,rfl,?_⟩
      have HO184:=Aside0.mk (Kd.R_lower (Kd.R_new' ho0 (Kd.R_lt (by (with_reducible repeat (first|apply Kd.R_alloc|apply Kd.R_drewN|apply Kd.R_drew));exact HO_3.out))) (below_size (bl_ HB.out)))
      replace HO_3:=Aside0.mk (Kd.R_elder' (by (with_reducible repeat (first|apply Kd.R_alloc|apply Kd.R_drewN|apply Kd.R_drew));exact HO_3.out) (Kd.R_base ho0) hb)
      replace BK181:=Aside0.mk (bb_ BK181.out hb)
      replace HB:=Aside0.mk (below_step (bl_ HB.out) hb)
      (try clear ho0)
      refine ko_ hK (fun hHeld=>?_)
      clear hK K
      refine nm_ ?_
      refine two_ (i:=11) (j:=13) (Ni:=some 26) (Nj:=some 6) (flg 15 4095) (flg 15 10239) rfl rfl rfl rfl (two_of HT_.out (by kernel_rfl)) (by decide) (by decide) (fun K hK=>?_) (fun K hK=>?_)
      ·skip
       refine goes_ Tryd.func24 (by kernel_rfl) rfl #[.slice A180_4 ((rd_T29 l0 x11_1).f4).length c180_4] (by rfl) rfl rfl ar_ ?_
       with_reducible refine (ih k1 (by have:=HK1.out;omega) _ _ ((rd_T29 l0 x11_1).f4) t185 _ ?side1 ?side2 A6.out).mono ?_
       (case side1=>exact kc_ HR180_4.out HB.out)
       (case side2=>exact HC180_4.out)
       rintro e w12 ⟨v186,rfl,ho0,hb⟩
       refine ⟨_,rfl,?_⟩
       have HO187:=Aside0.mk (Kd.R_lower (Kd.R_new' (Kd.R_new' ho0 (Kd.R_lt (by (with_reducible repeat (first|apply Kd.R_alloc|apply Kd.R_drewN|apply Kd.R_drew));exact HO_3.out))) (Kd.R_lt (by (with_reducible repeat (first|apply Kd.R_alloc|apply Kd.R_drewN|apply Kd.R_drew));exact HO184.out))) (below_size (bl_ HB.out)))
       replace HO_3:=Aside0.mk (Kd.R_elder' (by (with_reducible repeat (first|apply Kd.R_alloc|apply Kd.R_drewN|apply Kd.R_drew));exact HO_3.out) (Kd.R_base ho0) hb)
       replace HO184:=Aside0.mk (Kd.R_elder' (by (with_reducible repeat (first|apply Kd.R_alloc|apply Kd.R_drewN|apply Kd.R_drew));exact HO184.out) (Kd.R_base ho0) hb)
       replace BK181:=Aside0.mk (bb_ BK181.out hb)
       replace HB:=Aside0.mk (below_step (bl_ HB.out) hb)
       (try clear ho0)
       obtain ⟨Ao13,co13,eo13⟩:=Kd.R_slice HO187.out
       (first|subst eo13|(injection eo13 with f1_ f2_ f3_;have f4_:=f1_.symm;have f5_:=f3_.symm;clear f1_ f2_ f3_;subst f4_;subst f5_))
       obtain ⟨Ao14,co14,eo14⟩:=Kd.R_slice HO184.out
       (first|subst eo14|(injection eo14 with f1_ f2_ f3_;have f4_:=f1_.symm;have f5_:=f3_.symm;clear f1_ f2_ f3_;subst f4_;subst f5_))
       refine ko_ hK (fun hHeld=>?_)
       clear hK K
       refine nm_ ?_
       refine pu_ 12 27 (flg 15 8191) ?_
       refine one_ (i:=13) (N:=some 6) (flg 15 16383) rfl rfl (one_of HT_.out (by kernel_rfl)) (by decide) (fun K hK=>?_)
       refine box_step ?hg (N:=6) ?hd (cs:=#[.string (⟨#[]⟩:ByteArray),.string (⟨#[]⟩:ByteArray),.slice none 0 0,.slice none 0 0,.slice none 0 0,.int .i64 0]) (t:=76) ?hr ?_;(case hd=>rfl);(case hg=>rfl);(case hr=>first|(go_simp;done)|(go_simp;rfl))
       intro gb188 hg w15 hbox hb
       replace HO_3:=Aside0.mk (Kd.R_below (Kd.R_elderB (by (with_reducible repeat (first|apply Kd.R_alloc|apply Kd.R_drewN|apply Kd.R_drew));exact HO_3.out) gb188 (Nat.le_of_eq hg.symm)) hb)
       replace HO184:=Aside0.mk (Kd.R_below (Kd.R_elderB (by (with_reducible repeat (first|apply Kd.R_alloc|apply Kd.R_drewN|apply Kd.R_drew));exact HO184.out) gb188 (Nat.le_of_eq hg.symm)) hb)
       replace HO187:=Aside0.mk (Kd.R_below (Kd.R_elderB (by (with_reducible repeat (first|apply Kd.R_alloc|apply Kd.R_drewN|apply Kd.R_drew));exact HO187.out) gb188 (Nat.le_of_eq hg.symm)) hb)
       have BK188:=Aside0.mk (hbox)
       have GW188:=Aside0.mk ((gs_ hg (bl_ HB.out):w.heap.size≤gb188))
       have GE188:=Aside0.mk ((gs_ hg (bl_ HB.out):w.heap.size≤gb188))
       replace HB:=Aside0.mk (below_step (bl_ HB.out) hb)
       have NB181_188:=Aside0.mk ((nl_ hg BK181.out:gb181≠gb188))
       have NB188_181:=Aside0.mk ((nr_ hg BK181.out:gb188≠gb181))
       replace BK181:=Aside0.mk (bb_ BK181.out hb)
       clear hb hbox hg
       refine ko_ hK (fun hHeld=>?_)
       clear hK K
       refine nm_ ?_
       exact norm_ (by simp only [putAll,Act.put,List.setIfInBounds_toArray,List.set_cons_zero,List.set_cons_succ]) (hCont (.slice Ao14 t182.length co14,.slice Ao13 t185.length co13,gb188) _ ⟨hHeld,(by (with_reducible repeat (first|apply Kd.R_alloc|apply Kd.R_drewN|apply Kd.R_drew));exact Kd.R_mono HO184.out (fun _ hk=>⟨hk.1.2,⟨hk.1.1.2,hk.2⟩⟩)),(by (with_reducible repeat (first|apply Kd.R_alloc|apply Kd.R_drewN|apply Kd.R_drew));exact Kd.R_mono HO187.out (fun _ hk=>⟨hk.1.2,⟨hk.1.1.2,hk.2⟩⟩)),(by (with_reducible repeat (first|apply Kd.R_alloc|apply Kd.R_drewN|apply Kd.R_drew));exact Kd.R_mono HO_3.out (fun _ hk=>⟨hk.1.1.2,⟨hk.1.2,hk.2⟩⟩)),(kb_ BK181.out),(kb_ BK188.out),GW188.out,GE188.out,NB181_188.out,NB188_181.out,(bl_ HB.out)⟩)
      ·skip
       refine box_step ?hg (N:=6) ?hd (cs:=#[.string (⟨#[]⟩:ByteArray),.string (⟨#[]⟩:ByteArray),.slice none 0 0,.slice none 0 0,.slice none 0 0,.int .i64 0]) (t:=76) ?hr ?_;(case hd=>rfl);(case hg=>rfl);(case hr=>first|(go_simp;done)|(go_simp;rfl))
       intro gb188 hg w12 hbox hb
       replace HO_3:=Aside0.mk (Kd.R_below (Kd.R_elderB (by (with_reducible repeat (first|apply Kd.R_alloc|apply Kd.R_drewN|apply Kd.R_drew));exact HO_3.out) gb188 (Nat.le_of_eq hg.symm)) hb)
       replace HO184:=Aside0.mk (Kd.R_below (Kd.R_elderB (by (with_reducible repeat (first|apply Kd.R_alloc|apply Kd.R_drewN|apply Kd.R_drew));exact HO184.out) gb188 (Nat.le_of_eq hg.symm)) hb)
       have BK188:=Aside0.mk (hbox)
       have GW188:=Aside0.mk ((gs_ hg (bl_ HB.out):w.heap.size≤gb188))
       have GE188:=Aside0.mk ((gs_ hg (bl_ HB.out):w.heap.size≤gb188))
       replace HB:=Aside0.mk (below_step (bl_ HB.out) hb)
       have NB181_188:=Aside0.mk ((nl_ hg BK181.out:gb181≠gb188))
       have NB188_181:=Aside0.mk ((nr_ hg BK181.out:gb188≠gb181))
       replace BK181:=Aside0.mk (bb_ BK181.out hb)
       clear hb hbox hg
       refine ko_ hK (fun hHeld=>?_)
       clear hK K
       refine nm_ ?_
       refine one_ (i:=11) (N:=some 26) (flg 15 12287) rfl rfl (one_of HT_.out (by kernel_rfl)) (by decide) (fun K hK=>?_)
       refine goes_ Tryd.func24 (by kernel_rfl) rfl #[.slice A180_4 ((rd_T29 l0 x11_1).f4).length c180_4] (by rfl) rfl rfl ar_ ?_
       with_reducible refine (ih k1 (by have:=HK1.out;omega) _ _ ((rd_T29 l0 x11_1).f4) t185 _ ?side1 ?side2 A6.out).mono ?_
       (case side1=>exact kc_ HR180_4.out HB.out)
       (case side2=>exact HC180_4.out)
       rintro e w13 ⟨v186,rfl,ho0,hb⟩
       refine ⟨_,rfl,?_⟩
       have HO187:=Aside0.mk (Kd.R_lower (Kd.R_newB (Kd.R_new' (Kd.R_new' ho0 (Kd.R_lt (by (with_reducible repeat (first|apply Kd.R_alloc|apply Kd.R_drewN|apply Kd.R_drew));exact HO_3.out))) (Kd.R_lt (by (with_reducible repeat (first|apply Kd.R_alloc|apply Kd.R_drewN|apply Kd.R_drew));exact HO184.out))) (g:=gb188) (o:=.cells #[.string (⟨#[]⟩:ByteArray),.string (⟨#[]⟩:ByteArray),.slice none 0 0,.slice none 0 0,.slice none 0 0,.int .i64 0] 76 (0,0)) (kb_ BK188.out)) (below_size (bl_ HB.out)))
       replace HO_3:=Aside0.mk (Kd.R_elder' (by (with_reducible repeat (first|apply Kd.R_alloc|apply Kd.R_drewN|apply Kd.R_drew));exact HO_3.out) (Kd.R_base ho0) hb)
       replace HO184:=Aside0.mk (Kd.R_elder' (by (with_reducible repeat (first|apply Kd.R_alloc|apply Kd.R_drewN|apply Kd.R_drew));exact HO184.out) (Kd.R_base ho0) hb)
       replace BK181:=Aside0.mk (bb_ BK181.out hb)
       replace BK188:=Aside0.mk (bb_ BK188.out hb)
       replace HB:=Aside0.mk (below_step (bl_ HB.out) hb)
       (try clear ho0)
       obtain ⟨Ao14,co14,eo14⟩:=Kd.R_slice HO187.out
       (first|subst eo14|(injection eo14 with f1_ f2_ f3_;have f4_:=f1_.symm;have f5_:=f3_.symm;clear f1_ f2_ f3_;subst f4_;subst f5_))
       obtain ⟨Ao15,co15,eo15⟩:=Kd.R_slice HO184.out
       (first|subst eo15|(injection eo15 with f1_ f2_ f3_;have f4_:=f1_.symm;have f5_:=f3_.symm;clear f1_ f2_ f3_;subst f4_;subst f5_))
       refine ko_ hK (fun hHeld=>?_)
       clear hK K
       refine nm_ ?_
       refine pu_ 12 27 (flg 15 16383) ?_
       exact norm_ (by simp only [putAll,Act.put,List.setIfInBounds_toArray,List.set_cons_zero,List.set_cons_succ]) (hCont (.slice Ao15 t182.length co15,.slice Ao14 t185.length co14,gb188) _ ⟨hHeld,(by (with_reducible repeat (first|apply Kd.R_alloc|apply Kd.R_drewN|apply Kd.R_drew));exact Kd.R_mono HO184.out (fun _ hk=>⟨hk.2,⟨hk.1.1.2,hk.1.2⟩⟩)),(by (with_reducible repeat (first|apply Kd.R_alloc|apply Kd.R_drewN|apply Kd.R_drew));exact Kd.R_mono HO187.out (fun _ hk=>⟨hk.1.2,⟨hk.1.1.2,hk.2⟩⟩)),(by (with_reducible repeat (first|apply Kd.R_alloc|apply Kd.R_drewN|apply Kd.R_drew));exact Kd.R_mono HO_3.out (fun _ hk=>⟨hk.1.1.2,⟨hk.2,hk.1.2⟩⟩)),(kb_ BK181.out),(kb_ BK188.out),GW188.out,GE188.out,NB181_188.out,NB188_181.out,(bl_ HB.out)⟩)
     ·skip
      refine box_step ?hg (N:=6) ?hd (cs:=#[.string (⟨#[]⟩:ByteArray),.string (⟨#[]⟩:ByteArray),.slice none 0 0,.slice none 0 0,.slice none 0 0,.int .i64 0]) (t:=76) ?hr ?_;(case hd=>rfl);(case hg=>rfl);(case hr=>first|(go_simp;done)|(go_simp;rfl))
      intro gb188 hg w11 hbox hb
      replace HO_3:=Aside0.mk (Kd.R_below (Kd.R_elderB (by (with_reducible repeat (first|apply Kd.R_alloc|apply Kd.R_drewN|apply Kd.R_drew));exact HO_3.out) gb188 (Nat.le_of_eq hg.symm)) hb)
      have BK188:=Aside0.mk (hbox)
      have GW188:=Aside0.mk ((gs_ hg (bl_ HB.out):w.heap.size≤gb188))
      have GE188:=Aside0.mk ((gs_ hg (bl_ HB.out):w.heap.size≤gb188))
      replace HB:=Aside0.mk (below_step (bl_ HB.out) hb)
      have NB181_188:=Aside0.mk ((nl_ hg BK181.out:gb181≠gb188))
      have NB188_181:=Aside0.mk ((nr_ hg BK181.out:gb188≠gb181))
      replace BK181:=Aside0.mk (bb_ BK181.out hb)
      clear hb hbox hg
      refine ko_ hK (fun hHeld=>?_)
      clear hK K
      refine nm_ ?_
      refine one_ (i:=8) (N:=some 23) (flg 15 10239) rfl rfl (one_of HT_.out (by kernel_rfl)) (by decide) (fun K hK=>?_)
      refine goes_ Tryd.func24 (by kernel_rfl) rfl #[.slice A180_3 ((rd_T29 l0 x11_1).f3).length c180_3] (by rfl) rfl rfl ar_ ?_
      with_reducible refine (ih k1 (by have:=HK1.out;omega) _ _ ((rd_T29 l0 x11_1).f3) t182 _ ?side1 ?side2 A5.out).mono ?_
      (case side1=>exact kc_ HR180_3.out HB.out)
      (case side2=>exact HC180_3.out)
      rintro e w12 ⟨v183,rfl,ho0,hb⟩
      refine ⟨_,rfl,?_⟩
      have HO184:=Aside0.mk (Kd.R_lower (Kd.R_newB (Kd.R_new' ho0 (Kd.R_lt (by (with_reducible repeat (first|apply Kd.R_alloc|apply Kd.R_drewN|apply Kd.R_drew));exact HO_3.out))) (g:=gb188) (o:=.cells #[.string (⟨#[]⟩:ByteArray),.string (⟨#[]⟩:ByteArray),.slice none 0 0,.slice none 0 0,.slice none 0 0,.int .i64 0] 76 (0,0)) (kb_ BK188.out)) (below_size (bl_ HB.out)))
      replace HO_3:=Aside0.mk (Kd.R_elder' (by (with_reducible repeat (first|apply Kd.R_alloc|apply Kd.R_drewN|apply Kd.R_drew));exact HO_3.out) (Kd.R_base ho0) hb)
      replace BK181:=Aside0.mk (bb_ BK181.out hb)
      replace BK188:=Aside0.mk (bb_ BK188.out hb)
      replace HB:=Aside0.mk (below_step (bl_ HB.out) hb)
      (try clear ho0)
      refine ko_ hK (fun hHeld=>?_)
      clear hK K
      refine nm_ ?_
      refine one_ (i:=11) (N:=some 26) (flg 15 12287) rfl rfl (one_of HT_.out (by kernel_rfl)) (by decide) (fun K hK=>?_)
      refine goes_ Tryd.func24 (by kernel_rfl) rfl #[.slice A180_4 ((rd_T29 l0 x11_1).f4).length c180_4] (by rfl) rfl rfl ar_ ?_
      with_reducible refine (ih k1 (by have:=HK1.out;omega) _ _ ((rd_T29 l0 x11_1).f4) t185 _ ?side1 ?side2 A6.out).mono ?_
      (case side1=>exact kc_ HR180_4.out HB.out)
      (case side2=>exact HC180_4.out)
      rintro e w13 ⟨v186,rfl,ho0,hb⟩
      refine ⟨_,rfl,?_⟩
      have HO187:=Aside0.mk (Kd.R_lower (Kd.R_newB (Kd.R_new' (Kd.R_new' ho0 (Kd.R_lt (by (with_reducible repeat (first|apply Kd.R_alloc|apply Kd.R_drewN|apply Kd.R_drew));exact HO_3.out))) (Kd.R_lt (by (with_reducible repeat (first|apply Kd.R_alloc|apply Kd.R_drewN|apply Kd.R_drew));exact HO184.out))) (g:=gb188) (o:=.cells #[.string (⟨#[]⟩:ByteArray),.string (⟨#[]⟩:ByteArray),.slice none 0 0,.slice none 0 0,.slice none 0 0,.int .i64 0] 76 (0,0)) (kb_ BK188.out)) (below_size (bl_ HB.out)))
      replace HO_3:=Aside0.mk (Kd.R_elder' (by (with_reducible repeat (first|apply Kd.R_alloc|apply Kd.R_drewN|apply Kd.R_drew));exact HO_3.out) (Kd.R_base ho0) hb)
      replace HO184:=Aside0.mk (Kd.R_elder' (by (with_reducible repeat (first|apply Kd.R_alloc|apply Kd.R_drewN|apply Kd.R_drew));exact HO184.out) (Kd.R_base ho0) hb)
      replace BK181:=Aside0.mk (bb_ BK181.out hb)
      replace BK188:=Aside0.mk (bb_ BK188.out hb)
      replace HB:=Aside0.mk (below_step (bl_ HB.out) hb)
      (try clear ho0)
      obtain ⟨Ao14,co14,eo14⟩:=Kd.R_slice HO187.out
      (first|subst eo14|(injection eo14 with f1_ f2_ f3_;have f4_:=f1_.symm;have f5_:=f3_.symm;clear f1_ f2_ f3_;subst f4_;subst f5_))
      obtain ⟨Ao15,co15,eo15⟩:=Kd.R_slice HO184.out
      (first|subst eo15|(injection eo15 with f1_ f2_ f3_;have f4_:=f1_.symm;have f5_:=f3_.symm;clear f1_ f2_ f3_;subst f4_;subst f5_))
      refine ko_ hK (fun hHeld=>?_)
      clear hK K
      refine nm_ ?_
      refine pu_ 12 27 (flg 15 16383) ?_
      exact norm_ (by simp only [putAll,Act.put,List.setIfInBounds_toArray,List.set_cons_zero,List.set_cons_succ]) (hCont (.slice Ao15 t182.length co15,.slice Ao14 t185.length co14,gb188) _ ⟨hHeld,(by (with_reducible repeat (first|apply Kd.R_alloc|apply Kd.R_drewN|apply Kd.R_drew));exact Kd.R_mono HO184.out (fun _ hk=>⟨hk.2,⟨hk.1.1.2,hk.1.2⟩⟩)),(by (with_reducible repeat (first|apply Kd.R_alloc|apply Kd.R_drewN|apply Kd.R_drew));exact Kd.R_mono HO187.out (fun _ hk=>⟨hk.1.2,⟨hk.1.1.2,hk.2⟩⟩)),(by (with_reducible repeat (first|apply Kd.R_alloc|apply Kd.R_drewN|apply Kd.R_drew));exact Kd.R_mono HO_3.out (fun _ hk=>⟨hk.1.2,⟨hk.2,hk.1.1.2⟩⟩)),(kb_ BK181.out),(kb_ BK188.out),GW188.out,GE188.out,NB181_188.out,NB188_181.out,(bl_ HB.out)⟩)
    rintro ⟨v183,v186,gb188⟩ w16 ⟨hS_,h0_,h1_,h2_,h3_,h4_,h5_,h6_,h7_,h8_,h9_⟩
    have n0_:Aside0 (Kd.R k76 76 w16 w.heap.size (fun k_=>some k_≠(v186:Value).ownBlock∧some k_≠(u3:Value).ownBlock∧k_≠gb188) v183 t182):=⟨h0_⟩
    have n1_:Aside0 (Kd.R k76 76 w16 w.heap.size (fun k_=>some k_≠(v183:Value).ownBlock∧some k_≠(u3:Value).ownBlock∧k_≠gb188) v186 t185):=⟨h1_⟩
    have n2_:Aside0 (Kd.R k76 76 w16 w.heap.size (fun k_=>some k_≠(v183:Value).ownBlock∧some k_≠(v186:Value).ownBlock∧k_≠gb188) u3 x3_1):=⟨h2_⟩
    have n3_:Aside0 (w16.heap[gb181]?=some (.cells #[.string ((rd_T29 l0 x11_1).f0),.string ((rd_T29 l0 x11_1).f1),.slice A180_2 ((rd_T29 l0 x11_1).f2).length c180_2,.slice A180_3 ((rd_T29 l0 x11_1).f3).length c180_3,.slice A180_4 ((rd_T29 l0 x11_1).f4).length c180_4,.int .i64 ((rd_T29 l0 x11_1).f5)] 29 (0,0))):=⟨h3_⟩
    have n4_:Aside0 (w16.heap[gb188]?=some (.cells #[.string (⟨#[]⟩:ByteArray),.string (⟨#[]⟩:ByteArray),.slice none 0 0,.slice none 0 0,.slice none 0 0,.int .i64 0] 76 (0,0))):=⟨h4_⟩
    have n5_:Aside0 (w.heap.size≤gb188):=⟨h5_⟩
    have n6_:Aside0 (w.heap.size≤gb188):=⟨h6_⟩
    have n7_:Aside0 (gb181≠gb188):=⟨h7_⟩
    have n8_:Aside0 (gb188≠gb181):=⟨h8_⟩
    have n9_:Aside0 (Below w.heap.size w w16):=⟨h9_⟩
    clear HO_3
    clear BK181
    clear HB
    clear h0_ h1_ h2_ h3_ h4_ h5_ h6_ h7_ h8_ h9_
    have HO184:=n0_
    have HO187:=n1_
    have HO_3:=n2_
    have BK181:=n3_
    have BK188:=n4_
    have GW188:=n5_
    have GE188:=n6_
    have NB181_188:=n7_
    have NB188_181:=n8_
    have HB:=n9_
    clear n0_ n1_ n2_ n3_ n4_ n5_ n6_ n7_ n8_ n9_
    have hHeld:w16.cell? ⟨gb181,0,none⟩=some (.string ((rd_T29 l0 x11_1).f0))∧w16.cell? ⟨gb181,1,none⟩=some (.string ((rd_T29 l0 x11_1).f1))∧w16.cell? ⟨gb181,2,none⟩=some (.slice A180_2 ((rd_T29 l0 x11_1).f2).length c180_2)∧w16.cell? ⟨gb181,3,none⟩=some (.slice A180_3 ((rd_T29 l0 x11_1).f3).length c180_3)∧w16.cell? ⟨gb181,4,none⟩=some (.slice A180_4 ((rd_T29 l0 x11_1).f4).length c180_4)∧w16.cell? ⟨gb181,5,none⟩=some (.int .i64 ((rd_T29 l0 x11_1).f5)):=hS_
    obtain ⟨Ao17,co17,eo17⟩:=Kd.R_slice HO187.out
    (first|subst eo17|(injection eo17 with f1_ f2_ f3_;have f4_:=f1_.symm;have f5_:=f3_.symm;clear f1_ f2_ f3_;subst f4_;subst f5_))
    obtain ⟨Ao18,co18,eo18⟩:=Kd.R_slice HO184.out
    (first|subst eo18|(injection eo18 with f1_ f2_ f3_;have f4_:=f1_.symm;have f5_:=f3_.symm;clear f1_ f2_ f3_;subst f4_;subst f5_))
    refine norm_ (a':=?_) ?_ ?_
    rotate_left
    ·simp only [putAll,Act.put,List.setIfInBounds_toArray,List.set_cons_zero,List.set_cons_succ]
     rfl
    refine one_ (i:=14) (N:=none) (flg 15 32767) rfl rfl (one_of HT_.out (by kernel_rfl)) (by decide) (fun K hK=>?_)
    have hs19:w16.cell? ⟨gb188,0,none⟩=some (.string (⟨#[]⟩:ByteArray)):=zc_ BK188.out 0
    have hfs19:=blk_frozen BK188.out 0
    have hns19_0:=NB181_188.out
    have hms19_0:=NB188_181.out
    have hs20:w16.cell? ⟨gb188,1,none⟩=some (.string (⟨#[]⟩:ByteArray)):=zc_ BK188.out 1
    have hfs20:=blk_frozen BK188.out 1
    have hns20_0:=NB181_188.out
    have hms20_0:=NB188_181.out
    have hs21:w16.cell? ⟨gb188,2,none⟩=some (.slice none 0 0):=zc_ BK188.out 2
    have hfs21:=blk_frozen BK188.out 2
    have hns21_0:=NB181_188.out
    have hms21_0:=NB188_181.out
    have hs22:w16.cell? ⟨gb188,3,none⟩=some (.slice none 0 0):=zc_ BK188.out 3
    have hfs22:=blk_frozen BK188.out 3
    have hns22_0:=NB181_188.out
    have hms22_0:=NB188_181.out
    have hs23:w16.cell? ⟨gb188,4,none⟩=some (.slice none 0 0):=zc_ BK188.out 4
    have hfs23:=blk_frozen BK188.out 4
    have hns23_0:=NB181_188.out
    have hms23_0:=NB188_181.out
    have hs24:w16.cell? ⟨gb188,5,none⟩=some (.int .i64 0):=zc_ BK188.out 5
    have hfs24:=blk_frozen BK188.out 5
    have hns24_0:=NB181_188.out
    have hms24_0:=NB188_181.out
    refine skip_ (w1:=?_) (by rfl) rfl ?_ ?_
    rotate_left
    ·go_simp
     rfl
    refine hK.out _ _ ⟨((cell_far (p:=⟨gb188,_,none⟩) NB181_188.out _).trans (((cell_far (p:=⟨gb188,_,none⟩) NB181_188.out _).trans (((cell_far (p:=⟨gb188,_,none⟩) NB181_188.out _).trans (((cell_far (p:=⟨gb188,_,none⟩) NB181_188.out _).trans (((cell_far (p:=⟨gb188,_,none⟩) NB181_188.out _).trans (((cell_far (p:=⟨gb188,_,none⟩) NB181_188.out _).trans (hHeld.1)))))))))))),((cell_far (p:=⟨gb188,_,none⟩) NB181_188.out _).trans (((cell_far (p:=⟨gb188,_,none⟩) NB181_188.out _).trans (((cell_far (p:=⟨gb188,_,none⟩) NB181_188.out _).trans (((cell_far (p:=⟨gb188,_,none⟩) NB181_188.out _).trans (((cell_far (p:=⟨gb188,_,none⟩) NB181_188.out _).trans (((cell_far (p:=⟨gb188,_,none⟩) NB181_188.out _).trans (hHeld.2.1)))))))))))),((cell_far (p:=⟨gb188,_,none⟩) NB181_188.out _).trans (((cell_far (p:=⟨gb188,_,none⟩) NB181_188.out _).trans (((cell_far (p:=⟨gb188,_,none⟩) NB181_188.out _).trans (((cell_far (p:=⟨gb188,_,none⟩) NB181_188.out _).trans (((cell_far (p:=⟨gb188,_,none⟩) NB181_188.out _).trans (((cell_far (p:=⟨gb188,_,none⟩) NB181_188.out _).trans (hHeld.2.2.1)))))))))))),((cell_far (p:=⟨gb188,_,none⟩) NB181_188.out _).trans (((cell_far (p:=⟨gb188,_,none⟩) NB181_188.out _).trans (((cell_far (p:=⟨gb188,_,none⟩) NB181_188.out _).trans (((cell_far (p:=⟨gb188,_,none⟩) NB181_188.out _).trans (((cell_far (p:=⟨gb188,_,none⟩) NB181_188.out _).trans (((cell_far (p:=⟨gb188,_,none⟩) NB181_188.out _).trans (hHeld.2.2.2.1)))))))))))),((cell_far (p:=⟨gb188,_,none⟩) NB181_188.out _).trans (((cell_far (p:=⟨gb188,_,none⟩) NB181_188.out _).trans (((cell_far (p:=⟨gb188,_,none⟩) NB181_188.out _).trans (((cell_far (p:=⟨gb188,_,none⟩) NB181_188.out _).trans (((cell_far (p:=⟨gb188,_,none⟩) NB181_188.out _).trans (((cell_far (p:=⟨gb188,_,none⟩) NB181_188.out _).trans (hHeld.2.2.2.2.1)))))))))))),((cell_far (p:=⟨gb188,_,none⟩) NB181_188.out _).trans (((cell_far (p:=⟨gb188,_,none⟩) NB181_188.out _).trans (((cell_far (p:=⟨gb188,_,none⟩) NB181_188.out _).trans (((cell_far (p:=⟨gb188,_,none⟩) NB181_188.out _).trans (((cell_far (p:=⟨gb188,_,none⟩) NB181_188.out _).trans (((cell_far (p:=⟨gb188,_,none⟩) NB181_188.out _).trans (hHeld.2.2.2.2.2))))))))))))⟩ (fun hHeld=>?_)
    clear hK K
    refine done_ (done_of HT_.out (by kernel_rfl)) ?_
    have hnb25:=NB181_188.out
    have hnc25:=NB188_181.out
    obtain ⟨hcz26_0,hcz26_1,hcz26_2,hcz26_3,hcz26_4,hcz26_5,hfz26_0,hfz26_1,hfz26_2,hfz26_3,hfz26_4,hfz26_5⟩:=zf6_ BK181.out
    try go_wp2
    (try simp only [Act.put,List.setIfInBounds_toArray,List.set_cons_succ,List.set_cons_zero])
    go_loopg [31] k1 (fun kq v31 w'=>∃ (x31_2:Int) (x189002_2:List (S33)) (u189002:Value),v31=.int .i64 x31_2∧Aside0 (helmsmanlaw12_Stmts.l1 kq x3_1 l0 (l0.length:Int) x11_1 ((rd_T29 l0 x11_1).f2) (((rd_T29 l0 x11_1).f2).length:Int) x31_2 ((rd_T29 l0 x11_1).f0) ((rd_T29 l0 x11_1).f1) x189002_2 t182 t185 ((rd_T29 l0 x11_1).f5)=some r)∧Aside0 (kq≤k1)∧Aside0 (Kd.R k76 76 w' w.heap.size (fun k_=>some k_≠(u189002:Value).ownBlock∧some k_≠((.slice Ao18 t182.length co18):Value).ownBlock∧some k_≠((.slice Ao17 t185.length co17):Value).ownBlock∧k_≠gb188) u3 x3_1)∧Aside0 (Kd.R k33 33 w' w.heap.size (fun _=>True) u189002 x189002_2)∧Aside0 (Kd.R k76 76 w' w.heap.size (fun k_=>some k_≠(u3:Value).ownBlock∧some k_≠(u189002:Value).ownBlock∧some k_≠((.slice Ao17 t185.length co17):Value).ownBlock∧k_≠gb188) (.slice Ao18 t182.length co18) t182)∧Aside0 (Kd.R k76 76 w' w.heap.size (fun k_=>some k_≠(u3:Value).ownBlock∧some k_≠(u189002:Value).ownBlock∧some k_≠((.slice Ao18 t182.length co18):Value).ownBlock∧k_≠gb188) (.slice Ao17 t185.length co17) t185)∧Aside0 (w'.heap[gb181]?=some (.cells #[.string ((rd_T29 l0 x11_1).f0),.string ((rd_T29 l0 x11_1).f1),(.slice A180_2 ((rd_T29 l0 x11_1).f2).length c180_2),(.slice A180_3 ((rd_T29 l0 x11_1).f3).length c180_3),(.slice A180_4 ((rd_T29 l0 x11_1).f4).length c180_4),.int .i64 ((rd_T29 l0 x11_1).f5)] 29 (0,0)))∧Aside0 (w'.heap[gb188]?=some (.cells #[.string ((rd_T29 l0 x11_1).f0),.string ((rd_T29 l0 x11_1).f1),u189002,(.slice Ao18 t182.length co18),(.slice Ao17 t185.length co17),.int .i64 ((rd_T29 l0 x11_1).f5)] 76 (0,0)))∧Aside0 (Below w.heap.size w w'))
    case atStart=>exact ⟨(0),(([]:List (S33))),(.slice none 0 0),rf_,H',⟨Nat.le_refl _⟩,⟨by (with_reducible repeat (first|apply Kd.R_alloc|apply Kd.R_drewN|apply Kd.R_drew));exact Kd.R_mono (Kd.R_far (p:=⟨gb188,5,none⟩) (Kd.R_far (p:=⟨gb188,4,none⟩) (Kd.R_far (p:=⟨gb188,3,none⟩) (Kd.R_far (p:=⟨gb188,2,none⟩) (Kd.R_far (p:=⟨gb188,1,none⟩) (Kd.R_far (p:=⟨gb188,0,none⟩) (Kd.R_mono HO_3.out (fun k_ hk=>(⟨hk,hk.2.2⟩:_∧k_≠gb188))) (fun _ hk=>hk.2) (.string ((rd_T29 l0 x11_1).f0))) (fun _ hk=>hk.2) (.string ((rd_T29 l0 x11_1).f1))) (fun _ hk=>hk.2) (.slice none 0 0)) (fun _ hk=>hk.2) (.slice Ao18 t182.length co18)) (fun _ hk=>hk.2) (.slice Ao17 t185.length co17)) (fun _ hk=>hk.2) (.int .i64 ((rd_T29 l0 x11_1).f5))) (fun _ hk=>⟨(by simp [Value.ownBlock]),⟨hk.1.1,⟨hk.1.2.1,hk.1.2.2⟩⟩⟩)⟩,⟨by first|exact Kd.R_nil _ _ _ _ _|exact Kd.N_nil _ _ _ _ _|exact Kd.V_nil _ _ _ _ _|exact Kd.Q_nil _ _ _ _ _|exact Kd.S_nil _ _ _ _ _⟩,⟨by (with_reducible repeat (first|apply Kd.R_alloc|apply Kd.R_drewN|apply Kd.R_drew));exact Kd.R_mono (Kd.R_far (p:=⟨gb188,5,none⟩) (Kd.R_far (p:=⟨gb188,4,none⟩) (Kd.R_far (p:=⟨gb188,3,none⟩) (Kd.R_far (p:=⟨gb188,2,none⟩) (Kd.R_far (p:=⟨gb188,1,none⟩) (Kd.R_far (p:=⟨gb188,0,none⟩) (Kd.R_mono HO184.out (fun k_ hk=>(⟨hk,hk.2.2⟩:_∧k_≠gb188))) (fun _ hk=>hk.2) (.string ((rd_T29 l0 x11_1).f0))) (fun _ hk=>hk.2) (.string ((rd_T29 l0 x11_1).f1))) (fun _ hk=>hk.2) (.slice none 0 0)) (fun _ hk=>hk.2) (.slice Ao18 t182.length co18)) (fun _ hk=>hk.2) (.slice Ao17 t185.length co17)) (fun _ hk=>hk.2) (.int .i64 ((rd_T29 l0 x11_1).f5))) (fun _ hk=>⟨hk.1.2.1,⟨(by simp [Value.ownBlock]),⟨hk.1.1,hk.1.2.2⟩⟩⟩)⟩,⟨by (with_reducible repeat (first|apply Kd.R_alloc|apply Kd.R_drewN|apply Kd.R_drew));exact Kd.R_mono (Kd.R_far (p:=⟨gb188,5,none⟩) (Kd.R_far (p:=⟨gb188,4,none⟩) (Kd.R_far (p:=⟨gb188,3,none⟩) (Kd.R_far (p:=⟨gb188,2,none⟩) (Kd.R_far (p:=⟨gb188,1,none⟩) (Kd.R_far (p:=⟨gb188,0,none⟩) (Kd.R_mono HO187.out (fun k_ hk=>(⟨hk,hk.2.2⟩:_∧k_≠gb188))) (fun _ hk=>hk.2) (.string ((rd_T29 l0 x11_1).f0))) (fun _ hk=>hk.2) (.string ((rd_T29 l0 x11_1).f1))) (fun _ hk=>hk.2) (.slice none 0 0)) (fun _ hk=>hk.2) (.slice Ao18 t182.length co18)) (fun _ hk=>hk.2) (.slice Ao17 t185.length co17)) (fun _ hk=>hk.2) (.int .i64 ((rd_T29 l0 x11_1).f5))) (fun _ hk=>⟨hk.1.2.1,⟨(by simp [Value.ownBlock]),⟨hk.1.1,hk.1.2.2⟩⟩⟩)⟩,⟨kbc_ BK181.out⟩,⟨kbc_ BK188.out⟩,⟨bl_ HB.out⟩⟩
    case round=>
     clear H'
     obtain ⟨x31_2,x189002_2,u189002,rfl,HA,HK2,HO_3,HO_189002,HO_189003,HO_189004,BK181,BK188,HB⟩:=hrel
     cases gk with
     | zero=>exact absurd HA.out (by simp [helmsmanlaw12_Stmts.l1])
     | succ k2=>
      have H:=HA.out
      clear HA
      simp only [helmsmanlaw12_Stmts.l1] at H
      by_cases c27:x31_2 < (((rd_T29 l0 x11_1).f2).length:Int)
      ·rw [if_pos c27] at H
       have c27b0:=decide_eq_true c27
       clear c27
       revert H
       refine gd_ fun c28 H=>?_
       have c28b0:=decide_eq_true c28
       clear c28
       revert H
       refine gd_ fun c29 H=>?_
       have c29b0:=decide_eq_true c29
       clear c29
       replace H:=Option.bind_eq_some_iff.mp H
       obtain ⟨⟨t191,t192,t193,t194,t197⟩,A300,H⟩:=H
       replace H:(if x189002_2.length < 1954687338268 then (helmsmanlaw12_Stmts.l1 k2 x3_1 l0 (l0.length:Int) x11_1 ((rd_T29 l0 x11_1).f2) (((rd_T29 l0 x11_1).f2).length:Int) (wrap64 (x31_2+1)) ((rd_T29 l0 x11_1).f0) ((rd_T29 l0 x11_1).f1) (x189002_2++[(⟨t191,t192,t193,t194,t197⟩:S33)]) t182 t185 ((rd_T29 l0 x11_1).f5)) else (none))=some r:=H
       have A30:=Aside0.mk A300
       clear A300
       revert H
       refine gd_ fun c31 H=>?_
       have LMc31:=Aside0.mk c31
       clear c31
       obtain ⟨y198,hy198⟩ : ∃ y_:List (S33),y_=(x189002_2++[(⟨t191,t192,t193,t194,t197⟩:S33)]):=⟨_,rfl⟩
       replace H:(helmsmanlaw12_Stmts.l1 k2 x3_1 l0 (l0.length:Int) x11_1 ((rd_T29 l0 x11_1).f2) (((rd_T29 l0 x11_1).f2).length:Int) (wrap64 (x31_2+1)) ((rd_T29 l0 x11_1).f0) ((rd_T29 l0 x11_1).f1) y198 t182 t185 ((rd_T29 l0 x11_1).f5))=some r:=by first|(rw [hy198];with_reducible exact H)|(have H2_:=(Option.bind_some _ _).symm.trans H;rw [hy198];with_reducible exact H2_)|(have H2_:=(Option.bind_some _ _).symm.trans H;with_reducible exact H2_)|with_reducible exact H|(rw [hy198];exact H)|exact H
       have Ny198:=Aside0.mk hy198
       clear hy198
       have H':=Aside0.mk H
       clear H
       have p189:0≤(x31_2:Int):=of_decide_eq_true as_
       have q189:x31_2 < (((rd_T29 l0 x11_1).f2).length:Int):=of_decide_eq_true as_
       obtain ⟨ad189,A189_3,c189_3,e189,hx189_0,hx189_1,hx189_2,hx189_3,hx189_4,hl189_3,hi189_3⟩:=at_T24 HR180_2.out x31_2 p189 q189
       cases e189
       replace hx189_0:=(cb_ HB.out hx189_0:_)
       replace hx189_1:=(cb_ HB.out hx189_1:_)
       replace hx189_2:=(cb_ HB.out hx189_2:_)
       replace hx189_3:=(cb_ HB.out hx189_3:_)
       replace hx189_4:=(cb_ HB.out hx189_4:_)
       have HR189_3:=Aside0.mk hi189_3
       have HC189_3:=Aside0.mk hl189_3
       clear hi189_3 hl189_3
       replace p189:=eq_true p189
       replace q189:=eq_true q189
       try go_wp2_with (first|((with_reducible refine gate_dst (N:=8) rfl ?_);refine bx_ (N:=8) (cs:=#[.string (⟨#[]⟩:ByteArray),.string (⟨#[]⟩:ByteArray),.int .i64 0,.slice none 0 0,.int .i64 0]) (t:=24) ?_;intro gb190 hg w32 hbox hb;have n0_:=Aside0.mk (Kd.R_below (by (with_reducible repeat (first|apply Kd.R_alloc|apply Kd.R_drewN|apply Kd.R_drew));exact HO_3.out) hb);have n1_:=Aside0.mk (Kd.R_below (by (with_reducible repeat (first|apply Kd.R_alloc|apply Kd.R_drewN|apply Kd.R_drew));exact HO_189002.out) hb);have n2_:=Aside0.mk (Kd.R_below (by (with_reducible repeat (first|apply Kd.R_alloc|apply Kd.R_drewN|apply Kd.R_drew));exact HO_189003.out) hb);have n3_:=Aside0.mk (Kd.R_below (by (with_reducible repeat (first|apply Kd.R_alloc|apply Kd.R_drewN|apply Kd.R_drew));exact HO_189004.out) hb);have n4_:=Aside0.mk (bb_ BK181.out hb);have n5_:=Aside0.mk (bb_ BK188.out hb);have n6_:=Aside0.mk (below_step (bl_ HB.out) hb);have n7_:=Aside0.mk (hbox);have n8_:=Aside0.mk ((gs_ hg (bl_ HB.out):w.heap.size≤gb190));have n9_:=Aside0.mk ((gs_ hg (bl_ HB.out):w.heap.size≤gb190));have n10_:=Aside0.mk ((nl_ hg BK181.out:gb181≠gb190));have n11_:=Aside0.mk ((nr_ hg BK181.out:gb190≠gb181));have n12_:=Aside0.mk ((nl_ hg BK188.out:gb188≠gb190));have n13_:=Aside0.mk ((nr_ hg BK188.out:gb190≠gb188));clear HO_3;clear HO_189002;clear HO_189003;clear HO_189004;clear BK181;clear BK188;clear HB;have HO_3:=n0_;have HO_189002:=n1_;have HO_189003:=n2_;have HO_189004:=n3_;have BK181:=n4_;have BK188:=n5_;have HB:=n6_;have BK190:=n7_;have GW190:=n8_;have GE190:=n9_;have NB181_190:=n10_;have NB190_181:=n11_;have NB188_190:=n12_;have NB190_188:=n13_;clear n0_ n1_ n2_ n3_ n4_ n5_ n6_ n7_ n8_ n9_ n10_ n11_ n12_ n13_;clear hb hbox hg;have hnb33:=NB190_181.out;have hnc33:=NB181_190.out;have hnb34:=NB190_188.out;have hnc34:=NB188_190.out;obtain ⟨hcz35_0,hcz35_1,hcz35_2,hcz35_3,hcz35_4,hfz35_0,hfz35_1,hfz35_2,hfz35_3,hfz35_4⟩:=zf5_ BK190.out))
       have n0_:Aside0 (Kd.R k76 76 (((((w32.setCell ⟨gb190,0,none⟩ (.string ((rd_T24 ((rd_T29 l0 x11_1).f2) x31_2).f0))).setCell ⟨gb190,1,none⟩ (.string ((rd_T24 ((rd_T29 l0 x11_1).f2) x31_2).f1))).setCell ⟨gb190,2,none⟩ (.int .i64 ((rd_T24 ((rd_T29 l0 x11_1).f2) x31_2).f2))).setCell ⟨gb190,3,none⟩ (.slice A189_3 ((rd_T24 ((rd_T29 l0 x11_1).f2) x31_2).f3).length c189_3)).setCell ⟨gb190,4,none⟩ (.int .i64 ((rd_T24 ((rd_T29 l0 x11_1).f2) x31_2).f4))) w.heap.size (fun k_=>some k_≠(u189002:Value).ownBlock∧some k_≠(.slice Ao18 t182.length co18:Value).ownBlock∧some k_≠(.slice Ao17 t185.length co17:Value).ownBlock∧k_≠gb188) u3 x3_1):=⟨by (with_reducible repeat (first|apply Kd.R_alloc|apply Kd.R_drewN|apply Kd.R_drew));exact Kd.R_mono (Kd.R_far (p:=⟨gb190,4,none⟩) (Kd.R_far (p:=⟨gb190,3,none⟩) (Kd.R_far (p:=⟨gb190,2,none⟩) (Kd.R_far (p:=⟨gb190,1,none⟩) (Kd.R_far (p:=⟨gb190,0,none⟩) (Kd.R_types HO_3.out BK190.out (by decide)) (fun _ hk=>hk.2) (.string ((rd_T24 ((rd_T29 l0 x11_1).f2) x31_2).f0))) (fun _ hk=>hk.2) (.string ((rd_T24 ((rd_T29 l0 x11_1).f2) x31_2).f1))) (fun _ hk=>hk.2) (.int .i64 ((rd_T24 ((rd_T29 l0 x11_1).f2) x31_2).f2))) (fun _ hk=>hk.2) (.slice A189_3 ((rd_T24 ((rd_T29 l0 x11_1).f2) x31_2).f3).length c189_3)) (fun _ hk=>hk.2) (.int .i64 ((rd_T24 ((rd_T29 l0 x11_1).f2) x31_2).f4))) (fun _ hk=>⟨hk.1.1,⟨hk.1.2.1,⟨hk.1.2.2.1,hk.1.2.2.2⟩⟩⟩)⟩
       have n1_:Aside0 (Kd.R k33 33 (((((w32.setCell ⟨gb190,0,none⟩ (.string ((rd_T24 ((rd_T29 l0 x11_1).f2) x31_2).f0))).setCell ⟨gb190,1,none⟩ (.string ((rd_T24 ((rd_T29 l0 x11_1).f2) x31_2).f1))).setCell ⟨gb190,2,none⟩ (.int .i64 ((rd_T24 ((rd_T29 l0 x11_1).f2) x31_2).f2))).setCell ⟨gb190,3,none⟩ (.slice A189_3 ((rd_T24 ((rd_T29 l0 x11_1).f2) x31_2).f3).length c189_3)).setCell ⟨gb190,4,none⟩ (.int .i64 ((rd_T24 ((rd_T29 l0 x11_1).f2) x31_2).f4))) w.heap.size (fun _=>True) u189002 x189002_2):=⟨by (with_reducible repeat (first|apply Kd.R_alloc|apply Kd.R_drewN|apply Kd.R_drew));exact Kd.R_mono (Kd.R_far (p:=⟨gb190,4,none⟩) (Kd.R_far (p:=⟨gb190,3,none⟩) (Kd.R_far (p:=⟨gb190,2,none⟩) (Kd.R_far (p:=⟨gb190,1,none⟩) (Kd.R_far (p:=⟨gb190,0,none⟩) (Kd.R_types HO_189002.out BK190.out (by decide)) (fun _ hk=>hk.2) (.string ((rd_T24 ((rd_T29 l0 x11_1).f2) x31_2).f0))) (fun _ hk=>hk.2) (.string ((rd_T24 ((rd_T29 l0 x11_1).f2) x31_2).f1))) (fun _ hk=>hk.2) (.int .i64 ((rd_T24 ((rd_T29 l0 x11_1).f2) x31_2).f2))) (fun _ hk=>hk.2) (.slice A189_3 ((rd_T24 ((rd_T29 l0 x11_1).f2) x31_2).f3).length c189_3)) (fun _ hk=>hk.2) (.int .i64 ((rd_T24 ((rd_T29 l0 x11_1).f2) x31_2).f4))) (fun _ hk=>trivial)⟩
       have n2_:Aside0 (Kd.R k76 76 (((((w32.setCell ⟨gb190,0,none⟩ (.string ((rd_T24 ((rd_T29 l0 x11_1).f2) x31_2).f0))).setCell ⟨gb190,1,none⟩ (.string ((rd_T24 ((rd_T29 l0 x11_1).f2) x31_2).f1))).setCell ⟨gb190,2,none⟩ (.int .i64 ((rd_T24 ((rd_T29 l0 x11_1).f2) x31_2).f2))).setCell ⟨gb190,3,none⟩ (.slice A189_3 ((rd_T24 ((rd_T29 l0 x11_1).f2) x31_2).f3).length c189_3)).setCell ⟨gb190,4,none⟩ (.int .i64 ((rd_T24 ((rd_T29 l0 x11_1).f2) x31_2).f4))) w.heap.size (fun k_=>some k_≠(u3:Value).ownBlock∧some k_≠(u189002:Value).ownBlock∧some k_≠(.slice Ao17 t185.length co17:Value).ownBlock∧k_≠gb188) (.slice Ao18 t182.length co18) t182):=⟨by (with_reducible repeat (first|apply Kd.R_alloc|apply Kd.R_drewN|apply Kd.R_drew));exact Kd.R_mono (Kd.R_far (p:=⟨gb190,4,none⟩) (Kd.R_far (p:=⟨gb190,3,none⟩) (Kd.R_far (p:=⟨gb190,2,none⟩) (Kd.R_far (p:=⟨gb190,1,none⟩) (Kd.R_far (p:=⟨gb190,0,none⟩) (Kd.R_types HO_189003.out BK190.out (by decide)) (fun _ hk=>hk.2) (.string ((rd_T24 ((rd_T29 l0 x11_1).f2) x31_2).f0))) (fun _ hk=>hk.2) (.string ((rd_T24 ((rd_T29 l0 x11_1).f2) x31_2).f1))) (fun _ hk=>hk.2) (.int .i64 ((rd_T24 ((rd_T29 l0 x11_1).f2) x31_2).f2))) (fun _ hk=>hk.2) (.slice A189_3 ((rd_T24 ((rd_T29 l0 x11_1).f2) x31_2).f3).length c189_3)) (fun _ hk=>hk.2) (.int .i64 ((rd_T24 ((rd_T29 l0 x11_1).f2) x31_2).f4))) (fun _ hk=>⟨hk.1.1,⟨hk.1.2.1,⟨hk.1.2.2.1,hk.1.2.2.2⟩⟩⟩)⟩
       have n3_:Aside0 (Kd.R k76 76 (((((w32.setCell ⟨gb190,0,none⟩ (.string ((rd_T24 ((rd_T29 l0 x11_1).f2) x31_2).f0))).setCell ⟨gb190,1,none⟩ (.string ((rd_T24 ((rd_T29 l0 x11_1).f2) x31_2).f1))).setCell ⟨gb190,2,none⟩ (.int .i64 ((rd_T24 ((rd_T29 l0 x11_1).f2) x31_2).f2))).setCell ⟨gb190,3,none⟩ (.slice A189_3 ((rd_T24 ((rd_T29 l0 x11_1).f2) x31_2).f3).length c189_3)).setCell ⟨gb190,4,none⟩ (.int .i64 ((rd_T24 ((rd_T29 l0 x11_1).f2) x31_2).f4))) w.heap.size (fun k_=>some k_≠(u3:Value).ownBlock∧some k_≠(u189002:Value).ownBlock∧some k_≠(.slice Ao18 t182.length co18:Value).ownBlock∧k_≠gb188) (.slice Ao17 t185.length co17) t185):=⟨by (with_reducible repeat (first|apply Kd.R_alloc|apply Kd.R_drewN|apply Kd.R_drew));exact Kd.R_mono (Kd.R_far (p:=⟨gb190,4,none⟩) (Kd.R_far (p:=⟨gb190,3,none⟩) (Kd.R_far (p:=⟨gb190,2,none⟩) (Kd.R_far (p:=⟨gb190,1,none⟩) (Kd.R_far (p:=⟨gb190,0,none⟩) (Kd.R_types HO_189004.out BK190.out (by decide)) (fun _ hk=>hk.2) (.string ((rd_T24 ((rd_T29 l0 x11_1).f2) x31_2).f0))) (fun _ hk=>hk.2) (.string ((rd_T24 ((rd_T29 l0 x11_1).f2) x31_2).f1))) (fun _ hk=>hk.2) (.int .i64 ((rd_T24 ((rd_T29 l0 x11_1).f2) x31_2).f2))) (fun _ hk=>hk.2) (.slice A189_3 ((rd_T24 ((rd_T29 l0 x11_1).f2) x31_2).f3).length c189_3)) (fun _ hk=>hk.2) (.int .i64 ((rd_T24 ((rd_T29 l0 x11_1).f2) x31_2).f4))) (fun _ hk=>⟨hk.1.1,⟨hk.1.2.1,⟨hk.1.2.2.1,hk.1.2.2.2⟩⟩⟩)⟩
       have n4_:Aside0 ((((((w32.setCell ⟨gb190,0,none⟩ (.string ((rd_T24 ((rd_T29 l0 x11_1).f2) x31_2).f0))).setCell ⟨gb190,1,none⟩ (.string ((rd_T24 ((rd_T29 l0 x11_1).f2) x31_2).f1))).setCell ⟨gb190,2,none⟩ (.int .i64 ((rd_T24 ((rd_T29 l0 x11_1).f2) x31_2).f2))).setCell ⟨gb190,3,none⟩ (.slice A189_3 ((rd_T24 ((rd_T29 l0 x11_1).f2) x31_2).f3).length c189_3)).setCell ⟨gb190,4,none⟩ (.int .i64 ((rd_T24 ((rd_T29 l0 x11_1).f2) x31_2).f4))).heap[gb181]?=some (.cells #[.string ((rd_T29 l0 x11_1).f0),.string ((rd_T29 l0 x11_1).f1),.slice (some ad189) ((rd_T29 l0 x11_1).f2).length c180_2,.slice A180_3 ((rd_T29 l0 x11_1).f3).length c180_3,.slice A180_4 ((rd_T29 l0 x11_1).f4).length c180_4,.int .i64 ((rd_T29 l0 x11_1).f5)] 29 (0,0))):=⟨kbc_ BK181.out⟩
       have n5_:Aside0 ((((((w32.setCell ⟨gb190,0,none⟩ (.string ((rd_T24 ((rd_T29 l0 x11_1).f2) x31_2).f0))).setCell ⟨gb190,1,none⟩ (.string ((rd_T24 ((rd_T29 l0 x11_1).f2) x31_2).f1))).setCell ⟨gb190,2,none⟩ (.int .i64 ((rd_T24 ((rd_T29 l0 x11_1).f2) x31_2).f2))).setCell ⟨gb190,3,none⟩ (.slice A189_3 ((rd_T24 ((rd_T29 l0 x11_1).f2) x31_2).f3).length c189_3)).setCell ⟨gb190,4,none⟩ (.int .i64 ((rd_T24 ((rd_T29 l0 x11_1).f2) x31_2).f4))).heap[gb188]?=some (.cells #[.string ((rd_T29 l0 x11_1).f0),.string ((rd_T29 l0 x11_1).f1),u189002,.slice Ao18 t182.length co18,.slice Ao17 t185.length co17,.int .i64 ((rd_T29 l0 x11_1).f5)] 76 (0,0))):=⟨kbc_ BK188.out⟩
       have n6_:Aside0 ((((((w32.setCell ⟨gb190,0,none⟩ (.string ((rd_T24 ((rd_T29 l0 x11_1).f2) x31_2).f0))).setCell ⟨gb190,1,none⟩ (.string ((rd_T24 ((rd_T29 l0 x11_1).f2) x31_2).f1))).setCell ⟨gb190,2,none⟩ (.int .i64 ((rd_T24 ((rd_T29 l0 x11_1).f2) x31_2).f2))).setCell ⟨gb190,3,none⟩ (.slice A189_3 ((rd_T24 ((rd_T29 l0 x11_1).f2) x31_2).f3).length c189_3)).setCell ⟨gb190,4,none⟩ (.int .i64 ((rd_T24 ((rd_T29 l0 x11_1).f2) x31_2).f4))).heap[gb190]?=some (.cells #[.string ((rd_T24 ((rd_T29 l0 x11_1).f2) x31_2).f0),.string ((rd_T24 ((rd_T29 l0 x11_1).f2) x31_2).f1),.int .i64 ((rd_T24 ((rd_T29 l0 x11_1).f2) x31_2).f2),.slice A189_3 ((rd_T24 ((rd_T29 l0 x11_1).f2) x31_2).f3).length c189_3,.int .i64 ((rd_T24 ((rd_T29 l0 x11_1).f2) x31_2).f4)] 24 (0,0))):=⟨kbc_ BK190.out⟩
       have n7_:Aside0 (Below w.heap.size w (((((w32.setCell ⟨gb190,0,none⟩ (.string ((rd_T24 ((rd_T29 l0 x11_1).f2) x31_2).f0))).setCell ⟨gb190,1,none⟩ (.string ((rd_T24 ((rd_T29 l0 x11_1).f2) x31_2).f1))).setCell ⟨gb190,2,none⟩ (.int .i64 ((rd_T24 ((rd_T29 l0 x11_1).f2) x31_2).f2))).setCell ⟨gb190,3,none⟩ (.slice A189_3 ((rd_T24 ((rd_T29 l0 x11_1).f2) x31_2).f3).length c189_3)).setCell ⟨gb190,4,none⟩ (.int .i64 ((rd_T24 ((rd_T29 l0 x11_1).f2) x31_2).f4)))):=⟨bl_ HB.out⟩
       (try clear HO_3)
       (try clear HO_189002)
       (try clear HO_189003)
       (try clear HO_189004)
       (try clear BK181)
       (try clear BK188)
       (try clear BK190)
       (try clear HB)
       generalize (((((w32.setCell ⟨gb190,0,none⟩ (.string ((rd_T24 ((rd_T29 l0 x11_1).f2) x31_2).f0))).setCell ⟨gb190,1,none⟩ (.string ((rd_T24 ((rd_T29 l0 x11_1).f2) x31_2).f1))).setCell ⟨gb190,2,none⟩ (.int .i64 ((rd_T24 ((rd_T29 l0 x11_1).f2) x31_2).f2))).setCell ⟨gb190,3,none⟩ (.slice A189_3 ((rd_T24 ((rd_T29 l0 x11_1).f2) x31_2).f3).length c189_3)).setCell ⟨gb190,4,none⟩ (.int .i64 ((rd_T24 ((rd_T29 l0 x11_1).f2) x31_2).f4)))=w36 at n0_ n1_ n2_ n3_ n4_ n5_ n6_ n7_ ⊢
       have HO_3:=n0_
       have HO_189002:=n1_
       have HO_189003:=n2_
       have HO_189004:=n3_
       have BK181:=n4_
       have BK188:=n5_
       have BK190:=n6_
       have HB:=n7_
       clear n0_ n1_ n2_ n3_ n4_ n5_ n6_ n7_
       replace HO_3:=Aside0.mk (Kd.R_drew HO_3.out)
       replace HO_189002:=Aside0.mk (Kd.R_drew HO_189002.out)
       replace HO_189003:=Aside0.mk (Kd.R_drew HO_189003.out)
       replace HO_189004:=Aside0.mk (Kd.R_drew HO_189004.out)
       replace BK181:=Aside0.mk (blk_drew BK181.out)
       replace BK188:=Aside0.mk (blk_drew BK188.out)
       replace BK190:=Aside0.mk (blk_drew BK190.out)
       replace HB:=Aside0.mk (below_drew1 HB.out)
       refine start_ (n:=8) (S:=fun w'=>w'.cell? ⟨gb188,0,none⟩=some (.string ((rd_T29 l0 x11_1).f0))∧w'.cell? ⟨gb188,1,none⟩=some (.string ((rd_T29 l0 x11_1).f1))∧w'.cell? ⟨gb188,2,none⟩=some (u189002)∧w'.cell? ⟨gb188,3,none⟩=some (.slice Ao18 t182.length co18)∧w'.cell? ⟨gb188,4,none⟩=some (.slice Ao17 t185.length co17)∧w'.cell? ⟨gb188,5,none⟩=some (.int .i64 ((rd_T29 l0 x11_1).f5))∧w'.cell? ⟨gb190,0,none⟩=some (.string ((rd_T24 ((rd_T29 l0 x11_1).f2) x31_2).f0))∧w'.cell? ⟨gb190,1,none⟩=some (.string ((rd_T24 ((rd_T29 l0 x11_1).f2) x31_2).f1))∧w'.cell? ⟨gb190,2,none⟩=some (.int .i64 ((rd_T24 ((rd_T29 l0 x11_1).f2) x31_2).f2))∧w'.cell? ⟨gb190,3,none⟩=some (.slice A189_3 ((rd_T24 ((rd_T29 l0 x11_1).f2) x31_2).f3).length c189_3)∧w'.cell? ⟨gb190,4,none⟩=some (.int .i64 ((rd_T24 ((rd_T29 l0 x11_1).f2) x31_2).f4))) (ds:=[7]) (flg 8 0) (by kernel_rfl) rfl (by kernel_rfl) ⟨zc_ BK188.out 0,zc_ BK188.out 1,zc_ BK188.out 2,zc_ BK188.out 3,zc_ BK188.out 4,zc_ BK188.out 5,zc_ BK190.out 0,zc_ BK190.out 1,zc_ BK190.out 2,zc_ BK190.out 3,zc_ BK190.out 4⟩ (fun hHeld=>?_);refine with_tabW helmsmanlaw12_Stmts.tab9 helmsmanlaw12_Stmts.bits9 (fun HT_ HW_=>?_)
       generalize w36.drew=w37 at HO_3 HO_189002 HO_189003 HO_189004 BK181 BK188 BK190 HB hHeld ⊢
       refine pu_ 0 35 (flg 8 1) ?_
       refine ta_ 1 36 (flg 8 3) hHeld ?_
       refine ta_ 2 37 (flg 8 7) hHeld ?_
       refine one_ (i:=3) (N:=some 38) (flg 8 15) rfl rfl (one_of HT_.out (by kernel_rfl)) (by decide) (fun K hK=>?_)
       refine goes_ Tryd.func11 (by kernel_rfl) rfl #[.agg #[.string ((rd_T24 ((rd_T29 l0 x11_1).f2) x31_2).f0),.string ((rd_T24 ((rd_T29 l0 x11_1).f2) x31_2).f1),.int .i64 ((rd_T24 ((rd_T29 l0 x11_1).f2) x31_2).f2),.slice A189_3 ((rd_T24 ((rd_T29 l0 x11_1).f2) x31_2).f3).length c189_3,.int .i64 ((rd_T24 ((rd_T29 l0 x11_1).f2) x31_2).f4)]] (by rfl) rfl rfl ar_ ?_
       with_reducible refine (helmsmanlaw12_Expr.calls k2 ((rd_T24 ((rd_T29 l0 x11_1).f2) x31_2).f0) ((rd_T24 ((rd_T29 l0 x11_1).f2) x31_2).f1) ((rd_T24 ((rd_T29 l0 x11_1).f2) x31_2).f2) _ _ ((rd_T24 ((rd_T29 l0 x11_1).f2) x31_2).f3) ((rd_T24 ((rd_T29 l0 x11_1).f2) x31_2).f4) t191 t192 t193 t194 t197 _ ?side1 ?side2 A30.out).mono ?_
       (case side1=>exact kc_ HR189_3.out HB.out)
       (case side2=>exact HC189_3.out)
       rintro e w38 ⟨v195,rfl,ho0,hb⟩
       refine ⟨_,rfl,?_⟩
       replace HO_3:=Aside0.mk (Kd.R_elder' (by (with_reducible repeat (first|apply Kd.R_alloc|apply Kd.R_drewN|apply Kd.R_drew));exact HO_3.out) (Kd.R_base ho0) hb)
       replace HO_189003:=Aside0.mk (Kd.R_elder' (by (with_reducible repeat (first|apply Kd.R_alloc|apply Kd.R_drewN|apply Kd.R_drew));exact HO_189003.out) (Kd.R_base ho0) hb)
       replace HO_189004:=Aside0.mk (Kd.R_elder' (by (with_reducible repeat (first|apply Kd.R_alloc|apply Kd.R_drewN|apply Kd.R_drew));exact HO_189004.out) (Kd.R_base ho0) hb)
       have HO196:=Aside0.mk (Kd.R_lower (Kd.R_new' ho0 (Kd.R_lt (by (with_reducible repeat (first|apply Kd.R_alloc|apply Kd.R_drewN|apply Kd.R_drew));exact HO_189002.out))) (below_size (bl_ HB.out)))
       replace HO_189002:=Aside0.mk (Kd.R_elder' (by (with_reducible repeat (first|apply Kd.R_alloc|apply Kd.R_drewN|apply Kd.R_drew));exact HO_189002.out) (Kd.R_base ho0) hb)
       replace BK181:=Aside0.mk (bb_ BK181.out hb)
       replace BK188:=Aside0.mk (bb_ BK188.out hb)
       replace BK190:=Aside0.mk (bb_ BK190.out hb)
       replace HB:=Aside0.mk (below_step (bl_ HB.out) hb)
       (try clear ho0)
       obtain ⟨Ao40,co40,eo40⟩:=Kd.R_slice HO196.out
       (first|subst eo40|(injection eo40 with f1_ f2_ f3_;have f4_:=f1_.symm;have f5_:=f3_.symm;clear f1_ f2_ f3_;subst f4_;subst f5_))
       refine ko_ hK (fun hHeld=>?_)
       clear hK K
       refine nm_ ?_
       refine one_ (i:=4) (N:=some 39) (flg 8 31) rfl rfl (one_of HT_.out (by kernel_rfl)) (by decide) (fun K hK=>?_)
       refine value_ (w1:=?_) (v:=?_) (by rfl) rfl ?_ ?_
       rotate_left 2
       ·go_simp
        constructor
        ·rfl
        ·rfl
       refine hK.out _ _ ⟨(blk_cell (blk_alloc BK188.out _) 0).trans rfl,(blk_cell (blk_alloc BK188.out _) 1).trans rfl,(blk_cell (blk_alloc BK188.out _) 2).trans rfl,(blk_cell (blk_alloc BK188.out _) 3).trans rfl,(blk_cell (blk_alloc BK188.out _) 4).trans rfl,(blk_cell (blk_alloc BK188.out _) 5).trans rfl,(blk_cell (blk_alloc BK190.out _) 0).trans rfl,(blk_cell (blk_alloc BK190.out _) 1).trans rfl,(blk_cell (blk_alloc BK190.out _) 2).trans rfl,(blk_cell (blk_alloc BK190.out _) 3).trans rfl,(blk_cell (blk_alloc BK190.out _) 4).trans rfl⟩ (fun hHeld=>?_)
       clear hK K
       refine nm_ ?_
       refine one_ (i:=5) (N:=some 40) (flg 8 63) rfl rfl (one_of HT_.out (by kernel_rfl)) (by decide) (fun K hK=>?_)
       refine Kd.R_append_step k33 (w0:=w) w.heap.size (by rfl) (.tmp 36) (.tmp 39) 31 33 (.agg #[(.string ⟨#[]⟩),(.string ⟨#[]⟩),(.int .i64 0),(.slice none 0 0),(.int .i64 0)]) 72 rfl Tryd.underlying31 info33 rfl (by decide) (by omega) u189002 x189002_2 (⟨t191,t192,t193,t194,t197⟩:S33) [.string t191,.string t192,.int .i64 t193,.slice Ao40 t194.length co40,.int .i64 t197] (fun _=>True) (fun k_=>((fun _=>True)) k_∧some k_≠(u189002:Value).ownBlock) rfl rfl ?aP (fun _ hk=>hk) ?aF ?aO ?aB ?aS ?aL ?_
       (case aP=>exact k33_mkM _ _ _ (⟨t191,t192,t193,t194,t197⟩:S33) (Kd.R_mono (HO196.out) (fun k_ hk=>⟨trivial,hk.2⟩)))
       (case aB=>exact (bl_ HB.out))
       (case aF=>exact (fun _ _=>trivial))
       (case aO=>exact (by (with_reducible repeat (first|apply Kd.R_alloc|apply Kd.R_drewN|apply Kd.R_drew));exact Kd.R_mono HO_189002.out (fun _ hk=>trivial)))
       (case aS=>exact (below_size (bl_ HB.out)))
       (case aL=>have:=LMc31.out;omega)
       intro v199 w39 ho hb hg hat
       rw [← Ny198.out] at ho
       have n0_:=Aside0.mk (Kd.R_after (ok:=(fun k_=>some k_≠(.slice Ao18 t182.length co18:Value).ownBlock∧some k_≠(.slice Ao17 t185.length co17:Value).ownBlock∧some k_≠(.slice Ao40 t194.length co40:Value).ownBlock∧k_≠gb188)) (by (with_reducible repeat (first|apply Kd.R_alloc|apply Kd.R_drewN|apply Kd.R_drew));exact Kd.R_mono HO_3.out (fun _ hk=>⟨⟨hk.1.2.1,⟨hk.1.2.2.1,⟨hk.2,hk.1.2.2.2⟩⟩⟩,hk.1.1⟩)) hg hat)
       have n1_:=Aside0.mk (Kd.R_after (ok:=(fun k_=>some k_≠(u3:Value).ownBlock∧some k_≠(.slice Ao17 t185.length co17:Value).ownBlock∧some k_≠(.slice Ao40 t194.length co40:Value).ownBlock∧k_≠gb188)) (by (with_reducible repeat (first|apply Kd.R_alloc|apply Kd.R_drewN|apply Kd.R_drew));exact Kd.R_mono HO_189003.out (fun _ hk=>⟨⟨hk.1.1,⟨hk.1.2.2.1,⟨hk.2,hk.1.2.2.2⟩⟩⟩,hk.1.2.1⟩)) hg hat)
       have n2_:=Aside0.mk (Kd.R_after (ok:=(fun k_=>some k_≠(u3:Value).ownBlock∧some k_≠(.slice Ao18 t182.length co18:Value).ownBlock∧some k_≠(.slice Ao40 t194.length co40:Value).ownBlock∧k_≠gb188)) (by (with_reducible repeat (first|apply Kd.R_alloc|apply Kd.R_drewN|apply Kd.R_drew));exact Kd.R_mono HO_189004.out (fun _ hk=>⟨⟨hk.1.1,⟨hk.1.2.2.1,⟨hk.2,hk.1.2.2.2⟩⟩⟩,hk.1.2.1⟩)) hg hat)
       have n3_:=Aside0.mk (bg_ BK181.out hg (Kd.R_ne HO_189002.out BK181.out (by decide)))
       have n4_:=Aside0.mk (bg_ BK188.out hg (Kd.R_ne HO_189002.out BK188.out (by decide)))
       have n5_:=Aside0.mk (bg_ BK190.out hg (Kd.R_ne HO_189002.out BK190.out (by decide)))
       have n6_:=Aside0.mk (hb)
       have n7_:=Aside0.mk (ho)
       clear HO_3
       clear HO_189003
       clear HO_189004
       clear BK181
       clear BK188
       clear BK190
       clear HB
       clear HO_189002
       clear HO196
       have HO_3:=n0_
       have HO_189003:=n1_
       have HO_189004:=n2_
       have BK181:=n3_
       have BK188:=n4_
       have BK190:=n5_
       have HB:=n6_
       have HO200:=n7_
       clear n0_ n1_ n2_ n3_ n4_ n5_ n6_ n7_
       clear ho hb hg hat
       obtain ⟨Ao41,co41,eo41⟩:=Kd.R_slice HO200.out
       (first|subst eo41|(injection eo41 with f1_ f2_ f3_;have f4_:=f1_.symm;have f5_:=f3_.symm;clear f1_ f2_ f3_;subst f4_;subst f5_))
       refine ko_ hK (fun hHeld=>?_)
       clear hK K
       refine nm_ ?_
       refine pu_ 6 41 (flg 8 127) ?_
       refine last_ (i:=7) (N:=none) (flg 8 255) rfl rfl (one_of HT_.out (by kernel_rfl)) (by decide) (fun K hK=>?_)
       have hs42:w39.cell? ⟨gb188,2,none⟩=some (u189002):=zc_ BK188.out 2
       have hfs42:=blk_frozen BK188.out 2
       have hns42_0:=NB181_188.out
       have hns42_2:=NB190_188.out
       have hms42_0:=NB188_181.out
       have hms42_2:=NB188_190.out
       refine skip_ (w1:=?_) (by rfl) rfl ?_ ?_
       rotate_left
       ·go_simp
        rfl
       refine hK.out _ _ ?_
       clear hK K
       refine done_ (done_of HT_.out (by kernel_rfl)) ?_
       try go_wp2
       go_roundg k2
       case measure=>have:=HK1.out;have:=HK2.out;omega
       case rel=>exact ⟨(wrap64 (x31_2+1)),(y198),(.slice Ao41 y198.length co41),rf_,H',⟨by have:=HK1.out;have:=HK2.out;omega⟩,⟨by (with_reducible repeat (first|apply Kd.R_alloc|apply Kd.R_drewN|apply Kd.R_drew));exact Kd.R_mono (Kd.R_far (p:=⟨gb188,2,none⟩) (Kd.R_mono HO_3.out (fun k_ hk=>(⟨hk,hk.1.2.2.2⟩:_∧k_≠gb188))) (fun _ hk=>hk.2) (.slice Ao41 y198.length co41)) (fun _ hk=>⟨hk.1.2,⟨hk.1.1.1,⟨hk.1.1.2.1,hk.1.1.2.2.2⟩⟩⟩)⟩,⟨by (with_reducible repeat (first|apply Kd.R_alloc|apply Kd.R_drewN|apply Kd.R_drew));exact Kd.R_mono (Kd.R_far (p:=⟨gb188,2,none⟩) (Kd.R_types HO200.out BK188.out (by decide)) (fun _ hk=>hk.2) (.slice Ao41 y198.length co41)) (fun _ hk=>trivial)⟩,⟨by (with_reducible repeat (first|apply Kd.R_alloc|apply Kd.R_drewN|apply Kd.R_drew));exact Kd.R_mono (Kd.R_far (p:=⟨gb188,2,none⟩) (Kd.R_mono HO_189003.out (fun k_ hk=>(⟨hk,hk.1.2.2.2⟩:_∧k_≠gb188))) (fun _ hk=>hk.2) (.slice Ao41 y198.length co41)) (fun _ hk=>⟨hk.1.1.1,⟨hk.1.2,⟨hk.1.1.2.1,hk.1.1.2.2.2⟩⟩⟩)⟩,⟨by (with_reducible repeat (first|apply Kd.R_alloc|apply Kd.R_drewN|apply Kd.R_drew));exact Kd.R_mono (Kd.R_far (p:=⟨gb188,2,none⟩) (Kd.R_mono HO_189004.out (fun k_ hk=>(⟨hk,hk.1.2.2.2⟩:_∧k_≠gb188))) (fun _ hk=>hk.2) (.slice Ao41 y198.length co41)) (fun _ hk=>⟨hk.1.1.1,⟨hk.1.2,⟨hk.1.1.2.1,hk.1.1.2.2.2⟩⟩⟩)⟩,⟨kbc_ BK181.out⟩,⟨kbc_ BK188.out⟩,⟨bl_ HB.out⟩⟩
      ·rw [if_neg c27] at H
       have c27b0:=decide_eq_false c27
       clear c27
       revert H
       refine gd_ fun c43 H=>?_
       have LMc43:=Aside0.mk c43
       clear c43
       obtain ⟨y201,hy201⟩ : ∃ y_:List (S76),y_=(x3_1++[(⟨((rd_T29 l0 x11_1).f0),((rd_T29 l0 x11_1).f1),x189002_2,t182,t185,((rd_T29 l0 x11_1).f5)⟩:S76)]):=⟨_,rfl⟩
       replace H:(helmsmanlaw12_Stmts.l0 k2 y201 l0 (l0.length:Int) (wrap64 (x11_1+1)))=some r:=by first|(rw [hy201];with_reducible exact H)|(have H2_:=(Option.bind_some _ _).symm.trans H;rw [hy201];with_reducible exact H2_)|(have H2_:=(Option.bind_some _ _).symm.trans H;with_reducible exact H2_)|with_reducible exact H|(rw [hy201];exact H)|exact H
       have Ny201:=Aside0.mk hy201
       clear hy201
       have H':=Aside0.mk H
       clear H
       have hnb44:=NB188_181.out
       have hnc44:=NB181_188.out
       obtain ⟨hcz45_0,hcz45_1,hcz45_2,hcz45_3,hcz45_4,hcz45_5,hfz45_0,hfz45_1,hfz45_2,hfz45_3,hfz45_4,hfz45_5⟩:=zf6_ BK188.out
       obtain ⟨Ao47,co47,eo47⟩:=Kd.R_slice HO_189002.out
       subst eo47
       go_wp2_with (first|((with_reducible refine gate_builtin (b:=.append) (xs:=#[.tmp 43,.tmp 45]) rfl ?_);at_builtin;refine Kd.R_append k76 (w0:=w) w.heap.size rfl (.tmp 43) (.tmp 45) 48 76 (.agg #[(.string ⟨#[]⟩),(.string ⟨#[]⟩),(.slice none 0 0),(.slice none 0 0),(.slice none 0 0),(.int .i64 0)]) 112 rfl Tryd.underlying48 info76 rfl (by decide) (by omega) u3 x3_1 (⟨((rd_T29 l0 x11_1).f0),((rd_T29 l0 x11_1).f1),x189002_2,t182,t185,((rd_T29 l0 x11_1).f5)⟩:S76) [.string ((rd_T29 l0 x11_1).f0),.string ((rd_T29 l0 x11_1).f1),.slice Ao47 x189002_2.length co47,.slice Ao18 t182.length co18,.slice Ao17 t185.length co17,.int .i64 ((rd_T29 l0 x11_1).f5)] (fun k_=>k_≠gb188) (fun k_=>((fun k_=>k_≠gb188)) k_∧some k_≠(u3:Value).ownBlock) rfl rfl ?aP (fun _ hk=>hk) ?aF ?aO ?aB ?aS ?aL ?_;(case aP=>exact k76_mkM _ _ _ (⟨((rd_T29 l0 x11_1).f0),((rd_T29 l0 x11_1).f1),x189002_2,t182,t185,((rd_T29 l0 x11_1).f5)⟩:S76) (Kd.R_mono (Kd.R_types (Kd.R_apart' (HO_189002.out) (Kd.R_typed HO_3.out) (by decide)) BK188.out (by decide)) (fun k_ hk=>⟨hk.2,hk.1.2⟩)) (Kd.R_mono (HO_189003.out) (fun k_ hk=>⟨hk.2.2.2,hk.1⟩)) (Kd.R_mono (HO_189004.out) (fun k_ hk=>⟨hk.2.2.2,hk.1⟩)));(case aB=>exact (bl_ HB.out));(case aF=>exact (fun k_ hk=>Kd.freshB (g:=gb188) (o:=.cells #[.string ((rd_T29 l0 x11_1).f0),.string ((rd_T29 l0 x11_1).f1),.slice Ao47 x189002_2.length co47,.slice Ao18 t182.length co18,.slice Ao17 t185.length co17,.int .i64 ((rd_T29 l0 x11_1).f5)] 76 (0,0)) (kb_ BK188.out) k_ hk));(case aO=>exact (by (with_reducible repeat (first|apply Kd.R_alloc|apply Kd.R_drewN|apply Kd.R_drew));exact Kd.R_mono HO_3.out (fun _ hk=>hk.2.2.2)));(case aS=>exact (below_size (bl_ HB.out)));(case aL=>have:=LMc43.out;omega);intro v202 w46 ho hb hg hat;rw [← Ny201.out] at ho;have n0_:=Aside0.mk (bg_ BK181.out hg (Kd.R_ne HO_3.out BK181.out (by decide)));have n1_:=Aside0.mk (bg_ BK188.out hg (Kd.R_away HO_3.out (fun _ hk=>hk.2.2.2)));have n2_:=Aside0.mk (hb);have n3_:=Aside0.mk (ho);clear BK181;clear BK188;clear HB;clear HO_3;clear HO_189002;clear HO_189003;clear HO_189004;have BK181:=n0_;have BK188:=n1_;have HB:=n2_;have HO203:=n3_;clear n0_ n1_ n2_ n3_;clear ho hb hg hat))
       go_roundg k2
       case measure=>have:=HK1.out;have:=HK2.out;omega
       case rel=>exact ⟨(y201),(wrap64 (x11_1+1)),rf_,H',⟨by have:=HK1.out;have:=HK2.out;omega⟩,⟨by (with_reducible repeat (first|apply Kd.R_alloc|apply Kd.R_drewN|apply Kd.R_drew));exact Kd.R_mono HO203.out (fun _ hk=>trivial)⟩,⟨bl_ HB.out⟩⟩
   ·rw [if_neg c2] at H
    have c2b0:=decide_eq_false c2
    clear c2
    obtain rfl:=Option.some.inj H
    go_wp2
    go_ret
    exact ⟨_,rt_,by (with_reducible repeat (first|apply Kd.R_alloc|apply Kd.R_drewN|apply Kd.R_drew));exact HO_3.out,bl_ HB.out⟩
end Go.Proofs.YtnnbbeloifhofaaDoor.P
end
section
namespace Go.Proofs.YtnnbbeloifhofaaDoor.P
open Go Go.RowKit Go.Proofs
open Go.Proofs.YtnnbbeloifhofaaDoorW.PrintWords Go.Proofs.YtnnbbeloifhofaaDoorW.PrintLast Go.Proofs.YtnnbbeloifhofaaDoorW.PrintMore
abbrev tupE (x:TE):ByteArray × ByteArray × Int × List TE × Int:=(x.f0,x.f1,x.f2,x.f3,x.f4)
theorem tup_eta (y:TE):(⟨(tupE y).1,(tupE y).2.1,(tupE y).2.2.1,(tupE y).2.2.2.1,(tupE y).2.2.2.2⟩:TE)=y:=by cases y;rfl
theorem Expr_loop : ∀ (xs pre:List RE) (n:Int) (a b:ByteArray) (m t:Int) (acc:List TE),(∀ y ∈ xs,Ev (fun k=>helmsmanlaw12_Expr.f k y.f0 y.f1 y.f2 y.f3 y.f4) (tupE (convE y)))→n=((pre++xs).length:Int)→(pre++xs).length < 1099511627776→acc.length=pre.length→
    Ev (fun k=>helmsmanlaw12_Expr.l0 k (pre++xs) n pre.length a b m acc t) (a,b,m,acc++convEs xs,t):=by
  intro xs
  induction xs with
  | nil=>
    intro pre n a b m t acc _ hn _ _
    subst hn
    refine Ev.step (fun k=>helmsmanlaw12_Expr.l0.eq_2 _ _ _ _ _ _ _ _ k) (Ev.no (end_not pre) ?_)
    rw [convEs,List.append_nil];exact Ev.now _
  | cons x xs ih=>
    intro pre n a b m t acc h hn hl ha
    subst hn
    refine Ev.step (fun k=>helmsmanlaw12_Expr.l0.eq_2 _ _ _ _ _ _ _ _ k) (Ev.yes (mid_lt pre x xs) (Ev.yes (by omega) (Ev.yes (mid_lt pre x xs) ?_)))
    rw [rdRE]
    refine Ev.bind (h x (List.mem_cons_self ..)) (Ev.yes (by rw [ha];rw [List.length_append] at hl;omega) ?_)
    rw [next_len pre x xs (by omega),tup_eta]
    have:=ih (pre++[x]) ((pre++x :: xs).length:Int) a b m t (acc++[convE x]) (fun y hy=>h y (List.mem_cons_of_mem _ hy)) (by rw [← snoc]) (by rw [← snoc];exact hl) (by rw [List.length_append,List.length_append,ha];rfl)
    rw [← snoc,List.append_assoc,List.singleton_append] at this
    rw [convEs]
    exact this
theorem Expr_ev : ∀ x:RE,bulkE x < 1099511627776→Ev (fun k=>helmsmanlaw12_Expr.f k x.f0 x.f1 x.f2 x.f3 x.f4) (tupE (convE x)):=RE.all fun x ih hb=>by
  rw [bulkE_eq] at hb
  have hl:=len_bulkEs x.f3
  refine Ev.step (fun k=>helmsmanlaw12_Expr.f.eq_2 _ _ _ _ _ k) ?_
  have:=Expr_loop x.f3 [] (x.f3.length:Int) x.f0 x.f1 x.f2 x.f4 [] (fun y hy=>ih y hy (by have:=mem_bulkEs hy;omega)) rfl (by rw [List.nil_append];omega) rfl
  rw [convE_eq]
  exact this
theorem Stmts_l1 : ∀ (xs pre:List RE) (n:Int) (out:List TS) (x9:List RS) (x10 i:Int) (a b:ByteArray) (acc:List TE) (u v:List TS) (t:Int) (r:List TS),(∀ y ∈ xs,bulkE y < 1099511627776)→n=((pre++xs).length:Int)→(pre++xs).length < 1099511627776→acc.length=pre.length→out.length < 1099511627776→
    Ev (fun k=>helmsmanlaw12_Stmts.l0 k (out++[⟨a,b,acc++convEs xs,u,v,t⟩]) x9 x10 (wrap64 (i+1))) r→
    Ev (fun k=>helmsmanlaw12_Stmts.l1 k out x9 x10 i (pre++xs) n pre.length a b acc u v t) r:=by
  intro xs
  induction xs with
  | nil=>
    intro pre n out x9 x10 i a b acc u v t r _ hn _ _ ho hr
    subst hn
    refine Ev.step (fun k=>helmsmanlaw12_Stmts.l1.eq_2 _ _ _ _ _ _ _ _ _ _ _ _ _ k) (Ev.no (end_not pre) (Ev.yes (by omega) ?_))
    rw [convEs,List.append_nil] at hr;exact hr
  | cons x xs ih=>
    intro pre n out x9 x10 i a b acc u v t r h hn hl ha ho hr
    subst hn
    refine Ev.step (fun k=>helmsmanlaw12_Stmts.l1.eq_2 _ _ _ _ _ _ _ _ _ _ _ _ _ k) (Ev.yes (mid_lt pre x xs) (Ev.yes (by omega) (Ev.yes (mid_lt pre x xs) ?_)))
    rw [rdRE]
    refine Ev.bind (Expr_ev x (h x (List.mem_cons_self ..))) (Ev.yes (by rw [ha];rw [List.length_append] at hl;omega) ?_)
    rw [next_len pre x xs (by omega),tup_eta]
    have:=ih (pre++[x]) ((pre++x :: xs).length:Int) out x9 x10 i a b (acc++[convE x]) u v t r (fun y hy=>h y (List.mem_cons_of_mem _ hy)) (by rw [← snoc]) (by rw [← snoc];exact hl) (by rw [List.length_append,List.length_append,ha];rfl) ho (by rw [List.append_assoc,List.singleton_append];rw [convEs] at hr;exact hr)
    rw [← snoc] at this
    exact this
theorem Stmts_loop : ∀ (xs pre:List RS) (n:Int) (out:List TS),(∀ y ∈ xs,bulkS y < 1099511627775∧Ev (fun k=>helmsmanlaw12_Stmts.f k y.f3) (convSs y.f3)∧Ev (fun k=>helmsmanlaw12_Stmts.f k y.f4) (convSs y.f4))→n=((pre++xs).length:Int)→(pre++xs).length < 1099511627776→out.length=pre.length→
    Ev (fun k=>helmsmanlaw12_Stmts.l0 k out (pre++xs) n pre.length) (out++convSs xs):=by
  intro xs
  induction xs with
  | nil=>
    intro pre n out _ hn _ _
    subst hn
    refine Ev.step (fun k=>helmsmanlaw12_Stmts.l0.eq_2 _ _ _ _ k) (Ev.no (end_not pre) ?_)
    rw [convSs,List.append_nil];exact Ev.now _
  | cons x xs ih=>
    intro pre n out h hn hl ho
    obtain ⟨hb,ha,hc⟩:=h x (List.mem_cons_self ..)
    rw [bulkS_eq] at hb
    have hle:=len_bulkEs x.f2
    subst hn
    refine Ev.step (fun k=>helmsmanlaw12_Stmts.l0.eq_2 _ _ _ _ k) (Ev.yes (mid_lt pre x xs) (Ev.yes (by omega) (Ev.yes (mid_lt pre x xs) ?_)))
    rw [rdRS]
    refine Ev.bind ha (Ev.bind hc ?_)
    refine Stmts_l1 x.f2 [] (x.f2.length:Int) out _ _ _ x.f0 x.f1 [] (convSs x.f3) (convSs x.f4) x.f5 _ (fun y hy=>by have:=mem_bulkEs hy;omega) rfl (by rw [List.nil_append];omega) rfl (by rw [ho];rw [List.length_append] at hl;omega) ?_
    rw [next_len pre x xs (by omega),List.nil_append,← convS_eq]
    have:=ih (pre++[x]) ((pre++x :: xs).length:Int) (out++[convS x]) (fun y hy=>h y (List.mem_cons_of_mem _ hy)) (by rw [← snoc]) (by rw [← snoc];exact hl) (by rw [List.length_append,List.length_append,ho];rfl)
    rw [← snoc,List.append_assoc,List.singleton_append] at this
    rw [convSs]
    exact this
theorem Stmts_of (l:List RS) (hb:bulkSs l < 1099511627775) (h : ∀ y ∈ l,Ev (fun k=>helmsmanlaw12_Stmts.f k y.f3) (convSs y.f3)∧Ev (fun k=>helmsmanlaw12_Stmts.f k y.f4) (convSs y.f4)):Ev (fun k=>helmsmanlaw12_Stmts.f k l) (convSs l):=by
  have hl:=len_bulkSs l
  refine Ev.step (fun k=>helmsmanlaw12_Stmts.f.eq_2 _ k) ?_
  exact Stmts_loop l [] (l.length:Int) [] (fun y hy=>⟨by have:=mem_bulkSs hy;omega,h y hy⟩) rfl (by rw [List.nil_append];omega) rfl
theorem Stmts_ev' : ∀ x:RS,bulkS x < 1099511627775→Ev (fun k=>helmsmanlaw12_Stmts.f k x.f3) (convSs x.f3)∧Ev (fun k=>helmsmanlaw12_Stmts.f k x.f4) (convSs x.f4):=RS.all fun x iha ihb hb=>by
  rw [bulkS_eq] at hb
  exact ⟨Stmts_of _ (by omega) (fun y hy=>iha y hy (by have:=mem_bulkSs hy;omega)),Stmts_of _ (by omega) (fun y hy=>ihb y hy (by have:=mem_bulkSs hy;omega))⟩
theorem Stmts_ev (l:List RS) (hb:bulkSs l < 1099511627775):Ev (fun k=>helmsmanlaw12_Stmts.f k l) (convSs l):=
  Stmts_of l hb (fun y hy=>Stmts_ev' y (by have:=mem_bulkSs hy;omega))
end Go.Proofs.YtnnbbeloifhofaaDoor.P
end
section
namespace Go.Proofs.YtnnbbeloifhofaaDoor.P
open Go.RowKit Go.Proofs.YtnnbbeloifhofaaDoorW.PrintWords Go.Proofs.YtnnbbeloifhofaaDoorW.PrintLast Go.Proofs.YtnnbbeloifhofaaDoorW.PrintMore
attribute [local go_sem] max2_int min2_int max_two min_two max_three min_three max_four min_four
set_option linter.unusedVariables false
set_option linter.unusedSimpArgs false
def strconv_Itoa_53.f (a0:Int):Option (ByteArray):=(strconv_FormatInt.f a0 10).bind fun t127=>(some t127)
set_option maxHeartbeats 8000000 in
set_option maxRecDepth 100000 in
theorem strconv_Itoa_53.calls (a0:Int) (r:ByteArray) (w:World) (hT:TabT w) (h:strconv_Itoa_53.f a0=some r) :
    Calls Tryd.prog 53 #[.int .i64 a0] w fun e w'=>e=.returned (.string r)∧Below w.heap.size w w':=by
  have HB:=Aside0.mk (Below.refl w.heap.size w)
  have H:((strconv_FormatInt.f a0 10).bind fun t127=>(some t127))=some r:=h
  clear h
  replace H:=Option.bind_eq_some_iff.mp H
  obtain ⟨t127,A20,H⟩:=H
  replace H:(some t127)=some r:=H
  have A2:=Aside0.mk A20
  clear A20
  obtain rfl:=Option.some.inj H
  go_enter Tryd.func53,Tryd.ntmps53
  go_wp2_with (first|((with_reducible refine gate_callee (f:=62) rfl ?_);refine goesL_ (some 4) rfl rfl Tryd.func62 (by kernel_rfl) rfl #[.int .i64 a0,.int .i64 10] rfl (by (try simp only [List.map_toArray,List.map_cons,List.map_nil]);first|done|rfl|(simp only [List.length_drop,List.length_take];rfl)) ?_;(with_reducible refine (strconv_FormatInt.calls a0 10 t127 _ ?side1 A2.out).mono ?_);(case side1=>exact hT.later (by repeat (first|(with_reducible first|exact HB.out|apply below_alloc|apply pw_below_drewN|apply below_drew1)|exact HB.out)));rintro e w3 ⟨rfl,hb⟩;refine ⟨_,rfl,?_⟩;have n0_:=Aside0.mk (below_step (by repeat (first|(with_reducible first|exact HB.out|apply below_alloc|apply pw_below_drewN|apply below_drew1)|exact HB.out)) hb);clear HB;have HB:=n0_;clear n0_;(try clear hb);(try clear hb2);(try clear hk);(try clear hi)))
  go_ret
  exact ⟨by first|rfl|(simp [errW_none,errW_some] <;> rfl)|(simp [*,errW_none,errW_some] <;> rfl),by repeat (first|(with_reducible first|exact HB.out|apply below_alloc|apply pw_below_drewN|apply below_drew1)|exact HB.out)⟩
end Go.Proofs.YtnnbbeloifhofaaDoor.P
end
section
namespace Go.Proofs.YtnnbbeloifhofaaDoor.P
open Go.RowKit Go.Proofs.YtnnbbeloifhofaaDoorW.PrintWords Go.Proofs.YtnnbbeloifhofaaDoorW.PrintLast Go.Proofs.YtnnbbeloifhofaaDoorW.PrintMore
attribute [local go_sem] max2_int min2_int max_two min_two max_three min_three max_four min_four
set_option linter.unusedVariables false
set_option linter.unusedSimpArgs false
def strconv_Itoa_31.f (a0:Int):Option (ByteArray):=(strconv_Itoa_53.f a0).bind fun t128=>(some t128)
set_option maxHeartbeats 8000000 in
set_option maxRecDepth 100000 in
theorem strconv_Itoa_31.calls (a0:Int) (r:ByteArray) (w:World) (hT:TabT w) (h:strconv_Itoa_31.f a0=some r) :
    Calls Tryd.prog 31 #[.int .i64 a0] w fun e w'=>e=.returned (.string r)∧Below w.heap.size w w':=by
  have HB:=Aside0.mk (Below.refl w.heap.size w)
  have H:((strconv_Itoa_53.f a0).bind fun t128=>(some t128))=some r:=h
  clear h
  replace H:=Option.bind_eq_some_iff.mp H
  obtain ⟨t128,A20,H⟩:=H
  replace H:(some t128)=some r:=H
  have A2:=Aside0.mk A20
  clear A20
  obtain rfl:=Option.some.inj H
  go_enter Tryd.func31,Tryd.ntmps31
  go_wp2_with (first|((with_reducible refine gate_callee (f:=53) rfl ?_);refine goesL_ (some 4) rfl rfl Tryd.func53 (by kernel_rfl) rfl #[.int .i64 a0] rfl (by (try simp only [List.map_toArray,List.map_cons,List.map_nil]);first|done|rfl|(simp only [List.length_drop,List.length_take];rfl)) ?_;(with_reducible refine (strconv_Itoa_53.calls a0 t128 _ ?side1 A2.out).mono ?_);(case side1=>exact hT.later (by repeat (first|(with_reducible first|exact HB.out|apply below_alloc|apply pw_below_drewN|apply below_drew1)|exact HB.out)));rintro e w3 ⟨rfl,hb⟩;refine ⟨_,rfl,?_⟩;have n0_:=Aside0.mk (below_step (by repeat (first|(with_reducible first|exact HB.out|apply below_alloc|apply pw_below_drewN|apply below_drew1)|exact HB.out)) hb);clear HB;have HB:=n0_;clear n0_;(try clear hb);(try clear hb2);(try clear hk);(try clear hi)))
  go_ret
  exact ⟨by first|rfl|(simp [errW_none,errW_some] <;> rfl)|(simp [*,errW_none,errW_some] <;> rfl),by repeat (first|(with_reducible first|exact HB.out|apply below_alloc|apply pw_below_drewN|apply below_drew1)|exact HB.out)⟩
end Go.Proofs.YtnnbbeloifhofaaDoor.P
end
section
namespace Go.Proofs.YtnnbbeloifhofaaDoor.P
open Go.RowKit Go.Proofs.YtnnbbeloifhofaaDoorW.PrintWords Go.Proofs.YtnnbbeloifhofaaDoorW.PrintLast Go.Proofs.YtnnbbeloifhofaaDoorW.PrintMore
attribute [local go_sem] max2_int min2_int max_two min_two max_three min_three max_four min_four
set_option linter.unusedVariables false
set_option linter.unusedSimpArgs false
def slices_Index_string_string.l0:Nat→List ByteArray→ByteArray→Int→Int→Option (Int)
 | 0,_,_,_,_=>none
 | k+1,x0,x1,x7,x8=>if x8 < x7 then (if 0≤x8 then (if x8 < (x0.length:Int) then (if x1.toList=(rdOf ByteArray.empty x0 x8).toList then (some x8) else (slices_Index_string_string.l0 k x0 x1 x7 (wrap64 (x8+1)))) else (none)) else (none)) else (some (-1))
def slices_Index_string_string.f (k:Nat) (l0:List ByteArray) (a1:ByteArray):Option (Int):=slices_Index_string_string.l0 k l0 a1 (l0.length:Int) 0
set_option maxHeartbeats 8000000 in
set_option maxRecDepth 100000 in
theorem slices_Index_string_string.calls (k:Nat) (A0:Option Addr) (c0:Nat) (l0:List ByteArray) (a1:ByteArray) (r:Int) (w:World) (hr0:Kd.C Kd.string w A0 l0.length l0) (hc0:l0.length≤c0) (h:slices_Index_string_string.f k l0 a1=some r) :
  Calls Tryd.prog 63 #[.slice A0 l0.length c0,.string a1] w fun e w'=>e=.returned (.int .i64 r)∧Drawn0 w w':=by
 have HR0:=Aside0.mk hr0
 have HC0:=Aside0.mk hc0
 clear hr0 hc0
 have H:(slices_Index_string_string.l0 k l0 a1 (l0.length:Int) 0)=some r:=h
 clear h
 have H':=Aside0.mk H
 clear H
 go_enter Tryd.func63,Tryd.ntmps63
 go_wp2
 (try simp only [Act.put,List.setIfInBounds_toArray,List.set_cons_succ,List.set_cons_zero])
 go_loopg [8] k (fun kq v8 w'=>∃ (x8_1:Int),v8=.int .i64 x8_1∧Aside0 (slices_Index_string_string.l0 kq l0 a1 (l0.length:Int) x8_1=some r)∧Aside0 (kq≤k)∧Drawn0 w w')
 case atStart=>exact ⟨(0),rf_,H',⟨Nat.le_refl _⟩,by repeat (first|exact Drawn0.refl _|apply Drawn0.step)⟩
 case round=>
  clear H'
  try clear p2
  obtain ⟨x8_1,rfl,HA,HK1,⟨m1,rfl⟩⟩:=hrel
  cases gk with
  | zero=>exact absurd HA.out (by simp [slices_Index_string_string.l0])
  | succ k1=>
   have H:=HA.out
   clear HA
   simp only [slices_Index_string_string.l0] at H
   by_cases c3:x8_1 < (l0.length:Int)
   ·rw [if_pos c3] at H
    have c3b0:=decide_eq_true c3
    clear c3
    revert H
    refine gd_ fun c4 H=>?_
    have c4b0:=decide_eq_true c4
    clear c4
    revert H
    refine gd_ fun c5 H=>?_
    have c5b0:=decide_eq_true c5
    clear c5
    by_cases c6:a1.toList=(rdOf ByteArray.empty l0 x8_1).toList
    ·rw [if_pos c6] at H
     have c6b0:=bqt_ c6
     have c6b1:=bnf_ c6
     clear c6
     obtain rfl:=Option.some.inj H
     have p129:0≤(x8_1:Int):=of_decide_eq_true as_
     have q129:x8_1 < (l0.length:Int):=of_decide_eq_true as_
     obtain ⟨ad129,e129,hx129_0⟩:=Kd.at_string HR0.out x8_1 p129 q129
     cases e129
     replace p129:=eq_true p129
     replace q129:=eq_true q129
     go_wp2
     go_ret
     exact ⟨by first|rfl|(simp;done)|(simp [*];done),by repeat (first|exact Drawn0.refl _|apply Drawn0.step)⟩
    ·rw [if_neg c6] at H
     have c6b0:=bqf_ c6
     have c6b1:=bnt_ c6
     have H':=Aside0.mk H
     clear H
     have p129:0≤(x8_1:Int):=of_decide_eq_true as_
     have q129:x8_1 < (l0.length:Int):=of_decide_eq_true as_
     obtain ⟨ad129,e129,hx129_0⟩:=Kd.at_string HR0.out x8_1 p129 q129
     cases e129
     replace p129:=eq_true p129
     replace q129:=eq_true q129
     go_wp2
     go_roundg k1
     case measure=>have:=HK1.out;omega
     case rel=>exact ⟨(wrap64 (x8_1+1)),rf_,H',⟨by have:=HK1.out;omega⟩,by repeat (first|exact Drawn0.refl _|apply Drawn0.step)⟩
   ·rw [if_neg c3] at H
    have c3b0:=decide_eq_false c3
    clear c3
    obtain rfl:=Option.some.inj H
    go_wp2
    go_ret
    exact ⟨by first|rfl|(simp;done)|(simp [*];done),by repeat (first|exact Drawn0.refl _|apply Drawn0.step)⟩
end Go.Proofs.YtnnbbeloifhofaaDoor.P
end
section
namespace Go.Proofs.YtnnbbeloifhofaaDoor.P
open Go.RowKit Go.Proofs.YtnnbbeloifhofaaDoorW.PrintWords Go.Proofs.YtnnbbeloifhofaaDoorW.PrintLast Go.Proofs.YtnnbbeloifhofaaDoorW.PrintMore
attribute [local go_sem] max2_int min2_int max_two min_two max_three min_three max_four min_four
set_option linter.unusedVariables false
set_option linter.unusedSimpArgs false
def slices_Contains_string_string.f (k:Nat) (l0:List ByteArray) (a1:ByteArray):Option (Bool):=(slices_Index_string_string.f k l0 a1).bind fun t130=>(some (decide (t130≥0)))
set_option maxHeartbeats 8000000 in
set_option maxRecDepth 100000 in
theorem slices_Contains_string_string.calls (k:Nat) (A0:Option Addr) (c0:Nat) (l0:List ByteArray) (a1:ByteArray) (r:Bool) (w:World) (hr0:Kd.C Kd.string w A0 l0.length l0) (hc0:l0.length≤c0) (h:slices_Contains_string_string.f k l0 a1=some r) :
    Calls Tryd.prog 54 #[.slice A0 l0.length c0,.string a1] w fun e w'=>e=.returned (.bool r)∧Drawn0 w w':=by
  have HR0:=Aside0.mk hr0
  have HC0:=Aside0.mk hc0
  clear hr0 hc0
  have H:((slices_Index_string_string.f k l0 a1).bind fun t130=>(some (decide (t130≥0))))=some r:=h
  clear h
  replace H:=Option.bind_eq_some_iff.mp H
  obtain ⟨t130,A30,H⟩:=H
  replace H:(some (decide (t130≥0)))=some r:=H
  have A3:=Aside0.mk A30
  clear A30
  obtain rfl:=Option.some.inj H
  go_enter Tryd.func54,Tryd.ntmps54
  go_wp2_with (first|((with_reducible refine gate_callee (f:=63) rfl ?_);refine goesL_ (some 7) rfl rfl Tryd.func63 (by kernel_rfl) rfl #[.slice A0 l0.length c0,.string a1] rfl (by (try simp only [List.map_toArray,List.map_cons,List.map_nil]);first|done|rfl|(simp only [List.length_drop,List.length_take];rfl)) ?_;(with_reducible refine (slices_Index_string_string.calls k _ _ l0 a1 t130 _ ?side1 ?side2 A3.out).mono ?_);(case side1=>repeat (first|exact HR0.out|(with_reducible refine Kd.C_alloc ?_ _)|(with_reducible refine Kd.C_drewN ?_ _)|(with_reducible refine Kd.C_drew ?_)));(case side2=>exact HC0.out);rintro e w' ⟨rfl,⟨nd,rfl⟩⟩;refine ⟨_,rfl,?_⟩))
  go_ret
  exact ⟨by first|rfl|(simp;done)|(simp [*];done),by repeat (first|exact Drawn0.refl _|apply Drawn0.step)⟩
end Go.Proofs.YtnnbbeloifhofaaDoor.P
end
