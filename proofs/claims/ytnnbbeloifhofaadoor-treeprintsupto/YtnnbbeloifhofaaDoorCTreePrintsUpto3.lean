/- Texts of this claim, joined. -/
import Derived.Test.YtnnbbeloifhofaaDoorCTreePrintsUpto0
import Derived.Test.YtnnbbeloifhofaaDoorCTreePrintsUpto1
import Derived.Test.YtnnbbeloifhofaaDoorCTreePrintsUpto2
section
namespace Go.Proofs.YtnnbbeloifhofaaDoor.P
open Go.RowKit Go.Proofs.YtnnbbeloifhofaaDoorW.PrintWords Go.Proofs.YtnnbbeloifhofaaDoorW.PrintLast Go.Proofs.YtnnbbeloifhofaaDoorW.PrintMore
attribute [local go_sem] max2_int min2_int max_two min_two max_three min_three max_four min_four
set_option linter.unusedVariables false
set_option linter.unusedSimpArgs false
mutual
def helmsmanlaw12_Prog.l0:Nat→List (S72)→Int→Int→List (S72)→List (S56)→List (S69)→List (S29)→List (S79)→List (S76)→Option ((List (S79)) × (List (S80)) × (List (S66)) × (List (S76)))
 | 0,_,_,_,_,_,_,_,_,_=>none
 | k+1,x15,x16,x17,x205000,x205001,x205002,x205003,x210000,x210003=>if x17 < x16 then (if 0≤x17 then (if x17 < (x15.length:Int) then (if x210000.length < 3518437208883 then (helmsmanlaw12_Prog.l0 k x15 x16 (wrap64 (x17+1)) x205000 x205001 x205002 x205003 (x210000++[(⟨(rd_T72 x15 x17).f0,(rd_T72 x15 x17).f1⟩:S79)]) x210003) else (none)) else (none)) else (none)) else (helmsmanlaw12_Prog.l1 k x205001 (x205001.length:Int) 0 x205000 x205001 x205002 x205003 x210000 ([]:List (S80)) x210003)
def helmsmanlaw12_Prog.l1:Nat→List (S56)→Int→Int→List (S72)→List (S56)→List (S69)→List (S29)→List (S79)→List (S80)→List (S76)→Option ((List (S79)) × (List (S80)) × (List (S66)) × (List (S76)))
 | 0,_,_,_,_,_,_,_,_,_,_=>none
 | k+1,x33,x34,x35,x205000,x205001,x205002,x205003,x210000,x210001,x210003=>if x35 < x34 then (if 0≤x35 then (if x35 < (x33.length:Int) then (if x210001.length < 3518437208883 then (helmsmanlaw12_Prog.l1 k x33 x34 (wrap64 (x35+1)) x205000 x205001 x205002 x205003 x210000 (x210001++[(⟨(rd_T56 x33 x35).f0,(rd_T56 x33 x35).f1,(rd_T56 x33 x35).f2⟩:S80)]) x210003) else (none)) else (none)) else (none)) else (helmsmanlaw12_Prog.l2 k x205002 (x205002.length:Int) 0 x210000 x210001 ([]:List (S66)) x210003)
def helmsmanlaw12_Prog.l2:Nat→List (S69)→Int→Int→List (S79)→List (S80)→List (S66)→List (S76)→Option ((List (S79)) × (List (S80)) × (List (S66)) × (List (S76)))
 | 0,_,_,_,_,_,_,_=>none
 | k+1,x47,x48,x49,x210000,x210001,x210002,x210003=>if x49 < x48 then (if 0≤x49 then (if x49 < (x47.length:Int) then ((helmsmanlaw12_Stmts.f k ((rd_T69 x47 x49).f1)).bind fun t222=>(if x210002.length < 3518437208883 then (helmsmanlaw12_Prog.l2 k x47 x48 (wrap64 (x49+1)) x210000 x210001 (x210002++[(⟨(rd_T69 x47 x49).f0,t222⟩:S66)]) x210003) else (none))) else (none)) else (none)) else (some (x210000,x210001,x210002,x210003))
end
def helmsmanlaw12_Prog.f (k:Nat) (l0_0:List (S72)) (l0_1:List (S56)) (l0_2:List (S69)) (l0_3:List (S29)):Option ((List (S79)) × (List (S80)) × (List (S66)) × (List (S76))):=(helmsmanlaw12_Stmts.f k l0_3).bind fun t206=>(helmsmanlaw12_Prog.l0 k l0_0 (l0_0.length:Int) 0 l0_0 l0_1 l0_2 l0_3 ([]:List (S79)) t206)
def helmsmanlaw12_Prog.T15:Bool × List (List Nat × List Nat):=(true,[([],[]),([0],[0]),([],[]),([2],[2]),([],[]),([4],[4]),([5],[5]),([3,6],[3,6]),([7],[7]),([1,8,6],[1,8]),([0,1,2,3,4,5,6,7,8,9],[]),([10,9,9,0,1,2,3,4,5,6,7,8,9],[9,10])])
def helmsmanlaw12_Prog.B15:List Nat:=[0,1,0,4,0,16,48,124,252,511,1023,2047]
theorem helmsmanlaw12_Prog.tab15:rtab .any (opsOf Tryd.f17 15)=helmsmanlaw12_Prog.T15:=by kernel_rfl
theorem helmsmanlaw12_Prog.bits15:waitsOk helmsmanlaw12_Prog.T15.2 helmsmanlaw12_Prog.B15=true:=by kernel_rfl
set_option maxHeartbeats 8000000 in
set_option maxRecDepth 100000 in
theorem helmsmanlaw12_Prog.calls (k:Nat) (P0_0_:Nat→Prop) (A0_0:Option Addr) (c0_0:Nat) (l0_0:List (S72)) (A0_1:Option Addr) (c0_1:Nat) (l0_1:List (S56)) (A0_2:Option Addr) (c0_2:Nat) (l0_2:List (S69)) (A0_3:Option Addr) (c0_3:Nat) (l0_3:List (S29)) (r1:List (S79)) (r2:List (S80)) (r3:List (S66)) (r4:List (S76)) (w:World) (hs0_0:Kd.V k72 72 w w.heap.size (fun k_=>P0_0_ k_) (.slice A0_0 l0_0.length c0_0) l0_0) (hr0_1:Kd.C k56 w A0_1 l0_1.length l0_1) (hc0_1:l0_1.length≤c0_1) (hr0_2:Kd.C k69 w A0_2 l0_2.length l0_2) (hc0_2:l0_2.length≤c0_2) (hr0_3:Kd.C k29 w A0_3 l0_3.length l0_3) (hc0_3:l0_3.length≤c0_3) (h:helmsmanlaw12_Prog.f k l0_0 l0_1 l0_2 l0_3=some (r1,r2,r3,r4)) :
  Calls Tryd.prog 17 #[.agg #[.slice A0_0 l0_0.length c0_0,.slice A0_1 l0_1.length c0_1,.slice A0_2 l0_2.length c0_2,.slice A0_3 l0_3.length c0_3]] w fun e w'=>∃ v0_ v1_ v2_ v3_:Value,e=.returned (.agg #[v0_,v1_,v2_,v3_])∧Kd.N k79 79 w' w.heap.size (fun k_=>(P0_0_ k_∨w.heap.size≤k_)∧some k_≠(v1_:Value).ownBlock∧some k_≠(v2_:Value).ownBlock∧some k_≠(v3_:Value).ownBlock) v0_ r1∧Kd.R k80 80 w' w.heap.size (fun k_=>(w.heap.size≤k_)) v1_ r2∧Kd.N k66 66 w' w.heap.size (fun k_=>(P0_0_ k_∨w.heap.size≤k_)∧some k_≠(v0_:Value).ownBlock∧some k_≠(v1_:Value).ownBlock∧some k_≠(v3_:Value).ownBlock) v2_ r3∧Kd.N k76 76 w' w.heap.size (fun k_=>(P0_0_ k_∨w.heap.size≤k_)∧some k_≠(v0_:Value).ownBlock∧some k_≠(v1_:Value).ownBlock∧some k_≠(v2_:Value).ownBlock) v3_ r4∧Below w.heap.size w w':=by
 have hu43:=Tryd.underlying43
 have hu50:=Tryd.underlying50
 have hu72:=Tryd.underlying72
 have hu79:=Tryd.underlying79
 have hu56:=Tryd.underlying56
 have hu69:=Tryd.underlying69
 have hu66:=Tryd.underlying66
 have HO0_0:=Aside0.mk (show Kd.V k72 72 w w.heap.size (fun k_=>(P0_0_ k_∨w.heap.size≤k_)) (.slice A0_0 l0_0.length c0_0) l0_0 from Kd.V_mono hs0_0 (fun k_ hk=>.inl hk))
 have HR0_1:=Aside0.mk hr0_1
 have HC0_1:=Aside0.mk hc0_1
 clear hr0_1 hc0_1
 have HR0_2:=Aside0.mk hr0_2
 have HC0_2:=Aside0.mk hc0_2
 clear hr0_2 hc0_2
 have HR0_3:=Aside0.mk hr0_3
 have HC0_3:=Aside0.mk hc0_3
 clear hr0_3 hc0_3
 have HB:=Aside0.mk (Below.refl w.heap.size w)
 have H:((helmsmanlaw12_Stmts.f k l0_3).bind fun t206=>(helmsmanlaw12_Prog.l0 k l0_0 (l0_0.length:Int) 0 l0_0 l0_1 l0_2 l0_3 ([]:List (S79)) t206))=some (r1,r2,r3,r4):=h
 clear h
 replace H:=Option.bind_eq_some_iff.mp H
 obtain ⟨t206,A20,H⟩:=H
 replace H:(helmsmanlaw12_Prog.l0 k l0_0 (l0_0.length:Int) 0 l0_0 l0_1 l0_2 l0_3 ([]:List (S79)) t206)=some (r1,r2,r3,r4):=H
 have A2:=Aside0.mk A20
 clear A20
 have H':=Aside0.mk H
 clear H
 go_enter Tryd.func17,Tryd.ntmps17
 go_wp2_with (first|((with_reducible refine gate_dst (N:=1) rfl ?_);refine bx_ (N:=1) (cs:=#[.slice A0_0 l0_0.length c0_0,.slice A0_1 l0_1.length c0_1,.slice A0_2 l0_2.length c0_2,.slice A0_3 l0_3.length c0_3]) (t:=43) ?_;intro gb204 hg w3 hbox hb;have n0_:=Aside0.mk (Kd.V_below (Kd.V_elderB (by (with_reducible repeat (first|apply Kd.V_alloc|apply Kd.V_drewN|apply Kd.V_drew));exact HO0_0.out) gb204 (Nat.le_of_eq hg.symm)) hb);have n1_:=Aside0.mk (below_step (bl_ HB.out) hb);have n2_:=Aside0.mk (hbox);have n3_:=Aside0.mk ((gs_ hg (bl_ HB.out):w.heap.size≤gb204));have n4_:=Aside0.mk ((gs_ hg (bl_ HB.out):w.heap.size≤gb204));clear HO0_0;clear HB;have HO0_0:=n0_;have HB:=n1_;have BK204:=n2_;have GW204:=n3_;have GE204:=n4_;clear n0_ n1_ n2_ n3_ n4_;clear hb hbox hg)|((with_reducible refine gate_dst (N:=2) rfl ?_);refine bx_ (N:=2) (cs:=#[.slice none 0 0,.slice none 0 0,.slice none 0 0,.slice none 0 0]) (t:=50) ?_;intro gb205 hg w4 hbox hb;have n0_:=Aside0.mk (Kd.V_below (Kd.V_elderB (by (with_reducible repeat (first|apply Kd.V_alloc|apply Kd.V_drewN|apply Kd.V_drew));exact HO0_0.out) gb205 (Nat.le_of_eq hg.symm)) hb);have n1_:=Aside0.mk (bb_ BK204.out hb);have n2_:=Aside0.mk (below_step (bl_ HB.out) hb);have n3_:=Aside0.mk (hbox);have n4_:=Aside0.mk ((gs_ hg (bl_ HB.out):w.heap.size≤gb205));have n5_:=Aside0.mk ((gs_ hg (bl_ HB.out):w.heap.size≤gb205));have n6_:=Aside0.mk ((nl_ hg BK204.out:gb204≠gb205));have n7_:=Aside0.mk ((nr_ hg BK204.out:gb205≠gb204));clear HO0_0;clear BK204;clear HB;have HO0_0:=n0_;have BK204:=n1_;have HB:=n2_;have BK205:=n3_;have GW205:=n4_;have GE205:=n5_;have NB204_205:=n6_;have NB205_204:=n7_;clear n0_ n1_ n2_ n3_ n4_ n5_ n6_ n7_;clear hb hbox hg;have hnb5:=NB204_205.out;have hnc5:=NB205_204.out;obtain ⟨hcz6_0,hcz6_1,hcz6_2,hcz6_3,hfz6_0,hfz6_1,hfz6_2,hfz6_3⟩:=zf4_ BK204.out)|((with_reducible refine gate_callee (f:=24) rfl ?_);refine goesL_ (some 12) rfl rfl Tryd.func24 (by kernel_rfl) rfl #[.slice A0_3 l0_3.length c0_3] rfl ar_ ?_;(with_reducible refine (helmsmanlaw12_Stmts.calls k _ _ l0_3 t206 _ ?side1 ?side2 A2.out).mono ?_);(case side1=>exact kc_ HR0_3.out HB.out);(case side2=>exact HC0_3.out);rintro e w7 ⟨v207,rfl,ho0,hb⟩;refine ⟨_,rfl,?_⟩;have n0_:=Aside0.mk (Kd.V_elder' (by (with_reducible repeat (first|apply Kd.V_alloc|apply Kd.V_drewN|apply Kd.V_drew));exact HO0_0.out) (by first|exact Kd.N_base ho0|exact Kd.N_base (Kd.R_N ho0)|exact Kd.N_base (Kd.R_N (Kd.R_bound ho0))) hb);have n1_:=Aside0.mk (Kd.N_lower (Kd.N_mono (ok':=fun k_=>(P0_0_ k_∨w.heap.size≤k_)∧k_≠gb204∧k_≠gb205) (Kd.R_N (Kd.R_bound ho0)) (fun k_ hk_=>⟨(.inr (Nat.le_trans (below_size (bl_ HB.out)) hk_.2.1)),(Kd.freshB (g:=gb204) (o:=.cells #[.slice A0_0 l0_0.length c0_0,.slice A0_1 l0_1.length c0_1,.slice A0_2 l0_2.length c0_2,.slice A0_3 l0_3.length c0_3] 43 (0,0)) (kb_ BK204.out) k_ hk_.2.1),(Kd.freshB (g:=gb205) (o:=.cells #[.slice none 0 0,.slice none 0 0,.slice none 0 0,.slice none 0 0] 50 (0,0)) (kb_ BK205.out) k_ hk_.2.1)⟩)) (below_size (bl_ HB.out)));have n2_:=Aside0.mk (bb_ BK204.out hb);have n3_:=Aside0.mk (bb_ BK205.out hb);have n4_:=Aside0.mk (below_step (bl_ HB.out) hb);clear HO0_0;clear BK204;clear BK205;clear HB;have HO0_0:=n0_;have HO208:=n1_;have BK204:=n2_;have BK205:=n3_;have HB:=n4_;clear n0_ n1_ n2_ n3_ n4_;(try clear ho0);obtain ⟨Ao8,co8,eo8⟩:=Kd.N_slice HO208.out;subst eo8)|((with_reducible refine gate_dst (N:=3) rfl ?_);refine bx_ (N:=3) (cs:=#[.slice none 0 0,.slice none 0 0,.slice none 0 0,.slice none 0 0]) (t:=50) ?_;intro gb209 hg w9 hbox hb;have n0_:=Aside0.mk (Kd.V_below (Kd.V_elderB (by (with_reducible repeat (first|apply Kd.V_alloc|apply Kd.V_drewN|apply Kd.V_drew));exact HO0_0.out) gb209 (Nat.le_of_eq hg.symm)) hb);have n1_:=Aside0.mk (Kd.N_below (Kd.N_elderB (by (with_reducible repeat (first|apply Kd.N_alloc|apply Kd.N_drewN|apply Kd.N_drew));exact HO208.out) gb209 (Nat.le_of_eq hg.symm)) hb);have n2_:=Aside0.mk (bb_ BK204.out hb);have n3_:=Aside0.mk (bb_ BK205.out hb);have n4_:=Aside0.mk (below_step (bl_ HB.out) hb);have n5_:=Aside0.mk (hbox);have n6_:=Aside0.mk ((gs_ hg (bl_ HB.out):w.heap.size≤gb209));have n7_:=Aside0.mk ((gs_ hg (bl_ HB.out):w.heap.size≤gb209));have n8_:=Aside0.mk ((nl_ hg BK204.out:gb204≠gb209));have n9_:=Aside0.mk ((nr_ hg BK204.out:gb209≠gb204));have n10_:=Aside0.mk ((nl_ hg BK205.out:gb205≠gb209));have n11_:=Aside0.mk ((nr_ hg BK205.out:gb209≠gb205));clear HO0_0;clear HO208;clear BK204;clear BK205;clear HB;have HO0_0:=n0_;have HO208:=n1_;have BK204:=n2_;have BK205:=n3_;have HB:=n4_;have BK209:=n5_;have GW209:=n6_;have GE209:=n7_;have NB204_209:=n8_;have NB209_204:=n9_;have NB205_209:=n10_;have NB209_205:=n11_;clear n0_ n1_ n2_ n3_ n4_ n5_ n6_ n7_ n8_ n9_ n10_ n11_;clear hb hbox hg;have hnb10:=NB209_204.out;have hnc10:=NB204_209.out;have hnb11:=NB209_205.out;have hnc11:=NB205_209.out;obtain ⟨hcz12_0,hcz12_1,hcz12_2,hcz12_3,hfz12_0,hfz12_1,hfz12_2,hfz12_3⟩:=zf4_ BK209.out;obtain ⟨hcz13_0,hcz13_1,hcz13_2,hcz13_3,hfz13_0,hfz13_1,hfz13_2,hfz13_3⟩:=zf4_ BK204.out))
 (try simp only [Act.put,List.setIfInBounds_toArray,List.set_cons_succ,List.set_cons_zero])
 go_loopg [17] k (fun kq v17 w'=>∃ (x17_1:Int) (x210000_1:List (S79)) (u210000:Value),v17=.int .i64 x17_1∧Aside0 (helmsmanlaw12_Prog.l0 kq l0_0 (l0_0.length:Int) x17_1 l0_0 l0_1 l0_2 l0_3 x210000_1 t206=some (r1,r2,r3,r4))∧Aside0 (kq≤k)∧Aside0 (Kd.V k72 72 w' w.heap.size (fun k_=>(P0_0_ k_∨w.heap.size≤k_)∧some k_≠(u210000:Value).ownBlock∧some k_≠((.slice Ao8 t206.length co8):Value).ownBlock∧k_≠gb204∧k_≠gb205∧k_≠gb209) (.slice A0_0 l0_0.length c0_0) l0_0)∧Aside0 (Kd.V k72 72 w' w.heap.size (fun k_=>(P0_0_ k_∨w.heap.size≤k_)∧some k_≠(u210000:Value).ownBlock∧some k_≠((.slice Ao8 t206.length co8):Value).ownBlock∧k_≠gb204∧k_≠gb205∧k_≠gb209) (.slice A0_0 l0_0.length c0_0) l0_0)∧Aside0 (Kd.N k79 79 w' w.heap.size (fun k_=>(P0_0_ k_∨w.heap.size≤k_)∧some k_≠((.slice Ao8 t206.length co8):Value).ownBlock∧k_≠gb204∧k_≠gb205∧k_≠gb209) u210000 x210000_1)∧Aside0 (Kd.N k76 76 w' w.heap.size (fun k_=>(P0_0_ k_∨w.heap.size≤k_)∧some k_≠(u210000:Value).ownBlock∧k_≠gb204∧k_≠gb205∧k_≠gb209) (.slice Ao8 t206.length co8) t206)∧Aside0 (w'.heap[gb204]?=some (.cells #[(.slice A0_0 l0_0.length c0_0),(.slice A0_1 l0_1.length c0_1),(.slice A0_2 l0_2.length c0_2),(.slice A0_3 l0_3.length c0_3)] 43 (0,0)))∧Aside0 (w'.heap[gb205]?=some (.cells #[(.slice none 0 0),(.slice none 0 0),(.slice none 0 0),(.slice none 0 0)] 50 (0,0)))∧Aside0 (w'.heap[gb209]?=some (.cells #[u210000,(.slice none 0 0),(.slice none 0 0),(.slice Ao8 t206.length co8)] 50 (0,0)))∧Aside0 (Below w.heap.size w w'))
 case atStart=>exact ⟨(0),(([]:List (S79))),(.slice none 0 0),rf_,H',⟨Nat.le_refl _⟩,⟨by (with_reducible repeat (first|apply Kd.V_alloc|apply Kd.V_drewN|apply Kd.V_drew));exact Kd.V_mono (Kd.V_far (p:=⟨gb209,3,none⟩) (Kd.V_far (p:=⟨gb209,2,none⟩) (Kd.V_far (p:=⟨gb209,1,none⟩) (Kd.V_far (p:=⟨gb209,0,none⟩) (Kd.V_mono HO0_0.out (fun k_ hk=>(⟨hk,hk.2⟩:_∧k_≠gb209))) (fun _ hk=>hk.2) (.slice none 0 0)) (fun _ hk=>hk.2) (.slice none 0 0)) (fun _ hk=>hk.2) (.slice none 0 0)) (fun _ hk=>hk.2) (.slice Ao8 t206.length co8)) (fun _ hk=>⟨hk.1.1.1.1.1,⟨(by simp [Value.ownBlock]),⟨hk.1.1.2,⟨hk.1.1.1.1.2,⟨hk.1.1.1.2,hk.1.2⟩⟩⟩⟩⟩)⟩,⟨by (with_reducible repeat (first|apply Kd.V_alloc|apply Kd.V_drewN|apply Kd.V_drew));exact Kd.V_mono (Kd.V_far (p:=⟨gb209,3,none⟩) (Kd.V_far (p:=⟨gb209,2,none⟩) (Kd.V_far (p:=⟨gb209,1,none⟩) (Kd.V_far (p:=⟨gb209,0,none⟩) (Kd.V_mono HO0_0.out (fun k_ hk=>(⟨hk,hk.2⟩:_∧k_≠gb209))) (fun _ hk=>hk.2) (.slice none 0 0)) (fun _ hk=>hk.2) (.slice none 0 0)) (fun _ hk=>hk.2) (.slice none 0 0)) (fun _ hk=>hk.2) (.slice Ao8 t206.length co8)) (fun _ hk=>⟨hk.1.1.1.1.1,⟨(by simp [Value.ownBlock]),⟨hk.1.1.2,⟨hk.1.1.1.1.2,⟨hk.1.1.1.2,hk.1.2⟩⟩⟩⟩⟩)⟩,⟨by first|exact Kd.S_nil _ _ _ _ _|exact Kd.N_nil _ _ _ _ _|exact Kd.V_nil _ _ _ _ _|exact Kd.Q_nil _ _ _ _ _|exact Kd.R_nil _ _ _ _ _⟩,⟨by (with_reducible repeat (first|apply Kd.N_alloc|apply Kd.N_drewN|apply Kd.N_drew));exact Kd.N_mono (Kd.N_far (p:=⟨gb209,3,none⟩) (Kd.N_far (p:=⟨gb209,2,none⟩) (Kd.N_far (p:=⟨gb209,1,none⟩) (Kd.N_far (p:=⟨gb209,0,none⟩) (Kd.N_mono HO208.out (fun k_ hk=>(⟨hk,hk.2⟩:_∧k_≠gb209))) (fun _ hk=>hk.2) (.slice none 0 0)) (fun _ hk=>hk.2) (.slice none 0 0)) (fun _ hk=>hk.2) (.slice none 0 0)) (fun _ hk=>hk.2) (.slice Ao8 t206.length co8)) (fun _ hk=>⟨hk.1.1.1,⟨(by simp [Value.ownBlock]),⟨hk.1.1.2.1,⟨hk.1.1.2.2,hk.1.2⟩⟩⟩⟩)⟩,⟨kbc_ BK204.out⟩,⟨kbc_ BK205.out⟩,⟨kbc_ BK209.out⟩,⟨bl_ HB.out⟩⟩
 case round=>
  clear H'
  obtain ⟨x17_1,x210000_1,u210000,rfl,HA,HK1,HO_15,HO_205000,HO_210000,HO_210003,BK204,BK205,BK209,HB⟩:=hrel
  cases gk with
  | zero=>exact absurd HA.out (by simp [helmsmanlaw12_Prog.l0])
  | succ k1=>
   have H:=HA.out
   clear HA
   simp only [helmsmanlaw12_Prog.l0] at H
   by_cases c14:x17_1 < (l0_0.length:Int)
   ·rw [if_pos c14] at H
    have c14b0:=decide_eq_true c14
    clear c14
    revert H
    refine gd_ fun c15 H=>?_
    have c15b0:=decide_eq_true c15
    clear c15
    revert H
    refine gd_ fun c16 H=>?_
    have c16b0:=decide_eq_true c16
    clear c16
    revert H
    refine gd_ fun c17 H=>?_
    have LMc17:=Aside0.mk c17
    clear c17
    obtain ⟨y212,hy212⟩ : ∃ y_:List (S79),y_=(x210000_1++[(⟨(rd_T72 l0_0 x17_1).f0,(rd_T72 l0_0 x17_1).f1⟩:S79)]):=⟨_,rfl⟩
    replace H:(helmsmanlaw12_Prog.l0 k1 l0_0 (l0_0.length:Int) (wrap64 (x17_1+1)) l0_0 l0_1 l0_2 l0_3 y212 t206)=some (r1,r2,r3,r4):=by first|(rw [hy212];with_reducible exact H)|(have H2_:=(Option.bind_some _ _).symm.trans H;rw [hy212];with_reducible exact H2_)|(have H2_:=(Option.bind_some _ _).symm.trans H;with_reducible exact H2_)|with_reducible exact H|(rw [hy212];exact H)|exact H
    have Ny212:=Aside0.mk hy212
    clear hy212
    have H':=Aside0.mk H
    clear H
    have p210:0≤(x17_1:Int):=of_decide_eq_true as_
    have q210:x17_1 < (l0_0.length:Int):=of_decide_eq_true as_
    obtain ⟨ad210,A210_1,c210_1,e210,hx210_0,hx210_1,hl210_1,hi210_1⟩:=at_T72 (Kd.V_reads' HO_15.out).2.2 x17_1 p210 q210
    cases e210
    obtain ⟨ce210,hce210,hMe210,hcc210⟩:=Kd.V_get HO_15.out z72 x17_1 p210 (by first|exact q210|exact of_decide_eq_true as_|(have e_:=(Kd.V_reads' HO_15.out).1;omega))
    obtain ⟨ua210_1,uc210_1,rfl,ul210_1,ge210_1⟩:=k72_openF hMe210
    have hv210_1:=hcc210 1 _ rfl
    rw [add_field _ _ 1 (by omega)] at hv210_1
    replace hv210_1:=Option.some.inj (hv210_1.symm.trans hx210_1)
    injection hv210_1 with hva_ hvn_ hvc_
    rw [hva_] at ge210_1
    rw [hvc_] at ul210_1
    have HL210_1:=Aside0.mk (show Kd.V Kd.string 9 _ w.heap.size _ _ ((rd_T72 l0_0 x17_1).f1) from Kd.V_mk ul210_1 ge210_1)
    clear hva_ hvn_ hvc_ ge210_1 ul210_1
    clear hcc210 hce210
    have HR210_1:=Aside0.mk hi210_1
    have HC210_1:=Aside0.mk hl210_1
    clear hi210_1 hl210_1
    replace p210:=eq_true p210
    replace q210:=eq_true q210
    go_wp2_with (first|((with_reducible refine gate_dst (N:=5) rfl ?_);refine bx_ (N:=5) (cs:=#[.string (⟨#[]⟩:ByteArray),.slice none 0 0]) (t:=72) ?_;intro gb211 hg w18 hbox hb;have n0_:=Aside0.mk (Kd.V_below (Kd.V_elderB (by (with_reducible repeat (first|apply Kd.V_alloc|apply Kd.V_drewN|apply Kd.V_drew));exact HO_15.out) gb211 (Nat.le_of_eq hg.symm)) hb);have n1_:=Aside0.mk (Kd.V_below (Kd.V_elderB (by (with_reducible repeat (first|apply Kd.V_alloc|apply Kd.V_drewN|apply Kd.V_drew));exact HO_205000.out) gb211 (Nat.le_of_eq hg.symm)) hb);have n2_:=Aside0.mk (Kd.N_below (Kd.N_elderB (by (with_reducible repeat (first|apply Kd.N_alloc|apply Kd.N_drewN|apply Kd.N_drew));exact HO_210000.out) gb211 (Nat.le_of_eq hg.symm)) hb);have n3_:=Aside0.mk (Kd.N_below (Kd.N_elderB (by (with_reducible repeat (first|apply Kd.N_alloc|apply Kd.N_drewN|apply Kd.N_drew));exact HO_210003.out) gb211 (Nat.le_of_eq hg.symm)) hb);have n4_:=Aside0.mk (Kd.V_below (Kd.V_elderB (by (with_reducible repeat (first|apply Kd.V_alloc|apply Kd.V_drewN|apply Kd.V_drew));exact HL210_1.out) gb211 (Nat.le_of_eq hg.symm)) hb);have n5_:=Aside0.mk (bb_ BK204.out hb);have n6_:=Aside0.mk (bb_ BK205.out hb);have n7_:=Aside0.mk (bb_ BK209.out hb);have n8_:=Aside0.mk (Kd.C_below (by repeat (first|(with_reducible exact HR210_1.out)|(with_reducible refine Kd.C_alloc ?_ _)|(with_reducible refine Kd.C_drewN ?_ _)|(with_reducible refine Kd.C_drew ?_)|exact HR210_1.out)) hb);have n9_:=Aside0.mk (below_step (bl_ HB.out) hb);have n10_:=Aside0.mk (hbox);have n11_:=Aside0.mk ((gs_ hg (bl_ HB.out):w.heap.size≤gb211));have n12_:=Aside0.mk ((gs_ hg (bl_ HB.out):w.heap.size≤gb211));have n13_:=Aside0.mk ((nl_ hg BK204.out:gb204≠gb211));have n14_:=Aside0.mk ((nr_ hg BK204.out:gb211≠gb204));have n15_:=Aside0.mk ((nl_ hg BK205.out:gb205≠gb211));have n16_:=Aside0.mk ((nr_ hg BK205.out:gb211≠gb205));have n17_:=Aside0.mk ((nl_ hg BK209.out:gb209≠gb211));have n18_:=Aside0.mk ((nr_ hg BK209.out:gb211≠gb209));clear HO_15;clear HO_205000;clear HO_210000;clear HO_210003;clear HL210_1;clear BK204;clear BK205;clear BK209;clear HR210_1;clear HB;have HO_15:=n0_;have HO_205000:=n1_;have HO_210000:=n2_;have HO_210003:=n3_;have HL210_1:=n4_;have BK204:=n5_;have BK205:=n6_;have BK209:=n7_;have HR210_1:=n8_;have HB:=n9_;have BK211:=n10_;have GW211:=n11_;have GE211:=n12_;have NB204_211:=n13_;have NB211_204:=n14_;have NB205_211:=n15_;have NB211_205:=n16_;have NB209_211:=n17_;have NB211_209:=n18_;clear n0_ n1_ n2_ n3_ n4_ n5_ n6_ n7_ n8_ n9_ n10_ n11_ n12_ n13_ n14_ n15_ n16_ n17_ n18_;clear hb hbox hg;have hnb19:=NB211_204.out;have hnc19:=NB204_211.out;have hnb20:=NB211_205.out;have hnc20:=NB205_211.out;have hnb21:=NB211_209.out;have hnc21:=NB209_211.out;obtain ⟨hcz22_0,hcz22_1,hfz22_0,hfz22_1⟩:=zf2_ BK211.out)|((with_reducible refine gate_store (t:=72) (p:=5) rfl ?_);refine store_event (t:=72) (p:=5) (v:=?vo_w23) (w1:=((w18.setCell ⟨gb211,0,none⟩ (.string ((rd_T72 l0_0 x17_1).f0))).setCell ⟨gb211,1,none⟩ (.slice A210_1 ((rd_T72 l0_0 x17_1).f1).length c210_1))) ?hg ?ho ?hn ?hr ?_;(case ho=>rfl);(case hg=>rfl);(case hn=>rfl);(case hr=>first|(go_simp;done)|(go_simp;rfl));intro w23 hw;have n0_:Aside0 (Kd.V k72 72 w23 w.heap.size (fun k_=>(P0_0_ k_∨w.heap.size≤k_)∧some k_≠(u210000:Value).ownBlock∧some k_≠(.slice Ao8 t206.length co8:Value).ownBlock∧k_≠gb204∧k_≠gb205∧k_≠gb209∧k_≠gb211) (.slice (some ad210) l0_0.length c0_0) l0_0):=⟨(by rw [hw];exact (by (with_reducible repeat (first|apply Kd.V_alloc|apply Kd.V_drewN|apply Kd.V_drew));exact Kd.V_mono (Kd.V_far (p:=⟨gb211,1,none⟩) (Kd.V_far (p:=⟨gb211,0,none⟩) (Kd.V_mono HO_15.out (fun k_ hk=>(⟨hk,hk.2⟩:_∧k_≠gb211))) (fun _ hk=>hk.2) (.string ((rd_T72 l0_0 x17_1).f0))) (fun _ hk=>hk.2) (.slice A210_1 ((rd_T72 l0_0 x17_1).f1).length c210_1)) (fun _ hk=>⟨hk.1.1.1,⟨hk.1.1.2.1,⟨hk.1.1.2.2.1,⟨hk.1.1.2.2.2.1,⟨hk.1.1.2.2.2.2.1,⟨hk.1.1.2.2.2.2.2,hk.1.2⟩⟩⟩⟩⟩⟩)))⟩;have n1_:Aside0 (Kd.V k72 72 w23 w.heap.size (fun k_=>(P0_0_ k_∨w.heap.size≤k_)∧some k_≠(u210000:Value).ownBlock∧some k_≠(.slice Ao8 t206.length co8:Value).ownBlock∧k_≠gb204∧k_≠gb205∧k_≠gb209∧k_≠gb211) (.slice (some ad210) l0_0.length c0_0) l0_0):=⟨(by rw [hw];exact (by (with_reducible repeat (first|apply Kd.V_alloc|apply Kd.V_drewN|apply Kd.V_drew));exact Kd.V_mono (Kd.V_far (p:=⟨gb211,1,none⟩) (Kd.V_far (p:=⟨gb211,0,none⟩) (Kd.V_mono HO_205000.out (fun k_ hk=>(⟨hk,hk.2⟩:_∧k_≠gb211))) (fun _ hk=>hk.2) (.string ((rd_T72 l0_0 x17_1).f0))) (fun _ hk=>hk.2) (.slice A210_1 ((rd_T72 l0_0 x17_1).f1).length c210_1)) (fun _ hk=>⟨hk.1.1.1,⟨hk.1.1.2.1,⟨hk.1.1.2.2.1,⟨hk.1.1.2.2.2.1,⟨hk.1.1.2.2.2.2.1,⟨hk.1.1.2.2.2.2.2,hk.1.2⟩⟩⟩⟩⟩⟩)))⟩;have n2_:Aside0 (Kd.N k79 79 w23 w.heap.size (fun k_=>(P0_0_ k_∨w.heap.size≤k_)∧some k_≠(.slice Ao8 t206.length co8:Value).ownBlock∧k_≠gb204∧k_≠gb205∧k_≠gb209∧k_≠gb211) u210000 x210000_1):=⟨(by rw [hw];exact (by (with_reducible repeat (first|apply Kd.N_alloc|apply Kd.N_drewN|apply Kd.N_drew));exact Kd.N_mono (Kd.N_far (p:=⟨gb211,1,none⟩) (Kd.N_far (p:=⟨gb211,0,none⟩) (Kd.N_mono HO_210000.out (fun k_ hk=>(⟨hk,hk.2⟩:_∧k_≠gb211))) (fun _ hk=>hk.2) (.string ((rd_T72 l0_0 x17_1).f0))) (fun _ hk=>hk.2) (.slice A210_1 ((rd_T72 l0_0 x17_1).f1).length c210_1)) (fun _ hk=>⟨hk.1.1.1,⟨hk.1.1.2.1,⟨hk.1.1.2.2.1,⟨hk.1.1.2.2.2.1,⟨hk.1.1.2.2.2.2,hk.1.2⟩⟩⟩⟩⟩)))⟩;have n3_:Aside0 (Kd.N k76 76 w23 w.heap.size (fun k_=>(P0_0_ k_∨w.heap.size≤k_)∧some k_≠(u210000:Value).ownBlock∧k_≠gb204∧k_≠gb205∧k_≠gb209∧k_≠gb211) (.slice Ao8 t206.length co8) t206):=⟨(by rw [hw];exact (by (with_reducible repeat (first|apply Kd.N_alloc|apply Kd.N_drewN|apply Kd.N_drew));exact Kd.N_mono (Kd.N_far (p:=⟨gb211,1,none⟩) (Kd.N_far (p:=⟨gb211,0,none⟩) (Kd.N_mono HO_210003.out (fun k_ hk=>(⟨hk,hk.2⟩:_∧k_≠gb211))) (fun _ hk=>hk.2) (.string ((rd_T72 l0_0 x17_1).f0))) (fun _ hk=>hk.2) (.slice A210_1 ((rd_T72 l0_0 x17_1).f1).length c210_1)) (fun _ hk=>⟨hk.1.1.1,⟨hk.1.1.2.1,⟨hk.1.1.2.2.1,⟨hk.1.1.2.2.2.1,⟨hk.1.1.2.2.2.2,hk.1.2⟩⟩⟩⟩⟩)))⟩;have n4_:Aside0 (Kd.V Kd.string 9 w23 w.heap.size (fun k_=>(P0_0_ k_∨w.heap.size≤k_)∧some k_≠(u210000:Value).ownBlock∧some k_≠(.slice Ao8 t206.length co8:Value).ownBlock∧k_≠gb204∧k_≠gb205∧k_≠gb209∧k_≠gb211) (.slice A210_1 ((rd_T72 l0_0 x17_1).f1).length c210_1) ((rd_T72 l0_0 x17_1).f1)):=⟨(by rw [hw];exact (by (with_reducible repeat (first|apply Kd.V_alloc|apply Kd.V_drewN|apply Kd.V_drew));exact Kd.V_mono (Kd.V_far (p:=⟨gb211,1,none⟩) (Kd.V_far (p:=⟨gb211,0,none⟩) (Kd.V_mono HL210_1.out (fun k_ hk=>(⟨hk,hk.2⟩:_∧k_≠gb211))) (fun _ hk=>hk.2) (.string ((rd_T72 l0_0 x17_1).f0))) (fun _ hk=>hk.2) (.slice A210_1 ((rd_T72 l0_0 x17_1).f1).length c210_1)) (fun _ hk=>⟨hk.1.1.1,⟨hk.1.1.2.1,⟨hk.1.1.2.2.1,⟨hk.1.1.2.2.2.1,⟨hk.1.1.2.2.2.2.1,⟨hk.1.1.2.2.2.2.2,hk.1.2⟩⟩⟩⟩⟩⟩)))⟩;have n5_:Aside0 (w23.heap[gb204]?=some (.cells #[.slice (some ad210) l0_0.length c0_0,.slice A0_1 l0_1.length c0_1,.slice A0_2 l0_2.length c0_2,.slice A0_3 l0_3.length c0_3] 43 (0,0))):=⟨(by rw [hw];exact (kbc_ BK204.out))⟩;have n6_:Aside0 (w23.heap[gb205]?=some (.cells #[.slice none 0 0,.slice none 0 0,.slice none 0 0,.slice none 0 0] 50 (0,0))):=⟨(by rw [hw];exact (kbc_ BK205.out))⟩;have n7_:Aside0 (w23.heap[gb209]?=some (.cells #[u210000,.slice none 0 0,.slice none 0 0,.slice Ao8 t206.length co8] 50 (0,0))):=⟨(by rw [hw];exact (kbc_ BK209.out))⟩;have n8_:Aside0 (w23.heap[gb211]?=some (.cells #[.string ((rd_T72 l0_0 x17_1).f0),.slice A210_1 ((rd_T72 l0_0 x17_1).f1).length c210_1] 72 (0,0))):=⟨(by rw [hw];exact (kbc_ BK211.out))⟩;have n9_:Aside0 (Below w.heap.size w w23):=⟨(by rw [hw];exact (bl_ HB.out))⟩;clear hw;clear HO_15;clear HO_205000;clear HO_210000;clear HO_210003;clear HL210_1;clear BK204;clear BK205;clear BK209;clear BK211;clear HB;have HO_15:=n0_;have HO_205000:=n1_;have HO_210000:=n2_;have HO_210003:=n3_;have HL210_1:=n4_;have BK204:=n5_;have BK205:=n6_;have BK209:=n7_;have BK211:=n8_;have HB:=n9_;clear n0_ n1_ n2_ n3_ n4_ n5_ n6_ n7_ n8_ n9_;have hnb24:=NB209_204.out;have hnc24:=NB204_209.out;have hnb25:=NB209_205.out;have hnc25:=NB205_209.out;obtain ⟨hcz26_0,hcz26_1,hcz26_2,hcz26_3,hfz26_0,hfz26_1,hfz26_2,hfz26_3⟩:=zf4_ BK209.out;obtain ⟨hcz27_0,hcz27_1,hfz27_0,hfz27_1⟩:=zf2_ BK211.out)|((with_reducible refine gate_builtin (b:=.append) (xs:=#[.tmp 22,.tmp 28]) rfl ?_);at_builtin;refine Kd.N_append k79 (w0:=w) w.heap.size rfl (.tmp 22) (.tmp 28) 45 79 (.agg #[(.string ⟨#[]⟩),(.slice none 0 0)]) 40 rfl Tryd.underlying45 info79 rfl (by decide) (by omega) u210000 x210000_1 (⟨(rd_T72 l0_0 x17_1).f0,(rd_T72 l0_0 x17_1).f1⟩:S79) [.string ((rd_T72 l0_0 x17_1).f0),.slice A210_1 ((rd_T72 l0_0 x17_1).f1).length c210_1] (fun k_=>(P0_0_ k_∨w.heap.size≤k_)∧some k_≠(.slice Ao8 t206.length co8:Value).ownBlock∧k_≠gb204∧k_≠gb205∧k_≠gb209∧k_≠gb211) (fun k_=>((fun k_=>(P0_0_ k_∨w.heap.size≤k_)∧some k_≠(.slice Ao8 t206.length co8:Value).ownBlock∧k_≠gb204∧k_≠gb205∧k_≠gb209∧k_≠gb211)) k_∧some k_≠(u210000:Value).ownBlock) rfl rfl ?aP (fun _ hk=>hk) ?aF ?aO ?aB ?aS ?aL ?_;(case aP=>exact (k79_mkF _ _ (⟨(rd_T72 l0_0 x17_1).f0,(rd_T72 l0_0 x17_1).f1⟩:S79) (Kd.V_reads' (Kd.V_mono (ok':=(fun k_=>((fun k_=>(P0_0_ k_∨w.heap.size≤k_)∧some k_≠(.slice Ao8 t206.length co8:Value).ownBlock∧k_≠gb204∧k_≠gb205∧k_≠gb209∧k_≠gb211)) k_∧some k_≠(u210000:Value).ownBlock)) (HL210_1.out) (fun k_ hk=>⟨⟨hk.1,⟨hk.2.2.1,⟨hk.2.2.2.1,⟨hk.2.2.2.2.1,⟨hk.2.2.2.2.2.1,hk.2.2.2.2.2.2⟩⟩⟩⟩⟩,hk.2.1⟩))).2.1 (Kd.V_F (Kd.V_mono (ok':=(fun k_=>((fun k_=>(P0_0_ k_∨w.heap.size≤k_)∧some k_≠(.slice Ao8 t206.length co8:Value).ownBlock∧k_≠gb204∧k_≠gb205∧k_≠gb209∧k_≠gb211)) k_∧some k_≠(u210000:Value).ownBlock)) (HL210_1.out) (fun k_ hk=>⟨⟨hk.1,⟨hk.2.2.1,⟨hk.2.2.2.1,⟨hk.2.2.2.2.1,⟨hk.2.2.2.2.2.1,hk.2.2.2.2.2.2⟩⟩⟩⟩⟩,hk.2.1⟩)))));(case aB=>exact (bl_ HB.out));(case aF=>exact (fun k_ hk=>⟨(.inr (Nat.le_trans (below_size (bl_ HB.out)) hk)),Kd.fresh' (Kd.N_lt (by (with_reducible repeat (first|apply Kd.N_alloc|apply Kd.N_drewN|apply Kd.N_drew));exact HO_210003.out)) k_ hk,Kd.freshB (g:=gb204) (o:=.cells #[.slice (some ad210) l0_0.length c0_0,.slice A0_1 l0_1.length c0_1,.slice A0_2 l0_2.length c0_2,.slice A0_3 l0_3.length c0_3] 43 (0,0)) (kb_ BK204.out) k_ hk,Kd.freshB (g:=gb205) (o:=.cells #[.slice none 0 0,.slice none 0 0,.slice none 0 0,.slice none 0 0] 50 (0,0)) (kb_ BK205.out) k_ hk,Kd.freshB (g:=gb209) (o:=.cells #[u210000,.slice none 0 0,.slice none 0 0,.slice Ao8 t206.length co8] 50 (0,0)) (kb_ BK209.out) k_ hk,Kd.freshB (g:=gb211) (o:=.cells #[.string ((rd_T72 l0_0 x17_1).f0),.slice A210_1 ((rd_T72 l0_0 x17_1).f1).length c210_1] 72 (0,0)) (kb_ BK211.out) k_ hk⟩));(case aO=>exact (by (with_reducible repeat (first|apply Kd.N_alloc|apply Kd.N_drewN|apply Kd.N_drew));exact HO_210000.out));(case aS=>exact (below_size (bl_ HB.out)));(case aL=>have:=LMc17.out;omega);intro v213 w28 ho hb hg hat;rw [← Ny212.out] at ho;have n0_:=Aside0.mk (Kd.V_afterv (ok:=(fun k_=>(P0_0_ k_∨w.heap.size≤k_)∧some k_≠(.slice Ao8 t206.length co8:Value).ownBlock∧k_≠gb204∧k_≠gb205∧k_≠gb209∧k_≠gb211)) (by (with_reducible repeat (first|apply Kd.V_alloc|apply Kd.V_drewN|apply Kd.V_drew));exact Kd.V_mono HO_15.out (fun _ hk=>⟨⟨hk.1,⟨hk.2.2.1,⟨hk.2.2.2.1,⟨hk.2.2.2.2.1,⟨hk.2.2.2.2.2.1,hk.2.2.2.2.2.2⟩⟩⟩⟩⟩,hk.2.1⟩)) hg hat);have n1_:=Aside0.mk (Kd.V_afterv (ok:=(fun k_=>(P0_0_ k_∨w.heap.size≤k_)∧some k_≠(.slice Ao8 t206.length co8:Value).ownBlock∧k_≠gb204∧k_≠gb205∧k_≠gb209∧k_≠gb211)) (by (with_reducible repeat (first|apply Kd.V_alloc|apply Kd.V_drewN|apply Kd.V_drew));exact Kd.V_mono HO_205000.out (fun _ hk=>⟨⟨hk.1,⟨hk.2.2.1,⟨hk.2.2.2.1,⟨hk.2.2.2.2.1,⟨hk.2.2.2.2.2.1,hk.2.2.2.2.2.2⟩⟩⟩⟩⟩,hk.2.1⟩)) hg hat);have n2_:=Aside0.mk (Kd.N_afterv (ok:=(fun k_=>(P0_0_ k_∨w.heap.size≤k_)∧k_≠gb204∧k_≠gb205∧k_≠gb209∧k_≠gb211)) (by (with_reducible repeat (first|apply Kd.N_alloc|apply Kd.N_drewN|apply Kd.N_drew));exact Kd.N_mono HO_210003.out (fun _ hk=>⟨⟨hk.1,⟨hk.2.2.1,⟨hk.2.2.2.1,⟨hk.2.2.2.2.1,hk.2.2.2.2.2⟩⟩⟩⟩,hk.2.1⟩)) hg hat);have n3_:=Aside0.mk (bg_ BK204.out hg (Kd.N_ne HO_210000.out BK204.out (by decide)));have n4_:=Aside0.mk (bg_ BK205.out hg (Kd.N_ne HO_210000.out BK205.out (by decide)));have n5_:=Aside0.mk (bg_ BK209.out hg (Kd.N_ne HO_210000.out BK209.out (by decide)));have n6_:=Aside0.mk (Kd.V_afterv (ok:=(fun k_=>(P0_0_ k_∨w.heap.size≤k_)∧some k_≠(.slice Ao8 t206.length co8:Value).ownBlock∧k_≠gb204∧k_≠gb205∧k_≠gb209∧k_≠gb211)) (by (with_reducible repeat (first|apply Kd.V_alloc|apply Kd.V_drewN|apply Kd.V_drew));exact Kd.V_mono HL210_1.out (fun _ hk=>⟨⟨hk.1,⟨hk.2.2.1,⟨hk.2.2.2.1,⟨hk.2.2.2.2.1,⟨hk.2.2.2.2.2.1,hk.2.2.2.2.2.2⟩⟩⟩⟩⟩,hk.2.1⟩)) hg hat);have n7_:=Aside0.mk (bg_ BK211.out hg (Kd.N_ne HO_210000.out BK211.out (by decide)));have n8_:=Aside0.mk (hb);have n9_:=Aside0.mk (ho);clear HO_15;clear HO_205000;clear HO_210003;clear BK204;clear BK205;clear BK209;clear HL210_1;clear BK211;clear HB;clear HO_210000;have HO_15:=n0_;have HO_205000:=n1_;have HO_210003:=n2_;have BK204:=n3_;have BK205:=n4_;have BK209:=n5_;have HL210_1:=n6_;have BK211:=n7_;have HB:=n8_;have HO214:=n9_;clear n0_ n1_ n2_ n3_ n4_ n5_ n6_ n7_ n8_ n9_;clear ho hb hg hat;obtain ⟨Ao29,co29,eo29⟩:=Kd.N_slice HO214.out;subst eo29;obtain ⟨hcz30_0,hcz30_1,hcz30_2,hcz30_3,hfz30_0,hfz30_1,hfz30_2,hfz30_3⟩:=zf4_ BK209.out))
    go_roundg k1
    case measure=>have:=HK1.out;omega
    case rel=>exact ⟨(wrap64 (x17_1+1)),(y212),(.slice Ao29 y212.length co29),rf_,H',⟨by have:=HK1.out;omega⟩,⟨by (with_reducible repeat (first|apply Kd.V_alloc|apply Kd.V_drewN|apply Kd.V_drew));exact Kd.V_mono (Kd.V_far (p:=⟨gb209,0,none⟩) (Kd.V_mono HO_15.out (fun k_ hk=>(⟨hk,hk.1.2.2.2.2.1⟩:_∧k_≠gb209))) (fun _ hk=>hk.2) (.slice Ao29 y212.length co29)) (fun _ hk=>⟨hk.1.1.1,⟨hk.1.2,⟨hk.1.1.2.1,⟨hk.1.1.2.2.1,⟨hk.1.1.2.2.2.1,hk.1.1.2.2.2.2.1⟩⟩⟩⟩⟩)⟩,⟨by (with_reducible repeat (first|apply Kd.V_alloc|apply Kd.V_drewN|apply Kd.V_drew));exact Kd.V_mono (Kd.V_far (p:=⟨gb209,0,none⟩) (Kd.V_mono HO_205000.out (fun k_ hk=>(⟨hk,hk.1.2.2.2.2.1⟩:_∧k_≠gb209))) (fun _ hk=>hk.2) (.slice Ao29 y212.length co29)) (fun _ hk=>⟨hk.1.1.1,⟨hk.1.2,⟨hk.1.1.2.1,⟨hk.1.1.2.2.1,⟨hk.1.1.2.2.2.1,hk.1.1.2.2.2.2.1⟩⟩⟩⟩⟩)⟩,⟨by (with_reducible repeat (first|apply Kd.N_alloc|apply Kd.N_drewN|apply Kd.N_drew));exact Kd.N_mono (Kd.N_far (p:=⟨gb209,0,none⟩) (Kd.N_mono HO214.out (fun k_ hk=>(⟨hk,hk.2.2.2.2.1⟩:_∧k_≠gb209))) (fun _ hk=>hk.2) (.slice Ao29 y212.length co29)) (fun _ hk=>⟨hk.1.1,⟨hk.1.2.1,⟨hk.1.2.2.1,⟨hk.1.2.2.2.1,hk.1.2.2.2.2.1⟩⟩⟩⟩)⟩,⟨by (with_reducible repeat (first|apply Kd.N_alloc|apply Kd.N_drewN|apply Kd.N_drew));exact Kd.N_mono (Kd.N_far (p:=⟨gb209,0,none⟩) (Kd.N_mono HO_210003.out (fun k_ hk=>(⟨hk,hk.1.2.2.2.1⟩:_∧k_≠gb209))) (fun _ hk=>hk.2) (.slice Ao29 y212.length co29)) (fun _ hk=>⟨hk.1.1.1,⟨hk.1.2,⟨hk.1.1.2.1,⟨hk.1.1.2.2.1,hk.1.1.2.2.2.1⟩⟩⟩⟩)⟩,⟨kbc_ BK204.out⟩,⟨kbc_ BK205.out⟩,⟨kbc_ BK209.out⟩,⟨bl_ HB.out⟩⟩
   ·rw [if_neg c14] at H
    have c14b0:=decide_eq_false c14
    clear c14
    have H':=Aside0.mk H
    clear H
    have hnb31:=NB204_205.out
    have hnc31:=NB205_204.out
    have hnb32:=NB204_209.out
    have hnc32:=NB209_204.out
    obtain ⟨hcz33_0,hcz33_1,hcz33_2,hcz33_3,hfz33_0,hfz33_1,hfz33_2,hfz33_3⟩:=zf4_ BK204.out
    go_wp2
    (try simp only [Act.put,List.setIfInBounds_toArray,List.set_cons_succ,List.set_cons_zero])
    go_loopg [35] k1 (fun kq v35 w'=>∃ (x35_2:Int) (x210001_2:List (S80)) (u210001:Value),v35=.int .i64 x35_2∧Aside0 (helmsmanlaw12_Prog.l1 kq l0_1 (l0_1.length:Int) x35_2 l0_0 l0_1 l0_2 l0_3 x210000_1 x210001_2 t206=some (r1,r2,r3,r4))∧Aside0 (kq≤k1)∧Aside0 (Kd.V k72 72 w' w.heap.size (fun k_=>(P0_0_ k_∨w.heap.size≤k_)∧some k_≠(u210000:Value).ownBlock∧some k_≠(u210001:Value).ownBlock∧some k_≠((.slice Ao8 t206.length co8):Value).ownBlock∧k_≠gb204∧k_≠gb205∧k_≠gb209) (.slice A0_0 l0_0.length c0_0) l0_0)∧Aside0 (Kd.N k79 79 w' w.heap.size (fun k_=>(P0_0_ k_∨w.heap.size≤k_)∧some k_≠(u210001:Value).ownBlock∧some k_≠((.slice Ao8 t206.length co8):Value).ownBlock∧k_≠gb204∧k_≠gb205∧k_≠gb209) u210000 x210000_1)∧Aside0 (Kd.R k80 80 w' w.heap.size (fun k_=>(w.heap.size≤k_)) u210001 x210001_2)∧Aside0 (Kd.N k76 76 w' w.heap.size (fun k_=>(P0_0_ k_∨w.heap.size≤k_)∧some k_≠(u210000:Value).ownBlock∧some k_≠(u210001:Value).ownBlock∧k_≠gb204∧k_≠gb205∧k_≠gb209) (.slice Ao8 t206.length co8) t206)∧Aside0 (w'.heap[gb204]?=some (.cells #[(.slice A0_0 l0_0.length c0_0),(.slice A0_1 l0_1.length c0_1),(.slice A0_2 l0_2.length c0_2),(.slice A0_3 l0_3.length c0_3)] 43 (0,0)))∧Aside0 (w'.heap[gb205]?=some (.cells #[(.slice none 0 0),(.slice none 0 0),(.slice none 0 0),(.slice none 0 0)] 50 (0,0)))∧Aside0 (w'.heap[gb209]?=some (.cells #[u210000,u210001,(.slice none 0 0),(.slice Ao8 t206.length co8)] 50 (0,0)))∧Aside0 (Below w.heap.size w w'))
    case atStart=>exact ⟨(0),(([]:List (S80))),(.slice none 0 0),rf_,H',⟨Nat.le_refl _⟩,⟨by (with_reducible repeat (first|apply Kd.V_alloc|apply Kd.V_drewN|apply Kd.V_drew));exact Kd.V_mono HO_205000.out (fun _ hk=>⟨hk.1,⟨hk.2.1,⟨(by simp [Value.ownBlock]),⟨hk.2.2.1,⟨hk.2.2.2.1,⟨hk.2.2.2.2.1,hk.2.2.2.2.2⟩⟩⟩⟩⟩⟩)⟩,⟨by (with_reducible repeat (first|apply Kd.N_alloc|apply Kd.N_drewN|apply Kd.N_drew));exact Kd.N_mono HO_210000.out (fun _ hk=>⟨hk.1,⟨(by simp [Value.ownBlock]),⟨hk.2.1,⟨hk.2.2.1,⟨hk.2.2.2.1,hk.2.2.2.2⟩⟩⟩⟩⟩)⟩,⟨by first|exact Kd.R_nil _ _ _ _ _|exact Kd.N_nil _ _ _ _ _|exact Kd.V_nil _ _ _ _ _|exact Kd.Q_nil _ _ _ _ _|exact Kd.S_nil _ _ _ _ _⟩,⟨by (with_reducible repeat (first|apply Kd.N_alloc|apply Kd.N_drewN|apply Kd.N_drew));exact Kd.N_mono HO_210003.out (fun _ hk=>⟨hk.1,⟨hk.2.1,⟨(by simp [Value.ownBlock]),⟨hk.2.2.1,⟨hk.2.2.2.1,hk.2.2.2.2⟩⟩⟩⟩⟩)⟩,⟨kb_ BK204.out⟩,⟨kb_ BK205.out⟩,⟨kb_ BK209.out⟩,⟨bl_ HB.out⟩⟩
    case round=>
     clear H'
     obtain ⟨x35_2,x210001_2,u210001,rfl,HA,HK2,HO_205000,HO_210000,HO_210001,HO_210003,BK204,BK205,BK209,HB⟩:=hrel
     cases gk with
     | zero=>exact absurd HA.out (by simp [helmsmanlaw12_Prog.l1])
     | succ k2=>
      have H:=HA.out
      clear HA
      simp only [helmsmanlaw12_Prog.l1] at H
      by_cases c34:x35_2 < (l0_1.length:Int)
      ·rw [if_pos c34] at H
       have c34b0:=decide_eq_true c34
       clear c34
       revert H
       refine gd_ fun c35 H=>?_
       have c35b0:=decide_eq_true c35
       clear c35
       revert H
       refine gd_ fun c36 H=>?_
       have c36b0:=decide_eq_true c36
       clear c36
       revert H
       refine gd_ fun c37 H=>?_
       have LMc37:=Aside0.mk c37
       clear c37
       obtain ⟨y217,hy217⟩ : ∃ y_:List (S80),y_=(x210001_2++[(⟨(rd_T56 l0_1 x35_2).f0,(rd_T56 l0_1 x35_2).f1,(rd_T56 l0_1 x35_2).f2⟩:S80)]):=⟨_,rfl⟩
       replace H:(helmsmanlaw12_Prog.l1 k2 l0_1 (l0_1.length:Int) (wrap64 (x35_2+1)) l0_0 l0_1 l0_2 l0_3 x210000_1 y217 t206)=some (r1,r2,r3,r4):=by first|(rw [hy217];with_reducible exact H)|(have H2_:=(Option.bind_some _ _).symm.trans H;rw [hy217];with_reducible exact H2_)|(have H2_:=(Option.bind_some _ _).symm.trans H;with_reducible exact H2_)|with_reducible exact H|(rw [hy217];exact H)|exact H
       have Ny217:=Aside0.mk hy217
       clear hy217
       have H':=Aside0.mk H
       clear H
       have p215:0≤(x35_2:Int):=of_decide_eq_true as_
       have q215:x35_2 < (l0_1.length:Int):=of_decide_eq_true as_
       obtain ⟨ad215,e215,hx215_0,hx215_1,hx215_2⟩:=at_T56 HR0_1.out x35_2 p215 q215
       cases e215
       replace hx215_0:=(cb_ HB.out hx215_0:_)
       replace hx215_1:=(cb_ HB.out hx215_1:_)
       replace hx215_2:=(cb_ HB.out hx215_2:_)
       replace p215:=eq_true p215
       replace q215:=eq_true q215
       go_wp2_with (first|((with_reducible refine gate_dst (N:=7) rfl ?_);refine bx_ (N:=7) (cs:=#[.string (⟨#[]⟩:ByteArray),.string (⟨#[]⟩:ByteArray),.int .i64 0]) (t:=56) ?_;intro gb216 hg w38 hbox hb;have n0_:=Aside0.mk (Kd.V_below (Kd.V_elderB (by (with_reducible repeat (first|apply Kd.V_alloc|apply Kd.V_drewN|apply Kd.V_drew));exact HO_205000.out) gb216 (Nat.le_of_eq hg.symm)) hb);have n1_:=Aside0.mk (Kd.N_below (Kd.N_elderB (by (with_reducible repeat (first|apply Kd.N_alloc|apply Kd.N_drewN|apply Kd.N_drew));exact HO_210000.out) gb216 (Nat.le_of_eq hg.symm)) hb);have n2_:=Aside0.mk (Kd.R_below (by (with_reducible repeat (first|apply Kd.R_alloc|apply Kd.R_drewN|apply Kd.R_drew));exact HO_210001.out) hb);have n3_:=Aside0.mk (Kd.N_below (Kd.N_elderB (by (with_reducible repeat (first|apply Kd.N_alloc|apply Kd.N_drewN|apply Kd.N_drew));exact HO_210003.out) gb216 (Nat.le_of_eq hg.symm)) hb);have n4_:=Aside0.mk (bb_ BK204.out hb);have n5_:=Aside0.mk (bb_ BK205.out hb);have n6_:=Aside0.mk (bb_ BK209.out hb);have n7_:=Aside0.mk (below_step (bl_ HB.out) hb);have n8_:=Aside0.mk (hbox);have n9_:=Aside0.mk ((gs_ hg (bl_ HB.out):w.heap.size≤gb216));have n10_:=Aside0.mk ((gs_ hg (bl_ HB.out):w.heap.size≤gb216));have n11_:=Aside0.mk ((nl_ hg BK204.out:gb204≠gb216));have n12_:=Aside0.mk ((nr_ hg BK204.out:gb216≠gb204));have n13_:=Aside0.mk ((nl_ hg BK205.out:gb205≠gb216));have n14_:=Aside0.mk ((nr_ hg BK205.out:gb216≠gb205));have n15_:=Aside0.mk ((nl_ hg BK209.out:gb209≠gb216));have n16_:=Aside0.mk ((nr_ hg BK209.out:gb216≠gb209));clear HO_205000;clear HO_210000;clear HO_210001;clear HO_210003;clear BK204;clear BK205;clear BK209;clear HB;have HO_205000:=n0_;have HO_210000:=n1_;have HO_210001:=n2_;have HO_210003:=n3_;have BK204:=n4_;have BK205:=n5_;have BK209:=n6_;have HB:=n7_;have BK216:=n8_;have GW216:=n9_;have GE216:=n10_;have NB204_216:=n11_;have NB216_204:=n12_;have NB205_216:=n13_;have NB216_205:=n14_;have NB209_216:=n15_;have NB216_209:=n16_;clear n0_ n1_ n2_ n3_ n4_ n5_ n6_ n7_ n8_ n9_ n10_ n11_ n12_ n13_ n14_ n15_ n16_;clear hb hbox hg;have hnb39:=NB216_204.out;have hnc39:=NB204_216.out;have hnb40:=NB216_205.out;have hnc40:=NB205_216.out;have hnb41:=NB216_209.out;have hnc41:=NB209_216.out;obtain ⟨hcz42_0,hcz42_1,hcz42_2,hfz42_0,hfz42_1,hfz42_2⟩:=zf3_ BK216.out;have hnb43:=NB209_204.out;have hnc43:=NB204_209.out;have hnb44:=NB209_205.out;have hnc44:=NB205_209.out;obtain ⟨hcz45_0,hcz45_1,hcz45_2,hcz45_3,hfz45_0,hfz45_1,hfz45_2,hfz45_3⟩:=zf4_ BK209.out)|((with_reducible refine gate_builtin (b:=.append) (xs:=#[.tmp 40,.tmp 42]) rfl ?_);at_builtin;refine Kd.R_append k80 (w0:=w) w.heap.size rfl (.tmp 40) (.tmp 42) 46 80 (.agg #[(.string ⟨#[]⟩),(.string ⟨#[]⟩),(.int .i64 0)]) 40 rfl Tryd.underlying46 info80 rfl (by decide) (by omega) u210001 x210001_2 (⟨(rd_T56 l0_1 x35_2).f0,(rd_T56 l0_1 x35_2).f1,(rd_T56 l0_1 x35_2).f2⟩:S80) [.string ((rd_T56 l0_1 x35_2).f0),.string ((rd_T56 l0_1 x35_2).f1),.int .i64 ((rd_T56 l0_1 x35_2).f2)] (fun k_=>(w.heap.size≤k_)) (fun _=>False) rfl (by first|(go_simp;done)|(go_simp;rfl)) ?aP (fun _ hk=>hk.elim) ?aF ?aO ?aB ?aS ?aL ?_;(case aP=>exact k80_mkM _ _ _ (⟨(rd_T56 l0_1 x35_2).f0,(rd_T56 l0_1 x35_2).f1,(rd_T56 l0_1 x35_2).f2⟩:S80));(case aB=>exact (bl_ HB.out));(case aF=>exact (fun k_ hk=>(Nat.le_trans (below_size (bl_ HB.out)) hk)));(case aO=>exact (by (with_reducible repeat (first|apply Kd.R_alloc|apply Kd.R_drewN|apply Kd.R_drew));exact Kd.R_mono (Kd.R_far (p:=⟨gb216,2,none⟩) (Kd.R_far (p:=⟨gb216,1,none⟩) (Kd.R_far (p:=⟨gb216,0,none⟩) (Kd.R_types HO_210001.out BK216.out (by decide)) (fun _ hk=>hk.2) (.string ((rd_T56 l0_1 x35_2).f0))) (fun _ hk=>hk.2) (.string ((rd_T56 l0_1 x35_2).f1))) (fun _ hk=>hk.2) (.int .i64 ((rd_T56 l0_1 x35_2).f2))) (fun _ hk=>hk.1)));(case aS=>exact (below_size (bl_ HB.out)));(case aL=>have:=LMc37.out;omega);intro v218 w46 ho hb hg hat;rw [← Ny217.out] at ho;have n0_:=Aside0.mk (Kd.V_afterv (ok:=(fun k_=>(P0_0_ k_∨w.heap.size≤k_)∧some k_≠(u210000:Value).ownBlock∧some k_≠(.slice Ao8 t206.length co8:Value).ownBlock∧k_≠gb204∧k_≠gb205∧k_≠gb209∧k_≠gb216)) (by (with_reducible repeat (first|apply Kd.V_alloc|apply Kd.V_drewN|apply Kd.V_drew));exact Kd.V_mono (Kd.V_far (p:=⟨gb216,2,none⟩) (Kd.V_far (p:=⟨gb216,1,none⟩) (Kd.V_far (p:=⟨gb216,0,none⟩) (Kd.V_mono HO_205000.out (fun k_ hk=>(⟨hk,hk.2⟩:_∧k_≠gb216))) (fun _ hk=>hk.2) (.string ((rd_T56 l0_1 x35_2).f0))) (fun _ hk=>hk.2) (.string ((rd_T56 l0_1 x35_2).f1))) (fun _ hk=>hk.2) (.int .i64 ((rd_T56 l0_1 x35_2).f2))) (fun _ hk=>⟨⟨hk.1.1.1,⟨hk.1.1.2.1,⟨hk.1.1.2.2.2.1,⟨hk.1.1.2.2.2.2.1,⟨hk.1.1.2.2.2.2.2.1,⟨hk.1.1.2.2.2.2.2.2,hk.1.2⟩⟩⟩⟩⟩⟩,hk.1.1.2.2.1⟩)) hg hat);have n1_:=Aside0.mk (Kd.N_afterv (ok:=(fun k_=>(P0_0_ k_∨w.heap.size≤k_)∧some k_≠(.slice Ao8 t206.length co8:Value).ownBlock∧k_≠gb204∧k_≠gb205∧k_≠gb209∧k_≠gb216)) (by (with_reducible repeat (first|apply Kd.N_alloc|apply Kd.N_drewN|apply Kd.N_drew));exact Kd.N_mono (Kd.N_far (p:=⟨gb216,2,none⟩) (Kd.N_far (p:=⟨gb216,1,none⟩) (Kd.N_far (p:=⟨gb216,0,none⟩) (Kd.N_mono HO_210000.out (fun k_ hk=>(⟨hk,hk.2⟩:_∧k_≠gb216))) (fun _ hk=>hk.2) (.string ((rd_T56 l0_1 x35_2).f0))) (fun _ hk=>hk.2) (.string ((rd_T56 l0_1 x35_2).f1))) (fun _ hk=>hk.2) (.int .i64 ((rd_T56 l0_1 x35_2).f2))) (fun _ hk=>⟨⟨hk.1.1.1,⟨hk.1.1.2.2.1,⟨hk.1.1.2.2.2.1,⟨hk.1.1.2.2.2.2.1,⟨hk.1.1.2.2.2.2.2,hk.1.2⟩⟩⟩⟩⟩,hk.1.1.2.1⟩)) hg hat);have n2_:=Aside0.mk (Kd.N_afterv (ok:=(fun k_=>(P0_0_ k_∨w.heap.size≤k_)∧some k_≠(u210000:Value).ownBlock∧k_≠gb204∧k_≠gb205∧k_≠gb209∧k_≠gb216)) (by (with_reducible repeat (first|apply Kd.N_alloc|apply Kd.N_drewN|apply Kd.N_drew));exact Kd.N_mono (Kd.N_far (p:=⟨gb216,2,none⟩) (Kd.N_far (p:=⟨gb216,1,none⟩) (Kd.N_far (p:=⟨gb216,0,none⟩) (Kd.N_mono HO_210003.out (fun k_ hk=>(⟨hk,hk.2⟩:_∧k_≠gb216))) (fun _ hk=>hk.2) (.string ((rd_T56 l0_1 x35_2).f0))) (fun _ hk=>hk.2) (.string ((rd_T56 l0_1 x35_2).f1))) (fun _ hk=>hk.2) (.int .i64 ((rd_T56 l0_1 x35_2).f2))) (fun _ hk=>⟨⟨hk.1.1.1,⟨hk.1.1.2.1,⟨hk.1.1.2.2.2.1,⟨hk.1.1.2.2.2.2.1,⟨hk.1.1.2.2.2.2.2,hk.1.2⟩⟩⟩⟩⟩,hk.1.1.2.2.1⟩)) hg hat);have n3_:=Aside0.mk (blk_grown (g:=gb204) (o:=.cells #[.slice A0_0 l0_0.length c0_0,.slice (some ad215) l0_1.length c0_1,.slice A0_2 l0_2.length c0_2,.slice A0_3 l0_3.length c0_3] 43 (0,0)) (kbc_ BK204.out) hg (Kd.R_ne HO_210001.out BK204.out (by decide)));have n4_:=Aside0.mk (blk_grown (g:=gb205) (o:=.cells #[.slice none 0 0,.slice none 0 0,.slice none 0 0,.slice none 0 0] 50 (0,0)) (kbc_ BK205.out) hg (Kd.R_ne HO_210001.out BK205.out (by decide)));have n5_:=Aside0.mk (blk_grown (g:=gb209) (o:=.cells #[u210000,u210001,.slice none 0 0,.slice Ao8 t206.length co8] 50 (0,0)) (kbc_ BK209.out) hg (Kd.R_ne HO_210001.out BK209.out (by decide)));have n6_:=Aside0.mk (blk_grown (g:=gb216) (o:=.cells #[.string ((rd_T56 l0_1 x35_2).f0),.string ((rd_T56 l0_1 x35_2).f1),.int .i64 ((rd_T56 l0_1 x35_2).f2)] 56 (0,0)) (kbc_ BK216.out) hg (Kd.R_ne HO_210001.out BK216.out (by decide)));have n7_:=Aside0.mk (hb);have n8_:=Aside0.mk (ho);clear HO_205000;clear HO_210000;clear HO_210003;clear BK204;clear BK205;clear BK209;clear BK216;clear HB;clear HO_210001;have HO_205000:=n0_;have HO_210000:=n1_;have HO_210003:=n2_;have BK204:=n3_;have BK205:=n4_;have BK209:=n5_;have BK216:=n6_;have HB:=n7_;have HO219:=n8_;clear n0_ n1_ n2_ n3_ n4_ n5_ n6_ n7_ n8_;clear ho hb hg hat;obtain ⟨Ao47,co47,eo47⟩:=Kd.R_slice HO219.out;subst eo47;obtain ⟨hcz48_0,hcz48_1,hcz48_2,hcz48_3,hfz48_0,hfz48_1,hfz48_2,hfz48_3⟩:=zf4_ BK209.out))
       go_roundg k2
       case measure=>have:=HK1.out;have:=HK2.out;omega
       case rel=>exact ⟨(wrap64 (x35_2+1)),(y217),(.slice Ao47 y217.length co47),rf_,H',⟨by have:=HK1.out;have:=HK2.out;omega⟩,⟨by (with_reducible repeat (first|apply Kd.V_alloc|apply Kd.V_drewN|apply Kd.V_drew));exact Kd.V_mono (Kd.V_far (p:=⟨gb209,1,none⟩) (Kd.V_mono HO_205000.out (fun k_ hk=>(⟨hk,hk.1.2.2.2.2.2.1⟩:_∧k_≠gb209))) (fun _ hk=>hk.2) (.slice Ao47 y217.length co47)) (fun _ hk=>⟨hk.1.1.1,⟨hk.1.1.2.1,⟨hk.1.2,⟨hk.1.1.2.2.1,⟨hk.1.1.2.2.2.1,⟨hk.1.1.2.2.2.2.1,hk.1.1.2.2.2.2.2.1⟩⟩⟩⟩⟩⟩)⟩,⟨by (with_reducible repeat (first|apply Kd.N_alloc|apply Kd.N_drewN|apply Kd.N_drew));exact Kd.N_mono (Kd.N_far (p:=⟨gb209,1,none⟩) (Kd.N_mono HO_210000.out (fun k_ hk=>(⟨hk,hk.1.2.2.2.2.1⟩:_∧k_≠gb209))) (fun _ hk=>hk.2) (.slice Ao47 y217.length co47)) (fun _ hk=>⟨hk.1.1.1,⟨hk.1.2,⟨hk.1.1.2.1,⟨hk.1.1.2.2.1,⟨hk.1.1.2.2.2.1,hk.1.1.2.2.2.2.1⟩⟩⟩⟩⟩)⟩,⟨by (with_reducible repeat (first|apply Kd.R_alloc|apply Kd.R_drewN|apply Kd.R_drew));exact Kd.R_mono (Kd.R_far (p:=⟨gb209,1,none⟩) (Kd.R_types HO219.out BK209.out (by decide)) (fun _ hk=>hk.2) (.slice Ao47 y217.length co47)) (fun _ hk=>hk.1)⟩,⟨by (with_reducible repeat (first|apply Kd.N_alloc|apply Kd.N_drewN|apply Kd.N_drew));exact Kd.N_mono (Kd.N_far (p:=⟨gb209,1,none⟩) (Kd.N_mono HO_210003.out (fun k_ hk=>(⟨hk,hk.1.2.2.2.2.1⟩:_∧k_≠gb209))) (fun _ hk=>hk.2) (.slice Ao47 y217.length co47)) (fun _ hk=>⟨hk.1.1.1,⟨hk.1.1.2.1,⟨hk.1.2,⟨hk.1.1.2.2.1,⟨hk.1.1.2.2.2.1,hk.1.1.2.2.2.2.1⟩⟩⟩⟩⟩)⟩,⟨kbc_ BK204.out⟩,⟨kbc_ BK205.out⟩,⟨kbc_ BK209.out⟩,⟨bl_ HB.out⟩⟩
      ·rw [if_neg c34] at H
       have c34b0:=decide_eq_false c34
       clear c34
       have H':=Aside0.mk H
       clear H
       have hnb49:=NB204_205.out
       have hnc49:=NB205_204.out
       have hnb50:=NB204_209.out
       have hnc50:=NB209_204.out
       obtain ⟨hcz51_0,hcz51_1,hcz51_2,hcz51_3,hfz51_0,hfz51_1,hfz51_2,hfz51_3⟩:=zf4_ BK204.out
       go_wp2
       (try simp only [Act.put,List.setIfInBounds_toArray,List.set_cons_succ,List.set_cons_zero])
       go_loopg [49] k2 (fun kq v49 w'=>∃ (x49_3:Int) (x210002_3:List (S66)) (u210002:Value),v49=.int .i64 x49_3∧Aside0 (helmsmanlaw12_Prog.l2 kq l0_2 (l0_2.length:Int) x49_3 x210000_1 x210001_2 x210002_3 t206=some (r1,r2,r3,r4))∧Aside0 (kq≤k2)∧Aside0 (Kd.V k72 72 w' w.heap.size (fun k_=>(P0_0_ k_∨w.heap.size≤k_)∧some k_≠(u210000:Value).ownBlock∧some k_≠(u210001:Value).ownBlock∧some k_≠(u210002:Value).ownBlock∧some k_≠((.slice Ao8 t206.length co8):Value).ownBlock∧k_≠gb204∧k_≠gb205∧k_≠gb209) (.slice A0_0 l0_0.length c0_0) l0_0)∧Aside0 (Kd.N k79 79 w' w.heap.size (fun k_=>(P0_0_ k_∨w.heap.size≤k_)∧some k_≠(u210001:Value).ownBlock∧some k_≠(u210002:Value).ownBlock∧some k_≠((.slice Ao8 t206.length co8):Value).ownBlock∧k_≠gb204∧k_≠gb205∧k_≠gb209) u210000 x210000_1)∧Aside0 (Kd.R k80 80 w' w.heap.size (fun k_=>(w.heap.size≤k_)) u210001 x210001_2)∧Aside0 (Kd.N k66 66 w' w.heap.size (fun k_=>(P0_0_ k_∨w.heap.size≤k_)∧some k_≠(u210000:Value).ownBlock∧some k_≠(u210001:Value).ownBlock∧some k_≠((.slice Ao8 t206.length co8):Value).ownBlock∧k_≠gb204∧k_≠gb205∧k_≠gb209) u210002 x210002_3)∧Aside0 (Kd.N k76 76 w' w.heap.size (fun k_=>(P0_0_ k_∨w.heap.size≤k_)∧some k_≠(u210000:Value).ownBlock∧some k_≠(u210001:Value).ownBlock∧some k_≠(u210002:Value).ownBlock∧k_≠gb204∧k_≠gb205∧k_≠gb209) (.slice Ao8 t206.length co8) t206)∧Aside0 (w'.heap[gb204]?=some (.cells #[(.slice A0_0 l0_0.length c0_0),(.slice A0_1 l0_1.length c0_1),(.slice A0_2 l0_2.length c0_2),(.slice A0_3 l0_3.length c0_3)] 43 (0,0)))∧Aside0 (w'.heap[gb205]?=some (.cells #[(.slice none 0 0),(.slice none 0 0),(.slice none 0 0),(.slice none 0 0)] 50 (0,0)))∧Aside0 (w'.heap[gb209]?=some (.cells #[u210000,u210001,u210002,(.slice Ao8 t206.length co8)] 50 (0,0)))∧Aside0 (Below w.heap.size w w'))
       case atStart=>exact ⟨(0),(([]:List (S66))),(.slice none 0 0),rf_,H',⟨Nat.le_refl _⟩,⟨by (with_reducible repeat (first|apply Kd.V_alloc|apply Kd.V_drewN|apply Kd.V_drew));exact Kd.V_mono HO_205000.out (fun _ hk=>⟨hk.1,⟨hk.2.1,⟨hk.2.2.1,⟨(by simp [Value.ownBlock]),⟨hk.2.2.2.1,⟨hk.2.2.2.2.1,⟨hk.2.2.2.2.2.1,hk.2.2.2.2.2.2⟩⟩⟩⟩⟩⟩⟩)⟩,⟨by (with_reducible repeat (first|apply Kd.N_alloc|apply Kd.N_drewN|apply Kd.N_drew));exact Kd.N_mono HO_210000.out (fun _ hk=>⟨hk.1,⟨hk.2.1,⟨(by simp [Value.ownBlock]),⟨hk.2.2.1,⟨hk.2.2.2.1,⟨hk.2.2.2.2.1,hk.2.2.2.2.2⟩⟩⟩⟩⟩⟩)⟩,⟨by (with_reducible repeat (first|apply Kd.R_alloc|apply Kd.R_drewN|apply Kd.R_drew));exact HO_210001.out⟩,⟨by first|exact Kd.R_nil _ _ _ _ _|exact Kd.N_nil _ _ _ _ _|exact Kd.V_nil _ _ _ _ _|exact Kd.Q_nil _ _ _ _ _|exact Kd.S_nil _ _ _ _ _⟩,⟨by (with_reducible repeat (first|apply Kd.N_alloc|apply Kd.N_drewN|apply Kd.N_drew));exact Kd.N_mono HO_210003.out (fun _ hk=>⟨hk.1,⟨hk.2.1,⟨hk.2.2.1,⟨(by simp [Value.ownBlock]),⟨hk.2.2.2.1,⟨hk.2.2.2.2.1,hk.2.2.2.2.2⟩⟩⟩⟩⟩⟩)⟩,⟨kb_ BK204.out⟩,⟨kb_ BK205.out⟩,⟨kb_ BK209.out⟩,⟨bl_ HB.out⟩⟩
       case round=>
        clear H'
        obtain ⟨x49_3,x210002_3,u210002,rfl,HA,HK3,HO_205000,HO_210000,HO_210001,HO_210002,HO_210003,BK204,BK205,BK209,HB⟩:=hrel
        cases gk with
        | zero=>exact absurd HA.out (by simp [helmsmanlaw12_Prog.l2])
        | succ k3=>
         have H:=HA.out
         clear HA
         simp only [helmsmanlaw12_Prog.l2] at H
         by_cases c52:x49_3 < (l0_2.length:Int)
         ·rw [if_pos c52] at H
          have c52b0:=decide_eq_true c52
          clear c52
          revert H
          refine gd_ fun c53 H=>?_
          have c53b0:=decide_eq_true c53
          clear c53
          revert H
          refine gd_ fun c54 H=>?_
          have c54b0:=decide_eq_true c54
          clear c54
          replace H:=Option.bind_eq_some_iff.mp H
          obtain ⟨t222,A550,H⟩:=H
          replace H:(if x210002_3.length < 3518437208883 then (helmsmanlaw12_Prog.l2 k3 l0_2 (l0_2.length:Int) (wrap64 (x49_3+1)) x210000_1 x210001_2 (x210002_3++[(⟨(rd_T69 l0_2 x49_3).f0,t222⟩:S66)]) t206) else (none))=some (r1,r2,r3,r4):=H
          have A55:=Aside0.mk A550
          clear A550
          revert H
          refine gd_ fun c56 H=>?_
          have LMc56:=Aside0.mk c56
          clear c56
          obtain ⟨y225,hy225⟩ : ∃ y_:List (S66),y_=(x210002_3++[(⟨(rd_T69 l0_2 x49_3).f0,t222⟩:S66)]):=⟨_,rfl⟩
          replace H:(helmsmanlaw12_Prog.l2 k3 l0_2 (l0_2.length:Int) (wrap64 (x49_3+1)) x210000_1 x210001_2 y225 t206)=some (r1,r2,r3,r4):=by first|(rw [hy225];with_reducible exact H)|(have H2_:=(Option.bind_some _ _).symm.trans H;rw [hy225];with_reducible exact H2_)|(have H2_:=(Option.bind_some _ _).symm.trans H;with_reducible exact H2_)|with_reducible exact H|(rw [hy225];exact H)|exact H
          have Ny225:=Aside0.mk hy225
          clear hy225
          have H':=Aside0.mk H
          clear H
          have p220:0≤(x49_3:Int):=of_decide_eq_true as_
          have q220:x49_3 < (l0_2.length:Int):=of_decide_eq_true as_
          obtain ⟨ad220,A220_1,c220_1,e220,hx220_0,hx220_1,hl220_1,hi220_1⟩:=at_T69 HR0_2.out x49_3 p220 q220
          cases e220
          replace hx220_0:=(cb_ HB.out hx220_0:_)
          replace hx220_1:=(cb_ HB.out hx220_1:_)
          have HR220_1:=Aside0.mk hi220_1
          have HC220_1:=Aside0.mk hl220_1
          clear hi220_1 hl220_1
          replace p220:=eq_true p220
          replace q220:=eq_true q220
          try go_wp2_with (first|((with_reducible refine gate_dst (N:=9) rfl ?_);refine bx_ (N:=9) (cs:=#[.string (⟨#[]⟩:ByteArray),.slice none 0 0]) (t:=69) ?_;intro gb221 hg w57 hbox hb;have n0_:=Aside0.mk (Kd.V_below (Kd.V_elderB (by (with_reducible repeat (first|apply Kd.V_alloc|apply Kd.V_drewN|apply Kd.V_drew));exact HO_205000.out) gb221 (Nat.le_of_eq hg.symm)) hb);have n1_:=Aside0.mk (Kd.N_below (Kd.N_elderB (by (with_reducible repeat (first|apply Kd.N_alloc|apply Kd.N_drewN|apply Kd.N_drew));exact HO_210000.out) gb221 (Nat.le_of_eq hg.symm)) hb);have n2_:=Aside0.mk (Kd.R_below (by (with_reducible repeat (first|apply Kd.R_alloc|apply Kd.R_drewN|apply Kd.R_drew));exact HO_210001.out) hb);have n3_:=Aside0.mk (Kd.N_below (Kd.N_elderB (by (with_reducible repeat (first|apply Kd.N_alloc|apply Kd.N_drewN|apply Kd.N_drew));exact HO_210002.out) gb221 (Nat.le_of_eq hg.symm)) hb);have n4_:=Aside0.mk (Kd.N_below (Kd.N_elderB (by (with_reducible repeat (first|apply Kd.N_alloc|apply Kd.N_drewN|apply Kd.N_drew));exact HO_210003.out) gb221 (Nat.le_of_eq hg.symm)) hb);have n5_:=Aside0.mk (bb_ BK204.out hb);have n6_:=Aside0.mk (bb_ BK205.out hb);have n7_:=Aside0.mk (bb_ BK209.out hb);have n8_:=Aside0.mk (below_step (bl_ HB.out) hb);have n9_:=Aside0.mk (hbox);have n10_:=Aside0.mk ((gs_ hg (bl_ HB.out):w.heap.size≤gb221));have n11_:=Aside0.mk ((gs_ hg (bl_ HB.out):w.heap.size≤gb221));have n12_:=Aside0.mk ((nl_ hg BK204.out:gb204≠gb221));have n13_:=Aside0.mk ((nr_ hg BK204.out:gb221≠gb204));have n14_:=Aside0.mk ((nl_ hg BK205.out:gb205≠gb221));have n15_:=Aside0.mk ((nr_ hg BK205.out:gb221≠gb205));have n16_:=Aside0.mk ((nl_ hg BK209.out:gb209≠gb221));have n17_:=Aside0.mk ((nr_ hg BK209.out:gb221≠gb209));clear HO_205000;clear HO_210000;clear HO_210001;clear HO_210002;clear HO_210003;clear BK204;clear BK205;clear BK209;clear HB;have HO_205000:=n0_;have HO_210000:=n1_;have HO_210001:=n2_;have HO_210002:=n3_;have HO_210003:=n4_;have BK204:=n5_;have BK205:=n6_;have BK209:=n7_;have HB:=n8_;have BK221:=n9_;have GW221:=n10_;have GE221:=n11_;have NB204_221:=n12_;have NB221_204:=n13_;have NB205_221:=n14_;have NB221_205:=n15_;have NB209_221:=n16_;have NB221_209:=n17_;clear n0_ n1_ n2_ n3_ n4_ n5_ n6_ n7_ n8_ n9_ n10_ n11_ n12_ n13_ n14_ n15_ n16_ n17_;clear hb hbox hg;have hnb58:=NB221_204.out;have hnc58:=NB204_221.out;have hnb59:=NB221_205.out;have hnc59:=NB205_221.out;have hnb60:=NB221_209.out;have hnc60:=NB209_221.out;obtain ⟨hcz61_0,hcz61_1,hfz61_0,hfz61_1⟩:=zf2_ BK221.out))
          have n0_:Aside0 (Kd.V k72 72 ((w57.setCell ⟨gb221,0,none⟩ (.string ((rd_T69 l0_2 x49_3).f0))).setCell ⟨gb221,1,none⟩ (.slice A220_1 ((rd_T69 l0_2 x49_3).f1).length c220_1)) w.heap.size (fun k_=>(P0_0_ k_∨w.heap.size≤k_)∧some k_≠(u210000:Value).ownBlock∧some k_≠(u210001:Value).ownBlock∧some k_≠(u210002:Value).ownBlock∧some k_≠(.slice Ao8 t206.length co8:Value).ownBlock∧k_≠gb204∧k_≠gb205∧k_≠gb209∧k_≠gb221) (.slice A0_0 l0_0.length c0_0) l0_0):=⟨by (with_reducible repeat (first|apply Kd.V_alloc|apply Kd.V_drewN|apply Kd.V_drew));exact Kd.V_mono (Kd.V_far (p:=⟨gb221,1,none⟩) (Kd.V_far (p:=⟨gb221,0,none⟩) (Kd.V_mono HO_205000.out (fun k_ hk=>(⟨hk,hk.2⟩:_∧k_≠gb221))) (fun _ hk=>hk.2) (.string ((rd_T69 l0_2 x49_3).f0))) (fun _ hk=>hk.2) (.slice A220_1 ((rd_T69 l0_2 x49_3).f1).length c220_1)) (fun _ hk=>⟨hk.1.1.1,⟨hk.1.1.2.1,⟨hk.1.1.2.2.1,⟨hk.1.1.2.2.2.1,⟨hk.1.1.2.2.2.2.1,⟨hk.1.1.2.2.2.2.2.1,⟨hk.1.1.2.2.2.2.2.2.1,⟨hk.1.1.2.2.2.2.2.2.2,hk.1.2⟩⟩⟩⟩⟩⟩⟩⟩)⟩
          have n1_:Aside0 (Kd.N k79 79 ((w57.setCell ⟨gb221,0,none⟩ (.string ((rd_T69 l0_2 x49_3).f0))).setCell ⟨gb221,1,none⟩ (.slice A220_1 ((rd_T69 l0_2 x49_3).f1).length c220_1)) w.heap.size (fun k_=>(P0_0_ k_∨w.heap.size≤k_)∧some k_≠(u210001:Value).ownBlock∧some k_≠(u210002:Value).ownBlock∧some k_≠(.slice Ao8 t206.length co8:Value).ownBlock∧k_≠gb204∧k_≠gb205∧k_≠gb209∧k_≠gb221) u210000 x210000_1):=⟨by (with_reducible repeat (first|apply Kd.N_alloc|apply Kd.N_drewN|apply Kd.N_drew));exact Kd.N_mono (Kd.N_far (p:=⟨gb221,1,none⟩) (Kd.N_far (p:=⟨gb221,0,none⟩) (Kd.N_mono HO_210000.out (fun k_ hk=>(⟨hk,hk.2⟩:_∧k_≠gb221))) (fun _ hk=>hk.2) (.string ((rd_T69 l0_2 x49_3).f0))) (fun _ hk=>hk.2) (.slice A220_1 ((rd_T69 l0_2 x49_3).f1).length c220_1)) (fun _ hk=>⟨hk.1.1.1,⟨hk.1.1.2.1,⟨hk.1.1.2.2.1,⟨hk.1.1.2.2.2.1,⟨hk.1.1.2.2.2.2.1,⟨hk.1.1.2.2.2.2.2.1,⟨hk.1.1.2.2.2.2.2.2,hk.1.2⟩⟩⟩⟩⟩⟩⟩)⟩
          have n2_:Aside0 (Kd.R k80 80 ((w57.setCell ⟨gb221,0,none⟩ (.string ((rd_T69 l0_2 x49_3).f0))).setCell ⟨gb221,1,none⟩ (.slice A220_1 ((rd_T69 l0_2 x49_3).f1).length c220_1)) w.heap.size (fun k_=>(w.heap.size≤k_)) u210001 x210001_2):=⟨by (with_reducible repeat (first|apply Kd.R_alloc|apply Kd.R_drewN|apply Kd.R_drew));exact Kd.R_mono (Kd.R_far (p:=⟨gb221,1,none⟩) (Kd.R_far (p:=⟨gb221,0,none⟩) (Kd.R_types HO_210001.out BK221.out (by decide)) (fun _ hk=>hk.2) (.string ((rd_T69 l0_2 x49_3).f0))) (fun _ hk=>hk.2) (.slice A220_1 ((rd_T69 l0_2 x49_3).f1).length c220_1)) (fun _ hk=>hk.1)⟩
          have n3_:Aside0 (Kd.N k66 66 ((w57.setCell ⟨gb221,0,none⟩ (.string ((rd_T69 l0_2 x49_3).f0))).setCell ⟨gb221,1,none⟩ (.slice A220_1 ((rd_T69 l0_2 x49_3).f1).length c220_1)) w.heap.size (fun k_=>(P0_0_ k_∨w.heap.size≤k_)∧some k_≠(u210000:Value).ownBlock∧some k_≠(u210001:Value).ownBlock∧some k_≠(.slice Ao8 t206.length co8:Value).ownBlock∧k_≠gb204∧k_≠gb205∧k_≠gb209∧k_≠gb221) u210002 x210002_3):=⟨by (with_reducible repeat (first|apply Kd.N_alloc|apply Kd.N_drewN|apply Kd.N_drew));exact Kd.N_mono (Kd.N_far (p:=⟨gb221,1,none⟩) (Kd.N_far (p:=⟨gb221,0,none⟩) (Kd.N_mono HO_210002.out (fun k_ hk=>(⟨hk,hk.2⟩:_∧k_≠gb221))) (fun _ hk=>hk.2) (.string ((rd_T69 l0_2 x49_3).f0))) (fun _ hk=>hk.2) (.slice A220_1 ((rd_T69 l0_2 x49_3).f1).length c220_1)) (fun _ hk=>⟨hk.1.1.1,⟨hk.1.1.2.1,⟨hk.1.1.2.2.1,⟨hk.1.1.2.2.2.1,⟨hk.1.1.2.2.2.2.1,⟨hk.1.1.2.2.2.2.2.1,⟨hk.1.1.2.2.2.2.2.2,hk.1.2⟩⟩⟩⟩⟩⟩⟩)⟩
          have n4_:Aside0 (Kd.N k76 76 ((w57.setCell ⟨gb221,0,none⟩ (.string ((rd_T69 l0_2 x49_3).f0))).setCell ⟨gb221,1,none⟩ (.slice A220_1 ((rd_T69 l0_2 x49_3).f1).length c220_1)) w.heap.size (fun k_=>(P0_0_ k_∨w.heap.size≤k_)∧some k_≠(u210000:Value).ownBlock∧some k_≠(u210001:Value).ownBlock∧some k_≠(u210002:Value).ownBlock∧k_≠gb204∧k_≠gb205∧k_≠gb209∧k_≠gb221) (.slice Ao8 t206.length co8) t206):=⟨by (with_reducible repeat (first|apply Kd.N_alloc|apply Kd.N_drewN|apply Kd.N_drew));exact Kd.N_mono (Kd.N_far (p:=⟨gb221,1,none⟩) (Kd.N_far (p:=⟨gb221,0,none⟩) (Kd.N_mono HO_210003.out (fun k_ hk=>(⟨hk,hk.2⟩:_∧k_≠gb221))) (fun _ hk=>hk.2) (.string ((rd_T69 l0_2 x49_3).f0))) (fun _ hk=>hk.2) (.slice A220_1 ((rd_T69 l0_2 x49_3).f1).length c220_1)) (fun _ hk=>⟨hk.1.1.1,⟨hk.1.1.2.1,⟨hk.1.1.2.2.1,⟨hk.1.1.2.2.2.1,⟨hk.1.1.2.2.2.2.1,⟨hk.1.1.2.2.2.2.2.1,⟨hk.1.1.2.2.2.2.2.2,hk.1.2⟩⟩⟩⟩⟩⟩⟩)⟩
          have n5_:Aside0 (((w57.setCell ⟨gb221,0,none⟩ (.string ((rd_T69 l0_2 x49_3).f0))).setCell ⟨gb221,1,none⟩ (.slice A220_1 ((rd_T69 l0_2 x49_3).f1).length c220_1)).heap[gb204]?=some (.cells #[.slice A0_0 l0_0.length c0_0,.slice A0_1 l0_1.length c0_1,.slice (some ad220) l0_2.length c0_2,.slice A0_3 l0_3.length c0_3] 43 (0,0))):=⟨kbc_ BK204.out⟩
          have n6_:Aside0 (((w57.setCell ⟨gb221,0,none⟩ (.string ((rd_T69 l0_2 x49_3).f0))).setCell ⟨gb221,1,none⟩ (.slice A220_1 ((rd_T69 l0_2 x49_3).f1).length c220_1)).heap[gb205]?=some (.cells #[.slice none 0 0,.slice none 0 0,.slice none 0 0,.slice none 0 0] 50 (0,0))):=⟨kbc_ BK205.out⟩
          have n7_:Aside0 (((w57.setCell ⟨gb221,0,none⟩ (.string ((rd_T69 l0_2 x49_3).f0))).setCell ⟨gb221,1,none⟩ (.slice A220_1 ((rd_T69 l0_2 x49_3).f1).length c220_1)).heap[gb209]?=some (.cells #[u210000,u210001,u210002,.slice Ao8 t206.length co8] 50 (0,0))):=⟨kbc_ BK209.out⟩
          have n8_:Aside0 (((w57.setCell ⟨gb221,0,none⟩ (.string ((rd_T69 l0_2 x49_3).f0))).setCell ⟨gb221,1,none⟩ (.slice A220_1 ((rd_T69 l0_2 x49_3).f1).length c220_1)).heap[gb221]?=some (.cells #[.string ((rd_T69 l0_2 x49_3).f0),.slice A220_1 ((rd_T69 l0_2 x49_3).f1).length c220_1] 69 (0,0))):=⟨kbc_ BK221.out⟩
          have n9_:Aside0 (Below w.heap.size w ((w57.setCell ⟨gb221,0,none⟩ (.string ((rd_T69 l0_2 x49_3).f0))).setCell ⟨gb221,1,none⟩ (.slice A220_1 ((rd_T69 l0_2 x49_3).f1).length c220_1))):=⟨bl_ HB.out⟩
          (try clear HO_205000)
          (try clear HO_210000)
          (try clear HO_210001)
          (try clear HO_210002)
          (try clear HO_210003)
          (try clear BK204)
          (try clear BK205)
          (try clear BK209)
          (try clear BK221)
          (try clear HB)
          generalize ((w57.setCell ⟨gb221,0,none⟩ (.string ((rd_T69 l0_2 x49_3).f0))).setCell ⟨gb221,1,none⟩ (.slice A220_1 ((rd_T69 l0_2 x49_3).f1).length c220_1))=w62 at n0_ n1_ n2_ n3_ n4_ n5_ n6_ n7_ n8_ n9_ ⊢
          have HO_205000:=n0_
          have HO_210000:=n1_
          have HO_210001:=n2_
          have HO_210002:=n3_
          have HO_210003:=n4_
          have BK204:=n5_
          have BK205:=n6_
          have BK209:=n7_
          have BK221:=n8_
          have HB:=n9_
          clear n0_ n1_ n2_ n3_ n4_ n5_ n6_ n7_ n8_ n9_
          replace HO_205000:=Aside0.mk (Kd.V_drew HO_205000.out)
          replace HO_210000:=Aside0.mk (Kd.N_drew HO_210000.out)
          replace HO_210001:=Aside0.mk (Kd.R_drew HO_210001.out)
          replace HO_210002:=Aside0.mk (Kd.N_drew HO_210002.out)
          replace HO_210003:=Aside0.mk (Kd.N_drew HO_210003.out)
          replace BK204:=Aside0.mk (blk_drew BK204.out)
          replace BK205:=Aside0.mk (blk_drew BK205.out)
          replace BK209:=Aside0.mk (blk_drew BK209.out)
          replace BK221:=Aside0.mk (blk_drew BK221.out)
          replace HB:=Aside0.mk (below_drew1 HB.out)
          refine start_ (n:=12) (S:=fun w'=>w'.cell? ⟨gb209,0,none⟩=some (u210000)∧w'.cell? ⟨gb209,1,none⟩=some (u210001)∧w'.cell? ⟨gb209,2,none⟩=some (u210002)∧w'.cell? ⟨gb209,3,none⟩=some (.slice Ao8 t206.length co8)∧w'.cell? ⟨gb221,0,none⟩=some (.string ((rd_T69 l0_2 x49_3).f0))∧w'.cell? ⟨gb221,1,none⟩=some (.slice A220_1 ((rd_T69 l0_2 x49_3).f1).length c220_1)) (ds:=[11]) (flg 12 0) (by kernel_rfl) rfl (by kernel_rfl) ⟨zc_ BK209.out 0,zc_ BK209.out 1,zc_ BK209.out 2,zc_ BK209.out 3,zc_ BK221.out 0,zc_ BK221.out 1⟩ (fun hHeld=>?_);refine with_tabW helmsmanlaw12_Prog.tab15 helmsmanlaw12_Prog.bits15 (fun HT_ HW_=>?_)
          generalize w62.drew=w63 at HO_205000 HO_210000 HO_210001 HO_210002 HO_210003 BK204 BK205 BK209 BK221 HB hHeld ⊢
          refine pu_ 0 53 (flg 12 1) ?_
          refine pu_ 2 55 (flg 12 5) ?_
          refine pu_ 4 57 (flg 12 21) ?_
          refine ta_ 1 54 (flg 12 23) hHeld ?_
          refine ta_ 3 56 (flg 12 31) hHeld ?_
          refine ta_ 5 58 (flg 12 63) hHeld ?_
          refine one_ (i:=6) (N:=some 59) (flg 12 127) rfl rfl (one_of HT_.out (by kernel_rfl)) (by decide) (fun K hK=>?_)
          refine goes_ Tryd.func24 (by kernel_rfl) rfl #[.slice A220_1 ((rd_T69 l0_2 x49_3).f1).length c220_1] (by rfl) rfl rfl ar_ ?_
          with_reducible refine (helmsmanlaw12_Stmts.calls k3 _ _ ((rd_T69 l0_2 x49_3).f1) t222 _ ?side1 ?side2 A55.out).mono ?_
          (case side1=>exact kc_ HR220_1.out HB.out)
          (case side2=>exact HC220_1.out)
          rintro e w64 ⟨v223,rfl,ho0,hb⟩
          refine ⟨_,rfl,?_⟩
          replace HO_205000:=Aside0.mk (Kd.V_elder' (by (with_reducible repeat (first|apply Kd.V_alloc|apply Kd.V_drewN|apply Kd.V_drew));exact HO_205000.out) (by first|exact Kd.N_base ho0|exact Kd.N_base (Kd.R_N ho0)|exact Kd.N_base (Kd.R_N (Kd.R_bound ho0))) hb)
          have HO224:=Aside0.mk (Kd.N_lower (Kd.N_mono (ok':=fun k_=>(P0_0_ k_∨w.heap.size≤k_)∧some k_≠(u210000:Value).ownBlock∧some k_≠(u210001:Value).ownBlock∧some k_≠(u210002:Value).ownBlock∧some k_≠(.slice Ao8 t206.length co8:Value).ownBlock∧k_≠gb204∧k_≠gb205∧k_≠gb209∧k_≠gb221) (Kd.R_N (Kd.R_bound ho0)) (fun k_ hk_=>⟨(.inr (Nat.le_trans (below_size (bl_ HB.out)) hk_.2.1)),(Kd.fresh' (Kd.N_lt (by (with_reducible repeat (first|apply Kd.N_alloc|apply Kd.N_drewN|apply Kd.N_drew));exact HO_210000.out)) k_ hk_.2.1),(Kd.fresh' (Kd.R_lt (by (with_reducible repeat (first|apply Kd.R_alloc|apply Kd.R_drewN|apply Kd.R_drew));exact HO_210001.out)) k_ hk_.2.1),(Kd.fresh' (Kd.N_lt (by (with_reducible repeat (first|apply Kd.N_alloc|apply Kd.N_drewN|apply Kd.N_drew));exact HO_210002.out)) k_ hk_.2.1),(Kd.fresh' (Kd.N_lt (by (with_reducible repeat (first|apply Kd.N_alloc|apply Kd.N_drewN|apply Kd.N_drew));exact HO_210003.out)) k_ hk_.2.1),(Kd.freshB (g:=gb204) (o:=.cells #[.slice A0_0 l0_0.length c0_0,.slice A0_1 l0_1.length c0_1,.slice (some ad220) l0_2.length c0_2,.slice A0_3 l0_3.length c0_3] 43 (0,0)) (kb_ BK204.out) k_ hk_.2.1),(Kd.freshB (g:=gb205) (o:=.cells #[.slice none 0 0,.slice none 0 0,.slice none 0 0,.slice none 0 0] 50 (0,0)) (kb_ BK205.out) k_ hk_.2.1),(Kd.freshB (g:=gb209) (o:=.cells #[u210000,u210001,u210002,.slice Ao8 t206.length co8] 50 (0,0)) (kb_ BK209.out) k_ hk_.2.1),(Kd.freshB (g:=gb221) (o:=.cells #[.string ((rd_T69 l0_2 x49_3).f0),.slice A220_1 ((rd_T69 l0_2 x49_3).f1).length c220_1] 69 (0,0)) (kb_ BK221.out) k_ hk_.2.1)⟩)) (below_size (bl_ HB.out)))
          replace HO_210000:=Aside0.mk (Kd.N_elder' (by (with_reducible repeat (first|apply Kd.N_alloc|apply Kd.N_drewN|apply Kd.N_drew));exact HO_210000.out) (by first|exact Kd.N_base ho0|exact Kd.N_base (Kd.R_N ho0)|exact Kd.N_base (Kd.R_N (Kd.R_bound ho0))) hb)
          replace HO_210001:=Aside0.mk (Kd.R_below (by (with_reducible repeat (first|apply Kd.R_alloc|apply Kd.R_drewN|apply Kd.R_drew));exact HO_210001.out) hb)
          replace HO_210002:=Aside0.mk (Kd.N_elder' (by (with_reducible repeat (first|apply Kd.N_alloc|apply Kd.N_drewN|apply Kd.N_drew));exact HO_210002.out) (by first|exact Kd.N_base ho0|exact Kd.N_base (Kd.R_N ho0)|exact Kd.N_base (Kd.R_N (Kd.R_bound ho0))) hb)
          replace HO_210003:=Aside0.mk (Kd.N_elder' (by (with_reducible repeat (first|apply Kd.N_alloc|apply Kd.N_drewN|apply Kd.N_drew));exact HO_210003.out) (by first|exact Kd.N_base ho0|exact Kd.N_base (Kd.R_N ho0)|exact Kd.N_base (Kd.R_N (Kd.R_bound ho0))) hb)
          replace BK204:=Aside0.mk (bb_ BK204.out hb)
          replace BK205:=Aside0.mk (bb_ BK205.out hb)
          replace BK209:=Aside0.mk (bb_ BK209.out hb)
          replace BK221:=Aside0.mk (bb_ BK221.out hb)
          replace HB:=Aside0.mk (below_step (bl_ HB.out) hb)
          (try clear ho0)
          obtain ⟨Ao65,co65,eo65⟩:=Kd.N_slice HO224.out
          (first|subst eo65|(injection eo65 with f1_ f2_ f3_;have f4_:=f1_.symm;have f5_:=f3_.symm;clear f1_ f2_ f3_;subst f4_;subst f5_))
          refine ko_ hK (fun hHeld=>?_)
          clear hK K
          refine nm_ ?_
          refine pu_ 7 60 (flg 12 255) ?_
          refine one_ (i:=8) (N:=some 61) (flg 12 511) rfl rfl (one_of HT_.out (by kernel_rfl)) (by decide) (fun K hK=>?_)
          refine value_ (w1:=?_) (v:=?_) (by rfl) rfl ?_ ?_
          rotate_left 2
          ·go_simp
           constructor
           ·rfl
           ·rfl
          refine hK.out _ _ ⟨(blk_cell (blk_alloc BK209.out _) 0).trans rfl,(blk_cell (blk_alloc BK209.out _) 1).trans rfl,(blk_cell (blk_alloc BK209.out _) 2).trans rfl,(blk_cell (blk_alloc BK209.out _) 3).trans rfl,(blk_cell (blk_alloc BK221.out _) 0).trans rfl,(blk_cell (blk_alloc BK221.out _) 1).trans rfl⟩ (fun hHeld=>?_)
          clear hK K
          refine nm_ ?_
          refine one_ (i:=9) (N:=some 62) (flg 12 1023) rfl rfl (one_of HT_.out (by kernel_rfl)) (by decide) (fun K hK=>?_)
          refine Kd.N_append_step k66 (w0:=w) w.heap.size (by rfl) (.tmp 54) (.tmp 61) 47 66 (.agg #[(.string ⟨#[]⟩),(.slice none 0 0)]) 40 rfl Tryd.underlying47 info66 rfl (by decide) (by omega) u210002 x210002_3 (⟨(rd_T69 l0_2 x49_3).f0,t222⟩:S66) [.string ((rd_T69 l0_2 x49_3).f0),.slice Ao65 t222.length co65] (fun k_=>(P0_0_ k_∨w.heap.size≤k_)∧some k_≠(u210000:Value).ownBlock∧some k_≠(u210001:Value).ownBlock∧some k_≠(.slice Ao8 t206.length co8:Value).ownBlock∧k_≠gb204∧k_≠gb205∧k_≠gb209∧k_≠gb221) (fun k_=>((fun k_=>(P0_0_ k_∨w.heap.size≤k_)∧some k_≠(u210000:Value).ownBlock∧some k_≠(u210001:Value).ownBlock∧some k_≠(.slice Ao8 t206.length co8:Value).ownBlock∧k_≠gb204∧k_≠gb205∧k_≠gb209∧k_≠gb221)) k_∧some k_≠(u210002:Value).ownBlock) rfl rfl ?aP (fun _ hk=>hk) ?aF ?aO ?aB ?aS ?aL ?_
          (case aP=>exact (k66_mkF _ _ (⟨(rd_T69 l0_2 x49_3).f0,t222⟩:S66) (Kd.N_reads' (Kd.N_mono (ok':=(fun k_=>((fun k_=>(P0_0_ k_∨w.heap.size≤k_)∧some k_≠(u210000:Value).ownBlock∧some k_≠(u210001:Value).ownBlock∧some k_≠(.slice Ao8 t206.length co8:Value).ownBlock∧k_≠gb204∧k_≠gb205∧k_≠gb209∧k_≠gb221)) k_∧some k_≠(u210002:Value).ownBlock)) (HO224.out) (fun k_ hk=>⟨⟨hk.1,⟨hk.2.1,⟨hk.2.2.1,⟨hk.2.2.2.2.1,⟨hk.2.2.2.2.2.1,⟨hk.2.2.2.2.2.2.1,⟨hk.2.2.2.2.2.2.2.1,hk.2.2.2.2.2.2.2.2⟩⟩⟩⟩⟩⟩⟩,hk.2.2.2.1⟩))).2.1 (Kd.N_F (Kd.N_mono (ok':=(fun k_=>((fun k_=>(P0_0_ k_∨w.heap.size≤k_)∧some k_≠(u210000:Value).ownBlock∧some k_≠(u210001:Value).ownBlock∧some k_≠(.slice Ao8 t206.length co8:Value).ownBlock∧k_≠gb204∧k_≠gb205∧k_≠gb209∧k_≠gb221)) k_∧some k_≠(u210002:Value).ownBlock)) (HO224.out) (fun k_ hk=>⟨⟨hk.1,⟨hk.2.1,⟨hk.2.2.1,⟨hk.2.2.2.2.1,⟨hk.2.2.2.2.2.1,⟨hk.2.2.2.2.2.2.1,⟨hk.2.2.2.2.2.2.2.1,hk.2.2.2.2.2.2.2.2⟩⟩⟩⟩⟩⟩⟩,hk.2.2.2.1⟩)))))
          (case aB=>exact (bl_ HB.out))
          (case aF=>exact (fun k_ hk=>⟨(.inr (Nat.le_trans (below_size (bl_ HB.out)) hk)),Kd.fresh' (Kd.N_lt (by (with_reducible repeat (first|apply Kd.N_alloc|apply Kd.N_drewN|apply Kd.N_drew));exact HO_210000.out)) k_ hk,Kd.fresh' (Kd.R_lt (by (with_reducible repeat (first|apply Kd.R_alloc|apply Kd.R_drewN|apply Kd.R_drew));exact HO_210001.out)) k_ hk,Kd.fresh' (Kd.N_lt (by (with_reducible repeat (first|apply Kd.N_alloc|apply Kd.N_drewN|apply Kd.N_drew));exact HO_210003.out)) k_ hk,Kd.freshB (g:=gb204) (o:=.cells #[.slice A0_0 l0_0.length c0_0,.slice A0_1 l0_1.length c0_1,.slice (some ad220) l0_2.length c0_2,.slice A0_3 l0_3.length c0_3] 43 (0,0)) (kb_ BK204.out) k_ hk,Kd.freshB (g:=gb205) (o:=.cells #[.slice none 0 0,.slice none 0 0,.slice none 0 0,.slice none 0 0] 50 (0,0)) (kb_ BK205.out) k_ hk,Kd.freshB (g:=gb209) (o:=.cells #[u210000,u210001,u210002,.slice Ao8 t206.length co8] 50 (0,0)) (kb_ BK209.out) k_ hk,Kd.freshB (g:=gb221) (o:=.cells #[.string ((rd_T69 l0_2 x49_3).f0),.slice A220_1 ((rd_T69 l0_2 x49_3).f1).length c220_1] 69 (0,0)) (kb_ BK221.out) k_ hk⟩))
          (case aO=>exact (by (with_reducible repeat (first|apply Kd.N_alloc|apply Kd.N_drewN|apply Kd.N_drew));exact Kd.N_mono HO_210002.out (fun _ hk=>⟨hk.1.1,⟨hk.1.2.1,⟨hk.1.2.2.1,⟨hk.1.2.2.2.1,⟨hk.1.2.2.2.2.1,⟨hk.1.2.2.2.2.2.1,⟨hk.1.2.2.2.2.2.2.1,hk.1.2.2.2.2.2.2.2⟩⟩⟩⟩⟩⟩⟩)))
          (case aS=>exact (below_size (bl_ HB.out)))
          (case aL=>have:=LMc56.out;omega)
          intro v226 w66 ho hb hg hat
          rw [← Ny225.out] at ho
          have n0_:=Aside0.mk (Kd.V_afterv (ok:=(fun k_=>(P0_0_ k_∨w.heap.size≤k_)∧some k_≠(u210000:Value).ownBlock∧some k_≠(u210001:Value).ownBlock∧some k_≠(.slice Ao8 t206.length co8:Value).ownBlock∧some k_≠(.slice Ao65 t222.length co65:Value).ownBlock∧k_≠gb204∧k_≠gb205∧k_≠gb209∧k_≠gb221)) (by (with_reducible repeat (first|apply Kd.V_alloc|apply Kd.V_drewN|apply Kd.V_drew));exact Kd.V_mono HO_205000.out (fun _ hk=>⟨⟨hk.1.1,⟨hk.1.2.1,⟨hk.1.2.2.1,⟨hk.1.2.2.2.2.1,⟨hk.2,⟨hk.1.2.2.2.2.2.1,⟨hk.1.2.2.2.2.2.2.1,⟨hk.1.2.2.2.2.2.2.2.1,hk.1.2.2.2.2.2.2.2.2⟩⟩⟩⟩⟩⟩⟩⟩,hk.1.2.2.2.1⟩)) hg hat)
          have n1_:=Aside0.mk (Kd.N_afterv (ok:=(fun k_=>(P0_0_ k_∨w.heap.size≤k_)∧some k_≠(u210001:Value).ownBlock∧some k_≠(.slice Ao8 t206.length co8:Value).ownBlock∧some k_≠(.slice Ao65 t222.length co65:Value).ownBlock∧k_≠gb204∧k_≠gb205∧k_≠gb209∧k_≠gb221)) (by (with_reducible repeat (first|apply Kd.N_alloc|apply Kd.N_drewN|apply Kd.N_drew));exact Kd.N_mono HO_210000.out (fun _ hk=>⟨⟨hk.1.1,⟨hk.1.2.1,⟨hk.1.2.2.2.1,⟨hk.2,⟨hk.1.2.2.2.2.1,⟨hk.1.2.2.2.2.2.1,⟨hk.1.2.2.2.2.2.2.1,hk.1.2.2.2.2.2.2.2⟩⟩⟩⟩⟩⟩⟩,hk.1.2.2.1⟩)) hg hat)
          have n2_:=Aside0.mk (Kd.R_over' (by (with_reducible repeat (first|apply Kd.R_alloc|apply Kd.R_drewN|apply Kd.R_drew));exact HO_210001.out) (Kd.N_typed (by (with_reducible repeat (first|apply Kd.N_alloc|apply Kd.N_drewN|apply Kd.N_drew));exact HO_210002.out)) (by decide) hg)
          have n3_:=Aside0.mk (Kd.N_afterv (ok:=(fun k_=>(P0_0_ k_∨w.heap.size≤k_)∧some k_≠(u210000:Value).ownBlock∧some k_≠(u210001:Value).ownBlock∧some k_≠(.slice Ao65 t222.length co65:Value).ownBlock∧k_≠gb204∧k_≠gb205∧k_≠gb209∧k_≠gb221)) (by (with_reducible repeat (first|apply Kd.N_alloc|apply Kd.N_drewN|apply Kd.N_drew));exact Kd.N_mono HO_210003.out (fun _ hk=>⟨⟨hk.1.1,⟨hk.1.2.1,⟨hk.1.2.2.1,⟨hk.2,⟨hk.1.2.2.2.2.1,⟨hk.1.2.2.2.2.2.1,⟨hk.1.2.2.2.2.2.2.1,hk.1.2.2.2.2.2.2.2⟩⟩⟩⟩⟩⟩⟩,hk.1.2.2.2.1⟩)) hg hat)
          have n4_:=Aside0.mk (bg_ BK204.out hg (Kd.N_ne HO_210002.out BK204.out (by decide)))
          have n5_:=Aside0.mk (bg_ BK205.out hg (Kd.N_ne HO_210002.out BK205.out (by decide)))
          have n6_:=Aside0.mk (bg_ BK209.out hg (Kd.N_ne HO_210002.out BK209.out (by decide)))
          have n7_:=Aside0.mk (bg_ BK221.out hg (Kd.N_ne HO_210002.out BK221.out (by decide)))
          have n8_:=Aside0.mk (hb)
          have n9_:=Aside0.mk (ho)
          clear HO_205000
          clear HO_210000
          clear HO_210001
          clear HO_210003
          clear BK204
          clear BK205
          clear BK209
          clear BK221
          clear HB
          clear HO_210002
          clear HO224
          have HO_205000:=n0_
          have HO_210000:=n1_
          have HO_210001:=n2_
          have HO_210003:=n3_
          have BK204:=n4_
          have BK205:=n5_
          have BK209:=n6_
          have BK221:=n7_
          have HB:=n8_
          have HO227:=n9_
          clear n0_ n1_ n2_ n3_ n4_ n5_ n6_ n7_ n8_ n9_
          clear ho hb hg hat
          obtain ⟨Ao67,co67,eo67⟩:=Kd.N_slice HO227.out
          (first|subst eo67|(injection eo67 with f1_ f2_ f3_;have f4_:=f1_.symm;have f5_:=f3_.symm;clear f1_ f2_ f3_;subst f4_;subst f5_))
          refine ko_ hK (fun hHeld=>?_)
          clear hK K
          refine nm_ ?_
          refine pu_ 10 63 (flg 12 2047) ?_
          refine last_ (i:=11) (N:=none) (flg 12 4095) rfl rfl (one_of HT_.out (by kernel_rfl)) (by decide) (fun K hK=>?_)
          have hs68:w66.cell? ⟨gb209,2,none⟩=some (u210002):=zc_ BK209.out 2
          have hfs68:=blk_frozen BK209.out 2
          have hns68_0:=NB204_209.out
          have hns68_1:=NB205_209.out
          have hns68_3:=NB221_209.out
          have hms68_0:=NB209_204.out
          have hms68_1:=NB209_205.out
          have hms68_3:=NB209_221.out
          refine skip_ (w1:=?_) (by rfl) rfl ?_ ?_
          rotate_left
          ·go_simp
           rfl
          refine hK.out _ _ ?_
          clear hK K
          refine done_ (done_of HT_.out (by kernel_rfl)) ?_
          try go_wp2
          go_roundg k3
          case measure=>have:=HK1.out;have:=HK2.out;have:=HK3.out;omega
          case rel=>exact ⟨(wrap64 (x49_3+1)),(y225),(.slice Ao67 y225.length co67),rf_,H',⟨by have:=HK1.out;have:=HK2.out;have:=HK3.out;omega⟩,⟨by (with_reducible repeat (first|apply Kd.V_alloc|apply Kd.V_drewN|apply Kd.V_drew));exact Kd.V_mono (Kd.V_far (p:=⟨gb209,2,none⟩) (Kd.V_mono HO_205000.out (fun k_ hk=>(⟨hk,hk.1.2.2.2.2.2.2.2.1⟩:_∧k_≠gb209))) (fun _ hk=>hk.2) (.slice Ao67 y225.length co67)) (fun _ hk=>⟨hk.1.1.1,⟨hk.1.1.2.1,⟨hk.1.1.2.2.1,⟨hk.1.2,⟨hk.1.1.2.2.2.1,⟨hk.1.1.2.2.2.2.2.1,⟨hk.1.1.2.2.2.2.2.2.1,hk.1.1.2.2.2.2.2.2.2.1⟩⟩⟩⟩⟩⟩⟩)⟩,⟨by (with_reducible repeat (first|apply Kd.N_alloc|apply Kd.N_drewN|apply Kd.N_drew));exact Kd.N_mono (Kd.N_far (p:=⟨gb209,2,none⟩) (Kd.N_mono HO_210000.out (fun k_ hk=>(⟨hk,hk.1.2.2.2.2.2.2.1⟩:_∧k_≠gb209))) (fun _ hk=>hk.2) (.slice Ao67 y225.length co67)) (fun _ hk=>⟨hk.1.1.1,⟨hk.1.1.2.1,⟨hk.1.2,⟨hk.1.1.2.2.1,⟨hk.1.1.2.2.2.2.1,⟨hk.1.1.2.2.2.2.2.1,hk.1.1.2.2.2.2.2.2.1⟩⟩⟩⟩⟩⟩)⟩,⟨by (with_reducible repeat (first|apply Kd.R_alloc|apply Kd.R_drewN|apply Kd.R_drew));exact Kd.R_mono (Kd.R_far (p:=⟨gb209,2,none⟩) (Kd.R_types HO_210001.out BK209.out (by decide)) (fun _ hk=>hk.2) (.slice Ao67 y225.length co67)) (fun _ hk=>hk.1)⟩,⟨by (with_reducible repeat (first|apply Kd.N_alloc|apply Kd.N_drewN|apply Kd.N_drew));exact Kd.N_mono (Kd.N_far (p:=⟨gb209,2,none⟩) (Kd.N_mono HO227.out (fun k_ hk=>(⟨hk,hk.2.2.2.2.2.2.1⟩:_∧k_≠gb209))) (fun _ hk=>hk.2) (.slice Ao67 y225.length co67)) (fun _ hk=>⟨hk.1.1,⟨hk.1.2.1,⟨hk.1.2.2.1,⟨hk.1.2.2.2.1,⟨hk.1.2.2.2.2.1,⟨hk.1.2.2.2.2.2.1,hk.1.2.2.2.2.2.2.1⟩⟩⟩⟩⟩⟩)⟩,⟨by (with_reducible repeat (first|apply Kd.N_alloc|apply Kd.N_drewN|apply Kd.N_drew));exact Kd.N_mono (Kd.N_far (p:=⟨gb209,2,none⟩) (Kd.N_mono HO_210003.out (fun k_ hk=>(⟨hk,hk.1.2.2.2.2.2.2.1⟩:_∧k_≠gb209))) (fun _ hk=>hk.2) (.slice Ao67 y225.length co67)) (fun _ hk=>⟨hk.1.1.1,⟨hk.1.1.2.1,⟨hk.1.1.2.2.1,⟨hk.1.2,⟨hk.1.1.2.2.2.2.1,⟨hk.1.1.2.2.2.2.2.1,hk.1.1.2.2.2.2.2.2.1⟩⟩⟩⟩⟩⟩)⟩,⟨kbc_ BK204.out⟩,⟨kbc_ BK205.out⟩,⟨kbc_ BK209.out⟩,⟨bl_ HB.out⟩⟩
         ·rw [if_neg c52] at H
          have c52b0:=decide_eq_false c52
          clear c52
          simp only [Option.some.injEq,Prod.mk.injEq] at H
          obtain ⟨rfl,rfl,rfl,rfl⟩:=H
          have hnb69:=NB209_204.out
          have hnc69:=NB204_209.out
          have hnb70:=NB209_205.out
          have hnc70:=NB205_209.out
          obtain ⟨hcz71_0,hcz71_1,hcz71_2,hcz71_3,hfz71_0,hfz71_1,hfz71_2,hfz71_3⟩:=zf4_ BK209.out
          obtain ⟨Ao72,co72,eo72⟩:=Kd.N_slice HO_210000.out
          subst eo72
          have hnb73:=NB205_204.out
          have hnc73:=NB204_205.out
          obtain ⟨hcz74_0,hcz74_1,hcz74_2,hcz74_3,hfz74_0,hfz74_1,hfz74_2,hfz74_3⟩:=zf4_ BK205.out
          obtain ⟨Ao75,co75,eo75⟩:=Kd.R_slice HO_210001.out
          subst eo75
          obtain ⟨Ao76,co76,eo76⟩:=Kd.N_slice HO_210002.out
          subst eo76
          go_wp2
          refine bodyPost_ret (results_cell_row rfl _ _ gb205 50 #[.slice Ao72 x210000_1.length co72,.slice Ao75 x210001_2.length co75,.slice Ao76 x210002_3.length co76,.slice Ao8 t206.length co8] (0,0) _ rfl (kbc_ BK205.out) Tryd.underlying50 rfl (by kernel_rfl)) rfl ?_
          exact ⟨_,_,_,_,rt_,by (with_reducible repeat (first|apply Kd.N_alloc|apply Kd.N_drewN|apply Kd.N_drew));exact Kd.N_mono (Kd.N_far (p:=⟨gb205,3,none⟩) (Kd.N_far (p:=⟨gb205,2,none⟩) (Kd.N_far (p:=⟨gb205,1,none⟩) (Kd.N_far (p:=⟨gb205,0,none⟩) (Kd.N_mono HO_210000.out (fun k_ hk=>(⟨hk,hk.2.2.2.2.2.1⟩:_∧k_≠gb205))) (fun _ hk=>hk.2) (.slice Ao72 x210000_1.length co72)) (fun _ hk=>hk.2) (.slice Ao75 x210001_2.length co75)) (fun _ hk=>hk.2) (.slice Ao76 x210002_3.length co76)) (fun _ hk=>hk.2) (.slice Ao8 t206.length co8)) (fun _ hk=>⟨hk.1.1,⟨hk.1.2.1,⟨hk.1.2.2.1,hk.1.2.2.2.1⟩⟩⟩),by (with_reducible repeat (first|apply Kd.R_alloc|apply Kd.R_drewN|apply Kd.R_drew));exact Kd.R_mono (Kd.R_far (p:=⟨gb205,3,none⟩) (Kd.R_far (p:=⟨gb205,2,none⟩) (Kd.R_far (p:=⟨gb205,1,none⟩) (Kd.R_far (p:=⟨gb205,0,none⟩) (Kd.R_types HO_210001.out BK205.out (by decide)) (fun _ hk=>hk.2) (.slice Ao72 x210000_1.length co72)) (fun _ hk=>hk.2) (.slice Ao75 x210001_2.length co75)) (fun _ hk=>hk.2) (.slice Ao76 x210002_3.length co76)) (fun _ hk=>hk.2) (.slice Ao8 t206.length co8)) (fun _ hk=>hk.1),by (with_reducible repeat (first|apply Kd.N_alloc|apply Kd.N_drewN|apply Kd.N_drew));exact Kd.N_mono (Kd.N_far (p:=⟨gb205,3,none⟩) (Kd.N_far (p:=⟨gb205,2,none⟩) (Kd.N_far (p:=⟨gb205,1,none⟩) (Kd.N_far (p:=⟨gb205,0,none⟩) (Kd.N_mono HO_210002.out (fun k_ hk=>(⟨hk,hk.2.2.2.2.2.1⟩:_∧k_≠gb205))) (fun _ hk=>hk.2) (.slice Ao72 x210000_1.length co72)) (fun _ hk=>hk.2) (.slice Ao75 x210001_2.length co75)) (fun _ hk=>hk.2) (.slice Ao76 x210002_3.length co76)) (fun _ hk=>hk.2) (.slice Ao8 t206.length co8)) (fun _ hk=>⟨hk.1.1,⟨hk.1.2.1,⟨hk.1.2.2.1,hk.1.2.2.2.1⟩⟩⟩),by (with_reducible repeat (first|apply Kd.N_alloc|apply Kd.N_drewN|apply Kd.N_drew));exact Kd.N_mono (Kd.N_far (p:=⟨gb205,3,none⟩) (Kd.N_far (p:=⟨gb205,2,none⟩) (Kd.N_far (p:=⟨gb205,1,none⟩) (Kd.N_far (p:=⟨gb205,0,none⟩) (Kd.N_mono HO_210003.out (fun k_ hk=>(⟨hk,hk.2.2.2.2.2.1⟩:_∧k_≠gb205))) (fun _ hk=>hk.2) (.slice Ao72 x210000_1.length co72)) (fun _ hk=>hk.2) (.slice Ao75 x210001_2.length co75)) (fun _ hk=>hk.2) (.slice Ao76 x210002_3.length co76)) (fun _ hk=>hk.2) (.slice Ao8 t206.length co8)) (fun _ hk=>⟨hk.1.1,⟨hk.1.2.1,⟨hk.1.2.2.1,hk.1.2.2.2.1⟩⟩⟩),bl_ HB.out⟩
end Go.Proofs.YtnnbbeloifhofaaDoor.P
end
section
namespace Go.Proofs.YtnnbbeloifhofaaDoor.P
open Go.RowKit Go.Proofs.YtnnbbeloifhofaaDoorW.PrintWords Go.Proofs.YtnnbbeloifhofaaDoorW.PrintLast Go.Proofs.YtnnbbeloifhofaaDoorW.PrintMore
attribute [local go_sem] max2_int min2_int max_two min_two max_three min_three max_four min_four
set_option linter.unusedVariables false
set_option linter.unusedSimpArgs false
def helmsmanref12_Sized.l0:Nat→Int→Int→List (S72)→List (S56)→List (S69)→List (S29)→Option (Int)
 | 0,_,_,_,_,_,_=>none
 | k+1,x3,x4,x177000,x177001,x177002,x177003=>if x4 < (x177002.length:Int) then (if 0≤x4 then ((helmsmanref12_Size.f k ((rd_T69 x177002 x4).f1)).bind fun t179=>(helmsmanref12_Sized.l0 k (wrap64 (x3+t179)) (wrap64 (x4+1)) x177000 x177001 x177002 x177003)) else (none)) else (some x3)
def helmsmanref12_Sized.f (k:Nat) (l0_0:List (S72)) (l0_1:List (S56)) (l0_2:List (S69)) (l0_3:List (S29)):Option (Int):=(helmsmanref12_Size.f k l0_3).bind fun t177=>(helmsmanref12_Sized.l0 k t177 0 l0_0 l0_1 l0_2 l0_3)
set_option maxHeartbeats 8000000 in
set_option maxRecDepth 100000 in
theorem helmsmanref12_Sized.calls (k:Nat) (A0_0:Option Addr) (c0_0:Nat) (l0_0:List (S72)) (A0_1:Option Addr) (c0_1:Nat) (l0_1:List (S56)) (A0_2:Option Addr) (c0_2:Nat) (l0_2:List (S69)) (A0_3:Option Addr) (c0_3:Nat) (l0_3:List (S29)) (r:Int) (w:World) (hr0_0:Kd.C k72 w A0_0 l0_0.length l0_0) (hc0_0:l0_0.length≤c0_0) (hr0_1:Kd.C k56 w A0_1 l0_1.length l0_1) (hc0_1:l0_1.length≤c0_1) (hr0_2:Kd.C k69 w A0_2 l0_2.length l0_2) (hc0_2:l0_2.length≤c0_2) (hr0_3:Kd.C k29 w A0_3 l0_3.length l0_3) (hc0_3:l0_3.length≤c0_3) (h:helmsmanref12_Sized.f k l0_0 l0_1 l0_2 l0_3=some r) :
  Calls Tryd.prog 16 #[.agg #[.slice A0_0 l0_0.length c0_0,.slice A0_1 l0_1.length c0_1,.slice A0_2 l0_2.length c0_2,.slice A0_3 l0_3.length c0_3]] w fun e w'=>e=.returned (.int .i64 r)∧Below w.heap.size w w':=by
 have hu43:=Tryd.underlying43
 have HR0_0:=Aside0.mk hr0_0
 have HC0_0:=Aside0.mk hc0_0
 clear hr0_0 hc0_0
 have HR0_1:=Aside0.mk hr0_1
 have HC0_1:=Aside0.mk hc0_1
 clear hr0_1 hc0_1
 have HR0_2:=Aside0.mk hr0_2
 have HC0_2:=Aside0.mk hc0_2
 clear hr0_2 hc0_2
 have HR0_3:=Aside0.mk hr0_3
 have HC0_3:=Aside0.mk hc0_3
 clear hr0_3 hc0_3
 have HB:=Aside0.mk (Below.refl w.heap.size w)
 have H:((helmsmanref12_Size.f k l0_3).bind fun t177=>(helmsmanref12_Sized.l0 k t177 0 l0_0 l0_1 l0_2 l0_3))=some r:=h
 clear h
 revert H
 refine bd_ fun t177 A2 H=>?_
 have H':=Aside0.mk H
 clear H
 go_enter Tryd.func16,Tryd.ntmps16
 go_wp2_with (first|((with_reducible refine gate_dst (N:=1) rfl ?_);refine bx_ (N:=1) (cs:=#[.slice A0_0 l0_0.length c0_0,.slice A0_1 l0_1.length c0_1,.slice A0_2 l0_2.length c0_2,.slice A0_3 l0_3.length c0_3]) (t:=43) ?_;intro gb176 hg w3 hbox hb;have BK176:=Aside0.mk (hbox);have GW176:=Aside0.mk ((gs_ hg (bl_ HB.out):w.heap.size≤gb176));have GE176:=Aside0.mk ((gs_ hg (bl_ HB.out):w.heap.size≤gb176));replace HB:=Aside0.mk (below_step (bl_ HB.out) hb);clear hb hbox hg;obtain ⟨hcz4_0,hcz4_1,hcz4_2,hcz4_3,hfz4_0,hfz4_1,hfz4_2,hfz4_3⟩:=zf4_ BK176.out)|((with_reducible refine gate_callee (f:=9) rfl ?_);refine goesL_ (some 7) rfl rfl Tryd.func9 (by kernel_rfl) rfl #[.slice A0_3 l0_3.length c0_3] rfl ar_ ?_;(with_reducible refine (helmsmanref12_Size.calls k _ _ l0_3 t177 _ ?side1 ?side2 A2.out).mono ?_);(case side1=>exact kc_ HR0_3.out HB.out);(case side2=>exact HC0_3.out);rintro e w5 ⟨rfl,hb⟩;refine ⟨_,rfl,?_⟩;replace BK176:=Aside0.mk (bb_ BK176.out hb);replace HB:=Aside0.mk (below_step (bl_ HB.out) hb)))
 (try simp only [Act.put,List.setIfInBounds_toArray,List.set_cons_succ,List.set_cons_zero])
 go_loopg [3,4] k (fun kq v3 v4 w'=>∃ (x3_1:Int) (x4_1:Int),v3=.int .i64 x3_1∧v4=.int .i64 x4_1∧Aside0 (helmsmanref12_Sized.l0 kq x3_1 x4_1 l0_0 l0_1 l0_2 l0_3=some r)∧Aside0 (kq≤k)∧Aside0 (w'.heap[gb176]?=some (.cells #[(.slice A0_0 l0_0.length c0_0),(.slice A0_1 l0_1.length c0_1),(.slice A0_2 l0_2.length c0_2),(.slice A0_3 l0_3.length c0_3)] 43 (0,0)))∧Aside0 (Below w.heap.size w w'))
 case atStart=>exact ⟨(t177),(0),rf_,rf_,H',⟨Nat.le_refl _⟩,⟨kb_ BK176.out⟩,⟨bl_ HB.out⟩⟩
 case round=>
  clear H'
  obtain ⟨x3_1,x4_1,rfl,rfl,HA,HK1,BK176,HB⟩:=hrel
  cases gk with
  | zero=>exact absurd HA.out (by simp [helmsmanref12_Sized.l0])
  | succ k1=>
   have H:=HA.out
   clear HA
   simp only [helmsmanref12_Sized.l0] at H
   by_cases c6:x4_1 < (l0_2.length:Int)
   ·rw [if_pos c6] at H
    have c6b0:=decide_eq_true c6
    clear c6
    revert H
    refine gd_ fun c7 H=>?_
    have c7b0:=decide_eq_true c7
    clear c7
    revert H
    refine bd_ fun t179 A8 H=>?_
    have H':=Aside0.mk H
    clear H
    obtain ⟨hcz9_0,hcz9_1,hcz9_2,hcz9_3,hfz9_0,hfz9_1,hfz9_2,hfz9_3⟩:=zf4_ BK176.out
    have p178:0≤(x4_1:Int):=of_decide_eq_true as_
    have q178:x4_1 < (l0_2.length:Int):=of_decide_eq_true as_
    obtain ⟨ad178,A178_1,c178_1,e178,hx178_0,hx178_1,hl178_1,hi178_1⟩:=at_T69 HR0_2.out x4_1 p178 q178
    cases e178
    replace hx178_0:=(cb_ HB.out hx178_0:_)
    replace hx178_1:=(cb_ HB.out hx178_1:_)
    have HR178_1:=Aside0.mk hi178_1
    have HC178_1:=Aside0.mk hl178_1
    clear hi178_1 hl178_1
    replace p178:=eq_true p178
    replace q178:=eq_true q178
    go_wp2_with (first|((with_reducible refine gate_callee (f:=9) rfl ?_);refine goesL_ (some 22) rfl rfl Tryd.func9 (by kernel_rfl) rfl #[.slice A178_1 ((rd_T69 l0_2 x4_1).f1).length c178_1] rfl ar_ ?_;(with_reducible refine (helmsmanref12_Size.calls k1 _ _ ((rd_T69 l0_2 x4_1).f1) t179 _ ?side1 ?side2 A8.out).mono ?_);(case side1=>exact kc_ HR178_1.out HB.out);(case side2=>exact HC178_1.out);rintro e w10 ⟨rfl,hb⟩;refine ⟨_,rfl,?_⟩;replace BK176:=Aside0.mk (bb_ BK176.out hb);replace HB:=Aside0.mk (below_step (bl_ HB.out) hb)))
    go_roundg k1
    case measure=>have:=HK1.out;omega
    case rel=>exact ⟨(wrap64 (x3_1+t179)),(wrap64 (x4_1+1)),rf_,rf_,H',⟨by have:=HK1.out;omega⟩,⟨kb_ BK176.out⟩,⟨bl_ HB.out⟩⟩
   ·rw [if_neg c6] at H
    have c6b0:=decide_eq_false c6
    clear c6
    obtain rfl:=Option.some.inj H
    obtain ⟨hcz11_0,hcz11_1,hcz11_2,hcz11_3,hfz11_0,hfz11_1,hfz11_2,hfz11_3⟩:=zf4_ BK176.out
    go_wp2
    go_ret
    exact ⟨rt_,bl_ HB.out⟩
end Go.Proofs.YtnnbbeloifhofaaDoor.P
end
section
namespace Go.Proofs.YtnnbbeloifhofaaDoor.P
open Go.RowKit Go.Proofs.YtnnbbeloifhofaaDoorW.PrintWords Go.Proofs.YtnnbbeloifhofaaDoorW.PrintLast Go.Proofs.YtnnbbeloifhofaaDoorW.PrintMore
attribute [local go_sem] max2_int min2_int max_two min_two max_three min_three max_four min_four
set_option linter.unusedVariables false
set_option linter.unusedSimpArgs false
def tree_Sized.l0:Nat→Int→List (S66)→Int→Int→Option (Int)
 | 0,_,_,_,_=>none
 | k+1,x3,x10,x11,x12=>if x12 < x11 then (if 0≤x12 then (if x12 < (x10.length:Int) then ((tree_stmts.f k ((rd_T66 x10 x12).f1)).bind fun t248=>(tree_Sized.l0 k (wrap64 (x3+t248)) x10 x11 (wrap64 (x12+1)))) else (none)) else (none)) else (some x3)
def tree_Sized.f (k:Nat) (l0_0:List (S79)) (l0_1:List (S80)) (l0_2:List (S66)) (l0_3:List (S76)):Option (Int):=(tree_stmts.f k l0_3).bind fun t245=>(tree_Sized.l0 k t245 l0_2 (l0_2.length:Int) 0)
set_option maxHeartbeats 8000000 in
set_option maxRecDepth 100000 in
theorem tree_Sized.calls (k:Nat) (A0_0:Option Addr) (c0_0:Nat) (l0_0:List (S79)) (A0_1:Option Addr) (c0_1:Nat) (l0_1:List (S80)) (A0_2:Option Addr) (c0_2:Nat) (l0_2:List (S66)) (A0_3:Option Addr) (c0_3:Nat) (l0_3:List (S76)) (r:Int) (w:World) (hr0_0:Kd.C k79 w A0_0 l0_0.length l0_0) (hc0_0:l0_0.length≤c0_0) (hr0_1:Kd.C k80 w A0_1 l0_1.length l0_1) (hc0_1:l0_1.length≤c0_1) (hr0_2:Kd.C k66 w A0_2 l0_2.length l0_2) (hc0_2:l0_2.length≤c0_2) (hr0_3:Kd.C k76 w A0_3 l0_3.length l0_3) (hc0_3:l0_3.length≤c0_3) (h:tree_Sized.f k l0_0 l0_1 l0_2 l0_3=some r) :
  Calls Tryd.prog 20 #[.agg #[.slice A0_0 l0_0.length c0_0,.slice A0_1 l0_1.length c0_1,.slice A0_2 l0_2.length c0_2,.slice A0_3 l0_3.length c0_3]] w fun e w'=>e=.returned (.int .i64 r)∧Below w.heap.size w w':=by
 have hu50:=Tryd.underlying50
 have hu66:=Tryd.underlying66
 have HR0_0:=Aside0.mk hr0_0
 have HC0_0:=Aside0.mk hc0_0
 clear hr0_0 hc0_0
 have HR0_1:=Aside0.mk hr0_1
 have HC0_1:=Aside0.mk hc0_1
 clear hr0_1 hc0_1
 have HR0_2:=Aside0.mk hr0_2
 have HC0_2:=Aside0.mk hc0_2
 clear hr0_2 hc0_2
 have HR0_3:=Aside0.mk hr0_3
 have HC0_3:=Aside0.mk hc0_3
 clear hr0_3 hc0_3
 have HB:=Aside0.mk (Below.refl w.heap.size w)
 have H:((tree_stmts.f k l0_3).bind fun t245=>(tree_Sized.l0 k t245 l0_2 (l0_2.length:Int) 0))=some r:=h
 clear h
 revert H
 refine bd_ fun t245 A2 H=>?_
 have H':=Aside0.mk H
 clear H
 go_enter Tryd.func20,Tryd.ntmps20
 go_wp2_with (first|((with_reducible refine gate_dst (N:=1) rfl ?_);refine bx_ (N:=1) (cs:=#[.slice A0_0 l0_0.length c0_0,.slice A0_1 l0_1.length c0_1,.slice A0_2 l0_2.length c0_2,.slice A0_3 l0_3.length c0_3]) (t:=50) ?_;intro gb244 hg w3 hbox hb;have BK244:=Aside0.mk (hbox);have GW244:=Aside0.mk ((gs_ hg (bl_ HB.out):w.heap.size≤gb244));have GE244:=Aside0.mk ((gs_ hg (bl_ HB.out):w.heap.size≤gb244));replace HB:=Aside0.mk (below_step (bl_ HB.out) hb);clear hb hbox hg;obtain ⟨hcz4_0,hcz4_1,hcz4_2,hcz4_3,hfz4_0,hfz4_1,hfz4_2,hfz4_3⟩:=zf4_ BK244.out)|((with_reducible refine gate_callee (f:=36) rfl ?_);refine goesL_ (some 8) rfl rfl Tryd.func36 (by kernel_rfl) rfl #[.slice A0_3 l0_3.length c0_3] rfl ar_ ?_;(with_reducible refine (tree_stmts.calls k _ _ l0_3 t245 _ ?side1 ?side2 A2.out).mono ?_);(case side1=>exact kc_ HR0_3.out HB.out);(case side2=>exact HC0_3.out);rintro e w5 ⟨rfl,hb⟩;refine ⟨_,rfl,?_⟩;replace BK244:=Aside0.mk (bb_ BK244.out hb);replace HB:=Aside0.mk (below_step (bl_ HB.out) hb);obtain ⟨hcz6_0,hcz6_1,hcz6_2,hcz6_3,hfz6_0,hfz6_1,hfz6_2,hfz6_3⟩:=zf4_ BK244.out))
 (try simp only [Act.put,List.setIfInBounds_toArray,List.set_cons_succ,List.set_cons_zero])
 go_loopg [3,12] k (fun kq v3 v12 w'=>∃ (x3_1:Int) (x12_1:Int),v3=.int .i64 x3_1∧v12=.int .i64 x12_1∧Aside0 (tree_Sized.l0 kq x3_1 l0_2 (l0_2.length:Int) x12_1=some r)∧Aside0 (kq≤k)∧Aside0 (w'.heap[gb244]?=some (.cells #[(.slice A0_0 l0_0.length c0_0),(.slice A0_1 l0_1.length c0_1),(.slice A0_2 l0_2.length c0_2),(.slice A0_3 l0_3.length c0_3)] 50 (0,0)))∧Aside0 (Below w.heap.size w w'))
 case atStart=>exact ⟨(t245),(0),rf_,rf_,H',⟨Nat.le_refl _⟩,⟨kb_ BK244.out⟩,⟨bl_ HB.out⟩⟩
 case round=>
  clear H'
  obtain ⟨x3_1,x12_1,rfl,rfl,HA,HK1,BK244,HB⟩:=hrel
  cases gk with
  | zero=>exact absurd HA.out (by simp [tree_Sized.l0])
  | succ k1=>
   have H:=HA.out
   clear HA
   simp only [tree_Sized.l0] at H
   by_cases c7:x12_1 < (l0_2.length:Int)
   ·rw [if_pos c7] at H
    have c7b0:=decide_eq_true c7
    clear c7
    revert H
    refine gd_ fun c8 H=>?_
    have c8b0:=decide_eq_true c8
    clear c8
    revert H
    refine gd_ fun c9 H=>?_
    have c9b0:=decide_eq_true c9
    clear c9
    revert H
    refine bd_ fun t248 A10 H=>?_
    have H':=Aside0.mk H
    clear H
    have p246:0≤(x12_1:Int):=of_decide_eq_true as_
    have q246:x12_1 < (l0_2.length:Int):=of_decide_eq_true as_
    obtain ⟨ad246,A246_1,c246_1,e246,hx246_0,hx246_1,hl246_1,hi246_1⟩:=at_T66 HR0_2.out x12_1 p246 q246
    cases e246
    replace hx246_0:=(cb_ HB.out hx246_0:_)
    replace hx246_1:=(cb_ HB.out hx246_1:_)
    have HR246_1:=Aside0.mk hi246_1
    have HC246_1:=Aside0.mk hl246_1
    clear hi246_1 hl246_1
    replace p246:=eq_true p246
    replace q246:=eq_true q246
    go_wp2_with (first|((with_reducible refine gate_dst (N:=5) rfl ?_);refine bx_ (N:=5) (cs:=#[.string (⟨#[]⟩:ByteArray),.slice none 0 0]) (t:=66) ?_;intro gb247 hg w11 hbox hb;have BK247:=Aside0.mk (hbox);have GW247:=Aside0.mk ((gs_ hg (bl_ HB.out):w.heap.size≤gb247));have GE247:=Aside0.mk ((gs_ hg (bl_ HB.out):w.heap.size≤gb247));replace HB:=Aside0.mk (below_step (bl_ HB.out) hb);have NB244_247:=Aside0.mk ((nl_ hg BK244.out:gb244≠gb247));have NB247_244:=Aside0.mk ((nr_ hg BK244.out:gb247≠gb244));replace BK244:=Aside0.mk (bb_ BK244.out hb);clear hb hbox hg;have hnb12:=NB247_244.out;have hnc12:=NB244_247.out;obtain ⟨hcz13_0,hcz13_1,hfz13_0,hfz13_1⟩:=zf2_ BK247.out)|((with_reducible refine gate_callee (f:=36) rfl ?_);refine goesL_ (some 19) rfl rfl Tryd.func36 (by kernel_rfl) rfl #[.slice A246_1 ((rd_T66 l0_2 x12_1).f1).length c246_1] rfl ar_ ?_;(with_reducible refine (tree_stmts.calls k1 _ _ ((rd_T66 l0_2 x12_1).f1) t248 _ ?side1 ?side2 A10.out).mono ?_);(case side1=>exact Kd.C_below HR246_1.out (bl_ HB.out));(case side2=>exact HC246_1.out);rintro e w14 ⟨rfl,hb⟩;refine ⟨_,rfl,?_⟩;replace BK244:=Aside0.mk (blk_below (g:=gb244) (o:=.cells #[.slice A0_0 l0_0.length c0_0,.slice A0_1 l0_1.length c0_1,.slice (some ad246) l0_2.length c0_2,.slice A0_3 l0_3.length c0_3] 50 (0,0)) (kbc_ BK244.out) hb);replace BK247:=Aside0.mk (blk_below (g:=gb247) (o:=.cells #[.string ((rd_T66 l0_2 x12_1).f0),.slice A246_1 ((rd_T66 l0_2 x12_1).f1).length c246_1] 66 (0,0)) (kbc_ BK247.out) hb);replace HB:=Aside0.mk (below_step (bl_ HB.out) hb)))
    go_roundg k1
    case measure=>have:=HK1.out;omega
    case rel=>exact ⟨(wrap64 (x3_1+t248)),(wrap64 (x12_1+1)),rf_,rf_,H',⟨by have:=HK1.out;omega⟩,⟨kb_ BK244.out⟩,⟨bl_ HB.out⟩⟩
   ·rw [if_neg c7] at H
    have c7b0:=decide_eq_false c7
    clear c7
    obtain rfl:=Option.some.inj H
    go_wp2
    go_ret
    exact ⟨rt_,bl_ HB.out⟩
end Go.Proofs.YtnnbbeloifhofaaDoor.P
end
section
namespace Go.Proofs.YtnnbbeloifhofaaDoor.P
open Go Go.RowKit Go.Proofs
open Go.Proofs.YtnnbbeloifhofaaDoorW.PrintWords Go.Proofs.YtnnbbeloifhofaaDoorW.PrintLast Go.Proofs.YtnnbbeloifhofaaDoorW.PrintMore
set_option linter.unusedVariables false
theorem rdEn (pre:List REn) (x:REn) (xs:List REn):rd_T72 (pre++x :: xs) (pre.length:Int)=x:=getD_mid ..
theorem rdV (pre:List RV) (x:RV) (xs:List RV):rd_T56 (pre++x :: xs) (pre.length:Int)=x:=getD_mid ..
theorem rdP (pre:List RP) (x:RP) (xs:List RP):rd_T69 (pre++x :: xs) (pre.length:Int)=x:=getD_mid ..
theorem rdTP (pre:List TP) (x:TP) (xs:List TP):rd_T66 (pre++x :: xs) (pre.length:Int)=x:=getD_mid ..
section
variable (e:List REn) (v:List RV) (p:List RP) (m:List RS)
theorem Prog_l2 : ∀ (xs pre:List RP) (n:Int) (a:List ES) (b:List VS) (acc:List TP) (d:List TS),(∀ y ∈ xs,bulkSs y.f1 < 1099511627775)→n=((pre++xs).length:Int)→(pre++xs).length < 1099511627776→acc.length=pre.length→
    Ev (fun k=>helmsmanlaw12_Prog.l2 k (pre++xs) n pre.length a b acc d) (a,b,acc++convPs xs,d):=by
  intro xs
  induction xs with
  | nil=>
    intro pre n a b acc d _ hn _ _
    subst hn
    refine Ev.step (fun k=>helmsmanlaw12_Prog.l2.eq_2 _ _ _ _ _ _ _ k) (Ev.no (end_not pre) ?_)
    rw [show convPs []=[] from rfl,List.append_nil];exact Ev.now _
  | cons x xs ih=>
    intro pre n a b acc d h hn hl ha
    subst hn
    refine Ev.step (fun k=>helmsmanlaw12_Prog.l2.eq_2 _ _ _ _ _ _ _ k) (Ev.yes (mid_lt pre x xs) (Ev.yes (by omega) (Ev.yes (mid_lt pre x xs) ?_)))
    rw [rdP]
    refine Ev.bind (Stmts_ev x.f1 (h x (List.mem_cons_self ..))) (Ev.yes (by rw [ha];rw [List.length_append] at hl;omega) ?_)
    rw [next_len pre x xs (by omega)]
    have:=ih (pre++[x]) ((pre++x :: xs).length:Int) a b (acc++[convP x]) d (fun y hy=>h y (List.mem_cons_of_mem _ hy)) (by rw [← snoc]) (by rw [← snoc];exact hl) (by rw [List.length_append,List.length_append,ha];rfl)
    rw [← snoc,List.append_assoc,List.singleton_append] at this
    exact this
theorem Prog_l1 (hp : ∀ y ∈ p,bulkSs y.f1 < 1099511627775) (hl2:p.length < 1099511627776) : ∀ (xs pre:List RV) (n:Int) (a:List ES) (acc:List VS) (d:List TS),n=((pre++xs).length:Int)→(pre++xs).length < 1099511627776→acc.length=pre.length→
    Ev (fun k=>helmsmanlaw12_Prog.l1 k (pre++xs) n pre.length e v p m a acc d) (a,acc++xs.map convV,convPs p,d):=by
  intro xs
  induction xs with
  | nil=>
    intro pre n a acc d hn _ _
    subst hn
    refine Ev.step (fun k=>helmsmanlaw12_Prog.l1.eq_2 _ _ _ _ _ _ _ _ _ _ k) (Ev.no (end_not pre) ?_)
    rw [List.map_nil,List.append_nil]
    exact Prog_l2 p [] _ a acc [] d hp rfl (by rw [List.nil_append];exact hl2) rfl
  | cons x xs ih=>
    intro pre n a acc d hn hl ha
    subst hn
    refine Ev.step (fun k=>helmsmanlaw12_Prog.l1.eq_2 _ _ _ _ _ _ _ _ _ _ k) (Ev.yes (mid_lt pre x xs) (Ev.yes (by omega) (Ev.yes (mid_lt pre x xs) (Ev.yes (by rw [ha];rw [List.length_append] at hl;omega) ?_))))
    rw [rdV,next_len pre x xs (by omega)]
    have:=ih (pre++[x]) ((pre++x :: xs).length:Int) a (acc++[convV x]) d (by rw [← snoc]) (by rw [← snoc];exact hl) (by rw [List.length_append,List.length_append,ha];rfl)
    rw [← snoc,List.append_assoc,List.singleton_append] at this
    exact this
theorem Prog_l0 (hp : ∀ y ∈ p,bulkSs y.f1 < 1099511627775) (hl2:p.length < 1099511627776) (hl1:v.length < 1099511627776) : ∀ (xs pre:List REn) (n:Int) (acc:List ES) (d:List TS),n=((pre++xs).length:Int)→(pre++xs).length < 1099511627776→acc.length=pre.length→
    Ev (fun k=>helmsmanlaw12_Prog.l0 k (pre++xs) n pre.length e v p m acc d) (acc++xs.map convEn,v.map convV,convPs p,d):=by
  intro xs
  induction xs with
  | nil=>
    intro pre n acc d hn _ _
    subst hn
    refine Ev.step (fun k=>helmsmanlaw12_Prog.l0.eq_2 _ _ _ _ _ _ _ _ _ k) (Ev.no (end_not pre) ?_)
    rw [List.map_nil,List.append_nil]
    exact Prog_l1 e v p m hp hl2 v [] _ acc [] d rfl (by rw [List.nil_append];exact hl1) rfl
  | cons x xs ih=>
    intro pre n acc d hn hl ha
    subst hn
    refine Ev.step (fun k=>helmsmanlaw12_Prog.l0.eq_2 _ _ _ _ _ _ _ _ _ k) (Ev.yes (mid_lt pre x xs) (Ev.yes (by omega) (Ev.yes (mid_lt pre x xs) (Ev.yes (by rw [ha];rw [List.length_append] at hl;omega) ?_))))
    rw [rdEn,next_len pre x xs (by omega)]
    have:=ih (pre++[x]) ((pre++x :: xs).length:Int) (acc++[convEn x]) d (by rw [← snoc]) (by rw [← snoc];exact hl) (by rw [List.length_append,List.length_append,ha];rfl)
    rw [← snoc,List.append_assoc,List.singleton_append] at this
    exact this
structure Small:Prop where
  en:e.length < 1099511627776
  va:v.length < 1099511627776
  pr:p.length < 1099511627776
  el : ∀ x ∈ e,x.f1.length < 1099511627776
  bo : ∀ x ∈ p,bulkSs x.f1 < 1099511627775
  ma:bulkSs m < 1099511627775
theorem small_of (hb:bulkP e v p m < 1099511627775):Small e v p m:=by
  unfold bulkP at hb
  have l1:=len_sum bulkEn (fun x=>by unfold bulkEn;omega) e
  have l2:=len_sum bulkV (fun x=>by unfold bulkV;omega) v
  have l3:=len_sum bulkPr (fun x=>by unfold bulkPr;omega) p
  refine ⟨by omega,by omega,by omega,fun x hx=>?_,fun x hx=>?_,by omega⟩
  · have:=mem_sum bulkEn hx
    have e1:bulkEn x=x.f0.size+bulkN x.f1+1:=rfl
    have:=len_bulkN x.f1
    omega
  · have:=mem_sum bulkPr hx
    have e1:bulkPr x=x.f0.size+bulkSs x.f1+1:=rfl
    omega
theorem Prog_ev (h:Small e v p m):Ev (fun k=>helmsmanlaw12_Prog.f k e v p m) (e.map convEn,v.map convV,convPs p,convSs m):=
  Ev.bind (Stmts_ev m h.ma) (Prog_l0 e v p m h.bo h.pr h.va e [] _ [] (convSs m) rfl (by rw [List.nil_append];exact h.en) rfl)
def szP:Nat:=szSs m+(p.map fun x=>szSs x.f1).sum
end
theorem wrap_nat {a b:Nat} (h:a+b < 9223372036854775808):wrap64 ((a:Int)+(b:Int))=((a+b:Nat):Int):=by rw [wrap64_small (by omega) (by omega)];rfl
theorem Sized_l0 (e:List REn) (v:List RV) (m:List RS) : ∀ (xs pre:List RP) (a:Nat),(∀ y ∈ xs,bulkSs y.f1 < 1099511627775)→(pre++xs).length < 1099511627776→a+(xs.map fun x=>szSs x.f1).sum < 4611686018427387904→
    Ev (fun k=>helmsmanref12_Sized.l0 k (a:Int) pre.length e v (pre++xs) m) ((a+(xs.map fun x=>szSs x.f1).sum:Nat):Int):=by
  intro xs
  induction xs with
  | nil=>
    intro pre a _ _ _
    refine Ev.step (fun k=>helmsmanref12_Sized.l0.eq_2 _ _ _ _ _ _ k) (Ev.no (end_not pre) ?_)
    exact Ev.now _
  | cons x xs ih=>
    intro pre a h hl ha
    rw [List.map_cons,List.sum_cons] at ha ⊢
    refine Ev.step (fun k=>helmsmanref12_Sized.l0.eq_2 _ _ _ _ _ _ k) (Ev.yes (mid_lt pre x xs) (Ev.yes (by omega) ?_))
    rw [rdP]
    refine Ev.bind (Size_ev x.f1 (h x (List.mem_cons_self ..))) ?_
    rw [next_len pre x xs (by omega),wrap_nat (by omega)]
    have:=ih (pre++[x]) (a+szSs x.f1) (fun y hy=>h y (List.mem_cons_of_mem _ hy)) (by rw [← snoc];exact hl) (by omega)
    rw [← snoc] at this
    rw [← Nat.add_assoc]
    exact this
theorem sz_sum (p:List RP):(p.map fun x=>szSs x.f1).sum≤(p.map bulkPr).sum:=by
  induction p with
  | nil=>exact Nat.le_refl _
  | cons x xs ih=>rw [List.map_cons,List.sum_cons,List.map_cons,List.sum_cons];have:=szSs_bulk x.f1;unfold bulkPr at ih ⊢;omega
theorem szP_bulk (e:List REn) (v:List RV) (p:List RP) (m:List RS):szP p m≤bulkP e v p m:=by
  unfold szP bulkP
  have:=sz_sum p
  have:=szSs_bulk m
  omega
theorem Sized_ev (e:List REn) (v:List RV) (p:List RP) (m:List RS) (h:Small e v p m) (hb:bulkP e v p m < 1099511627775):Ev (fun k=>helmsmanref12_Sized.f k e v p m) (szP p m:Int):=by
  have hz:=szP_bulk e v p m
  unfold szP at hz ⊢
  exact Ev.bind (Size_ev m h.ma) (Sized_l0 e v m p [] (szSs m) h.bo (by rw [List.nil_append];exact h.pr) (by omega))
theorem tSized_l0 : ∀ (xs pre:List RP) (n:Int) (a:Nat),(∀ y ∈ xs,bulkSs y.f1 < 1099511627775)→n=((pre++xs).length:Int)→(pre++xs).length < 1099511627776→a+(xs.map fun x=>szSs x.f1).sum < 4611686018427387904→
    Ev (fun k=>tree_Sized.l0 k (a:Int) (convPs (pre++xs)) n pre.length) ((a+(xs.map fun x=>szSs x.f1).sum:Nat):Int):=by
  intro xs
  induction xs with
  | nil=>
    intro pre n a _ hn _ _
    subst hn
    refine Ev.step (fun k=>tree_Sized.l0.eq_2 _ _ _ _ k) (Ev.no (end_not pre) ?_)
    exact Ev.now _
  | cons x xs ih=>
    intro pre n a h hn hl ha
    subst hn
    rw [List.map_cons,List.sum_cons] at ha ⊢
    refine Ev.step (fun k=>tree_Sized.l0.eq_2 _ _ _ _ k) (Ev.yes (mid_lt pre x xs) (Ev.yes (by omega) (Ev.yes (by rw [convPs_len];exact mid_lt pre x xs) ?_)))
    rw [show rd_T66 (convPs (pre++x :: xs)) (pre.length:Int)=convP x by
      rw [convPs,List.map_append,List.map_cons]
      have:=rdTP (pre.map convP) (convP x) (xs.map convP)
      rw [List.length_map] at this;exact this]
    refine Ev.bind (stmts_ev x.f1 (h x (List.mem_cons_self ..))) ?_
    rw [next_len pre x xs (by omega),wrap_nat (by omega)]
    have:=ih (pre++[x]) ((pre++x :: xs).length:Int) (a+szSs x.f1) (fun y hy=>h y (List.mem_cons_of_mem _ hy)) (by rw [← snoc]) (by rw [← snoc];exact hl) (by omega)
    rw [← snoc] at this
    rw [← Nat.add_assoc]
    exact this
theorem tSized_ev (a:List ES) (b:List VS) (e:List REn) (v:List RV) (p:List RP) (m:List RS) (h:Small e v p m) (hb:bulkP e v p m < 1099511627775):Ev (fun k=>tree_Sized.f k a b (convPs p) (convSs m)) (szP p m:Int):=by
  have hz:=szP_bulk e v p m
  unfold szP at hz ⊢
  unfold tree_Sized.f
  refine Ev.bind (stmts_ev m h.ma) ?_
  have:=tSized_l0 p [] (p.length:Int) (szSs m) h.bo rfl (by rw [List.nil_append];exact h.pr) (by omega)
  rw [convPs_len]
  exact this
end Go.Proofs.YtnnbbeloifhofaaDoor.P
end
section
namespace Go.Proofs.YtnnbbeloifhofaaDoor.P
open Go.RowKit Go.Proofs.YtnnbbeloifhofaaDoorW.PrintWords Go.Proofs.YtnnbbeloifhofaaDoorW.PrintLast Go.Proofs.YtnnbbeloifhofaaDoorW.PrintMore
attribute [local go_sem] max2_int min2_int max_two min_two max_three min_three max_four min_four
set_option linter.unusedVariables false
set_option linter.unusedSimpArgs false
mutual
def helmsmanref12_Whole.j2:Nat→Int→ByteArray→ByteArray→Int→List (S24)→Int→Option (Bool)
 | 0,_,_,_,_,_,_=>none
 | k+1,x3,x102000,x102001,x102002,x102003,x102004=>if (x102003.length:Int)=x3 then (if x102000.toList=([110,117,109]:List UInt8) then (helmsmanref12_Whole.j3 k (decide (x102002 < 0)) x102000 x102001 x102002 x102003 x102004) else (helmsmanref12_Whole.j3 k false x102000 x102001 x102002 x102003 x102004)) else (helmsmanref12_Whole.j3 k true x102000 x102001 x102002 x102003 x102004)
def helmsmanref12_Whole.j3:Nat→Bool→ByteArray→ByteArray→Int→List (S24)→Int→Option (Bool)
 | 0,_,_,_,_,_,_=>none
 | k+1,x43,x102000,x102001,x102002,x102003,x102004=>if x43=true then (some false) else (helmsmanref12_Whole.l0 k 0 x102000 x102001 x102002 x102003 x102004)
def helmsmanref12_Whole.l0:Nat→Int→ByteArray→ByteArray→Int→List (S24)→Int→Option (Bool)
 | 0,_,_,_,_,_,_=>none
 | k+1,x4,x102000,x102001,x102002,x102003,x102004=>if x4 < (x102003.length:Int) then (if 0≤x4 then ((helmsmanref12_Whole.f k ((rd_T24 x102003 x4).f0) ((rd_T24 x102003 x4).f1) ((rd_T24 x102003 x4).f2) ((rd_T24 x102003 x4).f3) ((rd_T24 x102003 x4).f4)).bind fun t103=>(if t103=true then (helmsmanref12_Whole.l0 k (wrap64 (x4+1)) x102000 x102001 x102002 x102003 x102004) else (some false))) else (none)) else (some true)
def helmsmanref12_Whole.j0:Nat→ByteArray→Bool→ByteArray→ByteArray→Int→List (S24)→Int→Option (Bool)
 | 0,_,_,_,_,_,_,_=>none
 | k+1,x6,x7,x102000,x102001,x102002,x102003,x102004=>if x7=true then (helmsmanref12_Whole.j2 k 0 x102000 x102001 x102002 x102003 x102004) else (if x6.toList=([97,116]:List UInt8) then (helmsmanref12_Whole.j1 k x6 (x6.toList == ([97,116]:List UInt8)) x102000 x102001 x102002 x102003 x102004) else (if x6.toList=([110,101,103]:List UInt8) then (helmsmanref12_Whole.j1 k x6 (x6.toList == ([110,101,103]:List UInt8)) x102000 x102001 x102002 x102003 x102004) else (helmsmanref12_Whole.j1 k x6 (x6.toList == ([110,111,116]:List UInt8)) x102000 x102001 x102002 x102003 x102004)))
def helmsmanref12_Whole.j1:Nat→ByteArray→Bool→ByteArray→ByteArray→Int→List (S24)→Int→Option (Bool)
 | 0,_,_,_,_,_,_,_=>none
 | k+1,x6,x12,x102000,x102001,x102002,x102003,x102004=>if x12=true then (helmsmanref12_Whole.j2 k 1 x102000 x102001 x102002 x102003 x102004) else (if x6.toList=([43]:List UInt8) then (helmsmanref12_Whole.j2 k 2 x102000 x102001 x102002 x102003 x102004) else (if x6.toList=([45]:List UInt8) then (helmsmanref12_Whole.j2 k 2 x102000 x102001 x102002 x102003 x102004) else (if x6.toList=([42]:List UInt8) then (helmsmanref12_Whole.j2 k 2 x102000 x102001 x102002 x102003 x102004) else (if x6.toList=([47]:List UInt8) then (helmsmanref12_Whole.j2 k 2 x102000 x102001 x102002 x102003 x102004) else (if x6.toList=([61,61]:List UInt8) then (helmsmanref12_Whole.j2 k 2 x102000 x102001 x102002 x102003 x102004) else (if x6.toList=([33,61]:List UInt8) then (helmsmanref12_Whole.j2 k 2 x102000 x102001 x102002 x102003 x102004) else (if x6.toList=([60]:List UInt8) then (helmsmanref12_Whole.j2 k 2 x102000 x102001 x102002 x102003 x102004) else (if x6.toList=([60,61]:List UInt8) then (helmsmanref12_Whole.j2 k 2 x102000 x102001 x102002 x102003 x102004) else (if x6.toList=([62]:List UInt8) then (helmsmanref12_Whole.j2 k 2 x102000 x102001 x102002 x102003 x102004) else (if x6.toList=([62,61]:List UInt8) then (helmsmanref12_Whole.j2 k 2 x102000 x102001 x102002 x102003 x102004) else (if x6.toList=([38,38]:List UInt8) then (helmsmanref12_Whole.j2 k 2 x102000 x102001 x102002 x102003 x102004) else (if x6.toList=([124,124]:List UInt8) then (helmsmanref12_Whole.j2 k 2 x102000 x102001 x102002 x102003 x102004) else (some false)))))))))))))
def helmsmanref12_Whole.f:Nat→ByteArray→ByteArray→Int→List (S24)→Int→Option (Bool)
 | 0,_,_,_,_,_=>none
 | k+1,a0_0,a0_1,a0_2,l0_3,a0_4=>if a0_0.toList=([110,117,109]:List UInt8) then (helmsmanref12_Whole.j0 k a0_0 (a0_0.toList == ([110,117,109]:List UInt8)) a0_0 a0_1 a0_2 l0_3 a0_4) else (if a0_0.toList=([110,97,109,101]:List UInt8) then (helmsmanref12_Whole.j0 k a0_0 (a0_0.toList == ([110,97,109,101]:List UInt8)) a0_0 a0_1 a0_2 l0_3 a0_4) else (if a0_0.toList=([116,114,117,101]:List UInt8) then (helmsmanref12_Whole.j0 k a0_0 (a0_0.toList == ([116,114,117,101]:List UInt8)) a0_0 a0_1 a0_2 l0_3 a0_4) else (helmsmanref12_Whole.j0 k a0_0 (a0_0.toList == ([102,97,108,115,101]:List UInt8)) a0_0 a0_1 a0_2 l0_3 a0_4)))
end
set_option maxHeartbeats 8000000 in
set_option maxRecDepth 100000 in
theorem helmsmanref12_Whole.calls (k:Nat) : ∀ (a0_0:ByteArray) (a0_1:ByteArray) (a0_2:Int) (A0_3:Option Addr) (c0_3:Nat) (l0_3:List (S24)) (a0_4:Int) (r:Bool) (w:World) (hr0_3:Kd.C k24 w A0_3 l0_3.length l0_3) (hc0_3:l0_3.length≤c0_3) (h:helmsmanref12_Whole.f k a0_0 a0_1 a0_2 l0_3 a0_4=some r),
  Calls Tryd.prog 8 #[.agg #[.string a0_0,.string a0_1,.int .i64 a0_2,.slice A0_3 l0_3.length c0_3,.int .i64 a0_4]] w fun e w'=>e=.returned (.bool r)∧Below w.heap.size w w':=by
 induction k using Nat.strongRecOn with
 | _ k ih=>
 intro a0_0 a0_1 a0_2 A0_3 c0_3 l0_3 a0_4 r w hr0_3 hc0_3 h
 cases k with
 | zero=>exact absurd h (by simp [helmsmanref12_Whole.f])
 | succ k=>
 simp only [helmsmanref12_Whole.f] at h
 have hu24:=Tryd.underlying24
 have HR0_3:=Aside0.mk hr0_3
 have HC0_3:=Aside0.mk hc0_3
 clear hr0_3 hc0_3
 have HB:=Aside0.mk (Below.refl w.heap.size w)
 have H:(if a0_0.toList=([110,117,109]:List UInt8) then (helmsmanref12_Whole.j0 k a0_0 (a0_0.toList == ([110,117,109]:List UInt8)) a0_0 a0_1 a0_2 l0_3 a0_4) else (if a0_0.toList=([110,97,109,101]:List UInt8) then (helmsmanref12_Whole.j0 k a0_0 (a0_0.toList == ([110,97,109,101]:List UInt8)) a0_0 a0_1 a0_2 l0_3 a0_4) else (if a0_0.toList=([116,114,117,101]:List UInt8) then (helmsmanref12_Whole.j0 k a0_0 (a0_0.toList == ([116,114,117,101]:List UInt8)) a0_0 a0_1 a0_2 l0_3 a0_4) else (helmsmanref12_Whole.j0 k a0_0 (a0_0.toList == ([102,97,108,115,101]:List UInt8)) a0_0 a0_1 a0_2 l0_3 a0_4))))=some r:=h
 clear h
 have HC2:=Aside0.mk H
 clear H
 go_enter Tryd.func8,Tryd.ntmps8
 go_upto_block 0 with (first|((with_reducible refine gate_dst (N:=1) rfl ?_);refine bx_ (N:=1) (cs:=#[.string a0_0,.string a0_1,.int .i64 a0_2,.slice A0_3 l0_3.length c0_3,.int .i64 a0_4]) (t:=24) ?_;intro gb101 hg w3 hbox hb;have BK101:=Aside0.mk (hbox);have GW101:=Aside0.mk ((gs_ hg (bl_ HB.out):w.heap.size≤gb101));have GE101:=Aside0.mk ((gs_ hg (bl_ HB.out):w.heap.size≤gb101));replace HB:=Aside0.mk (below_step (bl_ HB.out) hb);clear hb hbox hg;obtain ⟨hcz4_0,hcz4_1,hcz4_2,hcz4_3,hcz4_4,hfz4_0,hfz4_1,hfz4_2,hfz4_3,hfz4_4⟩:=zf5_ BK101.out))
 (try simp only [Act.put,List.setIfInBounds_toArray,List.set_cons_zero,List.set_cons_succ])
 go_cut [3] (fun v3 wc=>∃ (kq:Nat) (x3_1:Int),v3=.int .i64 x3_1∧Aside0 (helmsmanref12_Whole.j2 kq x3_1 a0_0 a0_1 a0_2 l0_3 a0_4=some r)∧Aside0 (kq≤k)∧Aside0 (wc.heap[gb101]?=some (.cells #[.string a0_0,.string a0_1,.int .i64 a0_2,(.slice A0_3 l0_3.length c0_3),.int .i64 a0_4] 24 (0,0)))∧Aside0 (Below w.heap.size w wc))
 case first=>
  have H:=HC2.out
  clear HC2
  have HC5:=Aside0.mk H
  clear H
  go_upto_if 7 with (fail)
  go_cut [7] (fun v7 wc=>∃ (kq:Nat) (x7_4:Bool),v7=.bool x7_4∧Aside0 (helmsmanref12_Whole.j0 kq a0_0 x7_4 a0_0 a0_1 a0_2 l0_3 a0_4=some r)∧Aside0 (kq≤k)∧Aside0 (wc.heap[gb101]?=some (.cells #[.string a0_0,.string a0_1,.int .i64 a0_2,(.slice A0_3 l0_3.length c0_3),.int .i64 a0_4] 24 (0,0)))∧Aside0 (Below w.heap.size w wc))
  case first=>
   have H:=HC5.out
   clear HC5
   by_cases c6:a0_0.toList=([110,117,109]:List UInt8)
   ·rw [if_pos c6] at H
    have c6b0:=bqt_ c6
    have c6b1:=bnf_ c6
    clear c6
    (first|rw [c6b0]|(simp only [i64_w,i32_w];rw [c6b0])|skip)
    have H':=Aside0.mk H
    clear H
    go_wp2
    go_meet
    case rel=>exact ⟨_,((a0_0.toList == ([110,117,109]:List UInt8))),rf_,H',⟨by first|omega|exact Nat.le_refl _⟩,⟨kb_ BK101.out⟩,⟨bl_ HB.out⟩⟩
   ·rw [if_neg c6] at H
    have c6b0:=bqf_ c6
    have c6b1:=bnt_ c6
    (first|rw [c6b0]|(simp only [i64_w,i32_w];rw [c6b0])|skip)
    by_cases c7:a0_0.toList=([110,97,109,101]:List UInt8)
    ·rw [if_pos c7] at H
     have c7b0:=bqt_ c7
     have c7b1:=bnf_ c7
     clear c7
     have H':=Aside0.mk H
     clear H
     go_wp2
     go_meet
     case rel=>exact ⟨_,((a0_0.toList == ([110,97,109,101]:List UInt8))),rf_,H',⟨by first|omega|exact Nat.le_refl _⟩,⟨kb_ BK101.out⟩,⟨bl_ HB.out⟩⟩
    ·rw [if_neg c7] at H
     have c7b0:=bqf_ c7
     have c7b1:=bnt_ c7
     by_cases c8:a0_0.toList=([116,114,117,101]:List UInt8)
     ·rw [if_pos c8] at H
      have c8b0:=bqt_ c8
      have c8b1:=bnf_ c8
      clear c8
      have H':=Aside0.mk H
      clear H
      go_wp2
      go_meet
      case rel=>exact ⟨_,((a0_0.toList == ([116,114,117,101]:List UInt8))),rf_,H',⟨by first|omega|exact Nat.le_refl _⟩,⟨kb_ BK101.out⟩,⟨bl_ HB.out⟩⟩
     ·rw [if_neg c8] at H
      have c8b0:=bqf_ c8
      have c8b1:=bnt_ c8
      have H':=Aside0.mk H
      clear H
      go_wp2
      go_meet
      case rel=>exact ⟨_,((a0_0.toList == ([102,97,108,115,101]:List UInt8))),rf_,H',⟨by first|omega|exact Nat.le_refl _⟩,⟨kb_ BK101.out⟩,⟨bl_ HB.out⟩⟩
  case rest=>
   clear HC5
   (try clear p2);(try clear c6);(try clear c6b0);(try clear c6b1);(try clear c7);(try clear c7b0);(try clear c7b1);(try clear c8);(try clear c8b0);(try clear c8b1);(try clear hcz4_0);(try clear hcz4_1);(try clear hcz4_2);(try clear hcz4_3);(try clear hcz4_4);(try clear hfz4_0);(try clear hfz4_1);(try clear hfz4_2);(try clear hfz4_3);(try clear hfz4_4)
   obtain ⟨kq,x7_4,rfl,HA,HJ4,BK101,HB⟩:=hcut
   cases kq with
   | zero=>exact absurd HA.out (by simp [helmsmanref12_Whole.j0])
   | succ kj4=>
    have H:=HA.out
    clear HA
    simp only [helmsmanref12_Whole.j0] at H
    by_cases c9:x7_4=true
    ·subst c9
     replace H:=ip_ H
     have H':=Aside0.mk H
     clear H
     go_wp2
     go_meet
     case rel=>exact ⟨_,(0),rf_,H',⟨by have:=HJ4.out;first|omega|exact Nat.le_refl _⟩,⟨kb_ BK101.out⟩,⟨bl_ HB.out⟩⟩
    ·replace c9:=Bool.eq_false_iff.mpr c9
     subst c9
     replace H:=in_ H
     have HC10:=Aside0.mk H
     clear H
     go_upto_if 12 with (fail)
     go_cut [12] (fun v12 wc=>∃ (kq:Nat) (x12_9:Bool),v12=.bool x12_9∧Aside0 (helmsmanref12_Whole.j1 kq a0_0 x12_9 a0_0 a0_1 a0_2 l0_3 a0_4=some r)∧Aside0 (kq≤kj4)∧Aside0 (wc.heap[gb101]?=some (.cells #[.string a0_0,.string a0_1,.int .i64 a0_2,(.slice A0_3 l0_3.length c0_3),.int .i64 a0_4] 24 (0,0)))∧Aside0 (Below w.heap.size w wc))
     case first=>
      have H:=HC10.out
      clear HC10
      by_cases c11:a0_0.toList=([97,116]:List UInt8)
      ·rw [if_pos c11] at H
       have c11b0:=bqt_ c11
       have c11b1:=bnf_ c11
       clear c11
       (first|rw [c11b0]|(simp only [i64_w,i32_w];rw [c11b0])|skip)
       have H':=Aside0.mk H
       clear H
       go_wp2
       go_meet
       case rel=>exact ⟨_,((a0_0.toList == ([97,116]:List UInt8))),rf_,H',⟨by have:=HJ4.out;first|omega|exact Nat.le_refl _⟩,⟨kb_ BK101.out⟩,⟨bl_ HB.out⟩⟩
      ·rw [if_neg c11] at H
       have c11b0:=bqf_ c11
       have c11b1:=bnt_ c11
       (first|rw [c11b0]|(simp only [i64_w,i32_w];rw [c11b0])|skip)
       by_cases c12:a0_0.toList=([110,101,103]:List UInt8)
       ·rw [if_pos c12] at H
        have c12b0:=bqt_ c12
        have c12b1:=bnf_ c12
        clear c12
        have H':=Aside0.mk H
        clear H
        go_wp2
        go_meet
        case rel=>exact ⟨_,((a0_0.toList == ([110,101,103]:List UInt8))),rf_,H',⟨by have:=HJ4.out;first|omega|exact Nat.le_refl _⟩,⟨kb_ BK101.out⟩,⟨bl_ HB.out⟩⟩
       ·rw [if_neg c12] at H
        have c12b0:=bqf_ c12
        have c12b1:=bnt_ c12
        have H':=Aside0.mk H
        clear H
        go_wp2
        go_meet
        case rel=>exact ⟨_,((a0_0.toList == ([110,111,116]:List UInt8))),rf_,H',⟨by have:=HJ4.out;first|omega|exact Nat.le_refl _⟩,⟨kb_ BK101.out⟩,⟨bl_ HB.out⟩⟩
     case rest=>
      clear HC10
      obtain ⟨kq,x12_9,rfl,HA,HJ9,BK101,HB⟩:=hcut
      cases kq with
      | zero=>exact absurd HA.out (by simp [helmsmanref12_Whole.j1])
      | succ kj9=>
       have H:=HA.out
       clear HA
       simp only [helmsmanref12_Whole.j1] at H
       by_cases c13:x12_9=true
       ·subst c13
        replace H:=ip_ H
        have H':=Aside0.mk H
        clear H
        go_wp2
        go_meet
        case rel=>exact ⟨_,(1),rf_,H',⟨by have:=HJ4.out;have:=HJ9.out;first|omega|exact Nat.le_refl _⟩,⟨kb_ BK101.out⟩,⟨bl_ HB.out⟩⟩
       ·replace c13:=Bool.eq_false_iff.mpr c13
        subst c13
        replace H:=in_ H
        by_cases c14:a0_0.toList=([43]:List UInt8)
        ·rw [if_pos c14] at H
         have c14b0:=bqt_ c14
         have c14b1:=bnf_ c14
         clear c14
         have H':=Aside0.mk H
         clear H
         go_wp2
         go_meet
         case rel=>exact ⟨_,(2),rf_,H',⟨by have:=HJ4.out;have:=HJ9.out;first|omega|exact Nat.le_refl _⟩,⟨kb_ BK101.out⟩,⟨bl_ HB.out⟩⟩
        ·rw [if_neg c14] at H
         have c14b0:=bqf_ c14
         have c14b1:=bnt_ c14
         by_cases c15:a0_0.toList=([45]:List UInt8)
         ·rw [if_pos c15] at H
          have c15b0:=bqt_ c15
          have c15b1:=bnf_ c15
          clear c15
          have H':=Aside0.mk H
          clear H
          go_wp2
          go_meet
          case rel=>exact ⟨_,(2),rf_,H',⟨by have:=HJ4.out;have:=HJ9.out;first|omega|exact Nat.le_refl _⟩,⟨kb_ BK101.out⟩,⟨bl_ HB.out⟩⟩
         ·rw [if_neg c15] at H
          have c15b0:=bqf_ c15
          have c15b1:=bnt_ c15
          by_cases c16:a0_0.toList=([42]:List UInt8)
          ·rw [if_pos c16] at H
           have c16b0:=bqt_ c16
           have c16b1:=bnf_ c16
           clear c16
           have H':=Aside0.mk H
           clear H
           go_wp2
           go_meet
           case rel=>exact ⟨_,(2),rf_,H',⟨by have:=HJ4.out;have:=HJ9.out;first|omega|exact Nat.le_refl _⟩,⟨kb_ BK101.out⟩,⟨bl_ HB.out⟩⟩
          ·rw [if_neg c16] at H
           have c16b0:=bqf_ c16
           have c16b1:=bnt_ c16
           by_cases c17:a0_0.toList=([47]:List UInt8)
           ·rw [if_pos c17] at H
            have c17b0:=bqt_ c17
            have c17b1:=bnf_ c17
            clear c17
            have H':=Aside0.mk H
            clear H
            go_wp2
            go_meet
            case rel=>exact ⟨_,(2),rf_,H',⟨by have:=HJ4.out;have:=HJ9.out;first|omega|exact Nat.le_refl _⟩,⟨kb_ BK101.out⟩,⟨bl_ HB.out⟩⟩
           ·rw [if_neg c17] at H
            have c17b0:=bqf_ c17
            have c17b1:=bnt_ c17
            by_cases c18:a0_0.toList=([61,61]:List UInt8)
            ·rw [if_pos c18] at H
             have c18b0:=bqt_ c18
             have c18b1:=bnf_ c18
             clear c18
             have H':=Aside0.mk H
             clear H
             go_wp2
             go_meet
             case rel=>exact ⟨_,(2),rf_,H',⟨by have:=HJ4.out;have:=HJ9.out;first|omega|exact Nat.le_refl _⟩,⟨kb_ BK101.out⟩,⟨bl_ HB.out⟩⟩
            ·rw [if_neg c18] at H
             have c18b0:=bqf_ c18
             have c18b1:=bnt_ c18
             by_cases c19:a0_0.toList=([33,61]:List UInt8)
             ·rw [if_pos c19] at H
              have c19b0:=bqt_ c19
              have c19b1:=bnf_ c19
              clear c19
              have H':=Aside0.mk H
              clear H
              go_wp2
              go_meet
              case rel=>exact ⟨_,(2),rf_,H',⟨by have:=HJ4.out;have:=HJ9.out;first|omega|exact Nat.le_refl _⟩,⟨kb_ BK101.out⟩,⟨bl_ HB.out⟩⟩
             ·rw [if_neg c19] at H
              have c19b0:=bqf_ c19
              have c19b1:=bnt_ c19
              by_cases c20:a0_0.toList=([60]:List UInt8)
              ·rw [if_pos c20] at H
               have c20b0:=bqt_ c20
               have c20b1:=bnf_ c20
               clear c20
               have H':=Aside0.mk H
               clear H
               go_wp2
               go_meet
               case rel=>exact ⟨_,(2),rf_,H',⟨by have:=HJ4.out;have:=HJ9.out;first|omega|exact Nat.le_refl _⟩,⟨kb_ BK101.out⟩,⟨bl_ HB.out⟩⟩
              ·rw [if_neg c20] at H
               have c20b0:=bqf_ c20
               have c20b1:=bnt_ c20
               by_cases c21:a0_0.toList=([60,61]:List UInt8)
               ·rw [if_pos c21] at H
                have c21b0:=bqt_ c21
                have c21b1:=bnf_ c21
                clear c21
                have H':=Aside0.mk H
                clear H
                go_wp2
                go_meet
                case rel=>exact ⟨_,(2),rf_,H',⟨by have:=HJ4.out;have:=HJ9.out;first|omega|exact Nat.le_refl _⟩,⟨kb_ BK101.out⟩,⟨bl_ HB.out⟩⟩
               ·rw [if_neg c21] at H
                have c21b0:=bqf_ c21
                have c21b1:=bnt_ c21
                by_cases c22:a0_0.toList=([62]:List UInt8)
                ·rw [if_pos c22] at H
                 have c22b0:=bqt_ c22
                 have c22b1:=bnf_ c22
                 clear c22
                 have H':=Aside0.mk H
                 clear H
                 go_wp2
                 go_meet
                 case rel=>exact ⟨_,(2),rf_,H',⟨by have:=HJ4.out;have:=HJ9.out;first|omega|exact Nat.le_refl _⟩,⟨kb_ BK101.out⟩,⟨bl_ HB.out⟩⟩
                ·rw [if_neg c22] at H
                 have c22b0:=bqf_ c22
                 have c22b1:=bnt_ c22
                 by_cases c23:a0_0.toList=([62,61]:List UInt8)
                 ·rw [if_pos c23] at H
                  have c23b0:=bqt_ c23
                  have c23b1:=bnf_ c23
                  clear c23
                  have H':=Aside0.mk H
                  clear H
                  go_wp2
                  go_meet
                  case rel=>exact ⟨_,(2),rf_,H',⟨by have:=HJ4.out;have:=HJ9.out;first|omega|exact Nat.le_refl _⟩,⟨kb_ BK101.out⟩,⟨bl_ HB.out⟩⟩
                 ·rw [if_neg c23] at H
                  have c23b0:=bqf_ c23
                  have c23b1:=bnt_ c23
                  by_cases c24:a0_0.toList=([38,38]:List UInt8)
                  ·rw [if_pos c24] at H
                   have c24b0:=bqt_ c24
                   have c24b1:=bnf_ c24
                   clear c24
                   have H':=Aside0.mk H
                   clear H
                   go_wp2
                   go_meet
                   case rel=>exact ⟨_,(2),rf_,H',⟨by have:=HJ4.out;have:=HJ9.out;first|omega|exact Nat.le_refl _⟩,⟨kb_ BK101.out⟩,⟨bl_ HB.out⟩⟩
                  ·rw [if_neg c24] at H
                   have c24b0:=bqf_ c24
                   have c24b1:=bnt_ c24
                   by_cases c25:a0_0.toList=([124,124]:List UInt8)
                   ·rw [if_pos c25] at H
                    have c25b0:=bqt_ c25
                    have c25b1:=bnf_ c25
                    clear c25
                    have H':=Aside0.mk H
                    clear H
                    go_wp2
                    go_meet
                    case rel=>exact ⟨_,(2),rf_,H',⟨by have:=HJ4.out;have:=HJ9.out;first|omega|exact Nat.le_refl _⟩,⟨kb_ BK101.out⟩,⟨bl_ HB.out⟩⟩
                   ·rw [if_neg c25] at H
                    have c25b0:=bqf_ c25
                    have c25b1:=bnt_ c25
                    obtain rfl:=Option.some.inj H
                    go_wp2
                    go_ret
                    exact ⟨rt_,bl_ HB.out⟩
 case rest=>
  clear HC2
  obtain ⟨kq,x3_1,rfl,HA,HJ1,BK101,HB⟩:=hcut
  cases kq with
  | zero=>exact absurd HA.out (by simp [helmsmanref12_Whole.j2])
  | succ kj1=>
   have H:=HA.out
   clear HA
   simp only [helmsmanref12_Whole.j2] at H
   have HC26:=Aside0.mk H
   clear H
   go_upto_region 26 with (fail)
   go_cut [43] (fun v43 wc=>∃ (kq:Nat) (x43_25:Bool),v43=.bool x43_25∧Aside0 (helmsmanref12_Whole.j3 kq x43_25 a0_0 a0_1 a0_2 l0_3 a0_4=some r)∧Aside0 (kq≤kj1)∧Aside0 (wc.heap[gb101]?=some (.cells #[.string a0_0,.string a0_1,.int .i64 a0_2,(.slice A0_3 l0_3.length c0_3),.int .i64 a0_4] 24 (0,0)))∧Aside0 (Below w.heap.size w wc))
   case first=>
    have H:=HC26.out
    clear HC26
    by_cases c27:(l0_3.length:Int)=x3_1
    ·rw [if_pos c27] at H
     have c27b0:((l0_3.length:Int) == x3_1)=true:=beq_iff_eq.mpr c27
     have c27b1:((l0_3.length:Int) != x3_1)=false:=bne_eq_false_iff_eq.mpr c27
     clear c27
     (first|rw [c27b0]|(simp only [i64_w,i32_w];rw [c27b0])|skip)
     by_cases c28:a0_0.toList=([110,117,109]:List UInt8)
     ·rw [if_pos c28] at H
      have c28b0:=bqt_ c28
      have c28b1:=bnf_ c28
      clear c28
      have H':=Aside0.mk H
      clear H
      obtain ⟨hcz29_0,hcz29_1,hcz29_2,hcz29_3,hcz29_4,hfz29_0,hfz29_1,hfz29_2,hfz29_3,hfz29_4⟩:=zf5_ BK101.out
      go_wp2
      go_meet
      case rel=>exact ⟨_,(decide (a0_2 < 0)),rf_,H',⟨by have:=HJ1.out;first|omega|exact Nat.le_refl _⟩,⟨kb_ BK101.out⟩,⟨bl_ HB.out⟩⟩
     ·rw [if_neg c28] at H
      have c28b0:=bqf_ c28
      have c28b1:=bnt_ c28
      have H':=Aside0.mk H
      clear H
      obtain ⟨hcz30_0,hcz30_1,hcz30_2,hcz30_3,hcz30_4,hfz30_0,hfz30_1,hfz30_2,hfz30_3,hfz30_4⟩:=zf5_ BK101.out
      go_wp2
      go_meet
      case rel=>exact ⟨_,(false),rf_,H',⟨by have:=HJ1.out;first|omega|exact Nat.le_refl _⟩,⟨kb_ BK101.out⟩,⟨bl_ HB.out⟩⟩
    ·rw [if_neg c27] at H
     have c27b0:((l0_3.length:Int) == x3_1)=false:=beq_eq_false_iff_ne.mpr c27
     have c27b1:((l0_3.length:Int) != x3_1)=true:=bne_iff_ne.mpr c27
     (first|rw [c27b0]|(simp only [i64_w,i32_w];rw [c27b0])|skip)
     have H':=Aside0.mk H
     clear H
     obtain ⟨hcz31_0,hcz31_1,hcz31_2,hcz31_3,hcz31_4,hfz31_0,hfz31_1,hfz31_2,hfz31_3,hfz31_4⟩:=zf5_ BK101.out
     go_wp2
     go_meet
     case rel=>exact ⟨_,(true),rf_,H',⟨by have:=HJ1.out;first|omega|exact Nat.le_refl _⟩,⟨kb_ BK101.out⟩,⟨bl_ HB.out⟩⟩
   case rest=>
    clear HC26
    obtain ⟨kq,x43_25,rfl,HA,HJ25,BK101,HB⟩:=hcut
    cases kq with
    | zero=>exact absurd HA.out (by simp [helmsmanref12_Whole.j3])
    | succ kj25=>
     have H:=HA.out
     clear HA
     simp only [helmsmanref12_Whole.j3] at H
     by_cases c32:x43_25=true
     ·subst c32
      replace H:=ip_ H
      obtain rfl:=Option.some.inj H
      go_wp2
      go_ret
      exact ⟨rt_,bl_ HB.out⟩
     ·replace c32:=Bool.eq_false_iff.mpr c32
      subst c32
      replace H:=in_ H
      have H':=Aside0.mk H
      clear H
      go_wp2
      (try simp only [Act.put,List.setIfInBounds_toArray,List.set_cons_succ,List.set_cons_zero])
      go_loopg [4] kj25 (fun kq v4 w'=>∃ (x4_3:Int),v4=.int .i64 x4_3∧Aside0 (helmsmanref12_Whole.l0 kq x4_3 a0_0 a0_1 a0_2 l0_3 a0_4=some r)∧Aside0 (kq≤kj25)∧Aside0 (w'.heap[gb101]?=some (.cells #[.string a0_0,.string a0_1,.int .i64 a0_2,(.slice A0_3 l0_3.length c0_3),.int .i64 a0_4] 24 (0,0)))∧Aside0 (Below w.heap.size w w'))
      case atStart=>exact ⟨(0),rf_,H',⟨Nat.le_refl _⟩,⟨kb_ BK101.out⟩,⟨bl_ HB.out⟩⟩
      case round=>
       clear H'
       obtain ⟨x4_3,rfl,HA,HK3,BK101,HB⟩:=hrel
       cases gk with
       | zero=>exact absurd HA.out (by simp [helmsmanref12_Whole.l0])
       | succ k3=>
        have H:=HA.out
        clear HA
        simp only [helmsmanref12_Whole.l0] at H
        by_cases c33:x4_3 < (l0_3.length:Int)
        ·rw [if_pos c33] at H
         have c33b0:=decide_eq_true c33
         clear c33
         revert H
         refine gd_ fun c34 H=>?_
         have c34b0:=decide_eq_true c34
         clear c34
         revert H
         refine bd_ fun t103 A35 H=>?_
         by_cases c36:t103=true
         ·subst c36
          replace H:=ip_ H
          have H':=Aside0.mk H
          clear H
          obtain ⟨hcz37_0,hcz37_1,hcz37_2,hcz37_3,hcz37_4,hfz37_0,hfz37_1,hfz37_2,hfz37_3,hfz37_4⟩:=zf5_ BK101.out
          have p102:0≤(x4_3:Int):=of_decide_eq_true as_
          have q102:x4_3 < (l0_3.length:Int):=of_decide_eq_true as_
          obtain ⟨ad102,A102_3,c102_3,e102,hx102_0,hx102_1,hx102_2,hx102_3,hx102_4,hl102_3,hi102_3⟩:=at_T24 HR0_3.out x4_3 p102 q102
          cases e102
          replace hx102_0:=(cb_ HB.out hx102_0:_)
          replace hx102_1:=(cb_ HB.out hx102_1:_)
          replace hx102_2:=(cb_ HB.out hx102_2:_)
          replace hx102_3:=(cb_ HB.out hx102_3:_)
          replace hx102_4:=(cb_ HB.out hx102_4:_)
          have HR102_3:=Aside0.mk hi102_3
          have HC102_3:=Aside0.mk hl102_3
          clear hi102_3 hl102_3
          replace p102:=eq_true p102
          replace q102:=eq_true q102
          go_wp2_with (first|((with_reducible refine gate_callee (f:=8) rfl ?_);refine goesL_ (some 56) rfl rfl Tryd.func8 (by kernel_rfl) rfl #[.agg #[.string ((rd_T24 l0_3 x4_3).f0),.string ((rd_T24 l0_3 x4_3).f1),.int .i64 ((rd_T24 l0_3 x4_3).f2),.slice A102_3 ((rd_T24 l0_3 x4_3).f3).length c102_3,.int .i64 ((rd_T24 l0_3 x4_3).f4)]] rfl ar_ ?_;(with_reducible refine (ih k3 (by have:=HJ1.out;have:=HJ25.out;have:=HK3.out;omega) ((rd_T24 l0_3 x4_3).f0) ((rd_T24 l0_3 x4_3).f1) ((rd_T24 l0_3 x4_3).f2) _ _ ((rd_T24 l0_3 x4_3).f3) ((rd_T24 l0_3 x4_3).f4) true _ ?side1 ?side2 A35.out).mono ?_);(case side1=>exact kc_ HR102_3.out HB.out);(case side2=>exact HC102_3.out);rintro e w38 ⟨rfl,hb⟩;refine ⟨_,rfl,?_⟩;replace BK101:=Aside0.mk (bb_ BK101.out hb);replace HB:=Aside0.mk (below_step (bl_ HB.out) hb)))
          go_roundg k3
          case measure=>have:=HJ1.out;have:=HJ25.out;have:=HK3.out;omega
          case rel=>exact ⟨(wrap64 (x4_3+1)),rf_,H',⟨by have:=HJ1.out;have:=HJ25.out;have:=HK3.out;omega⟩,⟨kb_ BK101.out⟩,⟨bl_ HB.out⟩⟩
         ·replace c36:=Bool.eq_false_iff.mpr c36
          subst c36
          replace H:=in_ H
          obtain rfl:=Option.some.inj H
          obtain ⟨hcz39_0,hcz39_1,hcz39_2,hcz39_3,hcz39_4,hfz39_0,hfz39_1,hfz39_2,hfz39_3,hfz39_4⟩:=zf5_ BK101.out
          have p102:0≤(x4_3:Int):=of_decide_eq_true as_
          have q102:x4_3 < (l0_3.length:Int):=of_decide_eq_true as_
          obtain ⟨ad102,A102_3,c102_3,e102,hx102_0,hx102_1,hx102_2,hx102_3,hx102_4,hl102_3,hi102_3⟩:=at_T24 HR0_3.out x4_3 p102 q102
          cases e102
          replace hx102_0:=(cb_ HB.out hx102_0:_)
          replace hx102_1:=(cb_ HB.out hx102_1:_)
          replace hx102_2:=(cb_ HB.out hx102_2:_)
          replace hx102_3:=(cb_ HB.out hx102_3:_)
          replace hx102_4:=(cb_ HB.out hx102_4:_)
          have HR102_3:=Aside0.mk hi102_3
          have HC102_3:=Aside0.mk hl102_3
          clear hi102_3 hl102_3
          replace p102:=eq_true p102
          replace q102:=eq_true q102
          go_wp2_with (first|((with_reducible refine gate_callee (f:=8) rfl ?_);refine goesL_ (some 56) rfl rfl Tryd.func8 (by kernel_rfl) rfl #[.agg #[.string ((rd_T24 l0_3 x4_3).f0),.string ((rd_T24 l0_3 x4_3).f1),.int .i64 ((rd_T24 l0_3 x4_3).f2),.slice A102_3 ((rd_T24 l0_3 x4_3).f3).length c102_3,.int .i64 ((rd_T24 l0_3 x4_3).f4)]] rfl ar_ ?_;(with_reducible refine (ih k3 (by have:=HJ1.out;have:=HJ25.out;have:=HK3.out;omega) ((rd_T24 l0_3 x4_3).f0) ((rd_T24 l0_3 x4_3).f1) ((rd_T24 l0_3 x4_3).f2) _ _ ((rd_T24 l0_3 x4_3).f3) ((rd_T24 l0_3 x4_3).f4) false _ ?side1 ?side2 A35.out).mono ?_);(case side1=>exact kc_ HR102_3.out HB.out);(case side2=>exact HC102_3.out);rintro e w40 ⟨rfl,hb⟩;refine ⟨_,rfl,?_⟩;replace BK101:=Aside0.mk (bb_ BK101.out hb);replace HB:=Aside0.mk (below_step (bl_ HB.out) hb)))
          go_ret
          exact ⟨rt_,bl_ HB.out⟩
        ·rw [if_neg c33] at H
         have c33b0:=decide_eq_false c33
         clear c33
         obtain rfl:=Option.some.inj H
         obtain ⟨hcz41_0,hcz41_1,hcz41_2,hcz41_3,hcz41_4,hfz41_0,hfz41_1,hfz41_2,hfz41_3,hfz41_4⟩:=zf5_ BK101.out
         go_wp2
         go_ret
         exact ⟨rt_,bl_ HB.out⟩
end Go.Proofs.YtnnbbeloifhofaaDoor.P
end
section
namespace Go.Proofs.YtnnbbeloifhofaaDoor.P
open Go.RowKit Go.Proofs.YtnnbbeloifhofaaDoorW.PrintWords Go.Proofs.YtnnbbeloifhofaaDoorW.PrintLast Go.Proofs.YtnnbbeloifhofaaDoorW.PrintMore
attribute [local go_sem] max2_int min2_int max_two min_two max_three min_three max_four min_four
set_option linter.unusedVariables false
set_option linter.unusedSimpArgs false
def helmsmanref01_digits.f:Nat→Int→Option (ByteArray)
 | 0,_=>none
 | k+1,a0=>if a0 < 10 then (if 0≤a0 then (if a0≤(wrap64 (a0+1)) then (if (wrap64 (a0+1))≤10 then (some ((⟨#[48,49,50,51,52,53,54,55,56,57]⟩:ByteArray).extract (a0:Int).toNat ((wrap64 (a0+1)):Int).toNat)) else (none)) else (none)) else (none)) else ((helmsmanref01_digits.f k (wrap64 (Int.tdiv a0 10))).bind fun t146=>((helmsmanref01_digits.f k (Int.tmod a0 10)).bind fun t147=>(if t146.size+t147.size≤9223372036854775807 then (some (t146++t147)) else (none))))
set_option maxHeartbeats 8000000 in
set_option maxRecDepth 100000 in
theorem helmsmanref01_digits.calls (k:Nat) : ∀ (a0:Int) (r:ByteArray) (w:World) (h:helmsmanref01_digits.f k a0=some r),
  Calls Tryd.prog 55 #[.int .i64 a0] w fun e w'=>e=.returned (.string r)∧Drawn0 w w':=by
 induction k using Nat.strongRecOn with
 | _ k ih=>
 intro a0 r w h
 cases k with
 | zero=>exact absurd h (by simp [helmsmanref01_digits.f])
 | succ k=>
 simp only [helmsmanref01_digits.f] at h
 have H:(if a0 < 10 then (if 0≤a0 then (if a0≤(wrap64 (a0+1)) then (if (wrap64 (a0+1))≤10 then (some ((⟨#[48,49,50,51,52,53,54,55,56,57]⟩:ByteArray).extract (a0:Int).toNat ((wrap64 (a0+1)):Int).toNat)) else (none)) else (none)) else (none)) else ((helmsmanref01_digits.f k (wrap64 (Int.tdiv a0 10))).bind fun t146=>((helmsmanref01_digits.f k (Int.tmod a0 10)).bind fun t147=>(if t146.size+t147.size≤9223372036854775807 then (some (t146++t147)) else (none)))))=some r:=h
 clear h
 by_cases c2:a0 < 10
 ·rw [if_pos c2] at H
  have c2b0:=decide_eq_true c2
  clear c2
  revert H
  refine gd_ fun c3 H=>?_
  have c3b0:=eq_true c3
  have c3b1:=decide_eq_true c3
  clear c3
  revert H
  refine gd_ fun c4 H=>?_
  have c4b0:=eq_true c4
  have c4b1:=decide_eq_true c4
  revert H
  refine gd_ fun c5 H=>?_
  have c5b0:=eq_true c5
  have c5b1:=decide_eq_true c5
  obtain rfl:=Option.some.inj H
  go_enter Tryd.func55,Tryd.ntmps55
  go_wp2
  go_ret
  exact ⟨by first|rfl|(simp;done)|(simp [*];done),by repeat (first|exact Drawn0.refl _|apply Drawn0.step)⟩
 ·rw [if_neg c2] at H
  have c2b0:=decide_eq_false c2
  clear c2
  revert H
  refine bd_ fun t146 A6 H=>?_
  revert H
  refine bd_ fun t147 A7 H=>?_
  revert H
  refine gd_ fun c8 H=>?_
  have c8b0:=eq_true c8
  have c8b1:=decide_eq_true c8
  have c8b2:=nlt_ c8
  obtain rfl:=Option.some.inj H
  go_enter Tryd.func55,Tryd.ntmps55
  go_wp2_with (first|((with_reducible refine gate_callee (f:=55) rfl ?_);refine goesL_ (some 11) rfl rfl Tryd.func55 (by kernel_rfl) rfl #[.int .i64 (wrap64 (Int.tdiv a0 10))] rfl ar_ ?_;(with_reducible refine (ih k (by omega) (wrap64 (Int.tdiv a0 10)) t146 _ A6.out).mono ?_);rintro e w' ⟨rfl,⟨nd,rfl⟩⟩;refine ⟨_,rfl,?_⟩)|((with_reducible refine gate_callee (f:=55) rfl ?_);refine goesL_ (some 14) rfl rfl Tryd.func55 (by kernel_rfl) rfl #[.int .i64 (Int.tmod a0 10)] rfl ar_ ?_;(with_reducible refine (ih k (by omega) (Int.tmod a0 10) t147 _ A7.out).mono ?_);rintro e w' ⟨rfl,⟨nd,rfl⟩⟩;refine ⟨_,rfl,?_⟩))
  go_ret
  exact ⟨by first|rfl|(simp;done)|(simp [*];done),by repeat (first|exact Drawn0.refl _|apply Drawn0.step)⟩
end Go.Proofs.YtnnbbeloifhofaaDoor.P
end
section
namespace Go.Proofs.YtnnbbeloifhofaaDoor.P
open Go.RowKit Go.Proofs.YtnnbbeloifhofaaDoorW.PrintWords Go.Proofs.YtnnbbeloifhofaaDoorW.PrintLast Go.Proofs.YtnnbbeloifhofaaDoorW.PrintMore
attribute [local go_sem] max2_int min2_int max_two min_two max_three min_three max_four min_four
set_option linter.unusedVariables false
set_option linter.unusedSimpArgs false
def helmsmanref01_Digits.f (k:Nat) (a0:Int):Option (ByteArray):=if a0 < 0 then ((helmsmanref01_digits.f k (wrap64 (-a0))).bind fun t148=>(if 1+t148.size≤9223372036854775807 then (some ((⟨#[45]⟩:ByteArray)++t148)) else (none))) else ((helmsmanref01_digits.f k a0).bind fun t149=>(some t149))
set_option maxHeartbeats 8000000 in
set_option maxRecDepth 100000 in
theorem helmsmanref01_Digits.calls (k:Nat) (a0:Int) (r:ByteArray) (w:World) (h:helmsmanref01_Digits.f k a0=some r) :
  Calls Tryd.prog 34 #[.int .i64 a0] w fun e w'=>e=.returned (.string r)∧Drawn0 w w':=by
 have H:(if a0 < 0 then ((helmsmanref01_digits.f k (wrap64 (-a0))).bind fun t148=>(if 1+t148.size≤9223372036854775807 then (some ((⟨#[45]⟩:ByteArray)++t148)) else (none))) else ((helmsmanref01_digits.f k a0).bind fun t149=>(some t149)))=some r:=h
 clear h
 by_cases c2:a0 < 0
 ·rw [if_pos c2] at H
  have c2b0:=decide_eq_true c2
  clear c2
  revert H
  refine bd_ fun t148 A3 H=>?_
  revert H
  refine gd_ fun c4 H=>?_
  have c4b0:=eq_true c4
  have c4b1:=decide_eq_true c4
  have c4b2:=nlt_ c4
  obtain rfl:=Option.some.inj H
  go_enter Tryd.func34,Tryd.ntmps34
  go_wp2_with (first|((with_reducible refine gate_callee (f:=55) rfl ?_);refine goesL_ (some 7) rfl rfl Tryd.func55 (by kernel_rfl) rfl #[.int .i64 (wrap64 (-a0))] rfl ar_ ?_;(with_reducible refine (helmsmanref01_digits.calls k (wrap64 (-a0)) t148 _ A3.out).mono ?_);rintro e w' ⟨rfl,⟨nd,rfl⟩⟩;refine ⟨_,rfl,?_⟩))
  go_ret
  exact ⟨by first|rfl|(simp;done)|(simp [*];done),by repeat (first|exact Drawn0.refl _|apply Drawn0.step)⟩
 ·rw [if_neg c2] at H
  have c2b0:=decide_eq_false c2
  clear c2
  revert H
  refine bd_ fun t149 A5 H=>?_
  obtain rfl:=Option.some.inj H
  go_enter Tryd.func34,Tryd.ntmps34
  go_wp2_with (first|((with_reducible refine gate_callee (f:=55) rfl ?_);refine goesL_ (some 10) rfl rfl Tryd.func55 (by kernel_rfl) rfl #[.int .i64 a0] rfl ar_ ?_;(with_reducible refine (helmsmanref01_digits.calls k a0 t149 _ A5.out).mono ?_);rintro e w' ⟨rfl,⟨nd,rfl⟩⟩;refine ⟨_,rfl,?_⟩))
  go_ret
  exact ⟨by first|rfl|(simp;done)|(simp [*];done),by repeat (first|exact Drawn0.refl _|apply Drawn0.step)⟩
end Go.Proofs.YtnnbbeloifhofaaDoor.P
end
section
namespace Go.Proofs.YtnnbbeloifhofaaDoor.P
open Go.RowKit Go.Proofs.YtnnbbeloifhofaaDoorW.PrintWords Go.Proofs.YtnnbbeloifhofaaDoorW.PrintLast Go.Proofs.YtnnbbeloifhofaaDoorW.PrintMore
attribute [local go_sem] max2_int min2_int max_two min_two max_three min_three max_four min_four
set_option linter.unusedVariables false
set_option linter.unusedSimpArgs false
def helmsmanref12_simple.f (a0_0:ByteArray) (a0_1:ByteArray) (a0_2:Int) (l0_3:List (S24)) (a0_4:Int):Option (Bool):=if a0_0.toList=([110,117,109]:List UInt8) then (some true) else (if a0_0.toList=([110,97,109,101]:List UInt8) then (some true) else (if a0_0.toList=([97,116]:List UInt8) then (some true) else (if a0_0.toList=([116,114,117,101]:List UInt8) then (some true) else (some (a0_0.toList == ([102,97,108,115,101]:List UInt8))))))
set_option maxHeartbeats 8000000 in
set_option maxRecDepth 100000 in
theorem helmsmanref12_simple.calls (a0_0:ByteArray) (a0_1:ByteArray) (a0_2:Int) (A0_3:Option Addr) (c0_3:Nat) (l0_3:List (S24)) (a0_4:Int) (r:Bool) (w:World) (hr0_3:Kd.C k24 w A0_3 l0_3.length l0_3) (hc0_3:l0_3.length≤c0_3) (h:helmsmanref12_simple.f a0_0 a0_1 a0_2 l0_3 a0_4=some r) :
  Calls Tryd.prog 56 #[.agg #[.string a0_0,.string a0_1,.int .i64 a0_2,.slice A0_3 l0_3.length c0_3,.int .i64 a0_4]] w fun e w'=>e=.returned (.bool r)∧Below w.heap.size w w':=by
 have hu24:=Tryd.underlying24
 have HR0_3:=Aside0.mk hr0_3
 have HC0_3:=Aside0.mk hc0_3
 clear hr0_3 hc0_3
 have HB:=Aside0.mk (Below.refl w.heap.size w)
 have H:(if a0_0.toList=([110,117,109]:List UInt8) then (some true) else (if a0_0.toList=([110,97,109,101]:List UInt8) then (some true) else (if a0_0.toList=([97,116]:List UInt8) then (some true) else (if a0_0.toList=([116,114,117,101]:List UInt8) then (some true) else (some (a0_0.toList == ([102,97,108,115,101]:List UInt8)))))))=some r:=h
 clear h
 by_cases c2:a0_0.toList=([110,117,109]:List UInt8)
 ·rw [if_pos c2] at H
  have c2b0:=bqt_ c2
  have c2b1:=bnf_ c2
  clear c2
  obtain rfl:=Option.some.inj H
  go_enter Tryd.func56,Tryd.ntmps56
  go_wp2_with (first|((with_reducible refine gate_dst (N:=1) rfl ?_);refine bx_ (N:=1) (cs:=#[.string a0_0,.string a0_1,.int .i64 a0_2,.slice A0_3 l0_3.length c0_3,.int .i64 a0_4]) (t:=24) ?_;intro gb150 hg w3 hbox hb;have BK150:=Aside0.mk (hbox);have GW150:=Aside0.mk ((gs_ hg (bl_ HB.out):w.heap.size≤gb150));have GE150:=Aside0.mk ((gs_ hg (bl_ HB.out):w.heap.size≤gb150));replace HB:=Aside0.mk (below_step (bl_ HB.out) hb);clear hb hbox hg;obtain ⟨hcz4_0,hcz4_1,hcz4_2,hcz4_3,hcz4_4,hfz4_0,hfz4_1,hfz4_2,hfz4_3,hfz4_4⟩:=zf5_ BK150.out))
  go_ret
  exact ⟨rt_,bl_ HB.out⟩
 ·rw [if_neg c2] at H
  have c2b0:=bqf_ c2
  have c2b1:=bnt_ c2
  by_cases c5:a0_0.toList=([110,97,109,101]:List UInt8)
  ·rw [if_pos c5] at H
   have c5b0:=bqt_ c5
   have c5b1:=bnf_ c5
   clear c5
   obtain rfl:=Option.some.inj H
   go_enter Tryd.func56,Tryd.ntmps56
   go_wp2_with (first|((with_reducible refine gate_dst (N:=1) rfl ?_);refine bx_ (N:=1) (cs:=#[.string a0_0,.string a0_1,.int .i64 a0_2,.slice A0_3 l0_3.length c0_3,.int .i64 a0_4]) (t:=24) ?_;intro gb150 hg w6 hbox hb;have BK150:=Aside0.mk (hbox);have GW150:=Aside0.mk ((gs_ hg (bl_ HB.out):w.heap.size≤gb150));have GE150:=Aside0.mk ((gs_ hg (bl_ HB.out):w.heap.size≤gb150));replace HB:=Aside0.mk (below_step (bl_ HB.out) hb);clear hb hbox hg;obtain ⟨hcz7_0,hcz7_1,hcz7_2,hcz7_3,hcz7_4,hfz7_0,hfz7_1,hfz7_2,hfz7_3,hfz7_4⟩:=zf5_ BK150.out))
   go_ret
   exact ⟨rt_,bl_ HB.out⟩
  ·rw [if_neg c5] at H
   have c5b0:=bqf_ c5
   have c5b1:=bnt_ c5
   by_cases c8:a0_0.toList=([97,116]:List UInt8)
   ·rw [if_pos c8] at H
    have c8b0:=bqt_ c8
    have c8b1:=bnf_ c8
    clear c8
    obtain rfl:=Option.some.inj H
    go_enter Tryd.func56,Tryd.ntmps56
    go_wp2_with (first|((with_reducible refine gate_dst (N:=1) rfl ?_);refine bx_ (N:=1) (cs:=#[.string a0_0,.string a0_1,.int .i64 a0_2,.slice A0_3 l0_3.length c0_3,.int .i64 a0_4]) (t:=24) ?_;intro gb150 hg w9 hbox hb;have BK150:=Aside0.mk (hbox);have GW150:=Aside0.mk ((gs_ hg (bl_ HB.out):w.heap.size≤gb150));have GE150:=Aside0.mk ((gs_ hg (bl_ HB.out):w.heap.size≤gb150));replace HB:=Aside0.mk (below_step (bl_ HB.out) hb);clear hb hbox hg;obtain ⟨hcz10_0,hcz10_1,hcz10_2,hcz10_3,hcz10_4,hfz10_0,hfz10_1,hfz10_2,hfz10_3,hfz10_4⟩:=zf5_ BK150.out))
    go_ret
    exact ⟨rt_,bl_ HB.out⟩
   ·rw [if_neg c8] at H
    have c8b0:=bqf_ c8
    have c8b1:=bnt_ c8
    by_cases c11:a0_0.toList=([116,114,117,101]:List UInt8)
    ·rw [if_pos c11] at H
     have c11b0:=bqt_ c11
     have c11b1:=bnf_ c11
     clear c11
     obtain rfl:=Option.some.inj H
     go_enter Tryd.func56,Tryd.ntmps56
     go_wp2_with (first|((with_reducible refine gate_dst (N:=1) rfl ?_);refine bx_ (N:=1) (cs:=#[.string a0_0,.string a0_1,.int .i64 a0_2,.slice A0_3 l0_3.length c0_3,.int .i64 a0_4]) (t:=24) ?_;intro gb150 hg w12 hbox hb;have BK150:=Aside0.mk (hbox);have GW150:=Aside0.mk ((gs_ hg (bl_ HB.out):w.heap.size≤gb150));have GE150:=Aside0.mk ((gs_ hg (bl_ HB.out):w.heap.size≤gb150));replace HB:=Aside0.mk (below_step (bl_ HB.out) hb);clear hb hbox hg;obtain ⟨hcz13_0,hcz13_1,hcz13_2,hcz13_3,hcz13_4,hfz13_0,hfz13_1,hfz13_2,hfz13_3,hfz13_4⟩:=zf5_ BK150.out))
     go_ret
     exact ⟨rt_,bl_ HB.out⟩
    ·rw [if_neg c11] at H
     have c11b0:=bqf_ c11
     have c11b1:=bnt_ c11
     obtain rfl:=Option.some.inj H
     go_enter Tryd.func56,Tryd.ntmps56
     go_wp2_with (first|((with_reducible refine gate_dst (N:=1) rfl ?_);refine bx_ (N:=1) (cs:=#[.string a0_0,.string a0_1,.int .i64 a0_2,.slice A0_3 l0_3.length c0_3,.int .i64 a0_4]) (t:=24) ?_;intro gb150 hg w14 hbox hb;have BK150:=Aside0.mk (hbox);have GW150:=Aside0.mk ((gs_ hg (bl_ HB.out):w.heap.size≤gb150));have GE150:=Aside0.mk ((gs_ hg (bl_ HB.out):w.heap.size≤gb150));replace HB:=Aside0.mk (below_step (bl_ HB.out) hb);clear hb hbox hg;obtain ⟨hcz15_0,hcz15_1,hcz15_2,hcz15_3,hcz15_4,hfz15_0,hfz15_1,hfz15_2,hfz15_3,hfz15_4⟩:=zf5_ BK150.out))
     go_ret
     exact ⟨rt_,bl_ HB.out⟩
end Go.Proofs.YtnnbbeloifhofaaDoor.P
end
section
namespace Go.Proofs.YtnnbbeloifhofaaDoor.P
open Go.RowKit Go.Proofs.YtnnbbeloifhofaaDoorW.PrintWords Go.Proofs.YtnnbbeloifhofaaDoorW.PrintLast Go.Proofs.YtnnbbeloifhofaaDoorW.PrintMore
attribute [local go_sem] max2_int min2_int max_two min_two max_three min_three max_four min_four
set_option linter.unusedVariables false
set_option linter.unusedSimpArgs false
mutual
def helmsmanref12_Text.j0:Nat→ByteArray→Bool→ByteArray→ByteArray→Int→List (S24)→Int→Option (ByteArray)
 | 0,_,_,_,_,_,_,_=>none
 | k+1,x4,x14,x152000,x152001,x152002,x152003,x152004=>if x14=true then (some x152000) else (if x4.toList=([97,116]:List UInt8) then (if x152001.size+1≤9223372036854775807 then (if 0 < (x152003.length:Int) then ((helmsmanref12_Text.f k ((rd_T24 x152003 0).f0) ((rd_T24 x152003 0).f1) ((rd_T24 x152003 0).f2) ((rd_T24 x152003 0).f3) ((rd_T24 x152003 0).f4)).bind fun t154=>(if (x152001++(⟨#[91]⟩:ByteArray)).size+t154.size≤9223372036854775807 then (if ((x152001++(⟨#[91]⟩:ByteArray))++t154).size+1≤9223372036854775807 then (some (((x152001++(⟨#[91]⟩:ByteArray))++t154)++(⟨#[93]⟩:ByteArray))) else (none)) else (none))) else (none)) else (none)) else (if x4.toList=([110,101,103]:List UInt8) then (if 0 < (x152003.length:Int) then ((helmsmanref12_closed.f k ((rd_T24 x152003 0).f0) ((rd_T24 x152003 0).f1) ((rd_T24 x152003 0).f2) ((rd_T24 x152003 0).f3) ((rd_T24 x152003 0).f4)).bind fun t156=>(if 1+t156.size≤9223372036854775807 then (some ((⟨#[45]⟩:ByteArray)++t156)) else (none))) else (none)) else (if x4.toList=([110,111,116]:List UInt8) then (if 0 < (x152003.length:Int) then ((helmsmanref12_closed.f k ((rd_T24 x152003 0).f0) ((rd_T24 x152003 0).f1) ((rd_T24 x152003 0).f2) ((rd_T24 x152003 0).f3) ((rd_T24 x152003 0).f4)).bind fun t158=>(if 1+t158.size≤9223372036854775807 then (some ((⟨#[33]⟩:ByteArray)++t158)) else (none))) else (none)) else (if 0 < (x152003.length:Int) then ((helmsmanref12_closed.f k ((rd_T24 x152003 0).f0) ((rd_T24 x152003 0).f1) ((rd_T24 x152003 0).f2) ((rd_T24 x152003 0).f3) ((rd_T24 x152003 0).f4)).bind fun t160=>(if t160.size+1≤9223372036854775807 then (if (t160++(⟨#[32]⟩:ByteArray)).size+x152000.size≤9223372036854775807 then (if ((t160++(⟨#[32]⟩:ByteArray))++x152000).size+1≤9223372036854775807 then (if 1 < (x152003.length:Int) then ((helmsmanref12_closed.f k ((rd_T24 x152003 1).f0) ((rd_T24 x152003 1).f1) ((rd_T24 x152003 1).f2) ((rd_T24 x152003 1).f3) ((rd_T24 x152003 1).f4)).bind fun t162=>(if (((t160++(⟨#[32]⟩:ByteArray))++x152000)++(⟨#[32]⟩:ByteArray)).size+t162.size≤9223372036854775807 then (some ((((t160++(⟨#[32]⟩:ByteArray))++x152000)++(⟨#[32]⟩:ByteArray))++t162)) else (none))) else (none)) else (none)) else (none)) else (none))) else (none)))))
def helmsmanref12_Text.f:Nat→ByteArray→ByteArray→Int→List (S24)→Int→Option (ByteArray)
 | 0,_,_,_,_,_=>none
 | k+1,a0_0,a0_1,a0_2,l0_3,a0_4=>if a0_0.toList=([110,117,109]:List UInt8) then ((helmsmanref01_Digits.f k a0_2).bind fun t152=>(some t152)) else (if a0_0.toList=([110,97,109,101]:List UInt8) then (some a0_1) else (if a0_0.toList=([116,114,117,101]:List UInt8) then (helmsmanref12_Text.j0 k a0_0 (a0_0.toList == ([116,114,117,101]:List UInt8)) a0_0 a0_1 a0_2 l0_3 a0_4) else (helmsmanref12_Text.j0 k a0_0 (a0_0.toList == ([102,97,108,115,101]:List UInt8)) a0_0 a0_1 a0_2 l0_3 a0_4)))
def helmsmanref12_closed.f:Nat→ByteArray→ByteArray→Int→List (S24)→Int→Option (ByteArray)
 | 0,_,_,_,_,_=>none
 | k+1,a0_0,a0_1,a0_2,l0_3,a0_4=>(helmsmanref12_simple.f a0_0 a0_1 a0_2 l0_3 a0_4).bind fun t164=>(if t164=true then ((helmsmanref12_Text.f k a0_0 a0_1 a0_2 l0_3 a0_4).bind fun t165=>(some t165)) else ((helmsmanref12_Text.f k a0_0 a0_1 a0_2 l0_3 a0_4).bind fun t166=>(if 1+t166.size≤9223372036854775807 then (if ((⟨#[40]⟩:ByteArray)++t166).size+1≤9223372036854775807 then (some (((⟨#[40]⟩:ByteArray)++t166)++(⟨#[41]⟩:ByteArray))) else (none)) else (none))))
end
abbrev helmsmanref12_Text.Stmt (k:Nat):Prop:=∀ (a0_0:ByteArray) (a0_1:ByteArray) (a0_2:Int) (A0_3:Option Addr) (c0_3:Nat) (l0_3:List (S24)) (a0_4:Int) (r:ByteArray) (w:World) (hr0_3:Kd.C k24 w A0_3 l0_3.length l0_3) (hc0_3:l0_3.length≤c0_3) (h:helmsmanref12_Text.f k a0_0 a0_1 a0_2 l0_3 a0_4=some r),
  Calls Tryd.prog 13 #[.agg #[.string a0_0,.string a0_1,.int .i64 a0_2,.slice A0_3 l0_3.length c0_3,.int .i64 a0_4]] w fun e w'=>e=.returned (.string r)∧Below w.heap.size w w'
abbrev helmsmanref12_closed.Stmt (k:Nat):Prop:=∀ (a0_0:ByteArray) (a0_1:ByteArray) (a0_2:Int) (A0_3:Option Addr) (c0_3:Nat) (l0_3:List (S24)) (a0_4:Int) (r:ByteArray) (w:World) (hr0_3:Kd.C k24 w A0_3 l0_3.length l0_3) (hc0_3:l0_3.length≤c0_3) (h:helmsmanref12_closed.f k a0_0 a0_1 a0_2 l0_3 a0_4=some r),
  Calls Tryd.prog 35 #[.agg #[.string a0_0,.string a0_1,.int .i64 a0_2,.slice A0_3 l0_3.length c0_3,.int .i64 a0_4]] w fun e w'=>e=.returned (.string r)∧Below w.heap.size w w'
end Go.Proofs.YtnnbbeloifhofaaDoor.P
end
section
namespace Go.Proofs.YtnnbbeloifhofaaDoor.P
open Go.RowKit Go.Proofs.YtnnbbeloifhofaaDoorW.PrintWords Go.Proofs.YtnnbbeloifhofaaDoorW.PrintLast Go.Proofs.YtnnbbeloifhofaaDoorW.PrintMore
attribute [local go_sem] max2_int min2_int max_two min_two max_three min_three max_four min_four
set_option linter.unusedVariables false
set_option linter.unusedSimpArgs false
def helmsmanref12_Text.T10:Bool × List (List Nat × List Nat):=(true,[([],[]),([0],[0]),([1],[1]),([],[]),([3],[3]),([4],[4]),([5],[5]),([6],[6]),([2,7],[2,7]),([8],[8]),([9,7,0,1,2,3,4,5,6,7,8,9],[9])])
def helmsmanref12_Text.B10:List Nat:=[0,1,3,0,8,24,56,120,255,511,1023]
theorem helmsmanref12_Text.tab10:rtab .any (opsOf Tryd.f13 10)=helmsmanref12_Text.T10:=by kernel_rfl
theorem helmsmanref12_Text.bits10:waitsOk helmsmanref12_Text.T10.2 helmsmanref12_Text.B10=true:=by kernel_rfl
def helmsmanref12_Text.T15:Bool × List (List Nat × List Nat):=(true,[([],[]),([0],[0]),([1],[1]),([2],[2]),([3],[3]),([4],[4]),([],[]),([6],[6]),([5,7],[5,7]),([8],[8]),([],[]),([10],[10]),([11],[11]),([12],[12]),([13,4],[13]),([9,14],[9,14]),([15,14,0,1,2,3,4,5,6,7,8,9,10,11,12,13,14,15],[15])])
def helmsmanref12_Text.B15:List Nat:=[0,1,3,7,15,31,0,64,255,511,0,1024,3072,7168,15391,32767,65535]
theorem helmsmanref12_Text.tab15:rtab .any (opsOf Tryd.f13 15)=helmsmanref12_Text.T15:=by kernel_rfl
theorem helmsmanref12_Text.bits15:waitsOk helmsmanref12_Text.T15.2 helmsmanref12_Text.B15=true:=by kernel_rfl
set_option maxHeartbeats 8000000 in
set_option maxRecDepth 100000 in
theorem helmsmanref12_Text.step (k:Nat) (ih13 : ∀ m_,m_ < k→helmsmanref12_Text.Stmt m_) (ih35 : ∀ m_,m_ < k→helmsmanref12_closed.Stmt m_):helmsmanref12_Text.Stmt k:=by
 intro a0_0 a0_1 a0_2 A0_3 c0_3 l0_3 a0_4 r w hr0_3 hc0_3 h
 cases k with
 | zero=>exact absurd h (by simp [helmsmanref12_Text.f])
 | succ k=>
 simp only [helmsmanref12_Text.f] at h
 have hu24:=Tryd.underlying24
 have HR0_3:=Aside0.mk hr0_3
 have HC0_3:=Aside0.mk hc0_3
 clear hr0_3 hc0_3
 have HB:=Aside0.mk (Below.refl w.heap.size w)
 have H:(if a0_0.toList=([110,117,109]:List UInt8) then ((helmsmanref01_Digits.f k a0_2).bind fun t152=>(some t152)) else (if a0_0.toList=([110,97,109,101]:List UInt8) then (some a0_1) else (if a0_0.toList=([116,114,117,101]:List UInt8) then (helmsmanref12_Text.j0 k a0_0 (a0_0.toList == ([116,114,117,101]:List UInt8)) a0_0 a0_1 a0_2 l0_3 a0_4) else (helmsmanref12_Text.j0 k a0_0 (a0_0.toList == ([102,97,108,115,101]:List UInt8)) a0_0 a0_1 a0_2 l0_3 a0_4))))=some r:=h
 clear h
 by_cases c2:a0_0.toList=([110,117,109]:List UInt8)
 ·rw [if_pos c2] at H
  have c2b0:=bqt_ c2
  have c2b1:=bnf_ c2
  clear c2
  revert H
  refine bd_ fun t152 A3 H=>?_
  obtain rfl:=Option.some.inj H
  go_enter Tryd.func13,Tryd.ntmps13
  go_wp2_with (first|((with_reducible refine gate_dst (N:=1) rfl ?_);refine bx_ (N:=1) (cs:=#[.string a0_0,.string a0_1,.int .i64 a0_2,.slice A0_3 l0_3.length c0_3,.int .i64 a0_4]) (t:=24) ?_;intro gb151 hg w4 hbox hb;have BK151:=Aside0.mk (hbox);have GW151:=Aside0.mk ((gs_ hg (bl_ HB.out):w.heap.size≤gb151));have GE151:=Aside0.mk ((gs_ hg (bl_ HB.out):w.heap.size≤gb151));replace HB:=Aside0.mk (below_step (bl_ HB.out) hb);clear hb hbox hg;obtain ⟨hcz5_0,hcz5_1,hcz5_2,hcz5_3,hcz5_4,hfz5_0,hfz5_1,hfz5_2,hfz5_3,hfz5_4⟩:=zf5_ BK151.out)|((with_reducible refine gate_callee (f:=34) rfl ?_);refine goesL_ (some 9) rfl rfl Tryd.func34 (by kernel_rfl) rfl #[.int .i64 a0_2] rfl ar_ ?_;(with_reducible refine (helmsmanref01_Digits.calls k a0_2 t152 _ A3.out).mono ?_);rintro e w' ⟨rfl,⟨nd,rfl⟩⟩;refine ⟨_,rfl,?_⟩))
  go_ret
  exact ⟨rt_,bl_ HB.out⟩
 ·rw [if_neg c2] at H
  have c2b0:=bqf_ c2
  have c2b1:=bnt_ c2
  by_cases c6:a0_0.toList=([110,97,109,101]:List UInt8)
  ·rw [if_pos c6] at H
   have c6b0:=bqt_ c6
   have c6b1:=bnf_ c6
   clear c6
   obtain rfl:=Option.some.inj H
   go_enter Tryd.func13,Tryd.ntmps13
   go_wp2_with (first|((with_reducible refine gate_dst (N:=1) rfl ?_);refine bx_ (N:=1) (cs:=#[.string a0_0,.string a0_1,.int .i64 a0_2,.slice A0_3 l0_3.length c0_3,.int .i64 a0_4]) (t:=24) ?_;intro gb151 hg w7 hbox hb;have BK151:=Aside0.mk (hbox);have GW151:=Aside0.mk ((gs_ hg (bl_ HB.out):w.heap.size≤gb151));have GE151:=Aside0.mk ((gs_ hg (bl_ HB.out):w.heap.size≤gb151));replace HB:=Aside0.mk (below_step (bl_ HB.out) hb);clear hb hbox hg;obtain ⟨hcz8_0,hcz8_1,hcz8_2,hcz8_3,hcz8_4,hfz8_0,hfz8_1,hfz8_2,hfz8_3,hfz8_4⟩:=zf5_ BK151.out))
   go_ret
   exact ⟨rt_,bl_ HB.out⟩
  ·rw [if_neg c6] at H
   have c6b0:=bqf_ c6
   have c6b1:=bnt_ c6
   have HC9:=Aside0.mk H
   clear H
   go_enter Tryd.func13,Tryd.ntmps13
   go_upto_if 14 with (first|((with_reducible refine gate_dst (N:=1) rfl ?_);refine bx_ (N:=1) (cs:=#[.string a0_0,.string a0_1,.int .i64 a0_2,.slice A0_3 l0_3.length c0_3,.int .i64 a0_4]) (t:=24) ?_;intro gb151 hg w10 hbox hb;have BK151:=Aside0.mk (hbox);have GW151:=Aside0.mk ((gs_ hg (bl_ HB.out):w.heap.size≤gb151));have GE151:=Aside0.mk ((gs_ hg (bl_ HB.out):w.heap.size≤gb151));replace HB:=Aside0.mk (below_step (bl_ HB.out) hb);clear hb hbox hg;obtain ⟨hcz11_0,hcz11_1,hcz11_2,hcz11_3,hcz11_4,hfz11_0,hfz11_1,hfz11_2,hfz11_3,hfz11_4⟩:=zf5_ BK151.out))
   (try simp only [Act.put,List.setIfInBounds_toArray,List.set_cons_zero,List.set_cons_succ])
   go_cut [14] (fun v14 wc=>∃ (kq:Nat) (x14_8:Bool),v14=.bool x14_8∧Aside0 (helmsmanref12_Text.j0 kq a0_0 x14_8 a0_0 a0_1 a0_2 l0_3 a0_4=some r)∧Aside0 (kq≤k)∧Aside0 (wc.heap[gb151]?=some (.cells #[.string a0_0,.string a0_1,.int .i64 a0_2,(.slice A0_3 l0_3.length c0_3),.int .i64 a0_4] 24 (0,0)))∧Aside0 (Below w.heap.size w wc))
   case first=>
    have H:=HC9.out
    clear HC9
    by_cases c12:a0_0.toList=([116,114,117,101]:List UInt8)
    ·rw [if_pos c12] at H
     have c12b0:=bqt_ c12
     have c12b1:=bnf_ c12
     clear c12
     (first|rw [c12b0]|(simp only [i64_w,i32_w];rw [c12b0])|skip)
     have H':=Aside0.mk H
     clear H
     go_wp2
     go_meet
     case rel=>exact ⟨_,((a0_0.toList == ([116,114,117,101]:List UInt8))),rf_,H',⟨by first|omega|exact Nat.le_refl _⟩,⟨kb_ BK151.out⟩,⟨bl_ HB.out⟩⟩
    ·rw [if_neg c12] at H
     have c12b0:=bqf_ c12
     have c12b1:=bnt_ c12
     (first|rw [c12b0]|(simp only [i64_w,i32_w];rw [c12b0])|skip)
     have H':=Aside0.mk H
     clear H
     go_wp2
     go_meet
     case rel=>exact ⟨_,((a0_0.toList == ([102,97,108,115,101]:List UInt8))),rf_,H',⟨by first|omega|exact Nat.le_refl _⟩,⟨kb_ BK151.out⟩,⟨bl_ HB.out⟩⟩
   case rest=>
    clear HC9
    obtain ⟨kq,x14_8,rfl,HA,HJ8,BK151,HB⟩:=hcut
    cases kq with
    | zero=>exact absurd HA.out (by simp [helmsmanref12_Text.j0])
    | succ kj8=>
     have H:=HA.out
     clear HA
     simp only [helmsmanref12_Text.j0] at H
     by_cases c13:x14_8=true
     ·subst c13
      replace H:=ip_ H
      obtain rfl:=Option.some.inj H
      obtain ⟨hcz14_0,hcz14_1,hcz14_2,hcz14_3,hcz14_4,hfz14_0,hfz14_1,hfz14_2,hfz14_3,hfz14_4⟩:=zf5_ BK151.out
      go_wp2
      go_ret
      exact ⟨rt_,bl_ HB.out⟩
     ·replace c13:=Bool.eq_false_iff.mpr c13
      subst c13
      replace H:=in_ H
      by_cases c15:a0_0.toList=([97,116]:List UInt8)
      ·rw [if_pos c15] at H
       have c15b0:=bqt_ c15
       have c15b1:=bnf_ c15
       clear c15
       revert H
       refine gd_ fun c16 H=>?_
       have c16b0:=eq_true c16
       have c16b1:=decide_eq_true c16
       have c16b2:=nlt_ c16
       revert H
       refine gd_ fun c17 H=>?_
       have c17b0:=decide_eq_true c17
       have c17b1:decide (0 < l0_3.length)=true:=decide_eq_true (by omega)
       clear c17
       revert H
       refine bd_ fun t154 A18 H=>?_
       revert H
       refine gd_ fun c19 H=>?_
       have c19b0:=eq_true c19
       have c19b1:=decide_eq_true c19
       have c19b2:=nlt_ c19
       try have c19b3:(9223372036854775807 < a0_1.size+1+t154.size)=False:=by have h_:=c19b2;simp only [ByteArray.size_append] at h_;exact h_
       try have c19b4:(a0_1.size+1+t154.size≤9223372036854775807)=True:=by have h_:=c19b0;simp only [ByteArray.size_append] at h_;exact h_
       revert H
       refine gd_ fun c20 H=>?_
       have c20b0:=eq_true c20
       have c20b1:=decide_eq_true c20
       have c20b2:=nlt_ c20
       try have c20b3:(9223372036854775807 < a0_1.size+1+t154.size+1)=False:=by have h_:=c20b2;simp only [ByteArray.size_append] at h_;exact h_
       try have c20b4:(a0_1.size+1+t154.size+1≤9223372036854775807)=True:=by have h_:=c20b0;simp only [ByteArray.size_append] at h_;exact h_
       obtain rfl:=Option.some.inj H
       try go_wp2
       replace BK151:=Aside0.mk (blk_drew BK151.out)
       replace HB:=Aside0.mk (below_drew1 HB.out)
       have p153:0≤(0:Int):=(by omega)
       have q153:0 < (l0_3.length:Int):=of_decide_eq_true as_
       obtain ⟨ad153,A153_3,c153_3,e153,hx153_0,hx153_1,hx153_2,hx153_3,hx153_4,hl153_3,hi153_3⟩:=at_T24 HR0_3.out 0 p153 q153
       have hw153_4:=hx153_4
       (try simp only [tn0_,Nat.zero_mul,Addr.add_zero'] at hw153_4)
       have hw153_3:=hx153_3
       (try simp only [tn0_,Nat.zero_mul,Addr.add_zero'] at hw153_3)
       have hw153_2:=hx153_2
       (try simp only [tn0_,Nat.zero_mul,Addr.add_zero'] at hw153_2)
       have hw153_1:=hx153_1
       (try simp only [tn0_,Nat.zero_mul,Addr.add_zero'] at hw153_1)
       have hw153_0:=hx153_0
       (try simp only [tn0_,Nat.zero_mul,Addr.add_zero'] at hw153_0)
       cases e153
       have qi153:(0 < l0_3.length)=True:=eq_true (by omega)
       (try simp only [tn0_,Nat.zero_mul,Addr.add_zero'] at hx153_0 hx153_1 hx153_2 hx153_3 hx153_4)
       replace hx153_0:=(cb_ HB.out hx153_0:_)
       replace hx153_1:=(cb_ HB.out hx153_1:_)
       replace hx153_2:=(cb_ HB.out hx153_2:_)
       replace hx153_3:=(cb_ HB.out hx153_3:_)
       replace hx153_4:=(cb_ HB.out hx153_4:_)
       have HR153_3:=Aside0.mk hi153_3
       have HC153_3:=Aside0.mk hl153_3
       clear hi153_3 hl153_3
       replace p153:=eq_true p153
       replace q153:=eq_true q153
       refine start_ (n:=11) (S:=fun w'=>w'.cell? ⟨gb151,0,none⟩=some (.string a0_0)∧w'.cell? ⟨gb151,1,none⟩=some (.string a0_1)∧w'.cell? ⟨gb151,2,none⟩=some (.int .i64 a0_2)∧w'.cell? ⟨gb151,3,none⟩=some (.slice (some ad153) l0_3.length c0_3)∧w'.cell? ⟨gb151,4,none⟩=some (.int .i64 a0_4)∧w'.cell? ad153=some (.string ((rd_T24 l0_3 0).f0))∧w'.cell? ⟨ad153.block,ad153.off+1,none⟩=some (.string ((rd_T24 l0_3 0).f1))∧w'.cell? ⟨ad153.block,ad153.off+2,none⟩=some (.int .i64 ((rd_T24 l0_3 0).f2))∧w'.cell? ⟨ad153.block,ad153.off+3,none⟩=some (.slice A153_3 ((rd_T24 l0_3 0).f3).length c153_3)∧w'.cell? ⟨ad153.block,ad153.off+4,none⟩=some (.int .i64 ((rd_T24 l0_3 0).f4))) (ds:=[]) (flg 11 0) (by kernel_rfl) rfl (by kernel_rfl) ⟨zc_ BK151.out 0,zc_ BK151.out 1,zc_ BK151.out 2,zc_ BK151.out 3,zc_ BK151.out 4,((cb_ HB.out hw153_0:_)),((cb_ HB.out hw153_1:_)),((cb_ HB.out hw153_2:_)),((cb_ HB.out hw153_3:_)),((cb_ HB.out hw153_4:_))⟩ (fun hHeld=>?_);refine with_tabW helmsmanref12_Text.tab10 helmsmanref12_Text.bits10 (fun HT_ HW_=>?_)
       generalize wc.drew=w21 at BK151 HB HR153_3 hx153_0 hx153_1 hx153_2 hx153_3 hx153_4 hHeld ⊢
       refine pu_ 0 21 (flg 11 1) ?_
       refine pu_ 3 24 (flg 11 9) ?_
       refine ta_ 1 22 (flg 11 11) hHeld ?_
       refine pu_ 2 23 (flg 11 15) ?_
       refine ta_ 4 25 (flg 11 31) hHeld ?_
       refine pu_ 5 26 (flg 11 63) ?_
       refine ta_ 6 27 (flg 11 127) hHeld ?_
       refine one_ (i:=7) (N:=some 28) (flg 11 255) rfl rfl (one_of HT_.out (by kernel_rfl)) (by decide) (fun K hK=>?_)
       refine goes_ Tryd.func13 (by kernel_rfl) rfl #[.agg #[.string ((rd_T24 l0_3 0).f0),.string ((rd_T24 l0_3 0).f1),.int .i64 ((rd_T24 l0_3 0).f2),.slice A153_3 ((rd_T24 l0_3 0).f3).length c153_3,.int .i64 ((rd_T24 l0_3 0).f4)]] (by rfl) rfl rfl ar_ ?_
       with_reducible refine (ih13 kj8 (by have:=HJ8.out;omega) ((rd_T24 l0_3 0).f0) ((rd_T24 l0_3 0).f1) ((rd_T24 l0_3 0).f2) _ _ ((rd_T24 l0_3 0).f3) ((rd_T24 l0_3 0).f4) t154 _ ?side1 ?side2 A18.out).mono ?_
       (case side1=>exact kc_ HR153_3.out HB.out)
       (case side2=>exact HC153_3.out)
       rintro e w22 ⟨rfl,hb⟩
       refine ⟨_,rfl,?_⟩
       replace BK151:=Aside0.mk (bb_ BK151.out hb)
       replace HB:=Aside0.mk (below_step (bl_ HB.out) hb)
       refine ko_ hK (fun hHeld=>?_)
       clear hK K
       refine nm_ ?_
       refine pu_ 8 29 (flg 11 511) ?_
       refine pu_ 9 30 (flg 11 1023) ?_
       refine pu_ 10 2 (flg 11 2047) ?_
       refine done_ (done_of HT_.out (by kernel_rfl)) ?_
       try go_wp2
       go_ret
       exact ⟨rt_,bl_ HB.out⟩
      ·rw [if_neg c15] at H
       have c15b0:=bqf_ c15
       have c15b1:=bnt_ c15
       by_cases c23:a0_0.toList=([110,101,103]:List UInt8)
       ·rw [if_pos c23] at H
        have c23b0:=bqt_ c23
        have c23b1:=bnf_ c23
        clear c23
        revert H
        refine gd_ fun c24 H=>?_
        have c24b0:=decide_eq_true c24
        have c24b1:decide (0 < l0_3.length)=true:=decide_eq_true (by omega)
        clear c24
        revert H
        refine bd_ fun t156 A25 H=>?_
        revert H
        refine gd_ fun c26 H=>?_
        have c26b0:=eq_true c26
        have c26b1:=decide_eq_true c26
        have c26b2:=nlt_ c26
        obtain rfl:=Option.some.inj H
        obtain ⟨hcz27_0,hcz27_1,hcz27_2,hcz27_3,hcz27_4,hfz27_0,hfz27_1,hfz27_2,hfz27_3,hfz27_4⟩:=zf5_ BK151.out
        have p155:0≤(0:Int):=(by omega)
        have q155:0 < (l0_3.length:Int):=of_decide_eq_true as_
        obtain ⟨ad155,A155_3,c155_3,e155,hx155_0,hx155_1,hx155_2,hx155_3,hx155_4,hl155_3,hi155_3⟩:=at_T24 HR0_3.out 0 p155 q155
        cases e155
        have qi155:(0 < l0_3.length)=True:=eq_true (by omega)
        (try simp only [tn0_,Nat.zero_mul,Addr.add_zero'] at hx155_0 hx155_1 hx155_2 hx155_3 hx155_4)
        replace hx155_0:=(cb_ HB.out hx155_0:_)
        replace hx155_1:=(cb_ HB.out hx155_1:_)
        replace hx155_2:=(cb_ HB.out hx155_2:_)
        replace hx155_3:=(cb_ HB.out hx155_3:_)
        replace hx155_4:=(cb_ HB.out hx155_4:_)
        have HR155_3:=Aside0.mk hi155_3
        have HC155_3:=Aside0.mk hl155_3
        clear hi155_3 hl155_3
        replace p155:=eq_true p155
        replace q155:=eq_true q155
        go_wp2_with (first|((with_reducible refine gate_callee (f:=35) rfl ?_);refine goesL_ (some 37) rfl rfl Tryd.func35 (by kernel_rfl) rfl #[.agg #[.string ((rd_T24 l0_3 0).f0),.string ((rd_T24 l0_3 0).f1),.int .i64 ((rd_T24 l0_3 0).f2),.slice A155_3 ((rd_T24 l0_3 0).f3).length c155_3,.int .i64 ((rd_T24 l0_3 0).f4)]] rfl ar_ ?_;(with_reducible refine (ih35 kj8 (by have:=HJ8.out;omega) ((rd_T24 l0_3 0).f0) ((rd_T24 l0_3 0).f1) ((rd_T24 l0_3 0).f2) _ _ ((rd_T24 l0_3 0).f3) ((rd_T24 l0_3 0).f4) t156 _ ?side1 ?side2 A25.out).mono ?_);(case side1=>exact kc_ HR155_3.out HB.out);(case side2=>exact HC155_3.out);rintro e w28 ⟨rfl,hb⟩;refine ⟨_,rfl,?_⟩;replace BK151:=Aside0.mk (bb_ BK151.out hb);replace HB:=Aside0.mk (below_step (bl_ HB.out) hb)))
        go_ret
        exact ⟨rt_,bl_ HB.out⟩
       ·rw [if_neg c23] at H
        have c23b0:=bqf_ c23
        have c23b1:=bnt_ c23
        by_cases c29:a0_0.toList=([110,111,116]:List UInt8)
        ·rw [if_pos c29] at H
         have c29b0:=bqt_ c29
         have c29b1:=bnf_ c29
         clear c29
         revert H
         refine gd_ fun c30 H=>?_
         have c30b0:=decide_eq_true c30
         have c30b1:decide (0 < l0_3.length)=true:=decide_eq_true (by omega)
         clear c30
         revert H
         refine bd_ fun t158 A31 H=>?_
         revert H
         refine gd_ fun c32 H=>?_
         have c32b0:=eq_true c32
         have c32b1:=decide_eq_true c32
         have c32b2:=nlt_ c32
         obtain rfl:=Option.some.inj H
         obtain ⟨hcz33_0,hcz33_1,hcz33_2,hcz33_3,hcz33_4,hfz33_0,hfz33_1,hfz33_2,hfz33_3,hfz33_4⟩:=zf5_ BK151.out
         have p157:0≤(0:Int):=(by omega)
         have q157:0 < (l0_3.length:Int):=of_decide_eq_true as_
         obtain ⟨ad157,A157_3,c157_3,e157,hx157_0,hx157_1,hx157_2,hx157_3,hx157_4,hl157_3,hi157_3⟩:=at_T24 HR0_3.out 0 p157 q157
         cases e157
         have qi157:(0 < l0_3.length)=True:=eq_true (by omega)
         (try simp only [tn0_,Nat.zero_mul,Addr.add_zero'] at hx157_0 hx157_1 hx157_2 hx157_3 hx157_4)
         replace hx157_0:=(cb_ HB.out hx157_0:_)
         replace hx157_1:=(cb_ HB.out hx157_1:_)
         replace hx157_2:=(cb_ HB.out hx157_2:_)
         replace hx157_3:=(cb_ HB.out hx157_3:_)
         replace hx157_4:=(cb_ HB.out hx157_4:_)
         have HR157_3:=Aside0.mk hi157_3
         have HC157_3:=Aside0.mk hl157_3
         clear hi157_3 hl157_3
         replace p157:=eq_true p157
         replace q157:=eq_true q157
         go_wp2_with (first|((with_reducible refine gate_callee (f:=35) rfl ?_);refine goesL_ (some 45) rfl rfl Tryd.func35 (by kernel_rfl) rfl #[.agg #[.string ((rd_T24 l0_3 0).f0),.string ((rd_T24 l0_3 0).f1),.int .i64 ((rd_T24 l0_3 0).f2),.slice A157_3 ((rd_T24 l0_3 0).f3).length c157_3,.int .i64 ((rd_T24 l0_3 0).f4)]] rfl ar_ ?_;(with_reducible refine (ih35 kj8 (by have:=HJ8.out;omega) ((rd_T24 l0_3 0).f0) ((rd_T24 l0_3 0).f1) ((rd_T24 l0_3 0).f2) _ _ ((rd_T24 l0_3 0).f3) ((rd_T24 l0_3 0).f4) t158 _ ?side1 ?side2 A31.out).mono ?_);(case side1=>exact kc_ HR157_3.out HB.out);(case side2=>exact HC157_3.out);rintro e w34 ⟨rfl,hb⟩;refine ⟨_,rfl,?_⟩;replace BK151:=Aside0.mk (bb_ BK151.out hb);replace HB:=Aside0.mk (below_step (bl_ HB.out) hb)))
         go_ret
         exact ⟨rt_,bl_ HB.out⟩
        ·rw [if_neg c29] at H
         have c29b0:=bqf_ c29
         have c29b1:=bnt_ c29
         revert H
         refine gd_ fun c35 H=>?_
         have c35b0:=decide_eq_true c35
         have c35b1:decide (0 < l0_3.length)=true:=decide_eq_true (by omega)
         clear c35
         revert H
         refine bd_ fun t160 A36 H=>?_
         revert H
         refine gd_ fun c37 H=>?_
         have c37b0:=eq_true c37
         have c37b1:=decide_eq_true c37
         have c37b2:=nlt_ c37
         revert H
         refine gd_ fun c38 H=>?_
         have c38b0:=eq_true c38
         have c38b1:=decide_eq_true c38
         have c38b2:=nlt_ c38
         try have c38b3:(9223372036854775807 < t160.size+1+a0_0.size)=False:=by have h_:=c38b2;simp only [ByteArray.size_append] at h_;exact h_
         try have c38b4:(t160.size+1+a0_0.size≤9223372036854775807)=True:=by have h_:=c38b0;simp only [ByteArray.size_append] at h_;exact h_
         revert H
         refine gd_ fun c39 H=>?_
         have c39b0:=eq_true c39
         have c39b1:=decide_eq_true c39
         have c39b2:=nlt_ c39
         try have c39b3:(9223372036854775807 < t160.size+1+a0_0.size+1)=False:=by have h_:=c39b2;simp only [ByteArray.size_append] at h_;exact h_
         try have c39b4:(t160.size+1+a0_0.size+1≤9223372036854775807)=True:=by have h_:=c39b0;simp only [ByteArray.size_append] at h_;exact h_
         revert H
         refine gd_ fun c40 H=>?_
         have c40b0:=decide_eq_true c40
         have c40b1:decide (1 < l0_3.length)=true:=decide_eq_true (by omega)
         clear c40
         revert H
         refine bd_ fun t162 A41 H=>?_
         revert H
         refine gd_ fun c42 H=>?_
         have c42b0:=eq_true c42
         have c42b1:=decide_eq_true c42
         have c42b2:=nlt_ c42
         try have c42b3:(9223372036854775807 < t160.size+1+a0_0.size+1+t162.size)=False:=by have h_:=c42b2;simp only [ByteArray.size_append] at h_;exact h_
         try have c42b4:(t160.size+1+a0_0.size+1+t162.size≤9223372036854775807)=True:=by have h_:=c42b0;simp only [ByteArray.size_append] at h_;exact h_
         obtain rfl:=Option.some.inj H
         try go_wp2
         replace BK151:=Aside0.mk (blk_drew BK151.out)
         replace HB:=Aside0.mk (below_drew1 HB.out)
         have p159:0≤(0:Int):=(by omega)
         have q159:0 < (l0_3.length:Int):=of_decide_eq_true as_
         obtain ⟨ad159,A159_3,c159_3,e159,hx159_0,hx159_1,hx159_2,hx159_3,hx159_4,hl159_3,hi159_3⟩:=at_T24 HR0_3.out 0 p159 q159
         have hw159_4:=hx159_4
         (try simp only [tn0_,Nat.zero_mul,Addr.add_zero'] at hw159_4)
         have hw159_3:=hx159_3
         (try simp only [tn0_,Nat.zero_mul,Addr.add_zero'] at hw159_3)
         have hw159_2:=hx159_2
         (try simp only [tn0_,Nat.zero_mul,Addr.add_zero'] at hw159_2)
         have hw159_1:=hx159_1
         (try simp only [tn0_,Nat.zero_mul,Addr.add_zero'] at hw159_1)
         have hw159_0:=hx159_0
         (try simp only [tn0_,Nat.zero_mul,Addr.add_zero'] at hw159_0)
         cases e159
         have qi159:(0 < l0_3.length)=True:=eq_true (by omega)
         (try simp only [tn0_,Nat.zero_mul,Addr.add_zero'] at hx159_0 hx159_1 hx159_2 hx159_3 hx159_4)
         replace hx159_0:=(cb_ HB.out hx159_0:_)
         replace hx159_1:=(cb_ HB.out hx159_1:_)
         replace hx159_2:=(cb_ HB.out hx159_2:_)
         replace hx159_3:=(cb_ HB.out hx159_3:_)
         replace hx159_4:=(cb_ HB.out hx159_4:_)
         have HR159_3:=Aside0.mk hi159_3
         have HC159_3:=Aside0.mk hl159_3
         clear hi159_3 hl159_3
         replace p159:=eq_true p159
         replace q159:=eq_true q159
         have p161:0≤(1:Int):=(by omega)
         have q161:1 < (l0_3.length:Int):=of_decide_eq_true as_
         obtain ⟨ad161,A161_3,c161_3,e161,hx161_0,hx161_1,hx161_2,hx161_3,hx161_4,hl161_3,hi161_3⟩:=at_T24 HR0_3.out 1 p161 q161
         have hw161_4:=hx161_4
         (try rw [show ((1:Int)).toNat=1 from rfl] at hw161_4)
         (try rw [show 1 * 5=5 from rfl] at hw161_4)
         (try simp only [Nat.reduceMul,Nat.reduceEqDiff,Go.Addr.add,↓reduceIte] at hw161_4)
         have hw161_3:=hx161_3
         (try rw [show ((1:Int)).toNat=1 from rfl] at hw161_3)
         (try rw [show 1 * 5=5 from rfl] at hw161_3)
         (try simp only [Nat.reduceMul,Nat.reduceEqDiff,Go.Addr.add,↓reduceIte] at hw161_3)
         have hw161_2:=hx161_2
         (try rw [show ((1:Int)).toNat=1 from rfl] at hw161_2)
         (try rw [show 1 * 5=5 from rfl] at hw161_2)
         (try simp only [Nat.reduceMul,Nat.reduceEqDiff,Go.Addr.add,↓reduceIte] at hw161_2)
         have hw161_1:=hx161_1
         (try rw [show ((1:Int)).toNat=1 from rfl] at hw161_1)
         (try rw [show 1 * 5=5 from rfl] at hw161_1)
         (try simp only [Nat.reduceMul,Nat.reduceEqDiff,Go.Addr.add,↓reduceIte] at hw161_1)
         have hw161_0:=hx161_0
         (try rw [show ((1:Int)).toNat=1 from rfl] at hw161_0)
         (try rw [show 1 * 5=5 from rfl] at hw161_0)
         (try simp only [Nat.reduceMul,Nat.reduceEqDiff,Go.Addr.add,↓reduceIte] at hw161_0)
         obtain rfl:ad159=ad161:=(by injection e161)
         (try simp only [show (1:Int).toNat=1 from rfl,Nat.reduceMul,Nat.reduceEqDiff,Go.Addr.add,↓reduceIte] at hx161_0)
         (try simp only [show (1:Int).toNat=1 from rfl,Nat.reduceMul,Nat.reduceEqDiff,Go.Addr.add,↓reduceIte] at hx161_1)
         (try simp only [show (1:Int).toNat=1 from rfl,Nat.reduceMul,Nat.reduceEqDiff,Go.Addr.add,↓reduceIte] at hx161_2)
         (try simp only [show (1:Int).toNat=1 from rfl,Nat.reduceMul,Nat.reduceEqDiff,Go.Addr.add,↓reduceIte] at hx161_3)
         (try simp only [show (1:Int).toNat=1 from rfl,Nat.reduceMul,Nat.reduceEqDiff,Go.Addr.add,↓reduceIte] at hx161_4)
         have qi161:(1 < l0_3.length)=True:=eq_true (by omega)
         (try rw [show ((1:Int)).toNat=1 from rfl] at hx161_0)
         (try rw [show 1 * 5=5 from rfl] at hx161_0)
         (try rw [show ((1:Int)).toNat=1 from rfl] at hx161_1)
         (try rw [show 1 * 5=5 from rfl] at hx161_1)
         (try rw [show ((1:Int)).toNat=1 from rfl] at hx161_2)
         (try rw [show 1 * 5=5 from rfl] at hx161_2)
         (try rw [show ((1:Int)).toNat=1 from rfl] at hx161_3)
         (try rw [show 1 * 5=5 from rfl] at hx161_3)
         (try rw [show ((1:Int)).toNat=1 from rfl] at hx161_4)
         (try rw [show 1 * 5=5 from rfl] at hx161_4)
         replace hx161_0:=(cb_ HB.out hx161_0:_)
         replace hx161_1:=(cb_ HB.out hx161_1:_)
         replace hx161_2:=(cb_ HB.out hx161_2:_)
         replace hx161_3:=(cb_ HB.out hx161_3:_)
         replace hx161_4:=(cb_ HB.out hx161_4:_)
         have HR161_3:=Aside0.mk hi161_3
         have HC161_3:=Aside0.mk hl161_3
         clear hi161_3 hl161_3
         replace p161:=eq_true p161
         replace q161:=eq_true q161
         refine start_ (n:=17) (S:=fun w'=>w'.cell? ⟨gb151,0,none⟩=some (.string a0_0)∧w'.cell? ⟨gb151,1,none⟩=some (.string a0_1)∧w'.cell? ⟨gb151,2,none⟩=some (.int .i64 a0_2)∧w'.cell? ⟨gb151,3,none⟩=some (.slice (some ad159) l0_3.length c0_3)∧w'.cell? ⟨gb151,4,none⟩=some (.int .i64 a0_4)∧w'.cell? ad159=some (.string ((rd_T24 l0_3 0).f0))∧w'.cell? ⟨ad159.block,ad159.off+1,none⟩=some (.string ((rd_T24 l0_3 0).f1))∧w'.cell? ⟨ad159.block,ad159.off+2,none⟩=some (.int .i64 ((rd_T24 l0_3 0).f2))∧w'.cell? ⟨ad159.block,ad159.off+3,none⟩=some (.slice A159_3 ((rd_T24 l0_3 0).f3).length c159_3)∧w'.cell? ⟨ad159.block,ad159.off+4,none⟩=some (.int .i64 ((rd_T24 l0_3 0).f4))∧w'.cell? ⟨ad159.block,ad159.off+5,none⟩=some (.string ((rd_T24 l0_3 1).f0))∧w'.cell? ⟨ad159.block,ad159.off+5+1,none⟩=some (.string ((rd_T24 l0_3 1).f1))∧w'.cell? ⟨ad159.block,ad159.off+5+2,none⟩=some (.int .i64 ((rd_T24 l0_3 1).f2))∧w'.cell? ⟨ad159.block,ad159.off+5+3,none⟩=some (.slice A161_3 ((rd_T24 l0_3 1).f3).length c161_3)∧w'.cell? ⟨ad159.block,ad159.off+5+4,none⟩=some (.int .i64 ((rd_T24 l0_3 1).f4))) (ds:=[]) (flg 17 0) (by kernel_rfl) rfl (by kernel_rfl) ⟨zc_ BK151.out 0,zc_ BK151.out 1,zc_ BK151.out 2,zc_ BK151.out 3,zc_ BK151.out 4,((cb_ HB.out hw159_0:_)),((cb_ HB.out hw159_1:_)),((cb_ HB.out hw159_2:_)),((cb_ HB.out hw159_3:_)),((cb_ HB.out hw159_4:_)),((cb_ HB.out hw161_0:_)),((cb_ HB.out hw161_1:_)),((cb_ HB.out hw161_2:_)),((cb_ HB.out hw161_3:_)),((cb_ HB.out hw161_4:_))⟩ (fun hHeld=>?_);refine with_tabW helmsmanref12_Text.tab15 helmsmanref12_Text.bits15 (fun HT_ HW_=>?_)
         generalize wc.drew=w43 at BK151 HB HR159_3 HR161_3 hx159_0 hx159_1 hx159_2 hx159_3 hx159_4 hx161_0 hx161_1 hx161_2 hx161_3 hx161_4 hHeld ⊢
         refine pu_ 0 47 (flg 17 1) ?_
         refine pu_ 6 53 (flg 17 65) ?_
         refine pu_ 10 57 (flg 17 1089) ?_
         refine ta_ 1 48 (flg 17 1091) hHeld ?_
         refine pu_ 2 49 (flg 17 1095) ?_
         refine ta_ 3 50 (flg 17 1103) hHeld ?_
         refine ta_ 7 54 (flg 17 1231) hHeld ?_
         refine ta_ 11 58 (flg 17 3279) hHeld ?_
         refine pu_ 12 59 (flg 17 7375) ?_
         refine ta_ 13 60 (flg 17 15567) hHeld ?_
         refine one_ (i:=4) (N:=some 51) (flg 17 15583) rfl rfl (one_of HT_.out (by kernel_rfl)) (by decide) (fun K hK=>?_)
         refine goes_ Tryd.func35 (by kernel_rfl) rfl #[.agg #[.string ((rd_T24 l0_3 0).f0),.string ((rd_T24 l0_3 0).f1),.int .i64 ((rd_T24 l0_3 0).f2),.slice A159_3 ((rd_T24 l0_3 0).f3).length c159_3,.int .i64 ((rd_T24 l0_3 0).f4)]] (by rfl) rfl rfl ar_ ?_
         with_reducible refine (ih35 kj8 (by have:=HJ8.out;omega) ((rd_T24 l0_3 0).f0) ((rd_T24 l0_3 0).f1) ((rd_T24 l0_3 0).f2) _ _ ((rd_T24 l0_3 0).f3) ((rd_T24 l0_3 0).f4) t160 _ ?side1 ?side2 A36.out).mono ?_
         (case side1=>exact kc_ HR159_3.out HB.out)
         (case side2=>exact HC159_3.out)
         rintro e w44 ⟨rfl,hb⟩
         refine ⟨_,rfl,?_⟩
         replace BK151:=Aside0.mk (bb_ BK151.out hb)
         replace HB:=Aside0.mk (below_step (bl_ HB.out) hb)
         refine ko_ hK (fun hHeld=>?_)
         clear hK K
         refine nm_ ?_
         refine pu_ 5 52 (flg 17 15615) ?_
         refine pu_ 8 55 (flg 17 15871) ?_
         refine pu_ 9 56 (flg 17 16383) ?_
         refine one_ (i:=14) (N:=some 61) (flg 17 32767) rfl rfl (one_of HT_.out (by kernel_rfl)) (by decide) (fun K hK=>?_)
         refine goes_ Tryd.func35 (by kernel_rfl) rfl #[.agg #[.string ((rd_T24 l0_3 1).f0),.string ((rd_T24 l0_3 1).f1),.int .i64 ((rd_T24 l0_3 1).f2),.slice A161_3 ((rd_T24 l0_3 1).f3).length c161_3,.int .i64 ((rd_T24 l0_3 1).f4)]] (by rfl) rfl rfl ar_ ?_
         with_reducible refine (ih35 kj8 (by have:=HJ8.out;omega) ((rd_T24 l0_3 1).f0) ((rd_T24 l0_3 1).f1) ((rd_T24 l0_3 1).f2) _ _ ((rd_T24 l0_3 1).f3) ((rd_T24 l0_3 1).f4) t162 _ ?side1 ?side2 A41.out).mono ?_
         (case side1=>exact kc_ HR161_3.out HB.out)
         (case side2=>exact HC161_3.out)
         rintro e w45 ⟨rfl,hb⟩
         refine ⟨_,rfl,?_⟩
         replace BK151:=Aside0.mk (bb_ BK151.out hb)
         replace HB:=Aside0.mk (below_step (bl_ HB.out) hb)
         refine ko_ hK (fun hHeld=>?_)
         clear hK K
         refine nm_ ?_
         refine pu_ 15 62 (flg 17 65535) ?_
         refine pu_ 16 2 (flg 17 131071) ?_
         refine done_ (done_of HT_.out (by kernel_rfl)) ?_
         try go_wp2
         go_ret
         exact ⟨rt_,bl_ HB.out⟩
end Go.Proofs.YtnnbbeloifhofaaDoor.P
end
section
namespace Go.Proofs.YtnnbbeloifhofaaDoor.P
open Go.RowKit Go.Proofs.YtnnbbeloifhofaaDoorW.PrintWords Go.Proofs.YtnnbbeloifhofaaDoorW.PrintLast Go.Proofs.YtnnbbeloifhofaaDoorW.PrintMore
attribute [local go_sem] max2_int min2_int max_two min_two max_three min_three max_four min_four
set_option linter.unusedVariables false
set_option linter.unusedSimpArgs false
set_option maxHeartbeats 8000000 in
set_option maxRecDepth 100000 in
theorem helmsmanref12_closed.step (k:Nat) (ih13 : ∀ m_,m_ < k→helmsmanref12_Text.Stmt m_) (ih35 : ∀ m_,m_ < k→helmsmanref12_closed.Stmt m_):helmsmanref12_closed.Stmt k:=by
 intro a0_0 a0_1 a0_2 A0_3 c0_3 l0_3 a0_4 r w hr0_3 hc0_3 h
 cases k with
 | zero=>exact absurd h (by simp [helmsmanref12_closed.f])
 | succ k=>
 simp only [helmsmanref12_closed.f] at h
 have hu24:=Tryd.underlying24
 have HR0_3:=Aside0.mk hr0_3
 have HC0_3:=Aside0.mk hc0_3
 clear hr0_3 hc0_3
 have HB:=Aside0.mk (Below.refl w.heap.size w)
 have H:((helmsmanref12_simple.f a0_0 a0_1 a0_2 l0_3 a0_4).bind fun t164=>(if t164=true then ((helmsmanref12_Text.f k a0_0 a0_1 a0_2 l0_3 a0_4).bind fun t165=>(some t165)) else ((helmsmanref12_Text.f k a0_0 a0_1 a0_2 l0_3 a0_4).bind fun t166=>(if 1+t166.size≤9223372036854775807 then (if ((⟨#[40]⟩:ByteArray)++t166).size+1≤9223372036854775807 then (some (((⟨#[40]⟩:ByteArray)++t166)++(⟨#[41]⟩:ByteArray))) else (none)) else (none)))))=some r:=h
 clear h
 revert H
 refine bd_ fun t164 A2 H=>?_
 by_cases c3:t164=true
 ·subst c3
  replace H:=ip_ H
  revert H
  refine bd_ fun t165 A4 H=>?_
  obtain rfl:=Option.some.inj H
  go_enter Tryd.func35,Tryd.ntmps35
  go_wp2_with (first|((with_reducible refine gate_dst (N:=1) rfl ?_);refine bx_ (N:=1) (cs:=#[.string a0_0,.string a0_1,.int .i64 a0_2,.slice A0_3 l0_3.length c0_3,.int .i64 a0_4]) (t:=24) ?_;intro gb163 hg w5 hbox hb;have BK163:=Aside0.mk (hbox);have GW163:=Aside0.mk ((gs_ hg (bl_ HB.out):w.heap.size≤gb163));have GE163:=Aside0.mk ((gs_ hg (bl_ HB.out):w.heap.size≤gb163));replace HB:=Aside0.mk (below_step (bl_ HB.out) hb);clear hb hbox hg;obtain ⟨hcz6_0,hcz6_1,hcz6_2,hcz6_3,hcz6_4,hfz6_0,hfz6_1,hfz6_2,hfz6_3,hfz6_4⟩:=zf5_ BK163.out)|((with_reducible refine gate_callee (f:=56) rfl ?_);refine goesL_ (some 4) rfl rfl Tryd.func56 (by kernel_rfl) rfl #[.agg #[.string a0_0,.string a0_1,.int .i64 a0_2,.slice A0_3 l0_3.length c0_3,.int .i64 a0_4]] rfl ar_ ?_;(with_reducible refine (helmsmanref12_simple.calls a0_0 a0_1 a0_2 _ _ l0_3 a0_4 true _ ?side1 ?side2 A2.out).mono ?_);(case side1=>exact kc_ HR0_3.out HB.out);(case side2=>exact HC0_3.out);rintro e w7 ⟨rfl,hb⟩;refine ⟨_,rfl,?_⟩;replace BK163:=Aside0.mk (bb_ BK163.out hb);replace HB:=Aside0.mk (below_step (bl_ HB.out) hb);obtain ⟨hcz8_0,hcz8_1,hcz8_2,hcz8_3,hcz8_4,hfz8_0,hfz8_1,hfz8_2,hfz8_3,hfz8_4⟩:=zf5_ BK163.out)|((with_reducible refine gate_callee (f:=13) rfl ?_);refine goesL_ (some 6) rfl rfl Tryd.func13 (by kernel_rfl) rfl #[.agg #[.string a0_0,.string a0_1,.int .i64 a0_2,.slice A0_3 l0_3.length c0_3,.int .i64 a0_4]] rfl ar_ ?_;(with_reducible refine (ih13 k (by omega) a0_0 a0_1 a0_2 _ _ l0_3 a0_4 t165 _ ?side1 ?side2 A4.out).mono ?_);(case side1=>exact kc_ HR0_3.out HB.out);(case side2=>exact HC0_3.out);rintro e w9 ⟨rfl,hb⟩;refine ⟨_,rfl,?_⟩;replace BK163:=Aside0.mk (bb_ BK163.out hb);replace HB:=Aside0.mk (below_step (bl_ HB.out) hb)))
  go_ret
  exact ⟨rt_,bl_ HB.out⟩
 ·replace c3:=Bool.eq_false_iff.mpr c3
  subst c3
  replace H:=in_ H
  revert H
  refine bd_ fun t166 A10 H=>?_
  revert H
  refine gd_ fun c11 H=>?_
  have c11b0:=eq_true c11
  have c11b1:=decide_eq_true c11
  have c11b2:=nlt_ c11
  revert H
  refine gd_ fun c12 H=>?_
  have c12b0:=eq_true c12
  have c12b1:=decide_eq_true c12
  have c12b2:=nlt_ c12
  try have c12b3:(9223372036854775807 < 1+t166.size+1)=False:=by have h_:=c12b2;simp only [ByteArray.size_append] at h_;exact h_
  try have c12b4:(1+t166.size+1≤9223372036854775807)=True:=by have h_:=c12b0;simp only [ByteArray.size_append] at h_;exact h_
  obtain rfl:=Option.some.inj H
  go_enter Tryd.func35,Tryd.ntmps35
  go_wp2_with (first|((with_reducible refine gate_dst (N:=1) rfl ?_);refine bx_ (N:=1) (cs:=#[.string a0_0,.string a0_1,.int .i64 a0_2,.slice A0_3 l0_3.length c0_3,.int .i64 a0_4]) (t:=24) ?_;intro gb163 hg w13 hbox hb;have BK163:=Aside0.mk (hbox);have GW163:=Aside0.mk ((gs_ hg (bl_ HB.out):w.heap.size≤gb163));have GE163:=Aside0.mk ((gs_ hg (bl_ HB.out):w.heap.size≤gb163));replace HB:=Aside0.mk (below_step (bl_ HB.out) hb);clear hb hbox hg;obtain ⟨hcz14_0,hcz14_1,hcz14_2,hcz14_3,hcz14_4,hfz14_0,hfz14_1,hfz14_2,hfz14_3,hfz14_4⟩:=zf5_ BK163.out)|((with_reducible refine gate_callee (f:=56) rfl ?_);refine goesL_ (some 4) rfl rfl Tryd.func56 (by kernel_rfl) rfl #[.agg #[.string a0_0,.string a0_1,.int .i64 a0_2,.slice A0_3 l0_3.length c0_3,.int .i64 a0_4]] rfl ar_ ?_;(with_reducible refine (helmsmanref12_simple.calls a0_0 a0_1 a0_2 _ _ l0_3 a0_4 false _ ?side1 ?side2 A2.out).mono ?_);(case side1=>exact kc_ HR0_3.out HB.out);(case side2=>exact HC0_3.out);rintro e w15 ⟨rfl,hb⟩;refine ⟨_,rfl,?_⟩;replace BK163:=Aside0.mk (bb_ BK163.out hb);replace HB:=Aside0.mk (below_step (bl_ HB.out) hb);obtain ⟨hcz16_0,hcz16_1,hcz16_2,hcz16_3,hcz16_4,hfz16_0,hfz16_1,hfz16_2,hfz16_3,hfz16_4⟩:=zf5_ BK163.out)|((with_reducible refine gate_callee (f:=13) rfl ?_);refine goesL_ (some 8) rfl rfl Tryd.func13 (by kernel_rfl) rfl #[.agg #[.string a0_0,.string a0_1,.int .i64 a0_2,.slice A0_3 l0_3.length c0_3,.int .i64 a0_4]] rfl ar_ ?_;(with_reducible refine (ih13 k (by omega) a0_0 a0_1 a0_2 _ _ l0_3 a0_4 t166 _ ?side1 ?side2 A10.out).mono ?_);(case side1=>exact kc_ HR0_3.out HB.out);(case side2=>exact HC0_3.out);rintro e w17 ⟨rfl,hb⟩;refine ⟨_,rfl,?_⟩;replace BK163:=Aside0.mk (bb_ BK163.out hb);replace HB:=Aside0.mk (below_step (bl_ HB.out) hb)))
  go_ret
  exact ⟨rt_,bl_ HB.out⟩
end Go.Proofs.YtnnbbeloifhofaaDoor.P
end
section
namespace Go.Proofs.YtnnbbeloifhofaaDoor.P
open Go.RowKit Go.Proofs.YtnnbbeloifhofaaDoorW.PrintWords Go.Proofs.YtnnbbeloifhofaaDoorW.PrintLast Go.Proofs.YtnnbbeloifhofaaDoorW.PrintMore
attribute [local go_sem] max2_int min2_int max_two min_two max_three min_three max_four min_four
set_option linter.unusedVariables false
set_option linter.unusedSimpArgs false
theorem helmsmanref12_Text_ring.all (k:Nat):helmsmanref12_Text.Stmt k∧helmsmanref12_closed.Stmt k:=by
  induction k using Nat.strongRecOn with
  | _ k ih=>
  exact ⟨helmsmanref12_Text.step k (fun m_ h_=>(ih m_ h_).1) (fun m_ h_=>(ih m_ h_).2),helmsmanref12_closed.step k (fun m_ h_=>(ih m_ h_).1) (fun m_ h_=>(ih m_ h_).2)⟩
theorem helmsmanref12_Text.calls (k:Nat):helmsmanref12_Text.Stmt k:=(helmsmanref12_Text_ring.all k).1
end Go.Proofs.YtnnbbeloifhofaaDoor.P
end
section
namespace Go.Proofs.YtnnbbeloifhofaaDoor.P
open Go Go.RowKit Go.Proofs
open Go.Proofs.YtnnbbeloifhofaaDoorW.PrintWords Go.Proofs.YtnnbbeloifhofaaDoorW.PrintLast Go.Proofs.YtnnbbeloifhofaaDoorW.PrintMore
abbrev bins:List (List UInt8):=[[43],[45],[42],[47],[61,61],[33,61],[60],[60,61],[62],[62,61],[38,38],[124,124]]
def manyB (op:List UInt8):Option Nat:=
  if op=opNum∨op=opName∨op=opTrue∨op=opFalse then some 0
  else if op=opAt∨op=opNeg∨op=opNot then some 1
  else if op ∈ bins then some 2 else none
def headB (op:ByteArray) (n:Int) (len:Nat):Bool:=decide (manyB op.toList=some len) && !(decide (op.toList=opNum) && decide (n < 0))
mutual
def wholeE:RE→Bool
  | ⟨op,_,n,l,_⟩=>headB op n l.length && wholeEs l
def wholeEs:List RE→Bool
  | []=>true
  | x :: xs=>wholeE x && wholeEs xs
end
theorem wholeE_eq (x:RE):wholeE x=(headB x.f0 x.f2 x.f3.length && wholeEs x.f3):=by cases x;rw [wholeE]
theorem wholeEs_all (l:List RE):wholeEs l=l.all wholeE:=by
  induction l with
  | nil=>rfl
  | cons x xs ih=>rw [wholeEs,ih];rfl
theorem one_step {α:Type} (xs:List α) (z:α) (l0:Nat→Int→Option Bool) (s:α→Bool) (rest:Bool) (hlim:xs.length < 4611686018427387904)
    (hin : ∀ i:Nat,i < xs.length→∀ r,Ev (fun k=>l0 k (wrap64 ((i:Int)+1))) r→Ev (fun k=>l0 k i) (s (xs.getD i z) && r))
    (hout:Ev (fun k=>l0 k xs.length) rest):Ev (fun k=>l0 k 0) (xs.all s && rest):=by
  have key : ∀ (m i:Nat),xs.length - i=m→i≤xs.length→Ev (fun k=>l0 k i) ((xs.drop i).all s && rest):=by
    intro m
    induction m with
    | zero=>
      intro i hm hi
      obtain rfl:i=xs.length:=by omega
      rw [List.drop_length,List.all_nil,Bool.true_and]
      exact hout
    | succ m ih=>
      intro i hm hi
      have hx:i < xs.length:=by omega
      have:=hin i hx ((xs.drop (i+1)).all s && rest) (by rw [wrap64_small (by omega) (by omega)];exact ih (i+1) (by omega) (by omega))
      rw [List.getD_eq_getElem?_getD,List.getElem?_eq_getElem hx,Option.getD_some] at this
      rw [List.drop_eq_getElem_cons hx,List.all_cons,Bool.and_assoc]
      exact this
  exact key _ 0 rfl (Nat.zero_le _)
theorem Whole_l0 (xs:List RE) (a b:ByteArray) (n t:Int) (hl:xs.length < 4611686018427387904) (h : ∀ y ∈ xs,Ev (fun k=>helmsmanref12_Whole.f k y.f0 y.f1 y.f2 y.f3 y.f4) (wholeE y)) :
    Ev (fun k=>helmsmanref12_Whole.l0 k 0 a b n xs t) (wholeEs xs):=by
  rw [wholeEs_all,← Bool.and_true (xs.all wholeE)]
  refine one_step xs z24 (fun k i=>helmsmanref12_Whole.l0 k i a b n xs t) wholeE true hl ?_ ?_
  · intro i hi r hr
    refine Ev.step (fun k=>helmsmanref12_Whole.l0.eq_2 _ _ _ _ _ _ k) (Ev.yes (by omega) (Ev.yes (by omega) (Ev.bind (h _ (getD_mem' z24 hi)) ?_)))
    cases e:wholeE (xs.getD i z24) with
    | false=>exact Ev.no (by rw [show wholeE (rd_T24 xs (i:Int))=false from e];simp) (Ev.now _)
    | true=>exact Ev.yes e (by rw [Bool.true_and];exact hr)
  · exact Ev.step (fun k=>helmsmanref12_Whole.l0.eq_2 _ _ _ _ _ _ k) (Ev.no (by omega) (Ev.now _))
theorem Whole_j2 (x:RE) (m:Nat) (hm:manyB x.f0.toList=some m) (h:Ev (fun k=>helmsmanref12_Whole.l0 k 0 x.f0 x.f1 x.f2 x.f3 x.f4) (wholeEs x.f3)) :
    Ev (fun k=>helmsmanref12_Whole.j2 k (m:Int) x.f0 x.f1 x.f2 x.f3 x.f4) (wholeE x):=by
  rw [wholeE_eq]
  refine Ev.step (fun k=>helmsmanref12_Whole.j2.eq_2 _ _ _ _ _ _ k) ?_
  unfold headB
  rw [hm]
  by_cases c:x.f3.length=m
  · refine Ev.yes (by omega) ?_
    rw [decide_eq_true (show some m=some x.f3.length from congrArg some c.symm),Bool.true_and]
    by_cases c2:x.f0.toList=opNum
    · refine Ev.yes c2 (Ev.step (fun k=>helmsmanref12_Whole.j3.eq_2 _ _ _ _ _ _ k) ?_)
      rw [decide_eq_true c2,Bool.true_and]
      cases e:decide (x.f2 < 0) with
      | true=>exact Ev.yes rfl (Ev.now _)
      | false=>exact Ev.no (by simp) (by rw [Bool.not_false,Bool.true_and];exact h)
    · refine Ev.no c2 (Ev.step (fun k=>helmsmanref12_Whole.j3.eq_2 _ _ _ _ _ _ k) (Ev.no (by simp) ?_))
      rw [decide_eq_false c2,Bool.false_and,Bool.not_false,Bool.true_and];exact h
  · refine Ev.no (by omega) (Ev.step (fun k=>helmsmanref12_Whole.j3.eq_2 _ _ _ _ _ _ k) (Ev.yes rfl ?_))
    rw [decide_eq_false (by intro e;exact c (Option.some.inj e).symm),Bool.false_and,Bool.false_and]
    exact Ev.now _
theorem Whole_j1 (x:RE) (h0 : ¬ (x.f0.toList=opNum∨x.f0.toList=opName∨x.f0.toList=opTrue∨x.f0.toList=opFalse)) (h1 : ¬ (x.f0.toList=opAt∨x.f0.toList=opNeg∨x.f0.toList=opNot)) (h:Ev (fun k=>helmsmanref12_Whole.l0 k 0 x.f0 x.f1 x.f2 x.f3 x.f4) (wholeEs x.f3)) :
    Ev (fun k=>helmsmanref12_Whole.j1 k x.f0 false x.f0 x.f1 x.f2 x.f3 x.f4) (wholeE x):=by
  refine Ev.step (fun k=>helmsmanref12_Whole.j1.eq_2 _ _ _ _ _ _ _ k) (Ev.no (by simp) ?_)
  have two:x.f0.toList ∈ bins→Ev (fun k=>helmsmanref12_Whole.j2 k 2 x.f0 x.f1 x.f2 x.f3 x.f4) (wholeE x):=fun hm=>Whole_j2 x 2 (by unfold manyB;rw [if_neg h0,if_neg h1,if_pos hm]) h
  by_cases hm:x.f0.toList ∈ bins
  · have go:=two hm
    by_cases c1:x.f0.toList=[43]
    · exact Ev.yes c1 go
    refine Ev.no c1 ?_
    by_cases c2:x.f0.toList=[45]
    · exact Ev.yes c2 go
    refine Ev.no c2 ?_
    by_cases c3:x.f0.toList=[42]
    · exact Ev.yes c3 go
    refine Ev.no c3 ?_
    by_cases c4:x.f0.toList=[47]
    · exact Ev.yes c4 go
    refine Ev.no c4 ?_
    by_cases c5:x.f0.toList=[61,61]
    · exact Ev.yes c5 go
    refine Ev.no c5 ?_
    by_cases c6:x.f0.toList=[33,61]
    · exact Ev.yes c6 go
    refine Ev.no c6 ?_
    by_cases c7:x.f0.toList=[60]
    · exact Ev.yes c7 go
    refine Ev.no c7 ?_
    by_cases c8:x.f0.toList=[60,61]
    · exact Ev.yes c8 go
    refine Ev.no c8 ?_
    by_cases c9:x.f0.toList=[62]
    · exact Ev.yes c9 go
    refine Ev.no c9 ?_
    by_cases c10:x.f0.toList=[62,61]
    · exact Ev.yes c10 go
    refine Ev.no c10 ?_
    by_cases c11:x.f0.toList=[38,38]
    · exact Ev.yes c11 go
    refine Ev.no c11 ?_
    by_cases c12:x.f0.toList=[124,124]
    · exact Ev.yes c12 go
    exact absurd hm (by simp only [bins,List.mem_cons,List.not_mem_nil,or_false];simp only [c1,c2,c3,c4,c5,c6,c7,c8,c9,c10,c11,c12,or_false,not_false_iff])
  · have hn : ∀ l ∈ bins,¬ x.f0.toList=l:=fun l hl e=>hm (e ▸ hl)
    rw [wholeE_eq]
    unfold headB manyB
    rw [if_neg h0,if_neg h1,if_neg hm]
    refine Ev.no (hn _ (by decide)) (Ev.no (hn _ (by decide)) (Ev.no (hn _ (by decide)) (Ev.no (hn _ (by decide)) (Ev.no (hn _ (by decide)) (Ev.no (hn _ (by decide)) (Ev.no (hn _ (by decide)) (Ev.no (hn _ (by decide)) (Ev.no (hn _ (by decide)) (Ev.no (hn _ (by decide)) (Ev.no (hn _ (by decide)) (Ev.no (hn _ (by decide)) ?_)))))))))))
    exact Ev.now _
theorem Whole_ev : ∀ x:RE,bulkE x < 1099511627776→Ev (fun k=>helmsmanref12_Whole.f k x.f0 x.f1 x.f2 x.f3 x.f4) (wholeE x):=RE.all fun x ih hb=>by
  rw [bulkE_eq] at hb
  have hl:=len_bulkEs x.f3
  have h:=Whole_l0 x.f3 x.f0 x.f1 x.f2 x.f4 (by omega) (fun y hy=>ih y hy (by have:=mem_bulkEs hy;omega))
  refine Ev.step (fun k=>helmsmanref12_Whole.f.eq_2 _ _ _ _ _ k) ?_
  have zero:(x.f0.toList=opNum∨x.f0.toList=opName∨x.f0.toList=opTrue∨x.f0.toList=opFalse)→Ev (fun k=>helmsmanref12_Whole.j0 k x.f0 true x.f0 x.f1 x.f2 x.f3 x.f4) (wholeE x):=fun hm=>
    Ev.step (fun k=>helmsmanref12_Whole.j0.eq_2 _ _ _ _ _ _ _ k) (Ev.yes rfl (Whole_j2 x 0 (by unfold manyB;rw [if_pos hm]) h))
  by_cases c1:x.f0.toList=opNum
  · refine Ev.yes c1 ?_
    rw [show (x.f0.toList == opNum)=true from beq_iff_eq.2 c1]
    exact zero (.inl c1)
  refine Ev.no c1 ?_
  by_cases c2:x.f0.toList=opName
  · refine Ev.yes c2 ?_
    rw [show (x.f0.toList == opName)=true from beq_iff_eq.2 c2]
    exact zero (.inr (.inl c2))
  refine Ev.no c2 ?_
  by_cases c3:x.f0.toList=opTrue
  · refine Ev.yes c3 ?_
    rw [show (x.f0.toList == opTrue)=true from beq_iff_eq.2 c3]
    exact zero (.inr (.inr (.inl c3)))
  refine Ev.no c3 ?_
  by_cases c4:x.f0.toList=opFalse
  · rw [show (x.f0.toList == opFalse)=true from beq_iff_eq.2 c4]
    exact zero (.inr (.inr (.inr c4)))
  rw [show (x.f0.toList == opFalse)=false from beq_eq_false_iff_ne.2 c4]
  have h0 : ¬ (x.f0.toList=opNum∨x.f0.toList=opName∨x.f0.toList=opTrue∨x.f0.toList=opFalse):=by simp only [c1,c2,c3,c4,or_false,not_false_iff]
  have one:(x.f0.toList=opAt∨x.f0.toList=opNeg∨x.f0.toList=opNot)→Ev (fun k=>helmsmanref12_Whole.j1 k x.f0 true x.f0 x.f1 x.f2 x.f3 x.f4) (wholeE x):=fun hm=>
    Ev.step (fun k=>helmsmanref12_Whole.j1.eq_2 _ _ _ _ _ _ _ k) (Ev.yes rfl (Whole_j2 x 1 (by unfold manyB;rw [if_neg h0,if_pos hm]) h))
  refine Ev.step (fun k=>helmsmanref12_Whole.j0.eq_2 _ _ _ _ _ _ _ k) (Ev.no (by simp) ?_)
  by_cases d1:x.f0.toList=opAt
  · refine Ev.yes d1 ?_
    rw [show (x.f0.toList == opAt)=true from beq_iff_eq.2 d1]
    exact one (.inl d1)
  refine Ev.no d1 ?_
  by_cases d2:x.f0.toList=opNeg
  · refine Ev.yes d2 ?_
    rw [show (x.f0.toList == opNeg)=true from beq_iff_eq.2 d2]
    exact one (.inr (.inl d2))
  refine Ev.no d2 ?_
  by_cases d3:x.f0.toList=opNot
  · rw [show (x.f0.toList == opNot)=true from beq_iff_eq.2 d3]
    exact one (.inr (.inr d3))
  rw [show (x.f0.toList == opNot)=false from beq_eq_false_iff_ne.2 d3]
  exact Whole_j1 x h0 (by simp only [d1,d2,d3,or_false,not_false_iff]) h
end Go.Proofs.YtnnbbeloifhofaaDoor.P
end
section
namespace Go.Proofs.YtnnbbeloifhofaaDoor.P
open Go Go.RowKit Go.Proofs
open Go.Proofs.YtnnbbeloifhofaaDoorW.PrintWords Go.Proofs.YtnnbbeloifhofaaDoorW.PrintLast Go.Proofs.YtnnbbeloifhofaaDoorW.PrintMore
theorem digit_one (u:Nat) (h:u < 10):(⟨#[48,49,50,51,52,53,54,55,56,57]⟩:ByteArray).extract ((u:Int)).toNat (((u:Int)+1)).toNat=strOf [UInt8.ofNat (48+u)]:=by
  match u,h with
  | 0,_|1,_|2,_|3,_|4,_|5,_|6,_|7,_|8,_|9,_=>rfl
  | n+10,h=>exact absurd h (by omega)
theorem strOf_append (a b:List UInt8):strOf (a++b)=strOf a++strOf b:=by
  apply ByteArray.ext
  apply Array.toList_inj.mp
  simp [strOf]
theorem digits_ev : ∀ (u:Nat),u≤9223372036854775807→Ev (fun k=>helmsmanref01_digits.f k (u:Int)) (strOf (Lib.decDigits u)):=by
  intro u
  induction u using Nat.strongRecOn with
  | _ u ih=>
  intro hu
  rw [Lib.decDigits]
  by_cases h:u < 10
  · rw [dif_pos h]
    refine Ev.step (fun k=>helmsmanref01_digits.f.eq_2 _ k) (Ev.yes (by omega) ?_)
    rw [wrap64_small (by omega) (by omega),digit_one u h]
    exact Ev.yes (by omega) (Ev.yes (by omega) (Ev.yes (by omega) (Ev.now _)))
  · rw [dif_neg h,strOf_append]
    refine Ev.step (fun k=>helmsmanref01_digits.f.eq_2 _ k) (Ev.no (by omega) ?_)
    have e1:Int.tdiv (u:Int) 10=((u / 10:Nat):Int):=by rw [Int.tdiv_eq_ediv_of_nonneg (by omega)];omega
    have e2:Int.tmod (u:Int) 10=((u % 10:Nat):Int):=by rw [Int.tmod_eq_emod_of_nonneg (by omega)];omega
    rw [e1,e2,wrap64_small (by omega) (by omega)]
    have hd:=ih (u % 10) (by omega) (by omega)
    rw [Lib.decDigits,dif_pos (by omega)] at hd
    refine Ev.bind (ih (u / 10) (by omega) (by omega)) (Ev.bind hd ?_)
    have hl:(strOf (Lib.decDigits (u / 10))).size≤21:=by
      rw [strOf_size]
      have:=Lib.itoa_length_le ((u / 10:Nat):Int) (by omega) (by omega)
      unfold Lib.itoa at this
      rw [if_neg (by omega)] at this
      exact this
    exact Ev.yes (by rw [strOf_size [_],List.length_singleton];omega) (Ev.now _)
theorem Digits_ev (n:Int) (h0:0≤n) (h1:n≤9223372036854775807):Ev (fun k=>helmsmanref01_Digits.f k n) (itoaB n):=by
  unfold helmsmanref01_Digits.f itoaB Lib.itoa
  rw [if_neg (show ¬ n < 0 by omega)]
  have:=digits_ev n.toNat (by omega)
  rw [show ((n.toNat:Nat):Int)=n by omega] at this
  exact Ev.no (by omega) (Ev.bind this (Ev.now _))
theorem simple_some (x:RE):helmsmanref12_simple.f x.f0 x.f1 x.f2 x.f3 x.f4=some (simpB x.f0):=by
  unfold helmsmanref12_simple.f simpB
  by_cases c1:x.f0.toList=opNum
  · rw [if_pos c1,c1];rfl
  rw [if_neg c1,show (x.f0.toList == opNum)=false from beq_eq_false_iff_ne.2 c1,Bool.false_or]
  by_cases c2:x.f0.toList=opName
  · rw [if_pos c2,c2];rfl
  rw [if_neg c2,show (x.f0.toList == opName)=false from beq_eq_false_iff_ne.2 c2,Bool.false_or]
  by_cases c3:x.f0.toList=opAt
  · rw [if_pos c3,c3];rfl
  rw [if_neg c3,show (x.f0.toList == opAt)=false from beq_eq_false_iff_ne.2 c3,Bool.false_or]
  by_cases c4:x.f0.toList=opTrue
  · rw [if_pos c4,c4];rfl
  rw [if_neg c4,show (x.f0.toList == opTrue)=false from beq_eq_false_iff_ne.2 c4,Bool.false_or]
abbrev RTextOk (x:RE):Prop:=Ev (fun k=>helmsmanref12_Text.f k x.f0 x.f1 x.f2 x.f3 x.f4) (textE x)
theorem rclosed_of (x:RE) (h:RTextOk x) (hz:(textE x).size < 4611686018427387904):Ev (fun k=>helmsmanref12_closed.f k x.f0 x.f1 x.f2 x.f3 x.f4) (cloE x):=by
  refine Ev.step (fun k=>helmsmanref12_closed.f.eq_2 _ _ _ _ _ k) (Ev.then (simple_some x) ?_)
  rw [cloE_eq];unfold cloB
  cases e:simpB x.f0 with
  | true=>exact Ev.yes rfl (Ev.bind h (Ev.now _))
  | false=>exact Ev.no (by simp) (Ev.bind h (Ev.yes (by omega) (Ev.yes (by rw [ByteArray.size_append];exact (show 1+_+1≤_ by omega)) (Ev.now _))))
theorem rd_head (x:RE) (xs:List RE):rd_T24 (x :: xs) 0=x:=rfl
theorem rd_next (x y:RE) (xs:List RE):rd_T24 (x :: y :: xs) 1=y:=rfl
theorem rtext_ev : ∀ x:RE,okE x→wholeE x=true→bulkE x < 1099511627776→RTextOk x:=RE.all fun x ih ho hw hb=>by
  have hsz:=textE_size x ho
  rw [okE_eq] at ho
  rw [wholeE_eq,Bool.and_eq_true,wholeEs_all,List.all_eq_true] at hw
  obtain ⟨hh,hws⟩:=hw
  unfold headB at hh
  rw [Bool.and_eq_true,decide_eq_true_eq] at hh
  obtain ⟨hm,hn⟩:=hh
  have hbx:=hb
  rw [bulkE_eq] at hb
  have hz : ∀ y ∈ x.f3,(textE y).size < 2199023255552 * 24:=fun y hy=>by
    have:=textE_size y (okEs_mem ho.2 hy);have:=mem_bulkEs hy;omega
  have hT : ∀ y ∈ x.f3,RTextOk y:=fun y hy=>ih y hy (okEs_mem ho.2 hy) (hws y hy) (by have:=mem_bulkEs hy;omega)
  have hC : ∀ y ∈ x.f3,Ev (fun k=>helmsmanref12_closed.f k y.f0 y.f1 y.f2 y.f3 y.f4) (cloE y):=fun y hy=>rclosed_of y (hT y hy) (by have:=hz y hy;omega)
  have hcz : ∀ y ∈ x.f3,(cloE y).size < 2199023255552 * 24+2:=fun y hy=>by rw [cloE_eq];have:=hz y hy;have:=cloB_size y.f0 (textE y);omega
  unfold RTextOk
  rw [textE_eq,textEs_map,cloEs_map]
  unfold textF
  refine Ev.step (fun k=>helmsmanref12_Text.f.eq_2 _ _ _ _ _ k) ?_
  by_cases c1:x.f0.toList=opNum
  · rw [if_pos c1]
    rw [decide_eq_true c1,Bool.true_and,Bool.not_eq_true',decide_eq_false_iff_not] at hn
    exact Ev.yes c1 (Ev.bind (Digits_ev _ (by omega) ho.1.2) (Ev.now _))
  rw [if_neg c1]
  refine Ev.no c1 ?_
  by_cases c2:x.f0.toList=opName
  · rw [if_pos c2]
    exact Ev.yes c2 (Ev.now _)
  rw [if_neg c2]
  refine Ev.no c2 ?_
  by_cases c4:x.f0.toList=opTrue
  · rw [if_neg (by rw [c4];decide),if_pos c4]
    refine Ev.yes c4 (Ev.step (fun k=>helmsmanref12_Text.j0.eq_2 _ _ _ _ _ _ _ k) (Ev.yes ?_ (Ev.now _)))
    rw [c4];rfl
  refine Ev.no c4 (Ev.step (fun k=>helmsmanref12_Text.j0.eq_2 _ _ _ _ _ _ _ k) ?_)
  by_cases c5:x.f0.toList=opFalse
  · rw [if_neg (by rw [c5];decide),if_neg c4,if_pos c5]
    refine Ev.yes ?_ (Ev.now _)
    rw [c5];rfl
  refine Ev.no (by rw [beq_iff_eq];exact c5) ?_
  by_cases c3:x.f0.toList=opAt
  · rw [if_pos c3]
    have hl:1=x.f3.length:=Option.some.inj (by rw [← hm];unfold manyB;rw [if_neg (by simp only [c1,c2,c4,c5,or_false,not_false_iff]),if_pos (.inl c3)])
    obtain ⟨y,e⟩:=List.length_eq_one_iff.1 hl.symm
    rw [e] at hT hz ⊢
    have:=hz y (List.mem_singleton_self y)
    refine Ev.yes c3 (Ev.yes (by omega) (Ev.yes (by simp) ?_))
    rw [rd_head]
    refine Ev.bind (hT y (List.mem_singleton_self y)) (Ev.yes (by rw [ByteArray.size_append];exact (show x.f1.size+1+_≤_ by omega)) (Ev.yes (by rw [ByteArray.size_append,ByteArray.size_append];exact (show x.f1.size+1+_+1≤_ by omega)) (Ev.now _)))
  rw [if_neg c3,if_neg c4,if_neg c5]
  refine Ev.no c3 ?_
  by_cases c6:x.f0.toList=opNeg
  · rw [if_pos c6]
    have hl:1=x.f3.length:=Option.some.inj (by rw [← hm];unfold manyB;rw [if_neg (by simp only [c1,c2,c4,c5,or_false,not_false_iff]),if_pos (.inr (.inl c6))])
    obtain ⟨y,e⟩:=List.length_eq_one_iff.1 hl.symm
    rw [e] at hC hcz ⊢
    have:=hcz y (List.mem_singleton_self y)
    refine Ev.yes c6 (Ev.yes (by simp) ?_)
    rw [rd_head]
    exact Ev.bind (hC y (List.mem_singleton_self y)) (Ev.yes (by omega) (Ev.now _))
  rw [if_neg c6]
  refine Ev.no c6 ?_
  by_cases c7:x.f0.toList=opNot
  · rw [if_pos c7]
    have hl:1=x.f3.length:=Option.some.inj (by rw [← hm];unfold manyB;rw [if_neg (by simp only [c1,c2,c4,c5,or_false,not_false_iff]),if_pos (.inr (.inr c7))])
    obtain ⟨y,e⟩:=List.length_eq_one_iff.1 hl.symm
    rw [e] at hC hcz ⊢
    have:=hcz y (List.mem_singleton_self y)
    refine Ev.yes c7 (Ev.yes (by simp) ?_)
    rw [rd_head]
    exact Ev.bind (hC y (List.mem_singleton_self y)) (Ev.yes (by omega) (Ev.now _))
  rw [if_neg c7]
  refine Ev.no c7 ?_
  have hl:2=x.f3.length:=by
    unfold manyB at hm
    rw [if_neg (by simp only [c1,c2,c4,c5,or_false,not_false_iff]),if_neg (by simp only [c3,c6,c7,or_false,not_false_iff])] at hm
    split at hm
    · exact Option.some.inj hm
    · cases hm
  obtain ⟨y,z,e⟩ : ∃ y z,x.f3=[y,z]:=by
    match x.f3,hl with
    | [y,z],_=>exact ⟨y,z,rfl⟩
  rw [e] at hC hcz ⊢
  have hy:=hcz y (List.mem_cons_self ..)
  have hz':=hcz z (List.mem_cons_of_mem _ (List.mem_singleton_self z))
  refine Ev.yes (by simp) ?_
  rw [rd_head,rd_next]
  refine Ev.bind (hC y (List.mem_cons_self ..)) (Ev.yes (by omega) (Ev.yes (by rw [ByteArray.size_append];exact (show _+1+x.f0.size≤_ by omega)) (Ev.yes (by rw [ByteArray.size_append,ByteArray.size_append];exact (show _+1+x.f0.size+1≤_ by omega)) (Ev.yes (by simp) (Ev.bind (hC z (List.mem_cons_of_mem _ (List.mem_singleton_self z))) ?_)))))
  exact Ev.yes (by rw [ByteArray.size_append,ByteArray.size_append,ByteArray.size_append];exact (show _+1+x.f0.size+1+_≤_ by omega)) (Ev.now _)
end Go.Proofs.YtnnbbeloifhofaaDoor.P
end
section
namespace Go.Proofs.YtnnbbeloifhofaaDoor.P
open Go.RowKit Go.Proofs.YtnnbbeloifhofaaDoorW.PrintWords Go.Proofs.YtnnbbeloifhofaaDoorW.PrintLast Go.Proofs.YtnnbbeloifhofaaDoorW.PrintMore
attribute [local go_sem] max2_int min2_int max_two min_two max_three min_three max_four min_four
set_option linter.unusedVariables false
set_option linter.unusedSimpArgs false
mutual
def helmsmanref12_WholeStmts.l0:Nat→List (S29)→Int→Option (Bool)
 | 0,_,_=>none
 | k+1,x0,x3=>if x3 < (x0.length:Int) then (if 0≤x3 then (if ((rd_T29 x0 x3).f0).toList=([115,101,116]:List UInt8) then (helmsmanref12_WholeStmts.j1 k x0 x3 0 ((rd_T29 x0 x3).f0) (((rd_T29 x0 x3).f0).toList == ([115,101,116]:List UInt8)) ((rd_T29 x0 x3).f0) ((rd_T29 x0 x3).f1) ((rd_T29 x0 x3).f2) ((rd_T29 x0 x3).f3) ((rd_T29 x0 x3).f4) ((rd_T29 x0 x3).f5)) else (if ((rd_T29 x0 x3).f0).toList=([97,115,115,101,114,116]:List UInt8) then (helmsmanref12_WholeStmts.j1 k x0 x3 0 ((rd_T29 x0 x3).f0) (((rd_T29 x0 x3).f0).toList == ([97,115,115,101,114,116]:List UInt8)) ((rd_T29 x0 x3).f0) ((rd_T29 x0 x3).f1) ((rd_T29 x0 x3).f2) ((rd_T29 x0 x3).f3) ((rd_T29 x0 x3).f4) ((rd_T29 x0 x3).f5)) else (if ((rd_T29 x0 x3).f0).toList=([97,115,115,117,109,101]:List UInt8) then (helmsmanref12_WholeStmts.j1 k x0 x3 0 ((rd_T29 x0 x3).f0) (((rd_T29 x0 x3).f0).toList == ([97,115,115,117,109,101]:List UInt8)) ((rd_T29 x0 x3).f0) ((rd_T29 x0 x3).f1) ((rd_T29 x0 x3).f2) ((rd_T29 x0 x3).f3) ((rd_T29 x0 x3).f4) ((rd_T29 x0 x3).f5)) else (if ((rd_T29 x0 x3).f0).toList=([105,102]:List UInt8) then (helmsmanref12_WholeStmts.j1 k x0 x3 0 ((rd_T29 x0 x3).f0) (((rd_T29 x0 x3).f0).toList == ([105,102]:List UInt8)) ((rd_T29 x0 x3).f0) ((rd_T29 x0 x3).f1) ((rd_T29 x0 x3).f2) ((rd_T29 x0 x3).f3) ((rd_T29 x0 x3).f4) ((rd_T29 x0 x3).f5)) else (helmsmanref12_WholeStmts.j1 k x0 x3 0 ((rd_T29 x0 x3).f0) (((rd_T29 x0 x3).f0).toList == ([119,104,105,108,101]:List UInt8)) ((rd_T29 x0 x3).f0) ((rd_T29 x0 x3).f1) ((rd_T29 x0 x3).f2) ((rd_T29 x0 x3).f3) ((rd_T29 x0 x3).f4) ((rd_T29 x0 x3).f5)))))) else (none)) else (some true)
def helmsmanref12_WholeStmts.j2:Nat→List (S29)→Int→Int→ByteArray→ByteArray→List (S24)→List (S29)→List (S29)→Int→Option (Bool)
 | 0,_,_,_,_,_,_,_,_,_=>none
 | k+1,x0,x3,x5,x251000,x251001,x251002,x251003,x251004,x251005=>if (x251002.length:Int)=x5 then (if x251000.toList=([105,102]:List UInt8) then (helmsmanref12_WholeStmts.j3 k x0 x3 x5 false x251000 x251001 x251002 x251003 x251004 x251005) else (if (x251004.length:Int) > 0 then (helmsmanref12_WholeStmts.j3 k x0 x3 x5 true x251000 x251001 x251002 x251003 x251004 x251005) else (if x251000.toList=([119,104,105,108,101]:List UInt8) then (helmsmanref12_WholeStmts.j3 k x0 x3 x5 false x251000 x251001 x251002 x251003 x251004 x251005) else (helmsmanref12_WholeStmts.j3 k x0 x3 x5 (decide ((x251003.length:Int) > 0)) x251000 x251001 x251002 x251003 x251004 x251005)))) else (helmsmanref12_WholeStmts.j3 k x0 x3 x5 true x251000 x251001 x251002 x251003 x251004 x251005)
def helmsmanref12_WholeStmts.j3:Nat→List (S29)→Int→Int→Bool→ByteArray→ByteArray→List (S24)→List (S29)→List (S29)→Int→Option (Bool)
 | 0,_,_,_,_,_,_,_,_,_,_=>none
 | k+1,x0,x3,x5,x67,x251000,x251001,x251002,x251003,x251004,x251005=>if x67=true then (some false) else (helmsmanref12_WholeStmts.l1 k x0 x3 x5 0 x251000 x251001 x251002 x251003 x251004 x251005)
def helmsmanref12_WholeStmts.l1:Nat→List (S29)→Int→Int→Int→ByteArray→ByteArray→List (S24)→List (S29)→List (S29)→Int→Option (Bool)
 | 0,_,_,_,_,_,_,_,_,_,_=>none
 | k+1,x0,x3,x5,x6,x251000,x251001,x251002,x251003,x251004,x251005=>if x6 < x5 then (if 0≤x6 then (if x6 < (x251002.length:Int) then ((helmsmanref12_Whole.f k ((rd_T24 x251002 x6).f0) ((rd_T24 x251002 x6).f1) ((rd_T24 x251002 x6).f2) ((rd_T24 x251002 x6).f3) ((rd_T24 x251002 x6).f4)).bind fun t252=>(if t252=true then (helmsmanref12_WholeStmts.l1 k x0 x3 x5 (wrap64 (x6+1)) x251000 x251001 x251002 x251003 x251004 x251005) else (some false))) else (none)) else (none)) else ((helmsmanref12_WholeStmts.f k x251003).bind fun t253=>(if t253=true then ((helmsmanref12_WholeStmts.f k x251004).bind fun t254=>(if t254=true then (helmsmanref12_WholeStmts.l0 k x0 (wrap64 (x3+1))) else (some false))) else (some false)))
def helmsmanref12_WholeStmts.j1:Nat→List (S29)→Int→Int→ByteArray→Bool→ByteArray→ByteArray→List (S24)→List (S29)→List (S29)→Int→Option (Bool)
 | 0,_,_,_,_,_,_,_,_,_,_,_=>none
 | k+1,x0,x3,x5,x18,x19,x251000,x251001,x251002,x251003,x251004,x251005=>if x19=true then (helmsmanref12_WholeStmts.j2 k x0 x3 1 x251000 x251001 x251002 x251003 x251004 x251005) else (if x18.toList=([112,117,116]:List UInt8) then (helmsmanref12_WholeStmts.j2 k x0 x3 2 x251000 x251001 x251002 x251003 x251004 x251005) else (if x18.toList=([105,110,112,117,116]:List UInt8) then (if (x251002.length:Int) > 0 then (helmsmanref12_WholeStmts.j2 k x0 x3 2 x251000 x251001 x251002 x251003 x251004 x251005) else (helmsmanref12_WholeStmts.j2 k x0 x3 x5 x251000 x251001 x251002 x251003 x251004 x251005)) else (if x18.toList=([99,97,108,108]:List UInt8) then (helmsmanref12_WholeStmts.j2 k x0 x3 0 x251000 x251001 x251002 x251003 x251004 x251005) else (if x18.toList=([115,107,105,112]:List UInt8) then (helmsmanref12_WholeStmts.j2 k x0 x3 0 x251000 x251001 x251002 x251003 x251004 x251005) else (some false)))))
def helmsmanref12_WholeStmts.f:Nat→List (S29)→Option (Bool)
 | 0,_=>none
 | k+1,l0=>helmsmanref12_WholeStmts.l0 k l0 0
end
set_option maxHeartbeats 8000000 in
set_option maxRecDepth 100000 in
theorem helmsmanref12_WholeStmts.calls (k:Nat) : ∀ (A0:Option Addr) (c0:Nat) (l0:List (S29)) (r:Bool) (w:World) (hr0:Kd.C k29 w A0 l0.length l0) (hc0:l0.length≤c0) (h:helmsmanref12_WholeStmts.f k l0=some r),
  Calls Tryd.prog 37 #[.slice A0 l0.length c0] w fun e w'=>e=.returned (.bool r)∧Below w.heap.size w w':=by
 induction k using Nat.strongRecOn with
 | _ k ih=>
 intro A0 c0 l0 r w hr0 hc0 h
 cases k with
 | zero=>exact absurd h (by simp [helmsmanref12_WholeStmts.f])
 | succ k=>
 simp only [helmsmanref12_WholeStmts.f] at h
 have hu29:=Tryd.underlying29
 have hu24:=Tryd.underlying24
 have HR0:=Aside0.mk hr0
 have HC0:=Aside0.mk hc0
 clear hr0 hc0
 have HB:=Aside0.mk (Below.refl w.heap.size w)
 have H:(helmsmanref12_WholeStmts.l0 k l0 0)=some r:=h
 clear h
 have H':=Aside0.mk H
 clear H
 go_enter Tryd.func37,Tryd.ntmps37
 go_wp2
 (try simp only [Act.put,List.setIfInBounds_toArray,List.set_cons_succ,List.set_cons_zero])
 go_loopg [3] k (fun kq v3 w'=>∃ (x3_1:Int),v3=.int .i64 x3_1∧Aside0 (helmsmanref12_WholeStmts.l0 kq l0 x3_1=some r)∧Aside0 (kq≤k)∧Aside0 (Below w.heap.size w w'))
 case atStart=>exact ⟨(0),rf_,H',⟨Nat.le_refl _⟩,⟨bl_ HB.out⟩⟩
 case round=>
  clear H'
  obtain ⟨x3_1,rfl,HA,HK1,HB⟩:=hrel
  cases gk with
  | zero=>exact absurd HA.out (by simp [helmsmanref12_WholeStmts.l0])
  | succ k1=>
   have H:=HA.out
   clear HA
   simp only [helmsmanref12_WholeStmts.l0] at H
   by_cases c2:x3_1 < (l0.length:Int)
   ·rw [if_pos c2] at H
    have c2b0:=decide_eq_true c2
    clear c2
    revert H
    refine gd_ fun c3 H=>?_
    have c3b0:=decide_eq_true c3
    clear c3
    have HC4:=Aside0.mk H
    clear H
    have p249:0≤(x3_1:Int):=of_decide_eq_true as_
    have q249:x3_1 < (l0.length:Int):=of_decide_eq_true as_
    obtain ⟨ad249,A249_2,c249_2,A249_3,c249_3,A249_4,c249_4,e249,hx249_0,hx249_1,hx249_2,hx249_3,hx249_4,hx249_5,hl249_2,hi249_2,hl249_3,hi249_3,hl249_4,hi249_4⟩:=at_T29 HR0.out x3_1 p249 q249
    cases e249
    replace hx249_0:=(cb_ HB.out hx249_0:_)
    replace hx249_1:=(cb_ HB.out hx249_1:_)
    replace hx249_2:=(cb_ HB.out hx249_2:_)
    replace hx249_3:=(cb_ HB.out hx249_3:_)
    replace hx249_4:=(cb_ HB.out hx249_4:_)
    replace hx249_5:=(cb_ HB.out hx249_5:_)
    have HR249_2:=Aside0.mk hi249_2
    have HC249_2:=Aside0.mk hl249_2
    clear hi249_2 hl249_2
    have HR249_3:=Aside0.mk hi249_3
    have HC249_3:=Aside0.mk hl249_3
    clear hi249_3 hl249_3
    have HR249_4:=Aside0.mk hi249_4
    have HC249_4:=Aside0.mk hl249_4
    clear hi249_4 hl249_4
    replace p249:=eq_true p249
    replace q249:=eq_true q249
    go_upto_block 2 with (first|((with_reducible refine gate_dst (N:=4) rfl ?_);(try (refine gate_guard (by rfl) ?_;dsimp only));refine bx_ (N:=4) (cs:=#[.string (⟨#[]⟩:ByteArray),.string (⟨#[]⟩:ByteArray),.slice none 0 0,.slice none 0 0,.slice none 0 0,.int .i64 0]) (t:=29) ?_;intro gb250 hg w5 hbox hb;have BK250:=Aside0.mk (hbox);have GW250:=Aside0.mk ((gs_ hg (bl_ HB.out):w.heap.size≤gb250));have GE250:=Aside0.mk ((gs_ hg (bl_ HB.out):w.heap.size≤gb250));replace HB:=Aside0.mk (below_step (bl_ HB.out) hb);clear hb hbox hg;obtain ⟨hcz6_0,hcz6_1,hcz6_2,hcz6_3,hcz6_4,hcz6_5,hfz6_0,hfz6_1,hfz6_2,hfz6_3,hfz6_4,hfz6_5⟩:=zf6_ BK250.out))
    (try simp only [Act.put,List.setIfInBounds_toArray,List.set_cons_zero,List.set_cons_succ])
    go_cut [5] (fun v5 wc=>∃ (kq:Nat) (x5_3:Int),v5=.int .i64 x5_3∧Aside0 (helmsmanref12_WholeStmts.j2 kq l0 x3_1 x5_3 ((rd_T29 l0 x3_1).f0) ((rd_T29 l0 x3_1).f1) ((rd_T29 l0 x3_1).f2) ((rd_T29 l0 x3_1).f3) ((rd_T29 l0 x3_1).f4) ((rd_T29 l0 x3_1).f5)=some r)∧Aside0 (kq≤k1)∧Aside0 (wc.heap[gb250]?=some (.cells #[.string ((rd_T29 l0 x3_1).f0),.string ((rd_T29 l0 x3_1).f1),(.slice A249_2 ((rd_T29 l0 x3_1).f2).length c249_2),(.slice A249_3 ((rd_T29 l0 x3_1).f3).length c249_3),(.slice A249_4 ((rd_T29 l0 x3_1).f4).length c249_4),.int .i64 ((rd_T29 l0 x3_1).f5)] 29 (0,0)))∧Aside0 (Below w.heap.size w wc))
    case first=>
     have H:=HC4.out
     clear HC4
     have HC7:=Aside0.mk H
     clear H
     go_upto_if 19 with (fail)
     go_cut [19] (fun v19 wc=>∃ (kq:Nat) (x19_6:Bool),v19=.bool x19_6∧Aside0 (helmsmanref12_WholeStmts.j1 kq l0 x3_1 0 ((rd_T29 l0 x3_1).f0) x19_6 ((rd_T29 l0 x3_1).f0) ((rd_T29 l0 x3_1).f1) ((rd_T29 l0 x3_1).f2) ((rd_T29 l0 x3_1).f3) ((rd_T29 l0 x3_1).f4) ((rd_T29 l0 x3_1).f5)=some r)∧Aside0 (kq≤k1)∧Aside0 (wc.heap[gb250]?=some (.cells #[.string ((rd_T29 l0 x3_1).f0),.string ((rd_T29 l0 x3_1).f1),(.slice A249_2 ((rd_T29 l0 x3_1).f2).length c249_2),(.slice A249_3 ((rd_T29 l0 x3_1).f3).length c249_3),(.slice A249_4 ((rd_T29 l0 x3_1).f4).length c249_4),.int .i64 ((rd_T29 l0 x3_1).f5)] 29 (0,0)))∧Aside0 (Below w.heap.size w wc))
     case first=>
      have H:=HC7.out
      clear HC7
      by_cases c8:((rd_T29 l0 x3_1).f0).toList=([115,101,116]:List UInt8)
      ·rw [if_pos c8] at H
       have c8b0:=bqt_ c8
       have c8b1:=bnf_ c8
       clear c8
       (first|rw [c8b0]|(simp only [i64_w,i32_w];rw [c8b0])|skip)
       have H':=Aside0.mk H
       clear H
       go_wp2
       go_meet
       case rel=>exact ⟨_,((((rd_T29 l0 x3_1).f0).toList == ([115,101,116]:List UInt8))),rf_,H',⟨by have:=HK1.out;first|omega|exact Nat.le_refl _⟩,⟨kbc_ BK250.out⟩,⟨bl_ HB.out⟩⟩
      ·rw [if_neg c8] at H
       have c8b0:=bqf_ c8
       have c8b1:=bnt_ c8
       (first|rw [c8b0]|(simp only [i64_w,i32_w];rw [c8b0])|skip)
       by_cases c9:((rd_T29 l0 x3_1).f0).toList=([97,115,115,101,114,116]:List UInt8)
       ·rw [if_pos c9] at H
        have c9b0:=bqt_ c9
        have c9b1:=bnf_ c9
        clear c9
        have H':=Aside0.mk H
        clear H
        go_wp2
        go_meet
        case rel=>exact ⟨_,((((rd_T29 l0 x3_1).f0).toList == ([97,115,115,101,114,116]:List UInt8))),rf_,H',⟨by have:=HK1.out;first|omega|exact Nat.le_refl _⟩,⟨kbc_ BK250.out⟩,⟨bl_ HB.out⟩⟩
       ·rw [if_neg c9] at H
        have c9b0:=bqf_ c9
        have c9b1:=bnt_ c9
        by_cases c10:((rd_T29 l0 x3_1).f0).toList=([97,115,115,117,109,101]:List UInt8)
        ·rw [if_pos c10] at H
         have c10b0:=bqt_ c10
         have c10b1:=bnf_ c10
         clear c10
         have H':=Aside0.mk H
         clear H
         go_wp2
         go_meet
         case rel=>exact ⟨_,((((rd_T29 l0 x3_1).f0).toList == ([97,115,115,117,109,101]:List UInt8))),rf_,H',⟨by have:=HK1.out;first|omega|exact Nat.le_refl _⟩,⟨kbc_ BK250.out⟩,⟨bl_ HB.out⟩⟩
        ·rw [if_neg c10] at H
         have c10b0:=bqf_ c10
         have c10b1:=bnt_ c10
         by_cases c11:((rd_T29 l0 x3_1).f0).toList=([105,102]:List UInt8)
         ·rw [if_pos c11] at H
          have c11b0:=bqt_ c11
          have c11b1:=bnf_ c11
          clear c11
          have H':=Aside0.mk H
          clear H
          go_wp2
          go_meet
          case rel=>exact ⟨_,((((rd_T29 l0 x3_1).f0).toList == ([105,102]:List UInt8))),rf_,H',⟨by have:=HK1.out;first|omega|exact Nat.le_refl _⟩,⟨kbc_ BK250.out⟩,⟨bl_ HB.out⟩⟩
         ·rw [if_neg c11] at H
          have c11b0:=bqf_ c11
          have c11b1:=bnt_ c11
          have H':=Aside0.mk H
          clear H
          go_wp2
          go_meet
          case rel=>exact ⟨_,((((rd_T29 l0 x3_1).f0).toList == ([119,104,105,108,101]:List UInt8))),rf_,H',⟨by have:=HK1.out;first|omega|exact Nat.le_refl _⟩,⟨kbc_ BK250.out⟩,⟨bl_ HB.out⟩⟩
     case rest=>
      clear HC7
      obtain ⟨kq,x19_6,rfl,HA,HJ6,BK250,HB⟩:=hcut
      cases kq with
      | zero=>exact absurd HA.out (by simp [helmsmanref12_WholeStmts.j1])
      | succ kj6=>
       have H:=HA.out
       clear HA
       simp only [helmsmanref12_WholeStmts.j1] at H
       by_cases c12:x19_6=true
       ·subst c12
        replace H:=ip_ H
        have H':=Aside0.mk H
        clear H
        go_wp2
        go_meet
        case rel=>exact ⟨_,(1),rf_,H',⟨by have:=HK1.out;have:=HJ6.out;first|omega|exact Nat.le_refl _⟩,⟨kb_ BK250.out⟩,⟨bl_ HB.out⟩⟩
       ·replace c12:=Bool.eq_false_iff.mpr c12
        subst c12
        replace H:=in_ H
        by_cases c13:((rd_T29 l0 x3_1).f0).toList=([112,117,116]:List UInt8)
        ·rw [if_pos c13] at H
         have c13b0:=bqt_ c13
         have c13b1:=bnf_ c13
         clear c13
         have H':=Aside0.mk H
         clear H
         go_wp2
         go_meet
         case rel=>exact ⟨_,(2),rf_,H',⟨by have:=HK1.out;have:=HJ6.out;first|omega|exact Nat.le_refl _⟩,⟨kb_ BK250.out⟩,⟨bl_ HB.out⟩⟩
        ·rw [if_neg c13] at H
         have c13b0:=bqf_ c13
         have c13b1:=bnt_ c13
         by_cases c14:((rd_T29 l0 x3_1).f0).toList=([105,110,112,117,116]:List UInt8)
         ·rw [if_pos c14] at H
          have c14b0:=bqt_ c14
          have c14b1:=bnf_ c14
          clear c14
          by_cases c15:(((rd_T29 l0 x3_1).f2).length:Int) > 0
          ·rw [if_pos c15] at H
           have c15b0:=decide_eq_true (show _ < _ from c15)
           have c15b1:decide (0 < ((rd_T29 l0 x3_1).f2).length)=true:=decide_eq_true (by omega)
           clear c15
           have H':=Aside0.mk H
           clear H
           obtain ⟨hcz16_0,hcz16_1,hcz16_2,hcz16_3,hcz16_4,hcz16_5,hfz16_0,hfz16_1,hfz16_2,hfz16_3,hfz16_4,hfz16_5⟩:=zf6_ BK250.out
           go_wp2
           go_meet
           case rel=>exact ⟨_,(2),rf_,H',⟨by have:=HK1.out;have:=HJ6.out;first|omega|exact Nat.le_refl _⟩,⟨kb_ BK250.out⟩,⟨bl_ HB.out⟩⟩
          ·rw [if_neg c15] at H
           have c15b0:=decide_eq_false (show ¬ _ < _ from c15)
           have c15b1:decide (0 < ((rd_T29 l0 x3_1).f2).length)=false:=decide_eq_false (by omega)
           clear c15
           have H':=Aside0.mk H
           clear H
           obtain ⟨hcz17_0,hcz17_1,hcz17_2,hcz17_3,hcz17_4,hcz17_5,hfz17_0,hfz17_1,hfz17_2,hfz17_3,hfz17_4,hfz17_5⟩:=zf6_ BK250.out
           go_wp2
           go_meet
           case rel=>exact ⟨_,(0),rf_,H',⟨by have:=HK1.out;have:=HJ6.out;first|omega|exact Nat.le_refl _⟩,⟨kb_ BK250.out⟩,⟨bl_ HB.out⟩⟩
         ·rw [if_neg c14] at H
          have c14b0:=bqf_ c14
          have c14b1:=bnt_ c14
          by_cases c18:((rd_T29 l0 x3_1).f0).toList=([99,97,108,108]:List UInt8)
          ·rw [if_pos c18] at H
           have c18b0:=bqt_ c18
           have c18b1:=bnf_ c18
           clear c18
           have H':=Aside0.mk H
           clear H
           go_wp2
           go_meet
           case rel=>exact ⟨_,(0),rf_,H',⟨by have:=HK1.out;have:=HJ6.out;first|omega|exact Nat.le_refl _⟩,⟨kb_ BK250.out⟩,⟨bl_ HB.out⟩⟩
          ·rw [if_neg c18] at H
           have c18b0:=bqf_ c18
           have c18b1:=bnt_ c18
           by_cases c19:((rd_T29 l0 x3_1).f0).toList=([115,107,105,112]:List UInt8)
           ·rw [if_pos c19] at H
            have c19b0:=bqt_ c19
            have c19b1:=bnf_ c19
            clear c19
            have H':=Aside0.mk H
            clear H
            go_wp2
            go_meet
            case rel=>exact ⟨_,(0),rf_,H',⟨by have:=HK1.out;have:=HJ6.out;first|omega|exact Nat.le_refl _⟩,⟨kb_ BK250.out⟩,⟨bl_ HB.out⟩⟩
           ·rw [if_neg c19] at H
            have c19b0:=bqf_ c19
            have c19b1:=bnt_ c19
            obtain rfl:=Option.some.inj H
            go_wp2
            go_ret
            exact ⟨rt_,bl_ HB.out⟩
    case rest=>
     clear HC4
     obtain ⟨kq,x5_3,rfl,HA,HJ3,BK250,HB⟩:=hcut
     cases kq with
     | zero=>exact absurd HA.out (by simp [helmsmanref12_WholeStmts.j2])
     | succ kj3=>
      have H:=HA.out
      clear HA
      simp only [helmsmanref12_WholeStmts.j2] at H
      have HC20:=Aside0.mk H
      clear H
      go_upto_region 22 with (fail)
      go_cut [67] (fun v67 wc=>∃ (kq:Nat) (x67_19:Bool),v67=.bool x67_19∧Aside0 (helmsmanref12_WholeStmts.j3 kq l0 x3_1 x5_3 x67_19 ((rd_T29 l0 x3_1).f0) ((rd_T29 l0 x3_1).f1) ((rd_T29 l0 x3_1).f2) ((rd_T29 l0 x3_1).f3) ((rd_T29 l0 x3_1).f4) ((rd_T29 l0 x3_1).f5)=some r)∧Aside0 (kq≤kj3)∧Aside0 (wc.heap[gb250]?=some (.cells #[.string ((rd_T29 l0 x3_1).f0),.string ((rd_T29 l0 x3_1).f1),(.slice A249_2 ((rd_T29 l0 x3_1).f2).length c249_2),(.slice A249_3 ((rd_T29 l0 x3_1).f3).length c249_3),(.slice A249_4 ((rd_T29 l0 x3_1).f4).length c249_4),.int .i64 ((rd_T29 l0 x3_1).f5)] 29 (0,0)))∧Aside0 (Below w.heap.size w wc))
      case first=>
       have H:=HC20.out
       clear HC20
       by_cases c21:(((rd_T29 l0 x3_1).f2).length:Int)=x5_3
       ·rw [if_pos c21] at H
        have c21b0:((((rd_T29 l0 x3_1).f2).length:Int) == x5_3)=true:=beq_iff_eq.mpr c21
        have c21b1:((((rd_T29 l0 x3_1).f2).length:Int) != x5_3)=false:=bne_eq_false_iff_eq.mpr c21
        clear c21
        (first|rw [c21b0]|(simp only [i64_w,i32_w];rw [c21b0])|skip)
        by_cases c22:((rd_T29 l0 x3_1).f0).toList=([105,102]:List UInt8)
        ·rw [if_pos c22] at H
         have c22b0:=bqt_ c22
         have c22b1:=bnf_ c22
         clear c22
         have H':=Aside0.mk H
         clear H
         obtain ⟨hcz23_0,hcz23_1,hcz23_2,hcz23_3,hcz23_4,hcz23_5,hfz23_0,hfz23_1,hfz23_2,hfz23_3,hfz23_4,hfz23_5⟩:=zf6_ BK250.out
         go_wp2
         go_meet
         case rel=>exact ⟨_,(false),rf_,H',⟨by have:=HK1.out;have:=HJ3.out;first|omega|exact Nat.le_refl _⟩,⟨kb_ BK250.out⟩,⟨bl_ HB.out⟩⟩
        ·rw [if_neg c22] at H
         have c22b0:=bqf_ c22
         have c22b1:=bnt_ c22
         by_cases c24:(((rd_T29 l0 x3_1).f4).length:Int) > 0
         ·rw [if_pos c24] at H
          have c24b0:=decide_eq_true (show _ < _ from c24)
          have c24b1:decide (0 < ((rd_T29 l0 x3_1).f4).length)=true:=decide_eq_true (by omega)
          clear c24
          have H':=Aside0.mk H
          clear H
          obtain ⟨hcz25_0,hcz25_1,hcz25_2,hcz25_3,hcz25_4,hcz25_5,hfz25_0,hfz25_1,hfz25_2,hfz25_3,hfz25_4,hfz25_5⟩:=zf6_ BK250.out
          go_wp2
          go_meet
          case rel=>exact ⟨_,(true),rf_,H',⟨by have:=HK1.out;have:=HJ3.out;first|omega|exact Nat.le_refl _⟩,⟨kb_ BK250.out⟩,⟨bl_ HB.out⟩⟩
         ·rw [if_neg c24] at H
          have c24b0:=decide_eq_false (show ¬ _ < _ from c24)
          have c24b1:decide (0 < ((rd_T29 l0 x3_1).f4).length)=false:=decide_eq_false (by omega)
          clear c24
          by_cases c26:((rd_T29 l0 x3_1).f0).toList=([119,104,105,108,101]:List UInt8)
          ·rw [if_pos c26] at H
           have c26b0:=bqt_ c26
           have c26b1:=bnf_ c26
           clear c26
           have H':=Aside0.mk H
           clear H
           obtain ⟨hcz27_0,hcz27_1,hcz27_2,hcz27_3,hcz27_4,hcz27_5,hfz27_0,hfz27_1,hfz27_2,hfz27_3,hfz27_4,hfz27_5⟩:=zf6_ BK250.out
           go_wp2
           go_meet
           case rel=>exact ⟨_,(false),rf_,H',⟨by have:=HK1.out;have:=HJ3.out;first|omega|exact Nat.le_refl _⟩,⟨kb_ BK250.out⟩,⟨bl_ HB.out⟩⟩
          ·rw [if_neg c26] at H
           have c26b0:=bqf_ c26
           have c26b1:=bnt_ c26
           have H':=Aside0.mk H
           clear H
           obtain ⟨hcz28_0,hcz28_1,hcz28_2,hcz28_3,hcz28_4,hcz28_5,hfz28_0,hfz28_1,hfz28_2,hfz28_3,hfz28_4,hfz28_5⟩:=zf6_ BK250.out
           go_wp2
           go_meet
           case rel=>exact ⟨_,(decide ((((rd_T29 l0 x3_1).f3).length:Int) > 0)),rf_,H',⟨by have:=HK1.out;have:=HJ3.out;first|omega|exact Nat.le_refl _⟩,⟨kb_ BK250.out⟩,⟨bl_ HB.out⟩⟩
       ·rw [if_neg c21] at H
        have c21b0:((((rd_T29 l0 x3_1).f2).length:Int) == x5_3)=false:=beq_eq_false_iff_ne.mpr c21
        have c21b1:((((rd_T29 l0 x3_1).f2).length:Int) != x5_3)=true:=bne_iff_ne.mpr c21
        (first|rw [c21b0]|(simp only [i64_w,i32_w];rw [c21b0])|skip)
        have H':=Aside0.mk H
        clear H
        obtain ⟨hcz29_0,hcz29_1,hcz29_2,hcz29_3,hcz29_4,hcz29_5,hfz29_0,hfz29_1,hfz29_2,hfz29_3,hfz29_4,hfz29_5⟩:=zf6_ BK250.out
        go_wp2
        go_meet
        case rel=>exact ⟨_,(true),rf_,H',⟨by have:=HK1.out;have:=HJ3.out;first|omega|exact Nat.le_refl _⟩,⟨kb_ BK250.out⟩,⟨bl_ HB.out⟩⟩
      case rest=>
       clear HC20
       obtain ⟨kq,x67_19,rfl,HA,HJ19,BK250,HB⟩:=hcut
       cases kq with
       | zero=>exact absurd HA.out (by simp [helmsmanref12_WholeStmts.j3])
       | succ kj19=>
        have H:=HA.out
        clear HA
        simp only [helmsmanref12_WholeStmts.j3] at H
        by_cases c30:x67_19=true
        ·subst c30
         replace H:=ip_ H
         obtain rfl:=Option.some.inj H
         go_wp2
         go_ret
         exact ⟨rt_,bl_ HB.out⟩
        ·replace c30:=Bool.eq_false_iff.mpr c30
         subst c30
         replace H:=in_ H
         have H':=Aside0.mk H
         clear H
         go_wp2
         (try simp only [Act.put,List.setIfInBounds_toArray,List.set_cons_succ,List.set_cons_zero])
         go_loopg [6] kj19 (fun kq v6 w'=>∃ (x6_4:Int),v6=.int .i64 x6_4∧Aside0 (helmsmanref12_WholeStmts.l1 kq l0 x3_1 x5_3 x6_4 ((rd_T29 l0 x3_1).f0) ((rd_T29 l0 x3_1).f1) ((rd_T29 l0 x3_1).f2) ((rd_T29 l0 x3_1).f3) ((rd_T29 l0 x3_1).f4) ((rd_T29 l0 x3_1).f5)=some r)∧Aside0 (kq≤kj19)∧Aside0 (w'.heap[gb250]?=some (.cells #[.string ((rd_T29 l0 x3_1).f0),.string ((rd_T29 l0 x3_1).f1),(.slice A249_2 ((rd_T29 l0 x3_1).f2).length c249_2),(.slice A249_3 ((rd_T29 l0 x3_1).f3).length c249_3),(.slice A249_4 ((rd_T29 l0 x3_1).f4).length c249_4),.int .i64 ((rd_T29 l0 x3_1).f5)] 29 (0,0)))∧Aside0 (Below w.heap.size w w'))
         case atStart=>exact ⟨(0),rf_,H',⟨Nat.le_refl _⟩,⟨kb_ BK250.out⟩,⟨bl_ HB.out⟩⟩
         case round=>
          clear H'
          obtain ⟨x6_4,rfl,HA,HK4,BK250,HB⟩:=hrel
          cases gk with
          | zero=>exact absurd HA.out (by simp [helmsmanref12_WholeStmts.l1])
          | succ k4=>
           have H:=HA.out
           clear HA
           simp only [helmsmanref12_WholeStmts.l1] at H
           by_cases c31:x6_4 < x5_3
           ·rw [if_pos c31] at H
            have c31b0:=decide_eq_true c31
            clear c31
            revert H
            refine gd_ fun c32 H=>?_
            have c32b0:=decide_eq_true c32
            clear c32
            revert H
            refine gd_ fun c33 H=>?_
            have c33b0:=decide_eq_true c33
            clear c33
            revert H
            refine bd_ fun t252 A34 H=>?_
            by_cases c35:t252=true
            ·subst c35
             replace H:=ip_ H
             have H':=Aside0.mk H
             clear H
             obtain ⟨hcz36_0,hcz36_1,hcz36_2,hcz36_3,hcz36_4,hcz36_5,hfz36_0,hfz36_1,hfz36_2,hfz36_3,hfz36_4,hfz36_5⟩:=zf6_ BK250.out
             have p251:0≤(x6_4:Int):=of_decide_eq_true as_
             have q251:x6_4 < (((rd_T29 l0 x3_1).f2).length:Int):=of_decide_eq_true as_
             obtain ⟨ad251,A251_3,c251_3,e251,hx251_0,hx251_1,hx251_2,hx251_3,hx251_4,hl251_3,hi251_3⟩:=at_T24 HR249_2.out x6_4 p251 q251
             cases e251
             replace hx251_0:=(cb_ HB.out hx251_0:_)
             replace hx251_1:=(cb_ HB.out hx251_1:_)
             replace hx251_2:=(cb_ HB.out hx251_2:_)
             replace hx251_3:=(cb_ HB.out hx251_3:_)
             replace hx251_4:=(cb_ HB.out hx251_4:_)
             have HR251_3:=Aside0.mk hi251_3
             have HC251_3:=Aside0.mk hl251_3
             clear hi251_3 hl251_3
             replace p251:=eq_true p251
             replace q251:=eq_true q251
             go_wp2_with (first|((with_reducible refine gate_callee (f:=8) rfl ?_);refine goesL_ (some 78) rfl rfl Tryd.func8 (by kernel_rfl) rfl #[.agg #[.string ((rd_T24 ((rd_T29 l0 x3_1).f2) x6_4).f0),.string ((rd_T24 ((rd_T29 l0 x3_1).f2) x6_4).f1),.int .i64 ((rd_T24 ((rd_T29 l0 x3_1).f2) x6_4).f2),.slice A251_3 ((rd_T24 ((rd_T29 l0 x3_1).f2) x6_4).f3).length c251_3,.int .i64 ((rd_T24 ((rd_T29 l0 x3_1).f2) x6_4).f4)]] rfl ar_ ?_;(with_reducible refine (helmsmanref12_Whole.calls k4 ((rd_T24 ((rd_T29 l0 x3_1).f2) x6_4).f0) ((rd_T24 ((rd_T29 l0 x3_1).f2) x6_4).f1) ((rd_T24 ((rd_T29 l0 x3_1).f2) x6_4).f2) _ _ ((rd_T24 ((rd_T29 l0 x3_1).f2) x6_4).f3) ((rd_T24 ((rd_T29 l0 x3_1).f2) x6_4).f4) true _ ?side1 ?side2 A34.out).mono ?_);(case side1=>exact kc_ HR251_3.out HB.out);(case side2=>exact HC251_3.out);rintro e w37 ⟨rfl,hb⟩;refine ⟨_,rfl,?_⟩;replace BK250:=Aside0.mk (bb_ BK250.out hb);replace HB:=Aside0.mk (below_step (bl_ HB.out) hb)))
             go_roundg k4
             case measure=>have:=HK1.out;have:=HJ3.out;have:=HJ19.out;have:=HK4.out;omega
             case rel=>exact ⟨(wrap64 (x6_4+1)),rf_,H',⟨by have:=HK1.out;have:=HJ3.out;have:=HJ19.out;have:=HK4.out;omega⟩,⟨kb_ BK250.out⟩,⟨bl_ HB.out⟩⟩
            ·replace c35:=Bool.eq_false_iff.mpr c35
             subst c35
             replace H:=in_ H
             obtain rfl:=Option.some.inj H
             obtain ⟨hcz38_0,hcz38_1,hcz38_2,hcz38_3,hcz38_4,hcz38_5,hfz38_0,hfz38_1,hfz38_2,hfz38_3,hfz38_4,hfz38_5⟩:=zf6_ BK250.out
             have p251:0≤(x6_4:Int):=of_decide_eq_true as_
             have q251:x6_4 < (((rd_T29 l0 x3_1).f2).length:Int):=of_decide_eq_true as_
             obtain ⟨ad251,A251_3,c251_3,e251,hx251_0,hx251_1,hx251_2,hx251_3,hx251_4,hl251_3,hi251_3⟩:=at_T24 HR249_2.out x6_4 p251 q251
             cases e251
             replace hx251_0:=(cb_ HB.out hx251_0:_)
             replace hx251_1:=(cb_ HB.out hx251_1:_)
             replace hx251_2:=(cb_ HB.out hx251_2:_)
             replace hx251_3:=(cb_ HB.out hx251_3:_)
             replace hx251_4:=(cb_ HB.out hx251_4:_)
             have HR251_3:=Aside0.mk hi251_3
             have HC251_3:=Aside0.mk hl251_3
             clear hi251_3 hl251_3
             replace p251:=eq_true p251
             replace q251:=eq_true q251
             go_wp2_with (first|((with_reducible refine gate_callee (f:=8) rfl ?_);refine goesL_ (some 78) rfl rfl Tryd.func8 (by kernel_rfl) rfl #[.agg #[.string ((rd_T24 ((rd_T29 l0 x3_1).f2) x6_4).f0),.string ((rd_T24 ((rd_T29 l0 x3_1).f2) x6_4).f1),.int .i64 ((rd_T24 ((rd_T29 l0 x3_1).f2) x6_4).f2),.slice A251_3 ((rd_T24 ((rd_T29 l0 x3_1).f2) x6_4).f3).length c251_3,.int .i64 ((rd_T24 ((rd_T29 l0 x3_1).f2) x6_4).f4)]] rfl ar_ ?_;(with_reducible refine (helmsmanref12_Whole.calls k4 ((rd_T24 ((rd_T29 l0 x3_1).f2) x6_4).f0) ((rd_T24 ((rd_T29 l0 x3_1).f2) x6_4).f1) ((rd_T24 ((rd_T29 l0 x3_1).f2) x6_4).f2) _ _ ((rd_T24 ((rd_T29 l0 x3_1).f2) x6_4).f3) ((rd_T24 ((rd_T29 l0 x3_1).f2) x6_4).f4) false _ ?side1 ?side2 A34.out).mono ?_);(case side1=>exact kc_ HR251_3.out HB.out);(case side2=>exact HC251_3.out);rintro e w39 ⟨rfl,hb⟩;refine ⟨_,rfl,?_⟩;replace BK250:=Aside0.mk (bb_ BK250.out hb);replace HB:=Aside0.mk (below_step (bl_ HB.out) hb)))
             go_ret
             exact ⟨rt_,bl_ HB.out⟩
           ·rw [if_neg c31] at H
            have c31b0:=decide_eq_false c31
            clear c31
            revert H
            refine bd_ fun t253 A40 H=>?_
            by_cases c41:t253=true
            ·subst c41
             replace H:=ip_ H
             revert H
             refine bd_ fun t254 A42 H=>?_
             by_cases c43:t254=true
             ·subst c43
              replace H:=ip_ H
              have H':=Aside0.mk H
              clear H
              obtain ⟨hcz44_0,hcz44_1,hcz44_2,hcz44_3,hcz44_4,hcz44_5,hfz44_0,hfz44_1,hfz44_2,hfz44_3,hfz44_4,hfz44_5⟩:=zf6_ BK250.out
              go_wp2_with (first|((with_reducible refine gate_callee (f:=37) rfl ?_);refine goesL_ (some 82) rfl rfl Tryd.func37 (by kernel_rfl) rfl #[.slice A249_3 ((rd_T29 l0 x3_1).f3).length c249_3] rfl ar_ ?_;(with_reducible refine (ih k4 (by have:=HK1.out;have:=HJ3.out;have:=HJ19.out;have:=HK4.out;omega) _ _ ((rd_T29 l0 x3_1).f3) true _ ?side1 ?side2 A40.out).mono ?_);(case side1=>exact kc_ HR249_3.out HB.out);(case side2=>exact HC249_3.out);rintro e w45 ⟨rfl,hb⟩;refine ⟨_,rfl,?_⟩;replace BK250:=Aside0.mk (bb_ BK250.out hb);replace HB:=Aside0.mk (below_step (bl_ HB.out) hb);obtain ⟨hcz46_0,hcz46_1,hcz46_2,hcz46_3,hcz46_4,hcz46_5,hfz46_0,hfz46_1,hfz46_2,hfz46_3,hfz46_4,hfz46_5⟩:=zf6_ BK250.out)|(go_at_call 37;(with_reducible refine (ih k4 (by have:=HK1.out;have:=HJ3.out;have:=HJ19.out;have:=HK4.out;omega) _ _ ((rd_T29 l0 x3_1).f4) true _ ?side1 ?side2 A42.out).mono ?_);(case side1=>exact kc_ HR249_4.out HB.out);(case side2=>exact HC249_4.out);rintro e w47 ⟨rfl,hb⟩;replace BK250:=Aside0.mk (bb_ BK250.out hb);replace HB:=Aside0.mk (below_step (bl_ HB.out) hb)))
              go_roundg k4
              case measure=>have:=HK1.out;have:=HJ3.out;have:=HJ19.out;have:=HK4.out;omega
              case rel=>exact ⟨(wrap64 (x3_1+1)),rf_,H',⟨by have:=HK1.out;have:=HJ3.out;have:=HJ19.out;have:=HK4.out;omega⟩,⟨bl_ HB.out⟩⟩
             ·replace c43:=Bool.eq_false_iff.mpr c43
              subst c43
              replace H:=in_ H
              obtain rfl:=Option.some.inj H
              obtain ⟨hcz48_0,hcz48_1,hcz48_2,hcz48_3,hcz48_4,hcz48_5,hfz48_0,hfz48_1,hfz48_2,hfz48_3,hfz48_4,hfz48_5⟩:=zf6_ BK250.out
              go_wp2_with (first|((with_reducible refine gate_callee (f:=37) rfl ?_);refine goesL_ (some 82) rfl rfl Tryd.func37 (by kernel_rfl) rfl #[.slice A249_3 ((rd_T29 l0 x3_1).f3).length c249_3] rfl ar_ ?_;(with_reducible refine (ih k4 (by have:=HK1.out;have:=HJ3.out;have:=HJ19.out;have:=HK4.out;omega) _ _ ((rd_T29 l0 x3_1).f3) true _ ?side1 ?side2 A40.out).mono ?_);(case side1=>exact kc_ HR249_3.out HB.out);(case side2=>exact HC249_3.out);rintro e w49 ⟨rfl,hb⟩;refine ⟨_,rfl,?_⟩;replace BK250:=Aside0.mk (bb_ BK250.out hb);replace HB:=Aside0.mk (below_step (bl_ HB.out) hb);obtain ⟨hcz50_0,hcz50_1,hcz50_2,hcz50_3,hcz50_4,hcz50_5,hfz50_0,hfz50_1,hfz50_2,hfz50_3,hfz50_4,hfz50_5⟩:=zf6_ BK250.out)|(go_at_call 37;(with_reducible refine (ih k4 (by have:=HK1.out;have:=HJ3.out;have:=HJ19.out;have:=HK4.out;omega) _ _ ((rd_T29 l0 x3_1).f4) false _ ?side1 ?side2 A42.out).mono ?_);(case side1=>exact kc_ HR249_4.out HB.out);(case side2=>exact HC249_4.out);rintro e w51 ⟨rfl,hb⟩;replace BK250:=Aside0.mk (bb_ BK250.out hb);replace HB:=Aside0.mk (below_step (bl_ HB.out) hb)))
              go_ret
              exact ⟨rt_,bl_ HB.out⟩
            ·replace c41:=Bool.eq_false_iff.mpr c41
             subst c41
             replace H:=in_ H
             obtain rfl:=Option.some.inj H
             obtain ⟨hcz52_0,hcz52_1,hcz52_2,hcz52_3,hcz52_4,hcz52_5,hfz52_0,hfz52_1,hfz52_2,hfz52_3,hfz52_4,hfz52_5⟩:=zf6_ BK250.out
             go_wp2_with (first|((with_reducible refine gate_callee (f:=37) rfl ?_);refine goesL_ (some 82) rfl rfl Tryd.func37 (by kernel_rfl) rfl #[.slice A249_3 ((rd_T29 l0 x3_1).f3).length c249_3] rfl ar_ ?_;(with_reducible refine (ih k4 (by have:=HK1.out;have:=HJ3.out;have:=HJ19.out;have:=HK4.out;omega) _ _ ((rd_T29 l0 x3_1).f3) false _ ?side1 ?side2 A40.out).mono ?_);(case side1=>exact kc_ HR249_3.out HB.out);(case side2=>exact HC249_3.out);rintro e w53 ⟨rfl,hb⟩;refine ⟨_,rfl,?_⟩;replace BK250:=Aside0.mk (bb_ BK250.out hb);replace HB:=Aside0.mk (below_step (bl_ HB.out) hb)))
             go_ret
             exact ⟨rt_,bl_ HB.out⟩
   ·rw [if_neg c2] at H
    have c2b0:=decide_eq_false c2
    clear c2
    obtain rfl:=Option.some.inj H
    go_wp2
    go_ret
    exact ⟨rt_,bl_ HB.out⟩
end Go.Proofs.YtnnbbeloifhofaaDoor.P
end
section
namespace Go.Proofs.YtnnbbeloifhofaaDoor.P
open Go.RowKit Go.Proofs.YtnnbbeloifhofaaDoorW.PrintWords Go.Proofs.YtnnbbeloifhofaaDoorW.PrintLast Go.Proofs.YtnnbbeloifhofaaDoorW.PrintMore
attribute [local go_sem] max2_int min2_int max_two min_two max_three min_three max_four min_four
set_option linter.unusedVariables false
set_option linter.unusedSimpArgs false
def helmsmanref12_WholeProg.l0:Nat→Int→List (S72)→List (S56)→List (S69)→List (S29)→Option (Bool)
 | 0,_,_,_,_,_=>none
 | k+1,x3,x256000,x256001,x256002,x256003=>if x3 < (x256002.length:Int) then (if 0≤x3 then ((helmsmanref12_WholeStmts.f k ((rd_T69 x256002 x3).f1)).bind fun t257=>(if t257=true then (helmsmanref12_WholeProg.l0 k (wrap64 (x3+1)) x256000 x256001 x256002 x256003) else (some false))) else (none)) else ((helmsmanref12_WholeStmts.f k x256003).bind fun t258=>(some t258))
def helmsmanref12_WholeProg.f (k:Nat) (l0_0:List (S72)) (l0_1:List (S56)) (l0_2:List (S69)) (l0_3:List (S29)):Option (Bool):=helmsmanref12_WholeProg.l0 k 0 l0_0 l0_1 l0_2 l0_3
set_option maxHeartbeats 8000000 in
set_option maxRecDepth 100000 in
theorem helmsmanref12_WholeProg.calls (k:Nat) (A0_0:Option Addr) (c0_0:Nat) (l0_0:List (S72)) (A0_1:Option Addr) (c0_1:Nat) (l0_1:List (S56)) (A0_2:Option Addr) (c0_2:Nat) (l0_2:List (S69)) (A0_3:Option Addr) (c0_3:Nat) (l0_3:List (S29)) (r:Bool) (w:World) (hr0_0:Kd.C k72 w A0_0 l0_0.length l0_0) (hc0_0:l0_0.length≤c0_0) (hr0_1:Kd.C k56 w A0_1 l0_1.length l0_1) (hc0_1:l0_1.length≤c0_1) (hr0_2:Kd.C k69 w A0_2 l0_2.length l0_2) (hc0_2:l0_2.length≤c0_2) (hr0_3:Kd.C k29 w A0_3 l0_3.length l0_3) (hc0_3:l0_3.length≤c0_3) (h:helmsmanref12_WholeProg.f k l0_0 l0_1 l0_2 l0_3=some r) :
  Calls Tryd.prog 21 #[.agg #[.slice A0_0 l0_0.length c0_0,.slice A0_1 l0_1.length c0_1,.slice A0_2 l0_2.length c0_2,.slice A0_3 l0_3.length c0_3]] w fun e w'=>e=.returned (.bool r)∧Below w.heap.size w w':=by
 have hu43:=Tryd.underlying43
 have HR0_0:=Aside0.mk hr0_0
 have HC0_0:=Aside0.mk hc0_0
 clear hr0_0 hc0_0
 have HR0_1:=Aside0.mk hr0_1
 have HC0_1:=Aside0.mk hc0_1
 clear hr0_1 hc0_1
 have HR0_2:=Aside0.mk hr0_2
 have HC0_2:=Aside0.mk hc0_2
 clear hr0_2 hc0_2
 have HR0_3:=Aside0.mk hr0_3
 have HC0_3:=Aside0.mk hc0_3
 clear hr0_3 hc0_3
 have HB:=Aside0.mk (Below.refl w.heap.size w)
 have H:(helmsmanref12_WholeProg.l0 k 0 l0_0 l0_1 l0_2 l0_3)=some r:=h
 clear h
 have H':=Aside0.mk H
 clear H
 go_enter Tryd.func21,Tryd.ntmps21
 go_wp2_with (first|((with_reducible refine gate_dst (N:=1) rfl ?_);refine bx_ (N:=1) (cs:=#[.slice A0_0 l0_0.length c0_0,.slice A0_1 l0_1.length c0_1,.slice A0_2 l0_2.length c0_2,.slice A0_3 l0_3.length c0_3]) (t:=43) ?_;intro gb255 hg w2 hbox hb;have BK255:=Aside0.mk (hbox);have GW255:=Aside0.mk ((gs_ hg (bl_ HB.out):w.heap.size≤gb255));have GE255:=Aside0.mk ((gs_ hg (bl_ HB.out):w.heap.size≤gb255));replace HB:=Aside0.mk (below_step (bl_ HB.out) hb);clear hb hbox hg))
 (try simp only [Act.put,List.setIfInBounds_toArray,List.set_cons_succ,List.set_cons_zero])
 go_loopg [3] k (fun kq v3 w'=>∃ (x3_1:Int),v3=.int .i64 x3_1∧Aside0 (helmsmanref12_WholeProg.l0 kq x3_1 l0_0 l0_1 l0_2 l0_3=some r)∧Aside0 (kq≤k)∧Aside0 (w'.heap[gb255]?=some (.cells #[(.slice A0_0 l0_0.length c0_0),(.slice A0_1 l0_1.length c0_1),(.slice A0_2 l0_2.length c0_2),(.slice A0_3 l0_3.length c0_3)] 43 (0,0)))∧Aside0 (Below w.heap.size w w'))
 case atStart=>exact ⟨(0),rf_,H',⟨Nat.le_refl _⟩,⟨kb_ BK255.out⟩,⟨bl_ HB.out⟩⟩
 case round=>
  clear H'
  obtain ⟨x3_1,rfl,HA,HK1,BK255,HB⟩:=hrel
  cases gk with
  | zero=>exact absurd HA.out (by simp [helmsmanref12_WholeProg.l0])
  | succ k1=>
   have H:=HA.out
   clear HA
   simp only [helmsmanref12_WholeProg.l0] at H
   by_cases c3:x3_1 < (l0_2.length:Int)
   ·rw [if_pos c3] at H
    have c3b0:=decide_eq_true c3
    clear c3
    revert H
    refine gd_ fun c4 H=>?_
    have c4b0:=decide_eq_true c4
    clear c4
    revert H
    refine bd_ fun t257 A5 H=>?_
    by_cases c6:t257=true
    ·subst c6
     replace H:=ip_ H
     have H':=Aside0.mk H
     clear H
     obtain ⟨hcz7_0,hcz7_1,hcz7_2,hcz7_3,hfz7_0,hfz7_1,hfz7_2,hfz7_3⟩:=zf4_ BK255.out
     have p256:0≤(x3_1:Int):=of_decide_eq_true as_
     have q256:x3_1 < (l0_2.length:Int):=of_decide_eq_true as_
     obtain ⟨ad256,A256_1,c256_1,e256,hx256_0,hx256_1,hl256_1,hi256_1⟩:=at_T69 HR0_2.out x3_1 p256 q256
     cases e256
     replace hx256_0:=(cb_ HB.out hx256_0:_)
     replace hx256_1:=(cb_ HB.out hx256_1:_)
     have HR256_1:=Aside0.mk hi256_1
     have HC256_1:=Aside0.mk hl256_1
     clear hi256_1 hl256_1
     replace p256:=eq_true p256
     replace q256:=eq_true q256
     go_wp2_with (first|((with_reducible refine gate_callee (f:=37) rfl ?_);refine goesL_ (some 17) rfl rfl Tryd.func37 (by kernel_rfl) rfl #[.slice A256_1 ((rd_T69 l0_2 x3_1).f1).length c256_1] rfl ar_ ?_;(with_reducible refine (helmsmanref12_WholeStmts.calls k1 _ _ ((rd_T69 l0_2 x3_1).f1) true _ ?side1 ?side2 A5.out).mono ?_);(case side1=>exact kc_ HR256_1.out HB.out);(case side2=>exact HC256_1.out);rintro e w8 ⟨rfl,hb⟩;refine ⟨_,rfl,?_⟩;replace BK255:=Aside0.mk (bb_ BK255.out hb);replace HB:=Aside0.mk (below_step (bl_ HB.out) hb)))
     go_roundg k1
     case measure=>have:=HK1.out;omega
     case rel=>exact ⟨(wrap64 (x3_1+1)),rf_,H',⟨by have:=HK1.out;omega⟩,⟨kb_ BK255.out⟩,⟨bl_ HB.out⟩⟩
    ·replace c6:=Bool.eq_false_iff.mpr c6
     subst c6
     replace H:=in_ H
     obtain rfl:=Option.some.inj H
     obtain ⟨hcz9_0,hcz9_1,hcz9_2,hcz9_3,hfz9_0,hfz9_1,hfz9_2,hfz9_3⟩:=zf4_ BK255.out
     have p256:0≤(x3_1:Int):=of_decide_eq_true as_
     have q256:x3_1 < (l0_2.length:Int):=of_decide_eq_true as_
     obtain ⟨ad256,A256_1,c256_1,e256,hx256_0,hx256_1,hl256_1,hi256_1⟩:=at_T69 HR0_2.out x3_1 p256 q256
     cases e256
     replace hx256_0:=(cb_ HB.out hx256_0:_)
     replace hx256_1:=(cb_ HB.out hx256_1:_)
     have HR256_1:=Aside0.mk hi256_1
     have HC256_1:=Aside0.mk hl256_1
     clear hi256_1 hl256_1
     replace p256:=eq_true p256
     replace q256:=eq_true q256
     go_wp2_with (first|((with_reducible refine gate_callee (f:=37) rfl ?_);refine goesL_ (some 17) rfl rfl Tryd.func37 (by kernel_rfl) rfl #[.slice A256_1 ((rd_T69 l0_2 x3_1).f1).length c256_1] rfl ar_ ?_;(with_reducible refine (helmsmanref12_WholeStmts.calls k1 _ _ ((rd_T69 l0_2 x3_1).f1) false _ ?side1 ?side2 A5.out).mono ?_);(case side1=>exact kc_ HR256_1.out HB.out);(case side2=>exact HC256_1.out);rintro e w10 ⟨rfl,hb⟩;refine ⟨_,rfl,?_⟩;replace BK255:=Aside0.mk (bb_ BK255.out hb);replace HB:=Aside0.mk (below_step (bl_ HB.out) hb)))
     go_ret
     exact ⟨rt_,bl_ HB.out⟩
   ·rw [if_neg c3] at H
    have c3b0:=decide_eq_false c3
    clear c3
    revert H
    refine bd_ fun t258 A11 H=>?_
    obtain rfl:=Option.some.inj H
    obtain ⟨hcz12_0,hcz12_1,hcz12_2,hcz12_3,hfz12_0,hfz12_1,hfz12_2,hfz12_3⟩:=zf4_ BK255.out
    go_wp2_with (first|((with_reducible refine gate_callee (f:=37) rfl ?_);refine goesL_ (some 21) rfl rfl Tryd.func37 (by kernel_rfl) rfl #[.slice A0_3 l0_3.length c0_3] rfl ar_ ?_;(with_reducible refine (helmsmanref12_WholeStmts.calls k1 _ _ l0_3 t258 _ ?side1 ?side2 A11.out).mono ?_);(case side1=>exact kc_ HR0_3.out HB.out);(case side2=>exact HC0_3.out);rintro e w13 ⟨rfl,hb⟩;refine ⟨_,rfl,?_⟩;replace BK255:=Aside0.mk (bb_ BK255.out hb);replace HB:=Aside0.mk (below_step (bl_ HB.out) hb)))
    go_ret
    exact ⟨rt_,bl_ HB.out⟩
end Go.Proofs.YtnnbbeloifhofaaDoor.P
end
section
namespace Go.Proofs.YtnnbbeloifhofaaDoor.P
open Go Go.RowKit Go.Proofs
open Go.Proofs.YtnnbbeloifhofaaDoorW.PrintWords Go.Proofs.YtnnbbeloifhofaaDoorW.PrintLast Go.Proofs.YtnnbbeloifhofaaDoorW.PrintMore
set_option linter.unusedVariables false
abbrev oSkip:List UInt8:=[115,107,105,112]
def onePart (op:List UInt8):Bool:=decide (op=oSet∨op=oAssert∨op=oAssume∨op=oIf∨op=oWhile)
def manyS (op:List UInt8) (n:Nat):Option Nat:=
  if onePart op=true then some 1
  else if op=oPut then some 2
  else if op=oInput then (if 0 < n then some 2 else some 0)
  else if op=oCall then some 0
  else if op=oSkip then some 0 else none
def shapeS (op:List UInt8) (a m:Nat):Bool:=decide (op=oIf) || (decide (m=0) && (decide (op=oWhile) || decide (a=0)))
def headS (op:ByteArray) (n a m:Nat):Bool:=decide (manyS op.toList n=some n) && shapeS op.toList a m
mutual
def wholeS:RS→Bool
  | ⟨op,_,e,a,m,_⟩=>headS op e.length a.length m.length && (wholeEs e && (wholeSs a && wholeSs m))
def wholeSs:List RS→Bool
  | []=>true
  | x :: xs=>wholeS x && wholeSs xs
end
theorem wholeS_eq (x:RS):wholeS x=(headS x.f0 x.f2.length x.f3.length x.f4.length && (wholeEs x.f2 && (wholeSs x.f3 && wholeSs x.f4))):=by cases x;rw [wholeS]
section
variable (L:List RS) (i:Int) (s:RS) (rest:Bool)
structure At:Prop where
  hn:s.f2.length < 4611686018427387904
  hE : ∀ y ∈ s.f2,Ev (fun k=>helmsmanref12_Whole.f k y.f0 y.f1 y.f2 y.f3 y.f4) (wholeE y)
  hA:Ev (fun k=>helmsmanref12_WholeStmts.f k s.f3) (wholeSs s.f3)
  hB:Ev (fun k=>helmsmanref12_WholeStmts.f k s.f4) (wholeSs s.f4)
  hr:Ev (fun k=>helmsmanref12_WholeStmts.l0 k L (wrap64 (i+1))) rest
variable {L i s rest}
theorem WholeS_l1 (h:At L i s rest):Ev (fun k=>helmsmanref12_WholeStmts.l1 k L i (s.f2.length:Int) 0 s.f0 s.f1 s.f2 s.f3 s.f4 s.f5) (wholeEs s.f2 && (wholeSs s.f3 && (wholeSs s.f4 && rest))):=by
  rw [wholeEs_all]
  refine one_step s.f2 z24 (fun k j=>helmsmanref12_WholeStmts.l1 k L i (s.f2.length:Int) j s.f0 s.f1 s.f2 s.f3 s.f4 s.f5) wholeE _ h.hn ?_ ?_
  · intro j hj r hr
    refine Ev.step (fun k=>helmsmanref12_WholeStmts.l1.eq_2 _ _ _ _ _ _ _ _ _ _ k) (Ev.yes (by omega) (Ev.yes (by omega) (Ev.yes (by omega) (Ev.bind (h.hE _ (getD_mem' z24 hj)) ?_))))
    cases e:wholeE (s.f2.getD j z24) with
    | false=>exact Ev.no (by rw [show wholeE (rd_T24 s.f2 (j:Int))=false from e];simp) (Ev.now _)
    | true=>exact Ev.yes e (by rw [Bool.true_and];exact hr)
  · refine Ev.step (fun k=>helmsmanref12_WholeStmts.l1.eq_2 _ _ _ _ _ _ _ _ _ _ k) (Ev.no (by omega) (Ev.bind h.hA ?_))
    cases wholeSs s.f3 with
    | false=>exact Ev.no (by simp) (Ev.now _)
    | true=>
      refine Ev.yes rfl (Ev.bind h.hB ?_)
      cases wholeSs s.f4 with
      | false=>exact Ev.no (by simp) (Ev.now _)
      | true=>exact Ev.yes rfl h.hr
theorem WholeS_j2 (h:At L i s rest) (m:Nat) :
    Ev (fun k=>helmsmanref12_WholeStmts.j2 k L i (m:Int) s.f0 s.f1 s.f2 s.f3 s.f4 s.f5) ((decide (m=s.f2.length) && shapeS s.f0.toList s.f3.length s.f4.length) && (wholeEs s.f2 && (wholeSs s.f3 && (wholeSs s.f4 && rest)))):=by
  refine Ev.step (fun k=>helmsmanref12_WholeStmts.j2.eq_2 _ _ _ _ _ _ _ _ _ k) ?_
  have bad:Ev (fun k=>helmsmanref12_WholeStmts.j3 k L i (m:Int) true s.f0 s.f1 s.f2 s.f3 s.f4 s.f5) false:=Ev.step (fun k=>helmsmanref12_WholeStmts.j3.eq_2 _ _ _ _ _ _ _ _ _ _ k) (Ev.yes rfl (Ev.now _))
  by_cases c:s.f2.length=m
  · subst c
    have good:Ev (fun k=>helmsmanref12_WholeStmts.j3 k L i (s.f2.length:Int) false s.f0 s.f1 s.f2 s.f3 s.f4 s.f5) (wholeEs s.f2 && (wholeSs s.f3 && (wholeSs s.f4 && rest))):=Ev.step (fun k=>helmsmanref12_WholeStmts.j3.eq_2 _ _ _ _ _ _ _ _ _ _ k) (Ev.no (by simp) (WholeS_l1 h))
    refine Ev.yes rfl ?_
    rw [decide_eq_true rfl,Bool.true_and]
    unfold shapeS
    by_cases c1:s.f0.toList=oIf
    · refine Ev.yes c1 ?_
      rw [decide_eq_true c1,Bool.true_or,Bool.true_and];exact good
    refine Ev.no c1 ?_
    rw [decide_eq_false c1,Bool.false_or]
    by_cases c2:s.f4.length=0
    · refine Ev.no (by omega) ?_
      rw [decide_eq_true c2,Bool.true_and]
      by_cases c3:s.f0.toList=oWhile
      · refine Ev.yes c3 ?_
        rw [decide_eq_true c3,Bool.true_or,Bool.true_and];exact good
      refine Ev.no c3 ?_
      rw [decide_eq_false c3,Bool.false_or]
      by_cases c4:s.f3.length=0
      · rw [decide_eq_true c4,Bool.true_and,show decide ((s.f3.length:Int) > 0)=false from decide_eq_false (by omega)];exact good
      · rw [decide_eq_false c4,Bool.false_and,show decide ((s.f3.length:Int) > 0)=true from decide_eq_true (by omega)];exact bad
    · refine Ev.yes (by omega) ?_
      rw [decide_eq_false c2,Bool.false_and,Bool.false_and];exact bad
  · refine Ev.no (by omega) ?_
    rw [decide_eq_false (fun e=>c e.symm),Bool.false_and,Bool.false_and];exact bad
theorem WholeS_j1 (h:At L i s rest) :
    Ev (fun k=>helmsmanref12_WholeStmts.j1 k L i 0 s.f0 (onePart s.f0.toList) s.f0 s.f1 s.f2 s.f3 s.f4 s.f5) (wholeS s && rest):=by
  refine Ev.step (fun k=>helmsmanref12_WholeStmts.j1.eq_2 _ _ _ _ _ _ _ _ _ _ _ k) ?_
  have all : ∀ m,manyS s.f0.toList s.f2.length=some m→(wholeS s && rest)=((decide (m=s.f2.length) && shapeS s.f0.toList s.f3.length s.f4.length) && (wholeEs s.f2 && (wholeSs s.f3 && (wholeSs s.f4 && rest)))):=by
    intro m hm
    rw [wholeS_eq]
    unfold headS
    rw [hm]
    simp only [Option.some.injEq,Bool.and_assoc]
  have w1:=WholeS_j2 h
  cases c0:onePart s.f0.toList with
  | true=>
    refine Ev.yes rfl ?_
    rw [all 1 (by unfold manyS;rw [if_pos c0])]
    exact w1 1
  | false=>
    have n0 : ¬ onePart s.f0.toList=true:=by rw [c0];simp
    refine Ev.no (by simp) ?_
    by_cases c1:s.f0.toList=oPut
    · refine Ev.yes c1 ?_
      rw [all 2 (by unfold manyS;rw [if_neg n0,if_pos c1])]
      exact w1 2
    refine Ev.no c1 ?_
    by_cases c2:s.f0.toList=oInput
    · refine Ev.yes c2 ?_
      by_cases c3:0 < s.f2.length
      · refine Ev.yes (by omega) ?_
        rw [all 2 (by unfold manyS;rw [if_neg n0,if_neg c1,if_pos c2,if_pos c3])]
        exact w1 2
      · refine Ev.no (by omega) ?_
        rw [all 0 (by unfold manyS;rw [if_neg n0,if_neg c1,if_pos c2,if_neg c3])]
        exact w1 0
    refine Ev.no c2 ?_
    by_cases c4:s.f0.toList=oCall
    · refine Ev.yes c4 ?_
      rw [all 0 (by unfold manyS;rw [if_neg n0,if_neg c1,if_neg c2,if_pos c4])]
      exact w1 0
    refine Ev.no c4 ?_
    by_cases c5:s.f0.toList=oSkip
    · refine Ev.yes c5 ?_
      rw [all 0 (by unfold manyS;rw [if_neg n0,if_neg c1,if_neg c2,if_neg c4,if_pos c5])]
      exact w1 0
    refine Ev.no c5 ?_
    rw [wholeS_eq]
    unfold headS
    rw [show manyS s.f0.toList s.f2.length=none by unfold manyS;rw [if_neg n0,if_neg c1,if_neg c2,if_neg c4,if_neg c5]]
    exact Ev.now _
end
theorem WholeS_loop : ∀ (xs pre:List RS),(∀ y ∈ xs,y.f2.length < 4611686018427387904∧(∀ z ∈ y.f2,Ev (fun k=>helmsmanref12_Whole.f k z.f0 z.f1 z.f2 z.f3 z.f4) (wholeE z))∧Ev (fun k=>helmsmanref12_WholeStmts.f k y.f3) (wholeSs y.f3)∧Ev (fun k=>helmsmanref12_WholeStmts.f k y.f4) (wholeSs y.f4))→
    (pre++xs).length < 1099511627776→Ev (fun k=>helmsmanref12_WholeStmts.l0 k (pre++xs) pre.length) (wholeSs xs):=by
  intro xs
  induction xs with
  | nil=>
    intro pre _ _
    refine Ev.step (fun k=>helmsmanref12_WholeStmts.l0.eq_2 _ _ k) (Ev.no (end_not pre) ?_)
    exact Ev.now _
  | cons x xs ih=>
    intro pre h hl
    refine Ev.step (fun k=>helmsmanref12_WholeStmts.l0.eq_2 _ _ k) (Ev.yes (mid_lt pre x xs) (Ev.yes (by omega) ?_))
    rw [rdRS,wholeSs]
    have hr:=ih (pre++[x]) (fun y hy=>h y (List.mem_cons_of_mem _ hy)) (by rw [← snoc];exact hl)
    rw [← snoc,← next_len pre x xs (by omega)] at hr
    obtain ⟨h1,h2,h3,h4⟩:=h x (List.mem_cons_self ..)
    have g:=WholeS_j1 ⟨h1,h2,h3,h4,hr⟩
    by_cases c0:x.f0.toList=oSet
    · refine Ev.yes c0 ?_
      rw [show (x.f0.toList == oSet)=onePart x.f0.toList by unfold onePart;rw [c0];rfl]
      exact g
    refine Ev.no c0 ?_
    by_cases c1:x.f0.toList=oAssert
    · refine Ev.yes c1 ?_
      rw [show (x.f0.toList == oAssert)=onePart x.f0.toList by unfold onePart;rw [c1];rfl]
      exact g
    refine Ev.no c1 ?_
    by_cases c2:x.f0.toList=oAssume
    · refine Ev.yes c2 ?_
      rw [show (x.f0.toList == oAssume)=onePart x.f0.toList by unfold onePart;rw [c2];rfl]
      exact g
    refine Ev.no c2 ?_
    by_cases c3:x.f0.toList=oIf
    · refine Ev.yes c3 ?_
      rw [show (x.f0.toList == oIf)=onePart x.f0.toList by unfold onePart;rw [c3];rfl]
      exact g
    refine Ev.no c3 ?_
    rw [show (x.f0.toList == oWhile)=onePart x.f0.toList by
      unfold onePart
      by_cases c4:x.f0.toList=oWhile
      · rw [c4];rfl
      · rw [show (x.f0.toList == oWhile)=false from beq_eq_false_iff_ne.mpr c4];simp [c0,c1,c2,c3,c4]]
    exact g
theorem WholeS_of (l:List RS) (hb:bulkSs l < 1099511627775) (h : ∀ y ∈ l,Ev (fun k=>helmsmanref12_WholeStmts.f k y.f3) (wholeSs y.f3)∧Ev (fun k=>helmsmanref12_WholeStmts.f k y.f4) (wholeSs y.f4)):Ev (fun k=>helmsmanref12_WholeStmts.f k l) (wholeSs l):=by
  refine Ev.step (fun k=>helmsmanref12_WholeStmts.f.eq_2 _ k) ?_
  refine WholeS_loop l [] (fun y hy=>?_) (by rw [List.nil_append];have:=len_bulkSs l;omega)
  have h1:=mem_bulkSs hy
  rw [bulkS_eq] at h1
  have h2:=len_bulkEs y.f2
  exact ⟨by omega,fun z hz=>Whole_ev z (by have:=mem_bulkEs hz;omega),h y hy⟩
theorem WholeS_ev' : ∀ x:RS,bulkS x < 1099511627775→Ev (fun k=>helmsmanref12_WholeStmts.f k x.f3) (wholeSs x.f3)∧Ev (fun k=>helmsmanref12_WholeStmts.f k x.f4) (wholeSs x.f4):=RS.all fun x iha ihb hb=>by
  rw [bulkS_eq] at hb
  exact ⟨WholeS_of _ (by omega) fun y hy=>iha y hy (by have:=mem_bulkSs hy;omega),WholeS_of _ (by omega) fun y hy=>ihb y hy (by have:=mem_bulkSs hy;omega)⟩
theorem WholeS_ev (l:List RS) (hb:bulkSs l < 1099511627775):Ev (fun k=>helmsmanref12_WholeStmts.f k l) (wholeSs l):=
  WholeS_of l hb fun y hy=>WholeS_ev' y (by have:=mem_bulkSs hy;omega)
def wholeP (p:List RP) (m:List RS):Bool:=p.all (fun x=>wholeSs x.f1) && wholeSs m
theorem WholeP_ev (e:List REn) (v:List RV) (p:List RP) (m:List RS) (h:Small e v p m):Ev (fun k=>helmsmanref12_WholeProg.f k e v p m) (wholeP p m):=by
  unfold wholeP helmsmanref12_WholeProg.f
  refine one_step p z69 (fun k j=>helmsmanref12_WholeProg.l0 k j e v p m) (fun x=>wholeSs x.f1) _ (by have:=h.pr;omega) ?_ ?_
  · intro j hj r hr
    refine Ev.step (fun k=>helmsmanref12_WholeProg.l0.eq_2 _ _ _ _ _ k) (Ev.yes (by omega) (Ev.yes (by omega) (Ev.bind (WholeS_ev _ (h.bo _ (getD_mem' z69 hj))) ?_)))
    cases e:wholeSs (p.getD j z69).f1 with
    | false=>exact Ev.no (by rw [show wholeSs (rd_T69 p (j:Int)).f1=false from e];simp) (Ev.now _)
    | true=>exact Ev.yes e (by rw [Bool.true_and];exact hr)
  · exact Ev.step (fun k=>helmsmanref12_WholeProg.l0.eq_2 _ _ _ _ _ k) (Ev.no (by omega) (Ev.bind (WholeS_ev m h.ma) (Ev.now _)))
end Go.Proofs.YtnnbbeloifhofaaDoor.P
end
