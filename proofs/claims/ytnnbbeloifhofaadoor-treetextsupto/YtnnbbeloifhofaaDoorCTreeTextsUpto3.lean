/- TreeTexts: for all expressions (what is read of bulk at most 1048576) that have what they must, the signs, and how deep, are what the document says. The second form: no other condition. -/
import Derived.Test.YtnnbbeloifhofaaDoorCTreeTextsUpto0
import Derived.Test.YtnnbbeloifhofaaDoorCTreeTextsUpto2
import Derived.Test.YtnnbbeloifhofaaDoorCTreeTextsUpto1
import Derived.Test.YtnnbbeloifhofaaDoorCards
import Derived.Test.YtnnbbeloifhofaaDoorTie
import Derived.WalkKit
import Derived.ProofKit
import Derived.OpenShut
import Derived.ShutString
import Derived.ChangeOld
import Derived.Below
import Derived.SizedLaws
section
namespace Go.Proofs.YtnnbbeloifhofaaDoor.P
open Go.RowKit Go.Proofs.YtnnbbeloifhofaaDoorW.PrintWords Go.Proofs.YtnnbbeloifhofaaDoorW.PrintLast Go.Proofs.YtnnbbeloifhofaaDoorW.PrintMore
attribute [local go_sem] max2_int min2_int max_two min_two max_three min_three max_four min_four
set_option linter.unusedVariables false
set_option linter.unusedSimpArgs false
mutual
def helmsmanref12_Whole.j2:Nat→Int→ByteArray→ByteArray→Int→List (S24)→Int→Option (Bool)
 | 0,_,_,_,_,_,_=>none
 | k+1,x3,x102000,x102001,x102002,x102003,x102004=>if (x102003.length:Int)=x3 then (if x102000.toList=([110,117,109]:List UInt8) then (helmsmanref12_Whole.j3 k (decide (x102002 < 0)) x102000 x102001 x102002 x102003 x102004) else (helmsmanref12_Whole.j3 k false x102000 x102001 x102002 x102003 x102004)) else (helmsmanref12_Whole.j3 k true x102000 x102001 x102002 x102003 x102004)
def helmsmanref12_Whole.j3:Nat→Bool→ByteArray→ByteArray→Int→List (S24)→Int→Option (Bool)
 | 0,_,_,_,_,_,_=>none
 | k+1,x43,x102000,x102001,x102002,x102003,x102004=>if x43=true then (some false) else (helmsmanref12_Whole.l0 k 0 x102000 x102001 x102002 x102003 x102004)
def helmsmanref12_Whole.l0:Nat→Int→ByteArray→ByteArray→Int→List (S24)→Int→Option (Bool)
 | 0,_,_,_,_,_,_=>none
 | k+1,x4,x102000,x102001,x102002,x102003,x102004=>if x4 < (x102003.length:Int) then (if 0≤x4 then ((helmsmanref12_Whole.f k ((rd_T24 x102003 x4).f0) ((rd_T24 x102003 x4).f1) ((rd_T24 x102003 x4).f2) ((rd_T24 x102003 x4).f3) ((rd_T24 x102003 x4).f4)).bind fun t103=>(if t103=true then (helmsmanref12_Whole.l0 k (wrap64 (x4+1)) x102000 x102001 x102002 x102003 x102004) else (some false))) else (none)) else (some true)
def helmsmanref12_Whole.j0:Nat→ByteArray→Bool→ByteArray→ByteArray→Int→List (S24)→Int→Option (Bool)
 | 0,_,_,_,_,_,_,_=>none
 | k+1,x6,x7,x102000,x102001,x102002,x102003,x102004=>if x7=true then (helmsmanref12_Whole.j2 k 0 x102000 x102001 x102002 x102003 x102004) else (if x6.toList=([97,116]:List UInt8) then (helmsmanref12_Whole.j1 k x6 (x6.toList == ([97,116]:List UInt8)) x102000 x102001 x102002 x102003 x102004) else (if x6.toList=([110,101,103]:List UInt8) then (helmsmanref12_Whole.j1 k x6 (x6.toList == ([110,101,103]:List UInt8)) x102000 x102001 x102002 x102003 x102004) else (helmsmanref12_Whole.j1 k x6 (x6.toList == ([110,111,116]:List UInt8)) x102000 x102001 x102002 x102003 x102004)))
def helmsmanref12_Whole.j1:Nat→ByteArray→Bool→ByteArray→ByteArray→Int→List (S24)→Int→Option (Bool)
 | 0,_,_,_,_,_,_,_=>none
 | k+1,x6,x12,x102000,x102001,x102002,x102003,x102004=>if x12=true then (helmsmanref12_Whole.j2 k 1 x102000 x102001 x102002 x102003 x102004) else (if x6.toList=([43]:List UInt8) then (helmsmanref12_Whole.j2 k 2 x102000 x102001 x102002 x102003 x102004) else (if x6.toList=([45]:List UInt8) then (helmsmanref12_Whole.j2 k 2 x102000 x102001 x102002 x102003 x102004) else (if x6.toList=([42]:List UInt8) then (helmsmanref12_Whole.j2 k 2 x102000 x102001 x102002 x102003 x102004) else (if x6.toList=([47]:List UInt8) then (helmsmanref12_Whole.j2 k 2 x102000 x102001 x102002 x102003 x102004) else (if x6.toList=([61,61]:List UInt8) then (helmsmanref12_Whole.j2 k 2 x102000 x102001 x102002 x102003 x102004) else (if x6.toList=([33,61]:List UInt8) then (helmsmanref12_Whole.j2 k 2 x102000 x102001 x102002 x102003 x102004) else (if x6.toList=([60]:List UInt8) then (helmsmanref12_Whole.j2 k 2 x102000 x102001 x102002 x102003 x102004) else (if x6.toList=([60,61]:List UInt8) then (helmsmanref12_Whole.j2 k 2 x102000 x102001 x102002 x102003 x102004) else (if x6.toList=([62]:List UInt8) then (helmsmanref12_Whole.j2 k 2 x102000 x102001 x102002 x102003 x102004) else (if x6.toList=([62,61]:List UInt8) then (helmsmanref12_Whole.j2 k 2 x102000 x102001 x102002 x102003 x102004) else (if x6.toList=([38,38]:List UInt8) then (helmsmanref12_Whole.j2 k 2 x102000 x102001 x102002 x102003 x102004) else (if x6.toList=([124,124]:List UInt8) then (helmsmanref12_Whole.j2 k 2 x102000 x102001 x102002 x102003 x102004) else (some false)))))))))))))
def helmsmanref12_Whole.f:Nat→ByteArray→ByteArray→Int→List (S24)→Int→Option (Bool)
 | 0,_,_,_,_,_=>none
 | k+1,a0_0,a0_1,a0_2,l0_3,a0_4=>if a0_0.toList=([110,117,109]:List UInt8) then (helmsmanref12_Whole.j0 k a0_0 (a0_0.toList == ([110,117,109]:List UInt8)) a0_0 a0_1 a0_2 l0_3 a0_4) else (if a0_0.toList=([110,97,109,101]:List UInt8) then (helmsmanref12_Whole.j0 k a0_0 (a0_0.toList == ([110,97,109,101]:List UInt8)) a0_0 a0_1 a0_2 l0_3 a0_4) else (if a0_0.toList=([116,114,117,101]:List UInt8) then (helmsmanref12_Whole.j0 k a0_0 (a0_0.toList == ([116,114,117,101]:List UInt8)) a0_0 a0_1 a0_2 l0_3 a0_4) else (helmsmanref12_Whole.j0 k a0_0 (a0_0.toList == ([102,97,108,115,101]:List UInt8)) a0_0 a0_1 a0_2 l0_3 a0_4)))
end
set_option maxHeartbeats 8000000 in
set_option maxRecDepth 100000 in
theorem helmsmanref12_Whole.calls (k:Nat) : ∀ (a0_0:ByteArray) (a0_1:ByteArray) (a0_2:Int) (A0_3:Option Addr) (c0_3:Nat) (l0_3:List (S24)) (a0_4:Int) (r:Bool) (w:World) (hr0_3:Kd.C k24 w A0_3 l0_3.length l0_3) (hc0_3:l0_3.length≤c0_3) (h:helmsmanref12_Whole.f k a0_0 a0_1 a0_2 l0_3 a0_4=some r),
  Calls Tryd.prog 8 #[.agg #[.string a0_0,.string a0_1,.int .i64 a0_2,.slice A0_3 l0_3.length c0_3,.int .i64 a0_4]] w fun e w'=>e=.returned (.bool r)∧Below w.heap.size w w':=by
 induction k using Nat.strongRecOn with
 | _ k ih=>
 intro a0_0 a0_1 a0_2 A0_3 c0_3 l0_3 a0_4 r w hr0_3 hc0_3 h
 cases k with
 | zero=>exact absurd h (by simp [helmsmanref12_Whole.f])
 | succ k=>
 simp only [helmsmanref12_Whole.f] at h
 have hu24:=Tryd.underlying24
 have HR0_3:=Aside0.mk hr0_3
 have HC0_3:=Aside0.mk hc0_3
 clear hr0_3 hc0_3
 have HB:=Aside0.mk (Below.refl w.heap.size w)
 have H:(if a0_0.toList=([110,117,109]:List UInt8) then (helmsmanref12_Whole.j0 k a0_0 (a0_0.toList == ([110,117,109]:List UInt8)) a0_0 a0_1 a0_2 l0_3 a0_4) else (if a0_0.toList=([110,97,109,101]:List UInt8) then (helmsmanref12_Whole.j0 k a0_0 (a0_0.toList == ([110,97,109,101]:List UInt8)) a0_0 a0_1 a0_2 l0_3 a0_4) else (if a0_0.toList=([116,114,117,101]:List UInt8) then (helmsmanref12_Whole.j0 k a0_0 (a0_0.toList == ([116,114,117,101]:List UInt8)) a0_0 a0_1 a0_2 l0_3 a0_4) else (helmsmanref12_Whole.j0 k a0_0 (a0_0.toList == ([102,97,108,115,101]:List UInt8)) a0_0 a0_1 a0_2 l0_3 a0_4))))=some r:=h
 clear h
 have HC2:=Aside0.mk H
 clear H
 go_enter Tryd.func8,Tryd.ntmps8
 go_upto_block 0 with (first|((with_reducible refine gate_dst (N:=1) rfl ?_);refine box_event ?hg (N:=1) ?hd (cs:=#[.string a0_0,.string a0_1,.int .i64 a0_2,.slice A0_3 l0_3.length c0_3,.int .i64 a0_4]) (t:=24) ?hr ?_;(case hd=>rfl);(case hg=>rfl);(case hr=>first|(go_simp;done)|(go_simp;rfl));intro gb101 hg w3 hbox hb;have n0_:=Aside0.mk (below_step (bl_ HB.out) hb);have n1_:=Aside0.mk (hbox);have n2_:=Aside0.mk ((gs_ hg (bl_ HB.out):w.heap.size≤gb101));have n3_:=Aside0.mk ((gs_ hg (bl_ HB.out):w.heap.size≤gb101));clear HB;have HB:=n0_;have BK101:=n1_;have GW101:=n2_;have GE101:=n3_;clear n0_ n1_ n2_ n3_;clear hb hbox hg;have hcz4_0:w3.cell? ⟨gb101,0,none⟩=some (.string a0_0):=zc_ BK101.out 0;have hcz4_1:w3.cell? ⟨gb101,1,none⟩=some (.string a0_1):=zc_ BK101.out 1;have hcz4_2:w3.cell? ⟨gb101,2,none⟩=some (.int .i64 a0_2):=zc_ BK101.out 2;have hcz4_3:w3.cell? ⟨gb101,3,none⟩=some (.slice A0_3 l0_3.length c0_3):=zc_ BK101.out 3;have hcz4_4:w3.cell? ⟨gb101,4,none⟩=some (.int .i64 a0_4):=zc_ BK101.out 4;have hfz4_0:=blk_frozen BK101.out 0;have hfz4_1:=blk_frozen BK101.out 1;have hfz4_2:=blk_frozen BK101.out 2;have hfz4_3:=blk_frozen BK101.out 3;have hfz4_4:=blk_frozen BK101.out 4))
 (try simp only [Act.put,List.setIfInBounds_toArray,List.set_cons_zero,List.set_cons_succ])
 go_cut [3] (fun v3 wc=>∃ (kq:Nat) (x3_1:Int),v3=.int .i64 x3_1∧Aside0 (helmsmanref12_Whole.j2 kq x3_1 a0_0 a0_1 a0_2 l0_3 a0_4=some r)∧Aside0 (kq≤k)∧Aside0 (wc.heap[gb101]?=some (.cells #[.string a0_0,.string a0_1,.int .i64 a0_2,(.slice A0_3 l0_3.length c0_3),.int .i64 a0_4] 24 (0,0)))∧Aside0 (Below w.heap.size w wc))
 case first=>
  have H:=HC2.out
  clear HC2
  have HC5:=Aside0.mk H
  clear H
  go_upto_if 7 with (fail)
  go_cut [7] (fun v7 wc=>∃ (kq:Nat) (x7_4:Bool),v7=.bool x7_4∧Aside0 (helmsmanref12_Whole.j0 kq a0_0 x7_4 a0_0 a0_1 a0_2 l0_3 a0_4=some r)∧Aside0 (kq≤k)∧Aside0 (wc.heap[gb101]?=some (.cells #[.string a0_0,.string a0_1,.int .i64 a0_2,(.slice A0_3 l0_3.length c0_3),.int .i64 a0_4] 24 (0,0)))∧Aside0 (Below w.heap.size w wc))
  case first=>
   have H:=HC5.out
   clear HC5
   by_cases c6:a0_0.toList=([110,117,109]:List UInt8)
   ·rw [if_pos c6] at H
    have c6b0:(a0_0.toList == ([110,117,109]:List UInt8))=true:=beq_iff_eq.mpr c6
    have c6b1:(a0_0.toList != ([110,117,109]:List UInt8))=false:=bne_eq_false_iff_eq.mpr c6
    clear c6
    (first|rw [c6b0]|(simp only [i64_w,i32_w];rw [c6b0])|skip)
    have H':=Aside0.mk H
    clear H
    go_wp2
    go_meet
    case rel=>exact ⟨_,((a0_0.toList == ([110,117,109]:List UInt8))),rf_,H',⟨by first|omega|exact Nat.le_refl _⟩,⟨kb_ BK101.out⟩,⟨bl_ HB.out⟩⟩
   ·rw [if_neg c6] at H
    have c6b0:(a0_0.toList == ([110,117,109]:List UInt8))=false:=beq_eq_false_iff_ne.mpr c6
    have c6b1:(a0_0.toList != ([110,117,109]:List UInt8))=true:=bne_iff_ne.mpr c6
    (first|rw [c6b0]|(simp only [i64_w,i32_w];rw [c6b0])|skip)
    by_cases c7:a0_0.toList=([110,97,109,101]:List UInt8)
    ·rw [if_pos c7] at H
     have c7b0:(a0_0.toList == ([110,97,109,101]:List UInt8))=true:=beq_iff_eq.mpr c7
     have c7b1:(a0_0.toList != ([110,97,109,101]:List UInt8))=false:=bne_eq_false_iff_eq.mpr c7
     clear c7
     have H':=Aside0.mk H
     clear H
     go_wp2
     go_meet
     case rel=>exact ⟨_,((a0_0.toList == ([110,97,109,101]:List UInt8))),rf_,H',⟨by first|omega|exact Nat.le_refl _⟩,⟨kb_ BK101.out⟩,⟨bl_ HB.out⟩⟩
    ·rw [if_neg c7] at H
     have c7b0:(a0_0.toList == ([110,97,109,101]:List UInt8))=false:=beq_eq_false_iff_ne.mpr c7
     have c7b1:(a0_0.toList != ([110,97,109,101]:List UInt8))=true:=bne_iff_ne.mpr c7
     by_cases c8:a0_0.toList=([116,114,117,101]:List UInt8)
     ·rw [if_pos c8] at H
      have c8b0:(a0_0.toList == ([116,114,117,101]:List UInt8))=true:=beq_iff_eq.mpr c8
      have c8b1:(a0_0.toList != ([116,114,117,101]:List UInt8))=false:=bne_eq_false_iff_eq.mpr c8
      clear c8
      have H':=Aside0.mk H
      clear H
      go_wp2
      go_meet
      case rel=>exact ⟨_,((a0_0.toList == ([116,114,117,101]:List UInt8))),rf_,H',⟨by first|omega|exact Nat.le_refl _⟩,⟨kb_ BK101.out⟩,⟨bl_ HB.out⟩⟩
     ·rw [if_neg c8] at H
      have c8b0:(a0_0.toList == ([116,114,117,101]:List UInt8))=false:=beq_eq_false_iff_ne.mpr c8
      have c8b1:(a0_0.toList != ([116,114,117,101]:List UInt8))=true:=bne_iff_ne.mpr c8
      have H':=Aside0.mk H
      clear H
      go_wp2
      go_meet
      case rel=>exact ⟨_,((a0_0.toList == ([102,97,108,115,101]:List UInt8))),rf_,H',⟨by first|omega|exact Nat.le_refl _⟩,⟨kb_ BK101.out⟩,⟨bl_ HB.out⟩⟩
  case rest=>
   clear HC5
   (try clear p2);(try clear c6);(try clear c6b0);(try clear c6b1);(try clear c7);(try clear c7b0);(try clear c7b1);(try clear c8);(try clear c8b0);(try clear c8b1);(try clear hcz4_0);(try clear hcz4_1);(try clear hcz4_2);(try clear hcz4_3);(try clear hcz4_4);(try clear hfz4_0);(try clear hfz4_1);(try clear hfz4_2);(try clear hfz4_3);(try clear hfz4_4)
   obtain ⟨kq,x7_4,rfl,HA,HJ4,BK101,HB⟩:=hcut
   cases kq with
   | zero=>exact absurd HA.out (by simp [helmsmanref12_Whole.j0])
   | succ kj4=>
    have H:=HA.out
    clear HA
    simp only [helmsmanref12_Whole.j0] at H
    by_cases c9:x7_4=true
    ·subst c9
     have H1:(helmsmanref12_Whole.j2 kj4 0 a0_0 a0_1 a0_2 l0_3 a0_4)=some r:=by rw [if_pos rfl] at H;exact H
     clear H
     have H:=H1
     clear H1
     have H':=Aside0.mk H
     clear H
     go_wp2
     go_meet
     case rel=>exact ⟨_,(0),rf_,H',⟨by have:=HJ4.out;first|omega|exact Nat.le_refl _⟩,⟨kb_ BK101.out⟩,⟨bl_ HB.out⟩⟩
    ·replace c9:=Bool.eq_false_iff.mpr c9
     subst c9
     have H1:(if a0_0.toList=([97,116]:List UInt8) then (helmsmanref12_Whole.j1 kj4 a0_0 (a0_0.toList == ([97,116]:List UInt8)) a0_0 a0_1 a0_2 l0_3 a0_4) else (if a0_0.toList=([110,101,103]:List UInt8) then (helmsmanref12_Whole.j1 kj4 a0_0 (a0_0.toList == ([110,101,103]:List UInt8)) a0_0 a0_1 a0_2 l0_3 a0_4) else (helmsmanref12_Whole.j1 kj4 a0_0 (a0_0.toList == ([110,111,116]:List UInt8)) a0_0 a0_1 a0_2 l0_3 a0_4)))=some r:=by rw [if_neg (show ¬ (false=true) by decide)] at H;exact H
     clear H
     have H:=H1
     clear H1
     have HC10:=Aside0.mk H
     clear H
     go_upto_if 12 with (fail)
     go_cut [12] (fun v12 wc=>∃ (kq:Nat) (x12_9:Bool),v12=.bool x12_9∧Aside0 (helmsmanref12_Whole.j1 kq a0_0 x12_9 a0_0 a0_1 a0_2 l0_3 a0_4=some r)∧Aside0 (kq≤kj4)∧Aside0 (wc.heap[gb101]?=some (.cells #[.string a0_0,.string a0_1,.int .i64 a0_2,(.slice A0_3 l0_3.length c0_3),.int .i64 a0_4] 24 (0,0)))∧Aside0 (Below w.heap.size w wc))
     case first=>
      have H:=HC10.out
      clear HC10
      by_cases c11:a0_0.toList=([97,116]:List UInt8)
      ·rw [if_pos c11] at H
       have c11b0:(a0_0.toList == ([97,116]:List UInt8))=true:=beq_iff_eq.mpr c11
       have c11b1:(a0_0.toList != ([97,116]:List UInt8))=false:=bne_eq_false_iff_eq.mpr c11
       clear c11
       (first|rw [c11b0]|(simp only [i64_w,i32_w];rw [c11b0])|skip)
       have H':=Aside0.mk H
       clear H
       go_wp2
       go_meet
       case rel=>exact ⟨_,((a0_0.toList == ([97,116]:List UInt8))),rf_,H',⟨by have:=HJ4.out;first|omega|exact Nat.le_refl _⟩,⟨kb_ BK101.out⟩,⟨bl_ HB.out⟩⟩
      ·rw [if_neg c11] at H
       have c11b0:(a0_0.toList == ([97,116]:List UInt8))=false:=beq_eq_false_iff_ne.mpr c11
       have c11b1:(a0_0.toList != ([97,116]:List UInt8))=true:=bne_iff_ne.mpr c11
       (first|rw [c11b0]|(simp only [i64_w,i32_w];rw [c11b0])|skip)
       by_cases c12:a0_0.toList=([110,101,103]:List UInt8)
       ·rw [if_pos c12] at H
        have c12b0:(a0_0.toList == ([110,101,103]:List UInt8))=true:=beq_iff_eq.mpr c12
        have c12b1:(a0_0.toList != ([110,101,103]:List UInt8))=false:=bne_eq_false_iff_eq.mpr c12
        clear c12
        have H':=Aside0.mk H
        clear H
        go_wp2
        go_meet
        case rel=>exact ⟨_,((a0_0.toList == ([110,101,103]:List UInt8))),rf_,H',⟨by have:=HJ4.out;first|omega|exact Nat.le_refl _⟩,⟨kb_ BK101.out⟩,⟨bl_ HB.out⟩⟩
       ·rw [if_neg c12] at H
        have c12b0:(a0_0.toList == ([110,101,103]:List UInt8))=false:=beq_eq_false_iff_ne.mpr c12
        have c12b1:(a0_0.toList != ([110,101,103]:List UInt8))=true:=bne_iff_ne.mpr c12
        have H':=Aside0.mk H
        clear H
        go_wp2
        go_meet
        case rel=>exact ⟨_,((a0_0.toList == ([110,111,116]:List UInt8))),rf_,H',⟨by have:=HJ4.out;first|omega|exact Nat.le_refl _⟩,⟨kb_ BK101.out⟩,⟨bl_ HB.out⟩⟩
     case rest=>
      clear HC10
      (try clear c1);(try clear p2);(try clear c6);(try clear c6b0);(try clear c6b1);(try clear c7);(try clear c7b0);(try clear c7b1);(try clear c8);(try clear c8b0);(try clear c8b1);(try clear c9);(try clear c11);(try clear c11b0);(try clear c11b1);(try clear c12);(try clear c12b0);(try clear c12b1);(try clear hcz4_0);(try clear hcz4_1);(try clear hcz4_2);(try clear hcz4_3);(try clear hcz4_4);(try clear hfz4_0);(try clear hfz4_1);(try clear hfz4_2);(try clear hfz4_3);(try clear hfz4_4);(try clear p2)
      obtain ⟨kq,x12_9,rfl,HA,HJ9,BK101,HB⟩:=hcut
      cases kq with
      | zero=>exact absurd HA.out (by simp [helmsmanref12_Whole.j1])
      | succ kj9=>
       have H:=HA.out
       clear HA
       simp only [helmsmanref12_Whole.j1] at H
       by_cases c13:x12_9=true
       ·subst c13
        have H1:(helmsmanref12_Whole.j2 kj9 1 a0_0 a0_1 a0_2 l0_3 a0_4)=some r:=by rw [if_pos rfl] at H;exact H
        clear H
        have H:=H1
        clear H1
        have H':=Aside0.mk H
        clear H
        go_wp2
        go_meet
        case rel=>exact ⟨_,(1),rf_,H',⟨by have:=HJ4.out;have:=HJ9.out;first|omega|exact Nat.le_refl _⟩,⟨kb_ BK101.out⟩,⟨bl_ HB.out⟩⟩
       ·replace c13:=Bool.eq_false_iff.mpr c13
        subst c13
        have H1:(if a0_0.toList=([43]:List UInt8) then (helmsmanref12_Whole.j2 kj9 2 a0_0 a0_1 a0_2 l0_3 a0_4) else (if a0_0.toList=([45]:List UInt8) then (helmsmanref12_Whole.j2 kj9 2 a0_0 a0_1 a0_2 l0_3 a0_4) else (if a0_0.toList=([42]:List UInt8) then (helmsmanref12_Whole.j2 kj9 2 a0_0 a0_1 a0_2 l0_3 a0_4) else (if a0_0.toList=([47]:List UInt8) then (helmsmanref12_Whole.j2 kj9 2 a0_0 a0_1 a0_2 l0_3 a0_4) else (if a0_0.toList=([61,61]:List UInt8) then (helmsmanref12_Whole.j2 kj9 2 a0_0 a0_1 a0_2 l0_3 a0_4) else (if a0_0.toList=([33,61]:List UInt8) then (helmsmanref12_Whole.j2 kj9 2 a0_0 a0_1 a0_2 l0_3 a0_4) else (if a0_0.toList=([60]:List UInt8) then (helmsmanref12_Whole.j2 kj9 2 a0_0 a0_1 a0_2 l0_3 a0_4) else (if a0_0.toList=([60,61]:List UInt8) then (helmsmanref12_Whole.j2 kj9 2 a0_0 a0_1 a0_2 l0_3 a0_4) else (if a0_0.toList=([62]:List UInt8) then (helmsmanref12_Whole.j2 kj9 2 a0_0 a0_1 a0_2 l0_3 a0_4) else (if a0_0.toList=([62,61]:List UInt8) then (helmsmanref12_Whole.j2 kj9 2 a0_0 a0_1 a0_2 l0_3 a0_4) else (if a0_0.toList=([38,38]:List UInt8) then (helmsmanref12_Whole.j2 kj9 2 a0_0 a0_1 a0_2 l0_3 a0_4) else (if a0_0.toList=([124,124]:List UInt8) then (helmsmanref12_Whole.j2 kj9 2 a0_0 a0_1 a0_2 l0_3 a0_4) else (some false)))))))))))))=some r:=by rw [if_neg (show ¬ (false=true) by decide)] at H;exact H
        clear H
        have H:=H1
        clear H1
        by_cases c14:a0_0.toList=([43]:List UInt8)
        ·rw [if_pos c14] at H
         have c14b0:(a0_0.toList == ([43]:List UInt8))=true:=beq_iff_eq.mpr c14
         have c14b1:(a0_0.toList != ([43]:List UInt8))=false:=bne_eq_false_iff_eq.mpr c14
         clear c14
         have H':=Aside0.mk H
         clear H
         go_wp2
         go_meet
         case rel=>exact ⟨_,(2),rf_,H',⟨by have:=HJ4.out;have:=HJ9.out;first|omega|exact Nat.le_refl _⟩,⟨kb_ BK101.out⟩,⟨bl_ HB.out⟩⟩
        ·rw [if_neg c14] at H
         have c14b0:(a0_0.toList == ([43]:List UInt8))=false:=beq_eq_false_iff_ne.mpr c14
         have c14b1:(a0_0.toList != ([43]:List UInt8))=true:=bne_iff_ne.mpr c14
         by_cases c15:a0_0.toList=([45]:List UInt8)
         ·rw [if_pos c15] at H
          have c15b0:(a0_0.toList == ([45]:List UInt8))=true:=beq_iff_eq.mpr c15
          have c15b1:(a0_0.toList != ([45]:List UInt8))=false:=bne_eq_false_iff_eq.mpr c15
          clear c15
          have H':=Aside0.mk H
          clear H
          go_wp2
          go_meet
          case rel=>exact ⟨_,(2),rf_,H',⟨by have:=HJ4.out;have:=HJ9.out;first|omega|exact Nat.le_refl _⟩,⟨kb_ BK101.out⟩,⟨bl_ HB.out⟩⟩
         ·rw [if_neg c15] at H
          have c15b0:(a0_0.toList == ([45]:List UInt8))=false:=beq_eq_false_iff_ne.mpr c15
          have c15b1:(a0_0.toList != ([45]:List UInt8))=true:=bne_iff_ne.mpr c15
          by_cases c16:a0_0.toList=([42]:List UInt8)
          ·rw [if_pos c16] at H
           have c16b0:(a0_0.toList == ([42]:List UInt8))=true:=beq_iff_eq.mpr c16
           have c16b1:(a0_0.toList != ([42]:List UInt8))=false:=bne_eq_false_iff_eq.mpr c16
           clear c16
           have H':=Aside0.mk H
           clear H
           go_wp2
           go_meet
           case rel=>exact ⟨_,(2),rf_,H',⟨by have:=HJ4.out;have:=HJ9.out;first|omega|exact Nat.le_refl _⟩,⟨kb_ BK101.out⟩,⟨bl_ HB.out⟩⟩
          ·rw [if_neg c16] at H
           have c16b0:(a0_0.toList == ([42]:List UInt8))=false:=beq_eq_false_iff_ne.mpr c16
           have c16b1:(a0_0.toList != ([42]:List UInt8))=true:=bne_iff_ne.mpr c16
           by_cases c17:a0_0.toList=([47]:List UInt8)
           ·rw [if_pos c17] at H
            have c17b0:(a0_0.toList == ([47]:List UInt8))=true:=beq_iff_eq.mpr c17
            have c17b1:(a0_0.toList != ([47]:List UInt8))=false:=bne_eq_false_iff_eq.mpr c17
            clear c17
            have H':=Aside0.mk H
            clear H
            go_wp2
            go_meet
            case rel=>exact ⟨_,(2),rf_,H',⟨by have:=HJ4.out;have:=HJ9.out;first|omega|exact Nat.le_refl _⟩,⟨kb_ BK101.out⟩,⟨bl_ HB.out⟩⟩
           ·rw [if_neg c17] at H
            have c17b0:(a0_0.toList == ([47]:List UInt8))=false:=beq_eq_false_iff_ne.mpr c17
            have c17b1:(a0_0.toList != ([47]:List UInt8))=true:=bne_iff_ne.mpr c17
            by_cases c18:a0_0.toList=([61,61]:List UInt8)
            ·rw [if_pos c18] at H
             have c18b0:(a0_0.toList == ([61,61]:List UInt8))=true:=beq_iff_eq.mpr c18
             have c18b1:(a0_0.toList != ([61,61]:List UInt8))=false:=bne_eq_false_iff_eq.mpr c18
             clear c18
             have H':=Aside0.mk H
             clear H
             go_wp2
             go_meet
             case rel=>exact ⟨_,(2),rf_,H',⟨by have:=HJ4.out;have:=HJ9.out;first|omega|exact Nat.le_refl _⟩,⟨kb_ BK101.out⟩,⟨bl_ HB.out⟩⟩
            ·rw [if_neg c18] at H
             have c18b0:(a0_0.toList == ([61,61]:List UInt8))=false:=beq_eq_false_iff_ne.mpr c18
             have c18b1:(a0_0.toList != ([61,61]:List UInt8))=true:=bne_iff_ne.mpr c18
             by_cases c19:a0_0.toList=([33,61]:List UInt8)
             ·rw [if_pos c19] at H
              have c19b0:(a0_0.toList == ([33,61]:List UInt8))=true:=beq_iff_eq.mpr c19
              have c19b1:(a0_0.toList != ([33,61]:List UInt8))=false:=bne_eq_false_iff_eq.mpr c19
              clear c19
              have H':=Aside0.mk H
              clear H
              go_wp2
              go_meet
              case rel=>exact ⟨_,(2),rf_,H',⟨by have:=HJ4.out;have:=HJ9.out;first|omega|exact Nat.le_refl _⟩,⟨kb_ BK101.out⟩,⟨bl_ HB.out⟩⟩
             ·rw [if_neg c19] at H
              have c19b0:(a0_0.toList == ([33,61]:List UInt8))=false:=beq_eq_false_iff_ne.mpr c19
              have c19b1:(a0_0.toList != ([33,61]:List UInt8))=true:=bne_iff_ne.mpr c19
              by_cases c20:a0_0.toList=([60]:List UInt8)
              ·rw [if_pos c20] at H
               have c20b0:(a0_0.toList == ([60]:List UInt8))=true:=beq_iff_eq.mpr c20
               have c20b1:(a0_0.toList != ([60]:List UInt8))=false:=bne_eq_false_iff_eq.mpr c20
               clear c20
               have H':=Aside0.mk H
               clear H
               go_wp2
               go_meet
               case rel=>exact ⟨_,(2),rf_,H',⟨by have:=HJ4.out;have:=HJ9.out;first|omega|exact Nat.le_refl _⟩,⟨kb_ BK101.out⟩,⟨bl_ HB.out⟩⟩
              ·rw [if_neg c20] at H
               have c20b0:(a0_0.toList == ([60]:List UInt8))=false:=beq_eq_false_iff_ne.mpr c20
               have c20b1:(a0_0.toList != ([60]:List UInt8))=true:=bne_iff_ne.mpr c20
               by_cases c21:a0_0.toList=([60,61]:List UInt8)
               ·rw [if_pos c21] at H
                have c21b0:(a0_0.toList == ([60,61]:List UInt8))=true:=beq_iff_eq.mpr c21
                have c21b1:(a0_0.toList != ([60,61]:List UInt8))=false:=bne_eq_false_iff_eq.mpr c21
                clear c21
                have H':=Aside0.mk H
                clear H
                go_wp2
                go_meet
                case rel=>exact ⟨_,(2),rf_,H',⟨by have:=HJ4.out;have:=HJ9.out;first|omega|exact Nat.le_refl _⟩,⟨kb_ BK101.out⟩,⟨bl_ HB.out⟩⟩
               ·rw [if_neg c21] at H
                have c21b0:(a0_0.toList == ([60,61]:List UInt8))=false:=beq_eq_false_iff_ne.mpr c21
                have c21b1:(a0_0.toList != ([60,61]:List UInt8))=true:=bne_iff_ne.mpr c21
                by_cases c22:a0_0.toList=([62]:List UInt8)
                ·rw [if_pos c22] at H
                 have c22b0:(a0_0.toList == ([62]:List UInt8))=true:=beq_iff_eq.mpr c22
                 have c22b1:(a0_0.toList != ([62]:List UInt8))=false:=bne_eq_false_iff_eq.mpr c22
                 clear c22
                 have H':=Aside0.mk H
                 clear H
                 go_wp2
                 go_meet
                 case rel=>exact ⟨_,(2),rf_,H',⟨by have:=HJ4.out;have:=HJ9.out;first|omega|exact Nat.le_refl _⟩,⟨kb_ BK101.out⟩,⟨bl_ HB.out⟩⟩
                ·rw [if_neg c22] at H
                 have c22b0:(a0_0.toList == ([62]:List UInt8))=false:=beq_eq_false_iff_ne.mpr c22
                 have c22b1:(a0_0.toList != ([62]:List UInt8))=true:=bne_iff_ne.mpr c22
                 by_cases c23:a0_0.toList=([62,61]:List UInt8)
                 ·rw [if_pos c23] at H
                  have c23b0:(a0_0.toList == ([62,61]:List UInt8))=true:=beq_iff_eq.mpr c23
                  have c23b1:(a0_0.toList != ([62,61]:List UInt8))=false:=bne_eq_false_iff_eq.mpr c23
                  clear c23
                  have H':=Aside0.mk H
                  clear H
                  go_wp2
                  go_meet
                  case rel=>exact ⟨_,(2),rf_,H',⟨by have:=HJ4.out;have:=HJ9.out;first|omega|exact Nat.le_refl _⟩,⟨kb_ BK101.out⟩,⟨bl_ HB.out⟩⟩
                 ·rw [if_neg c23] at H
                  have c23b0:(a0_0.toList == ([62,61]:List UInt8))=false:=beq_eq_false_iff_ne.mpr c23
                  have c23b1:(a0_0.toList != ([62,61]:List UInt8))=true:=bne_iff_ne.mpr c23
                  by_cases c24:a0_0.toList=([38,38]:List UInt8)
                  ·rw [if_pos c24] at H
                   have c24b0:(a0_0.toList == ([38,38]:List UInt8))=true:=beq_iff_eq.mpr c24
                   have c24b1:(a0_0.toList != ([38,38]:List UInt8))=false:=bne_eq_false_iff_eq.mpr c24
                   clear c24
                   have H':=Aside0.mk H
                   clear H
                   go_wp2
                   go_meet
                   case rel=>exact ⟨_,(2),rf_,H',⟨by have:=HJ4.out;have:=HJ9.out;first|omega|exact Nat.le_refl _⟩,⟨kb_ BK101.out⟩,⟨bl_ HB.out⟩⟩
                  ·rw [if_neg c24] at H
                   have c24b0:(a0_0.toList == ([38,38]:List UInt8))=false:=beq_eq_false_iff_ne.mpr c24
                   have c24b1:(a0_0.toList != ([38,38]:List UInt8))=true:=bne_iff_ne.mpr c24
                   by_cases c25:a0_0.toList=([124,124]:List UInt8)
                   ·rw [if_pos c25] at H
                    have c25b0:(a0_0.toList == ([124,124]:List UInt8))=true:=beq_iff_eq.mpr c25
                    have c25b1:(a0_0.toList != ([124,124]:List UInt8))=false:=bne_eq_false_iff_eq.mpr c25
                    clear c25
                    have H':=Aside0.mk H
                    clear H
                    go_wp2
                    go_meet
                    case rel=>exact ⟨_,(2),rf_,H',⟨by have:=HJ4.out;have:=HJ9.out;first|omega|exact Nat.le_refl _⟩,⟨kb_ BK101.out⟩,⟨bl_ HB.out⟩⟩
                   ·rw [if_neg c25] at H
                    have c25b0:(a0_0.toList == ([124,124]:List UInt8))=false:=beq_eq_false_iff_ne.mpr c25
                    have c25b1:(a0_0.toList != ([124,124]:List UInt8))=true:=bne_iff_ne.mpr c25
                    obtain rfl:=Option.some.inj H
                    go_wp2
                    go_ret
                    exact ⟨rt_,bl_ HB.out⟩
 case rest=>
  clear HC2
  (try clear c1);(try clear c2);(try clear p2);(try clear c6);(try clear c6b0);(try clear c6b1);(try clear c7);(try clear c7b0);(try clear c7b1);(try clear c8);(try clear c8b0);(try clear c8b1);(try clear c9);(try clear c11);(try clear c11b0);(try clear c11b1);(try clear c12);(try clear c12b0);(try clear c12b1);(try clear c13);(try clear c14);(try clear c14b0);(try clear c14b1);(try clear c15);(try clear c15b0);(try clear c15b1);(try clear c16);(try clear c16b0);(try clear c16b1);(try clear c17);(try clear c17b0);(try clear c17b1);(try clear c18);(try clear c18b0);(try clear c18b1);(try clear c19);(try clear c19b0);(try clear c19b1);(try clear c20);(try clear c20b0);(try clear c20b1);(try clear c21);(try clear c21b0);(try clear c21b1);(try clear c22);(try clear c22b0);(try clear c22b1);(try clear c23);(try clear c23b0);(try clear c23b1);(try clear c24);(try clear c24b0);(try clear c24b1);(try clear c25);(try clear c25b0);(try clear c25b1);(try clear hcz4_0);(try clear hcz4_1);(try clear hcz4_2);(try clear hcz4_3);(try clear hcz4_4);(try clear hfz4_0);(try clear hfz4_1);(try clear hfz4_2);(try clear hfz4_3);(try clear hfz4_4);(try clear p2)
  obtain ⟨kq,x3_1,rfl,HA,HJ1,BK101,HB⟩:=hcut
  cases kq with
  | zero=>exact absurd HA.out (by simp [helmsmanref12_Whole.j2])
  | succ kj1=>
   have H:=HA.out
   clear HA
   simp only [helmsmanref12_Whole.j2] at H
   have HC26:=Aside0.mk H
   clear H
   go_upto_region 26 with (fail)
   go_cut [43] (fun v43 wc=>∃ (kq:Nat) (x43_25:Bool),v43=.bool x43_25∧Aside0 (helmsmanref12_Whole.j3 kq x43_25 a0_0 a0_1 a0_2 l0_3 a0_4=some r)∧Aside0 (kq≤kj1)∧Aside0 (wc.heap[gb101]?=some (.cells #[.string a0_0,.string a0_1,.int .i64 a0_2,(.slice A0_3 l0_3.length c0_3),.int .i64 a0_4] 24 (0,0)))∧Aside0 (Below w.heap.size w wc))
   case first=>
    have H:=HC26.out
    clear HC26
    by_cases c27:(l0_3.length:Int)=x3_1
    ·rw [if_pos c27] at H
     have c27b0:((l0_3.length:Int) == x3_1)=true:=beq_iff_eq.mpr c27
     have c27b1:((l0_3.length:Int) != x3_1)=false:=bne_eq_false_iff_eq.mpr c27
     clear c27
     (first|rw [c27b0]|(simp only [i64_w,i32_w];rw [c27b0])|skip)
     by_cases c28:a0_0.toList=([110,117,109]:List UInt8)
     ·rw [if_pos c28] at H
      have c28b0:(a0_0.toList == ([110,117,109]:List UInt8))=true:=beq_iff_eq.mpr c28
      have c28b1:(a0_0.toList != ([110,117,109]:List UInt8))=false:=bne_eq_false_iff_eq.mpr c28
      clear c28
      have H':=Aside0.mk H
      clear H
      have hcz29_0:wc.cell? ⟨gb101,0,none⟩=some (.string a0_0):=zc_ BK101.out 0
      have hcz29_1:wc.cell? ⟨gb101,1,none⟩=some (.string a0_1):=zc_ BK101.out 1
      have hcz29_2:wc.cell? ⟨gb101,2,none⟩=some (.int .i64 a0_2):=zc_ BK101.out 2
      have hcz29_3:wc.cell? ⟨gb101,3,none⟩=some (.slice A0_3 l0_3.length c0_3):=zc_ BK101.out 3
      have hcz29_4:wc.cell? ⟨gb101,4,none⟩=some (.int .i64 a0_4):=zc_ BK101.out 4
      have hfz29_0:=blk_frozen BK101.out 0
      have hfz29_1:=blk_frozen BK101.out 1
      have hfz29_2:=blk_frozen BK101.out 2
      have hfz29_3:=blk_frozen BK101.out 3
      have hfz29_4:=blk_frozen BK101.out 4
      go_wp2
      go_meet
      case rel=>exact ⟨_,(decide (a0_2 < 0)),rf_,H',⟨by have:=HJ1.out;first|omega|exact Nat.le_refl _⟩,⟨kb_ BK101.out⟩,⟨bl_ HB.out⟩⟩
     ·rw [if_neg c28] at H
      have c28b0:(a0_0.toList == ([110,117,109]:List UInt8))=false:=beq_eq_false_iff_ne.mpr c28
      have c28b1:(a0_0.toList != ([110,117,109]:List UInt8))=true:=bne_iff_ne.mpr c28
      have H':=Aside0.mk H
      clear H
      have hcz30_0:wc.cell? ⟨gb101,0,none⟩=some (.string a0_0):=zc_ BK101.out 0
      have hcz30_1:wc.cell? ⟨gb101,1,none⟩=some (.string a0_1):=zc_ BK101.out 1
      have hcz30_2:wc.cell? ⟨gb101,2,none⟩=some (.int .i64 a0_2):=zc_ BK101.out 2
      have hcz30_3:wc.cell? ⟨gb101,3,none⟩=some (.slice A0_3 l0_3.length c0_3):=zc_ BK101.out 3
      have hcz30_4:wc.cell? ⟨gb101,4,none⟩=some (.int .i64 a0_4):=zc_ BK101.out 4
      have hfz30_0:=blk_frozen BK101.out 0
      have hfz30_1:=blk_frozen BK101.out 1
      have hfz30_2:=blk_frozen BK101.out 2
      have hfz30_3:=blk_frozen BK101.out 3
      have hfz30_4:=blk_frozen BK101.out 4
      go_wp2
      go_meet
      case rel=>exact ⟨_,(false),rf_,H',⟨by have:=HJ1.out;first|omega|exact Nat.le_refl _⟩,⟨kb_ BK101.out⟩,⟨bl_ HB.out⟩⟩
    ·rw [if_neg c27] at H
     have c27b0:((l0_3.length:Int) == x3_1)=false:=beq_eq_false_iff_ne.mpr c27
     have c27b1:((l0_3.length:Int) != x3_1)=true:=bne_iff_ne.mpr c27
     (first|rw [c27b0]|(simp only [i64_w,i32_w];rw [c27b0])|skip)
     have H':=Aside0.mk H
     clear H
     have hcz31_0:wc.cell? ⟨gb101,0,none⟩=some (.string a0_0):=zc_ BK101.out 0
     have hcz31_1:wc.cell? ⟨gb101,1,none⟩=some (.string a0_1):=zc_ BK101.out 1
     have hcz31_2:wc.cell? ⟨gb101,2,none⟩=some (.int .i64 a0_2):=zc_ BK101.out 2
     have hcz31_3:wc.cell? ⟨gb101,3,none⟩=some (.slice A0_3 l0_3.length c0_3):=zc_ BK101.out 3
     have hcz31_4:wc.cell? ⟨gb101,4,none⟩=some (.int .i64 a0_4):=zc_ BK101.out 4
     have hfz31_0:=blk_frozen BK101.out 0
     have hfz31_1:=blk_frozen BK101.out 1
     have hfz31_2:=blk_frozen BK101.out 2
     have hfz31_3:=blk_frozen BK101.out 3
     have hfz31_4:=blk_frozen BK101.out 4
     go_wp2
     go_meet
     case rel=>exact ⟨_,(true),rf_,H',⟨by have:=HJ1.out;first|omega|exact Nat.le_refl _⟩,⟨kb_ BK101.out⟩,⟨bl_ HB.out⟩⟩
   case rest=>
    clear HC26
    (try clear c1);(try clear c2);(try clear p2);(try clear c6);(try clear c6b0);(try clear c6b1);(try clear c7);(try clear c7b0);(try clear c7b1);(try clear c8);(try clear c8b0);(try clear c8b1);(try clear c9);(try clear c11);(try clear c11b0);(try clear c11b1);(try clear c12);(try clear c12b0);(try clear c12b1);(try clear c13);(try clear c14);(try clear c14b0);(try clear c14b1);(try clear c15);(try clear c15b0);(try clear c15b1);(try clear c16);(try clear c16b0);(try clear c16b1);(try clear c17);(try clear c17b0);(try clear c17b1);(try clear c18);(try clear c18b0);(try clear c18b1);(try clear c19);(try clear c19b0);(try clear c19b1);(try clear c20);(try clear c20b0);(try clear c20b1);(try clear c21);(try clear c21b0);(try clear c21b1);(try clear c22);(try clear c22b0);(try clear c22b1);(try clear c23);(try clear c23b0);(try clear c23b1);(try clear c24);(try clear c24b0);(try clear c24b1);(try clear c25);(try clear c25b0);(try clear c25b1);(try clear c27);(try clear c27b0);(try clear c27b1);(try clear c28);(try clear c28b0);(try clear c28b1);(try clear hcz29_0);(try clear hcz29_1);(try clear hcz29_2);(try clear hcz29_3);(try clear hcz29_4);(try clear hcz30_0);(try clear hcz30_1);(try clear hcz30_2);(try clear hcz30_3);(try clear hcz30_4);(try clear hcz31_0);(try clear hcz31_1);(try clear hcz31_2);(try clear hcz31_3);(try clear hcz31_4);(try clear hcz4_0);(try clear hcz4_1);(try clear hcz4_2);(try clear hcz4_3);(try clear hcz4_4);(try clear hfz29_0);(try clear hfz29_1);(try clear hfz29_2);(try clear hfz29_3);(try clear hfz29_4);(try clear hfz30_0);(try clear hfz30_1);(try clear hfz30_2);(try clear hfz30_3);(try clear hfz30_4);(try clear hfz31_0);(try clear hfz31_1);(try clear hfz31_2);(try clear hfz31_3);(try clear hfz31_4);(try clear hfz4_0);(try clear hfz4_1);(try clear hfz4_2);(try clear hfz4_3);(try clear hfz4_4);(try clear p2)
    obtain ⟨kq,x43_25,rfl,HA,HJ25,BK101,HB⟩:=hcut
    cases kq with
    | zero=>exact absurd HA.out (by simp [helmsmanref12_Whole.j3])
    | succ kj25=>
     have H:=HA.out
     clear HA
     simp only [helmsmanref12_Whole.j3] at H
     by_cases c32:x43_25=true
     ·subst c32
      have H1:(some false)=some r:=by rw [if_pos rfl] at H;exact H
      clear H
      have H:=H1
      clear H1
      obtain rfl:=Option.some.inj H
      go_wp2
      go_ret
      exact ⟨rt_,bl_ HB.out⟩
     ·replace c32:=Bool.eq_false_iff.mpr c32
      subst c32
      have H1:(helmsmanref12_Whole.l0 kj25 0 a0_0 a0_1 a0_2 l0_3 a0_4)=some r:=by rw [if_neg (show ¬ (false=true) by decide)] at H;exact H
      clear H
      have H:=H1
      clear H1
      have H':=Aside0.mk H
      clear H
      go_wp2
      (try simp only [Act.put,List.setIfInBounds_toArray,List.set_cons_succ,List.set_cons_zero])
      go_loopg [4] kj25 (fun kq v4 w'=>∃ (x4_3:Int),v4=.int .i64 x4_3∧Aside0 (helmsmanref12_Whole.l0 kq x4_3 a0_0 a0_1 a0_2 l0_3 a0_4=some r)∧Aside0 (kq≤kj25)∧Aside0 (w'.heap[gb101]?=some (.cells #[.string a0_0,.string a0_1,.int .i64 a0_2,(.slice A0_3 l0_3.length c0_3),.int .i64 a0_4] 24 (0,0)))∧Aside0 (Below w.heap.size w w'))
      case atStart=>exact ⟨(0),rf_,H',⟨Nat.le_refl _⟩,⟨kb_ BK101.out⟩,⟨bl_ HB.out⟩⟩
      case round=>
       clear H'
       (try clear c1);(try clear c2);(try clear p2);(try clear c3);(try clear c6);(try clear c6b0);(try clear c6b1);(try clear c7);(try clear c7b0);(try clear c7b1);(try clear c8);(try clear c8b0);(try clear c8b1);(try clear c9);(try clear c11);(try clear c11b0);(try clear c11b1);(try clear c12);(try clear c12b0);(try clear c12b1);(try clear c13);(try clear c14);(try clear c14b0);(try clear c14b1);(try clear c15);(try clear c15b0);(try clear c15b1);(try clear c16);(try clear c16b0);(try clear c16b1);(try clear c17);(try clear c17b0);(try clear c17b1);(try clear c18);(try clear c18b0);(try clear c18b1);(try clear c19);(try clear c19b0);(try clear c19b1);(try clear c20);(try clear c20b0);(try clear c20b1);(try clear c21);(try clear c21b0);(try clear c21b1);(try clear c22);(try clear c22b0);(try clear c22b1);(try clear c23);(try clear c23b0);(try clear c23b1);(try clear c24);(try clear c24b0);(try clear c24b1);(try clear c25);(try clear c25b0);(try clear c25b1);(try clear c27);(try clear c27b0);(try clear c27b1);(try clear c28);(try clear c28b0);(try clear c28b1);(try clear c32);(try clear hcz29_0);(try clear hcz29_1);(try clear hcz29_2);(try clear hcz29_3);(try clear hcz29_4);(try clear hcz30_0);(try clear hcz30_1);(try clear hcz30_2);(try clear hcz30_3);(try clear hcz30_4);(try clear hcz31_0);(try clear hcz31_1);(try clear hcz31_2);(try clear hcz31_3);(try clear hcz31_4);(try clear hcz4_0);(try clear hcz4_1);(try clear hcz4_2);(try clear hcz4_3);(try clear hcz4_4);(try clear hfz29_0);(try clear hfz29_1);(try clear hfz29_2);(try clear hfz29_3);(try clear hfz29_4);(try clear hfz30_0);(try clear hfz30_1);(try clear hfz30_2);(try clear hfz30_3);(try clear hfz30_4);(try clear hfz31_0);(try clear hfz31_1);(try clear hfz31_2);(try clear hfz31_3);(try clear hfz31_4);(try clear hfz4_0);(try clear hfz4_1);(try clear hfz4_2);(try clear hfz4_3);(try clear hfz4_4);(try clear p2)
       obtain ⟨x4_3,rfl,HA,HK3,BK101,HB⟩:=hrel
       cases gk with
       | zero=>exact absurd HA.out (by simp [helmsmanref12_Whole.l0])
       | succ k3=>
        have H:=HA.out
        clear HA
        simp only [helmsmanref12_Whole.l0] at H
        by_cases c33:x4_3 < (l0_3.length:Int)
        ·rw [if_pos c33] at H
         have c33b0:decide (x4_3 < (l0_3.length:Int))=true:=decide_eq_true c33
         clear c33
         by_cases c34:0≤x4_3
         ·rw [if_pos c34] at H
          have c34b0:decide (0≤x4_3)=true:=decide_eq_true c34
          clear c34
          replace H:=Option.bind_eq_some_iff.mp H
          obtain ⟨t103,A350,H⟩:=H
          replace H:(if t103=true then (helmsmanref12_Whole.l0 k3 (wrap64 (x4_3+1)) a0_0 a0_1 a0_2 l0_3 a0_4) else (some false))=some r:=H
          have A35:=Aside0.mk A350
          clear A350
          by_cases c36:t103=true
          ·subst c36
           have H1:(helmsmanref12_Whole.l0 k3 (wrap64 (x4_3+1)) a0_0 a0_1 a0_2 l0_3 a0_4)=some r:=by rw [if_pos rfl] at H;exact H
           clear H
           have H:=H1
           clear H1
           have H':=Aside0.mk H
           clear H
           have hcz37_0:wr.cell? ⟨gb101,0,none⟩=some (.string a0_0):=zc_ BK101.out 0
           have hcz37_1:wr.cell? ⟨gb101,1,none⟩=some (.string a0_1):=zc_ BK101.out 1
           have hcz37_2:wr.cell? ⟨gb101,2,none⟩=some (.int .i64 a0_2):=zc_ BK101.out 2
           have hcz37_3:wr.cell? ⟨gb101,3,none⟩=some (.slice A0_3 l0_3.length c0_3):=zc_ BK101.out 3
           have hcz37_4:wr.cell? ⟨gb101,4,none⟩=some (.int .i64 a0_4):=zc_ BK101.out 4
           have hfz37_0:=blk_frozen BK101.out 0
           have hfz37_1:=blk_frozen BK101.out 1
           have hfz37_2:=blk_frozen BK101.out 2
           have hfz37_3:=blk_frozen BK101.out 3
           have hfz37_4:=blk_frozen BK101.out 4
           have p102:0≤(x4_3:Int):=of_decide_eq_true as_
           have q102:x4_3 < (l0_3.length:Int):=of_decide_eq_true as_
           obtain ⟨ad102,A102_3,c102_3,e102,hx102_0,hx102_1,hx102_2,hx102_3,hx102_4,hl102_3,hi102_3⟩:=at_T24 HR0_3.out x4_3 p102 q102
           cases e102
           replace hx102_0:=(cb_ HB.out hx102_0:_)
           replace hx102_1:=(cb_ HB.out hx102_1:_)
           replace hx102_2:=(cb_ HB.out hx102_2:_)
           replace hx102_3:=(cb_ HB.out hx102_3:_)
           replace hx102_4:=(cb_ HB.out hx102_4:_)
           have HR102_3:=Aside0.mk hi102_3
           have HC102_3:=Aside0.mk hl102_3
           clear hi102_3 hl102_3
           replace p102:=eq_true p102
           replace q102:=eq_true q102
           go_wp2_with (first|((with_reducible refine gate_callee (f:=8) rfl ?_);refine goesL_ (some 56) rfl rfl Tryd.func8 (by kernel_rfl) rfl #[.agg #[.string ((rd_T24 l0_3 x4_3).f0),.string ((rd_T24 l0_3 x4_3).f1),.int .i64 ((rd_T24 l0_3 x4_3).f2),.slice A102_3 ((rd_T24 l0_3 x4_3).f3).length c102_3,.int .i64 ((rd_T24 l0_3 x4_3).f4)]] rfl ar_ ?_;(with_reducible refine (ih k3 (by have:=HJ1.out;have:=HJ25.out;have:=HK3.out;omega) ((rd_T24 l0_3 x4_3).f0) ((rd_T24 l0_3 x4_3).f1) ((rd_T24 l0_3 x4_3).f2) _ _ ((rd_T24 l0_3 x4_3).f3) ((rd_T24 l0_3 x4_3).f4) true _ ?side1 ?side2 A35.out).mono ?_);(case side1=>exact kc_ HR102_3.out HB.out);(case side2=>exact HC102_3.out);rintro e w38 ⟨rfl,hb⟩;refine ⟨_,rfl,?_⟩;have n0_:=Aside0.mk (bb_ BK101.out hb);have n1_:=Aside0.mk (below_step (bl_ HB.out) hb);clear BK101;clear HB;have BK101:=n0_;have HB:=n1_;clear n0_ n1_;(try clear hb);(try clear hb2);(try clear hk);(try clear hi)))
           go_roundg k3
           case measure=>have:=HJ1.out;have:=HJ25.out;have:=HK3.out;omega
           case rel=>exact ⟨(wrap64 (x4_3+1)),rf_,H',⟨by have:=HJ1.out;have:=HJ25.out;have:=HK3.out;omega⟩,⟨kb_ BK101.out⟩,⟨bl_ HB.out⟩⟩
          ·replace c36:=Bool.eq_false_iff.mpr c36
           subst c36
           have H1:(some false)=some r:=by rw [if_neg (show ¬ (false=true) by decide)] at H;exact H
           clear H
           have H:=H1
           clear H1
           obtain rfl:=Option.some.inj H
           have hcz39_0:wr.cell? ⟨gb101,0,none⟩=some (.string a0_0):=zc_ BK101.out 0
           have hcz39_1:wr.cell? ⟨gb101,1,none⟩=some (.string a0_1):=zc_ BK101.out 1
           have hcz39_2:wr.cell? ⟨gb101,2,none⟩=some (.int .i64 a0_2):=zc_ BK101.out 2
           have hcz39_3:wr.cell? ⟨gb101,3,none⟩=some (.slice A0_3 l0_3.length c0_3):=zc_ BK101.out 3
           have hcz39_4:wr.cell? ⟨gb101,4,none⟩=some (.int .i64 a0_4):=zc_ BK101.out 4
           have hfz39_0:=blk_frozen BK101.out 0
           have hfz39_1:=blk_frozen BK101.out 1
           have hfz39_2:=blk_frozen BK101.out 2
           have hfz39_3:=blk_frozen BK101.out 3
           have hfz39_4:=blk_frozen BK101.out 4
           have p102:0≤(x4_3:Int):=of_decide_eq_true as_
           have q102:x4_3 < (l0_3.length:Int):=of_decide_eq_true as_
           obtain ⟨ad102,A102_3,c102_3,e102,hx102_0,hx102_1,hx102_2,hx102_3,hx102_4,hl102_3,hi102_3⟩:=at_T24 HR0_3.out x4_3 p102 q102
           cases e102
           replace hx102_0:=(cb_ HB.out hx102_0:_)
           replace hx102_1:=(cb_ HB.out hx102_1:_)
           replace hx102_2:=(cb_ HB.out hx102_2:_)
           replace hx102_3:=(cb_ HB.out hx102_3:_)
           replace hx102_4:=(cb_ HB.out hx102_4:_)
           have HR102_3:=Aside0.mk hi102_3
           have HC102_3:=Aside0.mk hl102_3
           clear hi102_3 hl102_3
           replace p102:=eq_true p102
           replace q102:=eq_true q102
           go_wp2_with (first|((with_reducible refine gate_callee (f:=8) rfl ?_);refine goesL_ (some 56) rfl rfl Tryd.func8 (by kernel_rfl) rfl #[.agg #[.string ((rd_T24 l0_3 x4_3).f0),.string ((rd_T24 l0_3 x4_3).f1),.int .i64 ((rd_T24 l0_3 x4_3).f2),.slice A102_3 ((rd_T24 l0_3 x4_3).f3).length c102_3,.int .i64 ((rd_T24 l0_3 x4_3).f4)]] rfl ar_ ?_;(with_reducible refine (ih k3 (by have:=HJ1.out;have:=HJ25.out;have:=HK3.out;omega) ((rd_T24 l0_3 x4_3).f0) ((rd_T24 l0_3 x4_3).f1) ((rd_T24 l0_3 x4_3).f2) _ _ ((rd_T24 l0_3 x4_3).f3) ((rd_T24 l0_3 x4_3).f4) false _ ?side1 ?side2 A35.out).mono ?_);(case side1=>exact kc_ HR102_3.out HB.out);(case side2=>exact HC102_3.out);rintro e w40 ⟨rfl,hb⟩;refine ⟨_,rfl,?_⟩;have n0_:=Aside0.mk (bb_ BK101.out hb);have n1_:=Aside0.mk (below_step (bl_ HB.out) hb);clear BK101;clear HB;have BK101:=n0_;have HB:=n1_;clear n0_ n1_;(try clear hb);(try clear hb2);(try clear hk);(try clear hi)))
           go_ret
           exact ⟨rt_,bl_ HB.out⟩
         ·rw [if_neg c34] at H
          exact absurd H (by simp)
        ·rw [if_neg c33] at H
         have c33b0:decide (x4_3 < (l0_3.length:Int))=false:=decide_eq_false c33
         clear c33
         obtain rfl:=Option.some.inj H
         have hcz41_0:wr.cell? ⟨gb101,0,none⟩=some (.string a0_0):=zc_ BK101.out 0
         have hcz41_1:wr.cell? ⟨gb101,1,none⟩=some (.string a0_1):=zc_ BK101.out 1
         have hcz41_2:wr.cell? ⟨gb101,2,none⟩=some (.int .i64 a0_2):=zc_ BK101.out 2
         have hcz41_3:wr.cell? ⟨gb101,3,none⟩=some (.slice A0_3 l0_3.length c0_3):=zc_ BK101.out 3
         have hcz41_4:wr.cell? ⟨gb101,4,none⟩=some (.int .i64 a0_4):=zc_ BK101.out 4
         have hfz41_0:=blk_frozen BK101.out 0
         have hfz41_1:=blk_frozen BK101.out 1
         have hfz41_2:=blk_frozen BK101.out 2
         have hfz41_3:=blk_frozen BK101.out 3
         have hfz41_4:=blk_frozen BK101.out 4
         go_wp2
         go_ret
         exact ⟨rt_,bl_ HB.out⟩
end Go.Proofs.YtnnbbeloifhofaaDoor.P
end
section
namespace Go.Proofs.YtnnbbeloifhofaaDoor.P
open Go.RowKit Go.Proofs.YtnnbbeloifhofaaDoorW.PrintWords Go.Proofs.YtnnbbeloifhofaaDoorW.PrintLast Go.Proofs.YtnnbbeloifhofaaDoorW.PrintMore
attribute [local go_sem] max2_int min2_int max_two min_two max_three min_three max_four min_four
set_option linter.unusedVariables false
set_option linter.unusedSimpArgs false
def helmsmanref01_digits.f:Nat→Int→Option (ByteArray)
 | 0,_=>none
 | k+1,a0=>if a0 < 10 then (if 0≤a0 then (if a0≤(wrap64 (a0+1)) then (if (wrap64 (a0+1))≤10 then (some ((⟨#[48,49,50,51,52,53,54,55,56,57]⟩:ByteArray).extract (a0:Int).toNat ((wrap64 (a0+1)):Int).toNat)) else (none)) else (none)) else (none)) else ((helmsmanref01_digits.f k (wrap64 (Int.tdiv a0 10))).bind fun t146=>((helmsmanref01_digits.f k (Int.tmod a0 10)).bind fun t147=>(if t146.size+t147.size≤9223372036854775807 then (some (t146++t147)) else (none))))
set_option maxHeartbeats 8000000 in
set_option maxRecDepth 100000 in
theorem helmsmanref01_digits.calls (k:Nat) : ∀ (a0:Int) (r:ByteArray) (w:World) (h:helmsmanref01_digits.f k a0=some r),
  Calls Tryd.prog 55 #[.int .i64 a0] w fun e w'=>e=.returned (.string r)∧Drawn0 w w':=by
 induction k using Nat.strongRecOn with
 | _ k ih=>
 intro a0 r w h
 cases k with
 | zero=>exact absurd h (by simp [helmsmanref01_digits.f])
 | succ k=>
 simp only [helmsmanref01_digits.f] at h
 have H:(if a0 < 10 then (if 0≤a0 then (if a0≤(wrap64 (a0+1)) then (if (wrap64 (a0+1))≤10 then (some ((⟨#[48,49,50,51,52,53,54,55,56,57]⟩:ByteArray).extract (a0:Int).toNat ((wrap64 (a0+1)):Int).toNat)) else (none)) else (none)) else (none)) else ((helmsmanref01_digits.f k (wrap64 (Int.tdiv a0 10))).bind fun t146=>((helmsmanref01_digits.f k (Int.tmod a0 10)).bind fun t147=>(if t146.size+t147.size≤9223372036854775807 then (some (t146++t147)) else (none)))))=some r:=h
 clear h
 by_cases c2:a0 < 10
 ·rw [if_pos c2] at H
  have c2b0:decide (a0 < 10)=true:=decide_eq_true c2
  clear c2
  by_cases c3:0≤a0
  ·rw [if_pos c3] at H
   have c3b0:=eq_true c3
   have c3b1:decide (0≤a0)=true:=decide_eq_true c3
   clear c3
   by_cases c4:a0≤(wrap64 (a0+1))
   ·rw [if_pos c4] at H
    have c4b0:=eq_true c4
    have c4b1:decide (a0≤(wrap64 (a0+1)))=true:=decide_eq_true c4
    by_cases c5:(wrap64 (a0+1))≤10
    ·rw [if_pos c5] at H
     have c5b0:=eq_true c5
     have c5b1:decide ((wrap64 (a0+1))≤10)=true:=decide_eq_true c5
     obtain rfl:=Option.some.inj H
     go_enter Tryd.func55,Tryd.ntmps55
     go_wp2
     go_ret
     exact ⟨by first|rfl|(simp;done)|(simp [*];done),by repeat (first|exact Drawn0.refl _|apply Drawn0.step)⟩
    ·rw [if_neg c5] at H
     exact absurd H (by simp)
   ·rw [if_neg c4] at H
    exact absurd H (by simp)
  ·rw [if_neg c3] at H
   exact absurd H (by simp)
 ·rw [if_neg c2] at H
  have c2b0:decide (a0 < 10)=false:=decide_eq_false c2
  clear c2
  replace H:=Option.bind_eq_some_iff.mp H
  obtain ⟨t146,A60,H⟩:=H
  replace H:((helmsmanref01_digits.f k (Int.tmod a0 10)).bind fun t147=>(if t146.size+t147.size≤9223372036854775807 then (some (t146++t147)) else (none)))=some r:=H
  have A6:=Aside0.mk A60
  clear A60
  replace H:=Option.bind_eq_some_iff.mp H
  obtain ⟨t147,A70,H⟩:=H
  replace H:(if t146.size+t147.size≤9223372036854775807 then (some (t146++t147)) else (none))=some r:=H
  have A7:=Aside0.mk A70
  clear A70
  by_cases c8:t146.size+t147.size≤9223372036854775807
  ·rw [if_pos c8] at H
   have c8b0:=eq_true c8
   have c8b1:decide (t146.size+t147.size≤9223372036854775807)=true:=decide_eq_true c8
   try have c8b2:(9223372036854775807 < t146.size+t147.size)=False:=eq_false (Nat.not_lt.2 c8)
   obtain rfl:=Option.some.inj H
   go_enter Tryd.func55,Tryd.ntmps55
   go_wp2_with (first|((with_reducible refine gate_callee (f:=55) rfl ?_);refine goesL_ (some 11) rfl rfl Tryd.func55 (by kernel_rfl) rfl #[.int .i64 (wrap64 (Int.tdiv a0 10))] rfl ar_ ?_;(with_reducible refine (ih k (by omega) (wrap64 (Int.tdiv a0 10)) t146 _ A6.out).mono ?_);rintro e w' ⟨rfl,⟨nd,rfl⟩⟩;refine ⟨_,rfl,?_⟩)|((with_reducible refine gate_callee (f:=55) rfl ?_);refine goesL_ (some 14) rfl rfl Tryd.func55 (by kernel_rfl) rfl #[.int .i64 (Int.tmod a0 10)] rfl ar_ ?_;(with_reducible refine (ih k (by omega) (Int.tmod a0 10) t147 _ A7.out).mono ?_);rintro e w' ⟨rfl,⟨nd,rfl⟩⟩;refine ⟨_,rfl,?_⟩))
   go_ret
   exact ⟨by first|rfl|(simp;done)|(simp [*];done),by repeat (first|exact Drawn0.refl _|apply Drawn0.step)⟩
  ·rw [if_neg c8] at H
   exact absurd H (by simp)
end Go.Proofs.YtnnbbeloifhofaaDoor.P
end
section
namespace Go.Proofs.YtnnbbeloifhofaaDoor.P
open Go.RowKit Go.Proofs.YtnnbbeloifhofaaDoorW.PrintWords Go.Proofs.YtnnbbeloifhofaaDoorW.PrintLast Go.Proofs.YtnnbbeloifhofaaDoorW.PrintMore
attribute [local go_sem] max2_int min2_int max_two min_two max_three min_three max_four min_four
set_option linter.unusedVariables false
set_option linter.unusedSimpArgs false
def helmsmanref01_Digits.f (k:Nat) (a0:Int):Option (ByteArray):=if a0 < 0 then ((helmsmanref01_digits.f k (wrap64 (-a0))).bind fun t148=>(if 1+t148.size≤9223372036854775807 then (some ((⟨#[45]⟩:ByteArray)++t148)) else (none))) else ((helmsmanref01_digits.f k a0).bind fun t149=>(some t149))
set_option maxHeartbeats 8000000 in
set_option maxRecDepth 100000 in
theorem helmsmanref01_Digits.calls (k:Nat) (a0:Int) (r:ByteArray) (w:World) (h:helmsmanref01_Digits.f k a0=some r) :
  Calls Tryd.prog 34 #[.int .i64 a0] w fun e w'=>e=.returned (.string r)∧Drawn0 w w':=by
 have H:(if a0 < 0 then ((helmsmanref01_digits.f k (wrap64 (-a0))).bind fun t148=>(if 1+t148.size≤9223372036854775807 then (some ((⟨#[45]⟩:ByteArray)++t148)) else (none))) else ((helmsmanref01_digits.f k a0).bind fun t149=>(some t149)))=some r:=h
 clear h
 by_cases c2:a0 < 0
 ·rw [if_pos c2] at H
  have c2b0:decide (a0 < 0)=true:=decide_eq_true c2
  clear c2
  replace H:=Option.bind_eq_some_iff.mp H
  obtain ⟨t148,A30,H⟩:=H
  replace H:(if 1+t148.size≤9223372036854775807 then (some ((⟨#[45]⟩:ByteArray)++t148)) else (none))=some r:=H
  have A3:=Aside0.mk A30
  clear A30
  by_cases c4:1+t148.size≤9223372036854775807
  ·rw [if_pos c4] at H
   have c4b0:=eq_true c4
   have c4b1:decide (1+t148.size≤9223372036854775807)=true:=decide_eq_true c4
   try have c4b2:(9223372036854775807 < 1+t148.size)=False:=eq_false (Nat.not_lt.2 c4)
   obtain rfl:=Option.some.inj H
   go_enter Tryd.func34,Tryd.ntmps34
   go_wp2_with (first|((with_reducible refine gate_callee (f:=55) rfl ?_);refine goesL_ (some 7) rfl rfl Tryd.func55 (by kernel_rfl) rfl #[.int .i64 (wrap64 (-a0))] rfl ar_ ?_;(with_reducible refine (helmsmanref01_digits.calls k (wrap64 (-a0)) t148 _ A3.out).mono ?_);rintro e w' ⟨rfl,⟨nd,rfl⟩⟩;refine ⟨_,rfl,?_⟩))
   go_ret
   exact ⟨by first|rfl|(simp;done)|(simp [*];done),by repeat (first|exact Drawn0.refl _|apply Drawn0.step)⟩
  ·rw [if_neg c4] at H
   exact absurd H (by simp)
 ·rw [if_neg c2] at H
  have c2b0:decide (a0 < 0)=false:=decide_eq_false c2
  clear c2
  replace H:=Option.bind_eq_some_iff.mp H
  obtain ⟨t149,A50,H⟩:=H
  replace H:(some t149)=some r:=H
  have A5:=Aside0.mk A50
  clear A50
  obtain rfl:=Option.some.inj H
  go_enter Tryd.func34,Tryd.ntmps34
  go_wp2_with (first|((with_reducible refine gate_callee (f:=55) rfl ?_);refine goesL_ (some 10) rfl rfl Tryd.func55 (by kernel_rfl) rfl #[.int .i64 a0] rfl ar_ ?_;(with_reducible refine (helmsmanref01_digits.calls k a0 t149 _ A5.out).mono ?_);rintro e w' ⟨rfl,⟨nd,rfl⟩⟩;refine ⟨_,rfl,?_⟩))
  go_ret
  exact ⟨by first|rfl|(simp;done)|(simp [*];done),by repeat (first|exact Drawn0.refl _|apply Drawn0.step)⟩
end Go.Proofs.YtnnbbeloifhofaaDoor.P
end
section
namespace Go.Proofs.YtnnbbeloifhofaaDoor.P
open Go.RowKit Go.Proofs.YtnnbbeloifhofaaDoorW.PrintWords Go.Proofs.YtnnbbeloifhofaaDoorW.PrintLast Go.Proofs.YtnnbbeloifhofaaDoorW.PrintMore
attribute [local go_sem] max2_int min2_int max_two min_two max_three min_three max_four min_four
set_option linter.unusedVariables false
set_option linter.unusedSimpArgs false
def helmsmanref12_simple.f (a0_0:ByteArray) (a0_1:ByteArray) (a0_2:Int) (l0_3:List (S24)) (a0_4:Int):Option (Bool):=if a0_0.toList=([110,117,109]:List UInt8) then (some true) else (if a0_0.toList=([110,97,109,101]:List UInt8) then (some true) else (if a0_0.toList=([97,116]:List UInt8) then (some true) else (if a0_0.toList=([116,114,117,101]:List UInt8) then (some true) else (some (a0_0.toList == ([102,97,108,115,101]:List UInt8))))))
set_option maxHeartbeats 8000000 in
set_option maxRecDepth 100000 in
theorem helmsmanref12_simple.calls (a0_0:ByteArray) (a0_1:ByteArray) (a0_2:Int) (A0_3:Option Addr) (c0_3:Nat) (l0_3:List (S24)) (a0_4:Int) (r:Bool) (w:World) (hr0_3:Kd.C k24 w A0_3 l0_3.length l0_3) (hc0_3:l0_3.length≤c0_3) (h:helmsmanref12_simple.f a0_0 a0_1 a0_2 l0_3 a0_4=some r) :
  Calls Tryd.prog 56 #[.agg #[.string a0_0,.string a0_1,.int .i64 a0_2,.slice A0_3 l0_3.length c0_3,.int .i64 a0_4]] w fun e w'=>e=.returned (.bool r)∧Below w.heap.size w w':=by
 have hu24:=Tryd.underlying24
 have HR0_3:=Aside0.mk hr0_3
 have HC0_3:=Aside0.mk hc0_3
 clear hr0_3 hc0_3
 have HB:=Aside0.mk (Below.refl w.heap.size w)
 have H:(if a0_0.toList=([110,117,109]:List UInt8) then (some true) else (if a0_0.toList=([110,97,109,101]:List UInt8) then (some true) else (if a0_0.toList=([97,116]:List UInt8) then (some true) else (if a0_0.toList=([116,114,117,101]:List UInt8) then (some true) else (some (a0_0.toList == ([102,97,108,115,101]:List UInt8)))))))=some r:=h
 clear h
 by_cases c2:a0_0.toList=([110,117,109]:List UInt8)
 ·rw [if_pos c2] at H
  have c2b0:(a0_0.toList == ([110,117,109]:List UInt8))=true:=beq_iff_eq.mpr c2
  have c2b1:(a0_0.toList != ([110,117,109]:List UInt8))=false:=bne_eq_false_iff_eq.mpr c2
  clear c2
  obtain rfl:=Option.some.inj H
  go_enter Tryd.func56,Tryd.ntmps56
  go_wp2_with (first|((with_reducible refine gate_dst (N:=1) rfl ?_);refine box_event ?hg (N:=1) ?hd (cs:=#[.string a0_0,.string a0_1,.int .i64 a0_2,.slice A0_3 l0_3.length c0_3,.int .i64 a0_4]) (t:=24) ?hr ?_;(case hd=>rfl);(case hg=>rfl);(case hr=>first|(go_simp;done)|(go_simp;rfl));intro gb150 hg w3 hbox hb;have n0_:=Aside0.mk (below_step (bl_ HB.out) hb);have n1_:=Aside0.mk (hbox);have n2_:=Aside0.mk ((gs_ hg (bl_ HB.out):w.heap.size≤gb150));have n3_:=Aside0.mk ((gs_ hg (bl_ HB.out):w.heap.size≤gb150));clear HB;have HB:=n0_;have BK150:=n1_;have GW150:=n2_;have GE150:=n3_;clear n0_ n1_ n2_ n3_;clear hb hbox hg;have hcz4_0:w3.cell? ⟨gb150,0,none⟩=some (.string a0_0):=zc_ BK150.out 0;have hcz4_1:w3.cell? ⟨gb150,1,none⟩=some (.string a0_1):=zc_ BK150.out 1;have hcz4_2:w3.cell? ⟨gb150,2,none⟩=some (.int .i64 a0_2):=zc_ BK150.out 2;have hcz4_3:w3.cell? ⟨gb150,3,none⟩=some (.slice A0_3 l0_3.length c0_3):=zc_ BK150.out 3;have hcz4_4:w3.cell? ⟨gb150,4,none⟩=some (.int .i64 a0_4):=zc_ BK150.out 4;have hfz4_0:=blk_frozen BK150.out 0;have hfz4_1:=blk_frozen BK150.out 1;have hfz4_2:=blk_frozen BK150.out 2;have hfz4_3:=blk_frozen BK150.out 3;have hfz4_4:=blk_frozen BK150.out 4))
  go_ret
  exact ⟨rt_,bl_ HB.out⟩
 ·rw [if_neg c2] at H
  have c2b0:(a0_0.toList == ([110,117,109]:List UInt8))=false:=beq_eq_false_iff_ne.mpr c2
  have c2b1:(a0_0.toList != ([110,117,109]:List UInt8))=true:=bne_iff_ne.mpr c2
  by_cases c5:a0_0.toList=([110,97,109,101]:List UInt8)
  ·rw [if_pos c5] at H
   have c5b0:(a0_0.toList == ([110,97,109,101]:List UInt8))=true:=beq_iff_eq.mpr c5
   have c5b1:(a0_0.toList != ([110,97,109,101]:List UInt8))=false:=bne_eq_false_iff_eq.mpr c5
   clear c5
   obtain rfl:=Option.some.inj H
   go_enter Tryd.func56,Tryd.ntmps56
   go_wp2_with (first|((with_reducible refine gate_dst (N:=1) rfl ?_);refine box_event ?hg (N:=1) ?hd (cs:=#[.string a0_0,.string a0_1,.int .i64 a0_2,.slice A0_3 l0_3.length c0_3,.int .i64 a0_4]) (t:=24) ?hr ?_;(case hd=>rfl);(case hg=>rfl);(case hr=>first|(go_simp;done)|(go_simp;rfl));intro gb150 hg w6 hbox hb;have n0_:=Aside0.mk (below_step (bl_ HB.out) hb);have n1_:=Aside0.mk (hbox);have n2_:=Aside0.mk ((gs_ hg (bl_ HB.out):w.heap.size≤gb150));have n3_:=Aside0.mk ((gs_ hg (bl_ HB.out):w.heap.size≤gb150));clear HB;have HB:=n0_;have BK150:=n1_;have GW150:=n2_;have GE150:=n3_;clear n0_ n1_ n2_ n3_;clear hb hbox hg;have hcz7_0:w6.cell? ⟨gb150,0,none⟩=some (.string a0_0):=zc_ BK150.out 0;have hcz7_1:w6.cell? ⟨gb150,1,none⟩=some (.string a0_1):=zc_ BK150.out 1;have hcz7_2:w6.cell? ⟨gb150,2,none⟩=some (.int .i64 a0_2):=zc_ BK150.out 2;have hcz7_3:w6.cell? ⟨gb150,3,none⟩=some (.slice A0_3 l0_3.length c0_3):=zc_ BK150.out 3;have hcz7_4:w6.cell? ⟨gb150,4,none⟩=some (.int .i64 a0_4):=zc_ BK150.out 4;have hfz7_0:=blk_frozen BK150.out 0;have hfz7_1:=blk_frozen BK150.out 1;have hfz7_2:=blk_frozen BK150.out 2;have hfz7_3:=blk_frozen BK150.out 3;have hfz7_4:=blk_frozen BK150.out 4))
   go_ret
   exact ⟨rt_,bl_ HB.out⟩
  ·rw [if_neg c5] at H
   have c5b0:(a0_0.toList == ([110,97,109,101]:List UInt8))=false:=beq_eq_false_iff_ne.mpr c5
   have c5b1:(a0_0.toList != ([110,97,109,101]:List UInt8))=true:=bne_iff_ne.mpr c5
   by_cases c8:a0_0.toList=([97,116]:List UInt8)
   ·rw [if_pos c8] at H
    have c8b0:(a0_0.toList == ([97,116]:List UInt8))=true:=beq_iff_eq.mpr c8
    have c8b1:(a0_0.toList != ([97,116]:List UInt8))=false:=bne_eq_false_iff_eq.mpr c8
    clear c8
    obtain rfl:=Option.some.inj H
    go_enter Tryd.func56,Tryd.ntmps56
    go_wp2_with (first|((with_reducible refine gate_dst (N:=1) rfl ?_);refine box_event ?hg (N:=1) ?hd (cs:=#[.string a0_0,.string a0_1,.int .i64 a0_2,.slice A0_3 l0_3.length c0_3,.int .i64 a0_4]) (t:=24) ?hr ?_;(case hd=>rfl);(case hg=>rfl);(case hr=>first|(go_simp;done)|(go_simp;rfl));intro gb150 hg w9 hbox hb;have n0_:=Aside0.mk (below_step (bl_ HB.out) hb);have n1_:=Aside0.mk (hbox);have n2_:=Aside0.mk ((gs_ hg (bl_ HB.out):w.heap.size≤gb150));have n3_:=Aside0.mk ((gs_ hg (bl_ HB.out):w.heap.size≤gb150));clear HB;have HB:=n0_;have BK150:=n1_;have GW150:=n2_;have GE150:=n3_;clear n0_ n1_ n2_ n3_;clear hb hbox hg;have hcz10_0:w9.cell? ⟨gb150,0,none⟩=some (.string a0_0):=zc_ BK150.out 0;have hcz10_1:w9.cell? ⟨gb150,1,none⟩=some (.string a0_1):=zc_ BK150.out 1;have hcz10_2:w9.cell? ⟨gb150,2,none⟩=some (.int .i64 a0_2):=zc_ BK150.out 2;have hcz10_3:w9.cell? ⟨gb150,3,none⟩=some (.slice A0_3 l0_3.length c0_3):=zc_ BK150.out 3;have hcz10_4:w9.cell? ⟨gb150,4,none⟩=some (.int .i64 a0_4):=zc_ BK150.out 4;have hfz10_0:=blk_frozen BK150.out 0;have hfz10_1:=blk_frozen BK150.out 1;have hfz10_2:=blk_frozen BK150.out 2;have hfz10_3:=blk_frozen BK150.out 3;have hfz10_4:=blk_frozen BK150.out 4))
    go_ret
    exact ⟨rt_,bl_ HB.out⟩
   ·rw [if_neg c8] at H
    have c8b0:(a0_0.toList == ([97,116]:List UInt8))=false:=beq_eq_false_iff_ne.mpr c8
    have c8b1:(a0_0.toList != ([97,116]:List UInt8))=true:=bne_iff_ne.mpr c8
    by_cases c11:a0_0.toList=([116,114,117,101]:List UInt8)
    ·rw [if_pos c11] at H
     have c11b0:(a0_0.toList == ([116,114,117,101]:List UInt8))=true:=beq_iff_eq.mpr c11
     have c11b1:(a0_0.toList != ([116,114,117,101]:List UInt8))=false:=bne_eq_false_iff_eq.mpr c11
     clear c11
     obtain rfl:=Option.some.inj H
     go_enter Tryd.func56,Tryd.ntmps56
     go_wp2_with (first|((with_reducible refine gate_dst (N:=1) rfl ?_);refine box_event ?hg (N:=1) ?hd (cs:=#[.string a0_0,.string a0_1,.int .i64 a0_2,.slice A0_3 l0_3.length c0_3,.int .i64 a0_4]) (t:=24) ?hr ?_;(case hd=>rfl);(case hg=>rfl);(case hr=>first|(go_simp;done)|(go_simp;rfl));intro gb150 hg w12 hbox hb;have n0_:=Aside0.mk (below_step (bl_ HB.out) hb);have n1_:=Aside0.mk (hbox);have n2_:=Aside0.mk ((gs_ hg (bl_ HB.out):w.heap.size≤gb150));have n3_:=Aside0.mk ((gs_ hg (bl_ HB.out):w.heap.size≤gb150));clear HB;have HB:=n0_;have BK150:=n1_;have GW150:=n2_;have GE150:=n3_;clear n0_ n1_ n2_ n3_;clear hb hbox hg;have hcz13_0:w12.cell? ⟨gb150,0,none⟩=some (.string a0_0):=zc_ BK150.out 0;have hcz13_1:w12.cell? ⟨gb150,1,none⟩=some (.string a0_1):=zc_ BK150.out 1;have hcz13_2:w12.cell? ⟨gb150,2,none⟩=some (.int .i64 a0_2):=zc_ BK150.out 2;have hcz13_3:w12.cell? ⟨gb150,3,none⟩=some (.slice A0_3 l0_3.length c0_3):=zc_ BK150.out 3;have hcz13_4:w12.cell? ⟨gb150,4,none⟩=some (.int .i64 a0_4):=zc_ BK150.out 4;have hfz13_0:=blk_frozen BK150.out 0;have hfz13_1:=blk_frozen BK150.out 1;have hfz13_2:=blk_frozen BK150.out 2;have hfz13_3:=blk_frozen BK150.out 3;have hfz13_4:=blk_frozen BK150.out 4))
     go_ret
     exact ⟨rt_,bl_ HB.out⟩
    ·rw [if_neg c11] at H
     have c11b0:(a0_0.toList == ([116,114,117,101]:List UInt8))=false:=beq_eq_false_iff_ne.mpr c11
     have c11b1:(a0_0.toList != ([116,114,117,101]:List UInt8))=true:=bne_iff_ne.mpr c11
     obtain rfl:=Option.some.inj H
     go_enter Tryd.func56,Tryd.ntmps56
     go_wp2_with (first|((with_reducible refine gate_dst (N:=1) rfl ?_);refine box_event ?hg (N:=1) ?hd (cs:=#[.string a0_0,.string a0_1,.int .i64 a0_2,.slice A0_3 l0_3.length c0_3,.int .i64 a0_4]) (t:=24) ?hr ?_;(case hd=>rfl);(case hg=>rfl);(case hr=>first|(go_simp;done)|(go_simp;rfl));intro gb150 hg w14 hbox hb;have n0_:=Aside0.mk (below_step (bl_ HB.out) hb);have n1_:=Aside0.mk (hbox);have n2_:=Aside0.mk ((gs_ hg (bl_ HB.out):w.heap.size≤gb150));have n3_:=Aside0.mk ((gs_ hg (bl_ HB.out):w.heap.size≤gb150));clear HB;have HB:=n0_;have BK150:=n1_;have GW150:=n2_;have GE150:=n3_;clear n0_ n1_ n2_ n3_;clear hb hbox hg;have hcz15_0:w14.cell? ⟨gb150,0,none⟩=some (.string a0_0):=zc_ BK150.out 0;have hcz15_1:w14.cell? ⟨gb150,1,none⟩=some (.string a0_1):=zc_ BK150.out 1;have hcz15_2:w14.cell? ⟨gb150,2,none⟩=some (.int .i64 a0_2):=zc_ BK150.out 2;have hcz15_3:w14.cell? ⟨gb150,3,none⟩=some (.slice A0_3 l0_3.length c0_3):=zc_ BK150.out 3;have hcz15_4:w14.cell? ⟨gb150,4,none⟩=some (.int .i64 a0_4):=zc_ BK150.out 4;have hfz15_0:=blk_frozen BK150.out 0;have hfz15_1:=blk_frozen BK150.out 1;have hfz15_2:=blk_frozen BK150.out 2;have hfz15_3:=blk_frozen BK150.out 3;have hfz15_4:=blk_frozen BK150.out 4))
     go_ret
     exact ⟨rt_,bl_ HB.out⟩
end Go.Proofs.YtnnbbeloifhofaaDoor.P
end
section
namespace Go.Proofs.YtnnbbeloifhofaaDoor.P
open Go.RowKit Go.Proofs.YtnnbbeloifhofaaDoorW.PrintWords Go.Proofs.YtnnbbeloifhofaaDoorW.PrintLast Go.Proofs.YtnnbbeloifhofaaDoorW.PrintMore
attribute [local go_sem] max2_int min2_int max_two min_two max_three min_three max_four min_four
set_option linter.unusedVariables false
set_option linter.unusedSimpArgs false
mutual
def helmsmanref12_Text.j0:Nat→ByteArray→Bool→ByteArray→ByteArray→Int→List (S24)→Int→Option (ByteArray)
 | 0,_,_,_,_,_,_,_=>none
 | k+1,x4,x14,x152000,x152001,x152002,x152003,x152004=>if x14=true then (some x152000) else (if x4.toList=([97,116]:List UInt8) then (if x152001.size+1≤9223372036854775807 then (if 0 < (x152003.length:Int) then ((helmsmanref12_Text.f k ((rd_T24 x152003 0).f0) ((rd_T24 x152003 0).f1) ((rd_T24 x152003 0).f2) ((rd_T24 x152003 0).f3) ((rd_T24 x152003 0).f4)).bind fun t154=>(if (x152001++(⟨#[91]⟩:ByteArray)).size+t154.size≤9223372036854775807 then (if ((x152001++(⟨#[91]⟩:ByteArray))++t154).size+1≤9223372036854775807 then (some (((x152001++(⟨#[91]⟩:ByteArray))++t154)++(⟨#[93]⟩:ByteArray))) else (none)) else (none))) else (none)) else (none)) else (if x4.toList=([110,101,103]:List UInt8) then (if 0 < (x152003.length:Int) then ((helmsmanref12_closed.f k ((rd_T24 x152003 0).f0) ((rd_T24 x152003 0).f1) ((rd_T24 x152003 0).f2) ((rd_T24 x152003 0).f3) ((rd_T24 x152003 0).f4)).bind fun t156=>(if 1+t156.size≤9223372036854775807 then (some ((⟨#[45]⟩:ByteArray)++t156)) else (none))) else (none)) else (if x4.toList=([110,111,116]:List UInt8) then (if 0 < (x152003.length:Int) then ((helmsmanref12_closed.f k ((rd_T24 x152003 0).f0) ((rd_T24 x152003 0).f1) ((rd_T24 x152003 0).f2) ((rd_T24 x152003 0).f3) ((rd_T24 x152003 0).f4)).bind fun t158=>(if 1+t158.size≤9223372036854775807 then (some ((⟨#[33]⟩:ByteArray)++t158)) else (none))) else (none)) else (if 0 < (x152003.length:Int) then ((helmsmanref12_closed.f k ((rd_T24 x152003 0).f0) ((rd_T24 x152003 0).f1) ((rd_T24 x152003 0).f2) ((rd_T24 x152003 0).f3) ((rd_T24 x152003 0).f4)).bind fun t160=>(if t160.size+1≤9223372036854775807 then (if (t160++(⟨#[32]⟩:ByteArray)).size+x152000.size≤9223372036854775807 then (if ((t160++(⟨#[32]⟩:ByteArray))++x152000).size+1≤9223372036854775807 then (if 1 < (x152003.length:Int) then ((helmsmanref12_closed.f k ((rd_T24 x152003 1).f0) ((rd_T24 x152003 1).f1) ((rd_T24 x152003 1).f2) ((rd_T24 x152003 1).f3) ((rd_T24 x152003 1).f4)).bind fun t162=>(if (((t160++(⟨#[32]⟩:ByteArray))++x152000)++(⟨#[32]⟩:ByteArray)).size+t162.size≤9223372036854775807 then (some ((((t160++(⟨#[32]⟩:ByteArray))++x152000)++(⟨#[32]⟩:ByteArray))++t162)) else (none))) else (none)) else (none)) else (none)) else (none))) else (none)))))
def helmsmanref12_Text.f:Nat→ByteArray→ByteArray→Int→List (S24)→Int→Option (ByteArray)
 | 0,_,_,_,_,_=>none
 | k+1,a0_0,a0_1,a0_2,l0_3,a0_4=>if a0_0.toList=([110,117,109]:List UInt8) then ((helmsmanref01_Digits.f k a0_2).bind fun t152=>(some t152)) else (if a0_0.toList=([110,97,109,101]:List UInt8) then (some a0_1) else (if a0_0.toList=([116,114,117,101]:List UInt8) then (helmsmanref12_Text.j0 k a0_0 (a0_0.toList == ([116,114,117,101]:List UInt8)) a0_0 a0_1 a0_2 l0_3 a0_4) else (helmsmanref12_Text.j0 k a0_0 (a0_0.toList == ([102,97,108,115,101]:List UInt8)) a0_0 a0_1 a0_2 l0_3 a0_4)))
def helmsmanref12_closed.f:Nat→ByteArray→ByteArray→Int→List (S24)→Int→Option (ByteArray)
 | 0,_,_,_,_,_=>none
 | k+1,a0_0,a0_1,a0_2,l0_3,a0_4=>(helmsmanref12_simple.f a0_0 a0_1 a0_2 l0_3 a0_4).bind fun t164=>(if t164=true then ((helmsmanref12_Text.f k a0_0 a0_1 a0_2 l0_3 a0_4).bind fun t165=>(some t165)) else ((helmsmanref12_Text.f k a0_0 a0_1 a0_2 l0_3 a0_4).bind fun t166=>(if 1+t166.size≤9223372036854775807 then (if ((⟨#[40]⟩:ByteArray)++t166).size+1≤9223372036854775807 then (some (((⟨#[40]⟩:ByteArray)++t166)++(⟨#[41]⟩:ByteArray))) else (none)) else (none))))
end
abbrev helmsmanref12_Text.Stmt (k:Nat):Prop:=∀ (a0_0:ByteArray) (a0_1:ByteArray) (a0_2:Int) (A0_3:Option Addr) (c0_3:Nat) (l0_3:List (S24)) (a0_4:Int) (r:ByteArray) (w:World) (hr0_3:Kd.C k24 w A0_3 l0_3.length l0_3) (hc0_3:l0_3.length≤c0_3) (h:helmsmanref12_Text.f k a0_0 a0_1 a0_2 l0_3 a0_4=some r),
  Calls Tryd.prog 13 #[.agg #[.string a0_0,.string a0_1,.int .i64 a0_2,.slice A0_3 l0_3.length c0_3,.int .i64 a0_4]] w fun e w'=>e=.returned (.string r)∧Below w.heap.size w w'
abbrev helmsmanref12_closed.Stmt (k:Nat):Prop:=∀ (a0_0:ByteArray) (a0_1:ByteArray) (a0_2:Int) (A0_3:Option Addr) (c0_3:Nat) (l0_3:List (S24)) (a0_4:Int) (r:ByteArray) (w:World) (hr0_3:Kd.C k24 w A0_3 l0_3.length l0_3) (hc0_3:l0_3.length≤c0_3) (h:helmsmanref12_closed.f k a0_0 a0_1 a0_2 l0_3 a0_4=some r),
  Calls Tryd.prog 35 #[.agg #[.string a0_0,.string a0_1,.int .i64 a0_2,.slice A0_3 l0_3.length c0_3,.int .i64 a0_4]] w fun e w'=>e=.returned (.string r)∧Below w.heap.size w w'
end Go.Proofs.YtnnbbeloifhofaaDoor.P
end
section
namespace Go.Proofs.YtnnbbeloifhofaaDoor.P
open Go.RowKit Go.Proofs.YtnnbbeloifhofaaDoorW.PrintWords Go.Proofs.YtnnbbeloifhofaaDoorW.PrintLast Go.Proofs.YtnnbbeloifhofaaDoorW.PrintMore
attribute [local go_sem] max2_int min2_int max_two min_two max_three min_three max_four min_four
set_option linter.unusedVariables false
set_option linter.unusedSimpArgs false
def helmsmanref12_Text.T10:Bool × List (List Nat × List Nat):=(true,[([],[]),([0],[0]),([1],[1]),([],[]),([3],[3]),([4],[4]),([5],[5]),([6],[6]),([2,7],[2,7]),([8],[8]),([9,7,0,1,2,3,4,5,6,7,8,9],[9])])
def helmsmanref12_Text.B10:List Nat:=[0,1,3,0,8,24,56,120,255,511,1023]
theorem helmsmanref12_Text.tab10:rtab .any (opsOf Tryd.f13 10)=helmsmanref12_Text.T10:=by kernel_rfl
theorem helmsmanref12_Text.bits10:waitsOk helmsmanref12_Text.T10.2 helmsmanref12_Text.B10=true:=by kernel_rfl
def helmsmanref12_Text.T15:Bool × List (List Nat × List Nat):=(true,[([],[]),([0],[0]),([1],[1]),([2],[2]),([3],[3]),([4],[4]),([],[]),([6],[6]),([5,7],[5,7]),([8],[8]),([],[]),([10],[10]),([11],[11]),([12],[12]),([13,4],[13]),([9,14],[9,14]),([15,14,0,1,2,3,4,5,6,7,8,9,10,11,12,13,14,15],[15])])
def helmsmanref12_Text.B15:List Nat:=[0,1,3,7,15,31,0,64,255,511,0,1024,3072,7168,15391,32767,65535]
theorem helmsmanref12_Text.tab15:rtab .any (opsOf Tryd.f13 15)=helmsmanref12_Text.T15:=by kernel_rfl
theorem helmsmanref12_Text.bits15:waitsOk helmsmanref12_Text.T15.2 helmsmanref12_Text.B15=true:=by kernel_rfl
set_option maxHeartbeats 8000000 in
set_option maxRecDepth 100000 in
theorem helmsmanref12_Text.step (k:Nat) (ih13 : ∀ m_,m_ < k→helmsmanref12_Text.Stmt m_) (ih35 : ∀ m_,m_ < k→helmsmanref12_closed.Stmt m_):helmsmanref12_Text.Stmt k:=by
 intro a0_0 a0_1 a0_2 A0_3 c0_3 l0_3 a0_4 r w hr0_3 hc0_3 h
 cases k with
 | zero=>exact absurd h (by simp [helmsmanref12_Text.f])
 | succ k=>
 simp only [helmsmanref12_Text.f] at h
 have hu24:=Tryd.underlying24
 have HR0_3:=Aside0.mk hr0_3
 have HC0_3:=Aside0.mk hc0_3
 clear hr0_3 hc0_3
 have HB:=Aside0.mk (Below.refl w.heap.size w)
 have H:(if a0_0.toList=([110,117,109]:List UInt8) then ((helmsmanref01_Digits.f k a0_2).bind fun t152=>(some t152)) else (if a0_0.toList=([110,97,109,101]:List UInt8) then (some a0_1) else (if a0_0.toList=([116,114,117,101]:List UInt8) then (helmsmanref12_Text.j0 k a0_0 (a0_0.toList == ([116,114,117,101]:List UInt8)) a0_0 a0_1 a0_2 l0_3 a0_4) else (helmsmanref12_Text.j0 k a0_0 (a0_0.toList == ([102,97,108,115,101]:List UInt8)) a0_0 a0_1 a0_2 l0_3 a0_4))))=some r:=h
 clear h
 by_cases c2:a0_0.toList=([110,117,109]:List UInt8)
 ·rw [if_pos c2] at H
  have c2b0:(a0_0.toList == ([110,117,109]:List UInt8))=true:=beq_iff_eq.mpr c2
  have c2b1:(a0_0.toList != ([110,117,109]:List UInt8))=false:=bne_eq_false_iff_eq.mpr c2
  clear c2
  replace H:=Option.bind_eq_some_iff.mp H
  obtain ⟨t152,A30,H⟩:=H
  replace H:(some t152)=some r:=H
  have A3:=Aside0.mk A30
  clear A30
  obtain rfl:=Option.some.inj H
  go_enter Tryd.func13,Tryd.ntmps13
  go_wp2_with (first|((with_reducible refine gate_dst (N:=1) rfl ?_);refine box_event ?hg (N:=1) ?hd (cs:=#[.string a0_0,.string a0_1,.int .i64 a0_2,.slice A0_3 l0_3.length c0_3,.int .i64 a0_4]) (t:=24) ?hr ?_;(case hd=>rfl);(case hg=>rfl);(case hr=>first|(go_simp;done)|(go_simp;rfl));intro gb151 hg w4 hbox hb;have n0_:=Aside0.mk (below_step (bl_ HB.out) hb);have n1_:=Aside0.mk (hbox);have n2_:=Aside0.mk ((gs_ hg (bl_ HB.out):w.heap.size≤gb151));have n3_:=Aside0.mk ((gs_ hg (bl_ HB.out):w.heap.size≤gb151));clear HB;have HB:=n0_;have BK151:=n1_;have GW151:=n2_;have GE151:=n3_;clear n0_ n1_ n2_ n3_;clear hb hbox hg;have hcz5_0:w4.cell? ⟨gb151,0,none⟩=some (.string a0_0):=zc_ BK151.out 0;have hcz5_1:w4.cell? ⟨gb151,1,none⟩=some (.string a0_1):=zc_ BK151.out 1;have hcz5_2:w4.cell? ⟨gb151,2,none⟩=some (.int .i64 a0_2):=zc_ BK151.out 2;have hcz5_3:w4.cell? ⟨gb151,3,none⟩=some (.slice A0_3 l0_3.length c0_3):=zc_ BK151.out 3;have hcz5_4:w4.cell? ⟨gb151,4,none⟩=some (.int .i64 a0_4):=zc_ BK151.out 4;have hfz5_0:=blk_frozen BK151.out 0;have hfz5_1:=blk_frozen BK151.out 1;have hfz5_2:=blk_frozen BK151.out 2;have hfz5_3:=blk_frozen BK151.out 3;have hfz5_4:=blk_frozen BK151.out 4)|((with_reducible refine gate_callee (f:=34) rfl ?_);refine goesL_ (some 9) rfl rfl Tryd.func34 (by kernel_rfl) rfl #[.int .i64 a0_2] rfl ar_ ?_;(with_reducible refine (helmsmanref01_Digits.calls k a0_2 t152 _ A3.out).mono ?_);rintro e w' ⟨rfl,⟨nd,rfl⟩⟩;refine ⟨_,rfl,?_⟩))
  go_ret
  exact ⟨rt_,bl_ HB.out⟩
 ·rw [if_neg c2] at H
  have c2b0:(a0_0.toList == ([110,117,109]:List UInt8))=false:=beq_eq_false_iff_ne.mpr c2
  have c2b1:(a0_0.toList != ([110,117,109]:List UInt8))=true:=bne_iff_ne.mpr c2
  by_cases c6:a0_0.toList=([110,97,109,101]:List UInt8)
  ·rw [if_pos c6] at H
   have c6b0:(a0_0.toList == ([110,97,109,101]:List UInt8))=true:=beq_iff_eq.mpr c6
   have c6b1:(a0_0.toList != ([110,97,109,101]:List UInt8))=false:=bne_eq_false_iff_eq.mpr c6
   clear c6
   obtain rfl:=Option.some.inj H
   go_enter Tryd.func13,Tryd.ntmps13
   go_wp2_with (first|((with_reducible refine gate_dst (N:=1) rfl ?_);refine box_event ?hg (N:=1) ?hd (cs:=#[.string a0_0,.string a0_1,.int .i64 a0_2,.slice A0_3 l0_3.length c0_3,.int .i64 a0_4]) (t:=24) ?hr ?_;(case hd=>rfl);(case hg=>rfl);(case hr=>first|(go_simp;done)|(go_simp;rfl));intro gb151 hg w7 hbox hb;have n0_:=Aside0.mk (below_step (bl_ HB.out) hb);have n1_:=Aside0.mk (hbox);have n2_:=Aside0.mk ((gs_ hg (bl_ HB.out):w.heap.size≤gb151));have n3_:=Aside0.mk ((gs_ hg (bl_ HB.out):w.heap.size≤gb151));clear HB;have HB:=n0_;have BK151:=n1_;have GW151:=n2_;have GE151:=n3_;clear n0_ n1_ n2_ n3_;clear hb hbox hg;have hcz8_0:w7.cell? ⟨gb151,0,none⟩=some (.string a0_0):=zc_ BK151.out 0;have hcz8_1:w7.cell? ⟨gb151,1,none⟩=some (.string a0_1):=zc_ BK151.out 1;have hcz8_2:w7.cell? ⟨gb151,2,none⟩=some (.int .i64 a0_2):=zc_ BK151.out 2;have hcz8_3:w7.cell? ⟨gb151,3,none⟩=some (.slice A0_3 l0_3.length c0_3):=zc_ BK151.out 3;have hcz8_4:w7.cell? ⟨gb151,4,none⟩=some (.int .i64 a0_4):=zc_ BK151.out 4;have hfz8_0:=blk_frozen BK151.out 0;have hfz8_1:=blk_frozen BK151.out 1;have hfz8_2:=blk_frozen BK151.out 2;have hfz8_3:=blk_frozen BK151.out 3;have hfz8_4:=blk_frozen BK151.out 4))
   go_ret
   exact ⟨rt_,bl_ HB.out⟩
  ·rw [if_neg c6] at H
   have c6b0:(a0_0.toList == ([110,97,109,101]:List UInt8))=false:=beq_eq_false_iff_ne.mpr c6
   have c6b1:(a0_0.toList != ([110,97,109,101]:List UInt8))=true:=bne_iff_ne.mpr c6
   have HC9:=Aside0.mk H
   clear H
   go_enter Tryd.func13,Tryd.ntmps13
   go_upto_if 14 with (first|((with_reducible refine gate_dst (N:=1) rfl ?_);refine box_event ?hg (N:=1) ?hd (cs:=#[.string a0_0,.string a0_1,.int .i64 a0_2,.slice A0_3 l0_3.length c0_3,.int .i64 a0_4]) (t:=24) ?hr ?_;(case hd=>rfl);(case hg=>rfl);(case hr=>first|(go_simp;done)|(go_simp;rfl));intro gb151 hg w10 hbox hb;have n0_:=Aside0.mk (below_step (bl_ HB.out) hb);have n1_:=Aside0.mk (hbox);have n2_:=Aside0.mk ((gs_ hg (bl_ HB.out):w.heap.size≤gb151));have n3_:=Aside0.mk ((gs_ hg (bl_ HB.out):w.heap.size≤gb151));clear HB;have HB:=n0_;have BK151:=n1_;have GW151:=n2_;have GE151:=n3_;clear n0_ n1_ n2_ n3_;clear hb hbox hg;have hcz11_0:w10.cell? ⟨gb151,0,none⟩=some (.string a0_0):=zc_ BK151.out 0;have hcz11_1:w10.cell? ⟨gb151,1,none⟩=some (.string a0_1):=zc_ BK151.out 1;have hcz11_2:w10.cell? ⟨gb151,2,none⟩=some (.int .i64 a0_2):=zc_ BK151.out 2;have hcz11_3:w10.cell? ⟨gb151,3,none⟩=some (.slice A0_3 l0_3.length c0_3):=zc_ BK151.out 3;have hcz11_4:w10.cell? ⟨gb151,4,none⟩=some (.int .i64 a0_4):=zc_ BK151.out 4;have hfz11_0:=blk_frozen BK151.out 0;have hfz11_1:=blk_frozen BK151.out 1;have hfz11_2:=blk_frozen BK151.out 2;have hfz11_3:=blk_frozen BK151.out 3;have hfz11_4:=blk_frozen BK151.out 4))
   (try simp only [Act.put,List.setIfInBounds_toArray,List.set_cons_zero,List.set_cons_succ])
   go_cut [14] (fun v14 wc=>∃ (kq:Nat) (x14_8:Bool),v14=.bool x14_8∧Aside0 (helmsmanref12_Text.j0 kq a0_0 x14_8 a0_0 a0_1 a0_2 l0_3 a0_4=some r)∧Aside0 (kq≤k)∧Aside0 (wc.heap[gb151]?=some (.cells #[.string a0_0,.string a0_1,.int .i64 a0_2,(.slice A0_3 l0_3.length c0_3),.int .i64 a0_4] 24 (0,0)))∧Aside0 (Below w.heap.size w wc))
   case first=>
    have H:=HC9.out
    clear HC9
    by_cases c12:a0_0.toList=([116,114,117,101]:List UInt8)
    ·rw [if_pos c12] at H
     have c12b0:(a0_0.toList == ([116,114,117,101]:List UInt8))=true:=beq_iff_eq.mpr c12
     have c12b1:(a0_0.toList != ([116,114,117,101]:List UInt8))=false:=bne_eq_false_iff_eq.mpr c12
     clear c12
     (first|rw [c12b0]|(simp only [i64_w,i32_w];rw [c12b0])|skip)
     have H':=Aside0.mk H
     clear H
     go_wp2
     go_meet
     case rel=>exact ⟨_,((a0_0.toList == ([116,114,117,101]:List UInt8))),rf_,H',⟨by first|omega|exact Nat.le_refl _⟩,⟨kb_ BK151.out⟩,⟨bl_ HB.out⟩⟩
    ·rw [if_neg c12] at H
     have c12b0:(a0_0.toList == ([116,114,117,101]:List UInt8))=false:=beq_eq_false_iff_ne.mpr c12
     have c12b1:(a0_0.toList != ([116,114,117,101]:List UInt8))=true:=bne_iff_ne.mpr c12
     (first|rw [c12b0]|(simp only [i64_w,i32_w];rw [c12b0])|skip)
     have H':=Aside0.mk H
     clear H
     go_wp2
     go_meet
     case rel=>exact ⟨_,((a0_0.toList == ([102,97,108,115,101]:List UInt8))),rf_,H',⟨by first|omega|exact Nat.le_refl _⟩,⟨kb_ BK151.out⟩,⟨bl_ HB.out⟩⟩
   case rest=>
    clear HC9
    (try clear c1);(try clear c2);(try clear c2b0);(try clear c2b1);(try clear p2);(try clear c3);(try clear c6);(try clear c6b0);(try clear c6b1);(try clear c12);(try clear c12b0);(try clear c12b1);(try clear hcz11_0);(try clear hcz11_1);(try clear hcz11_2);(try clear hcz11_3);(try clear hcz11_4);(try clear hcz5_0);(try clear hcz5_1);(try clear hcz5_2);(try clear hcz5_3);(try clear hcz5_4);(try clear hcz8_0);(try clear hcz8_1);(try clear hcz8_2);(try clear hcz8_3);(try clear hcz8_4);(try clear hfz11_0);(try clear hfz11_1);(try clear hfz11_2);(try clear hfz11_3);(try clear hfz11_4);(try clear hfz5_0);(try clear hfz5_1);(try clear hfz5_2);(try clear hfz5_3);(try clear hfz5_4);(try clear hfz8_0);(try clear hfz8_1);(try clear hfz8_2);(try clear hfz8_3);(try clear hfz8_4)
    obtain ⟨kq,x14_8,rfl,HA,HJ8,BK151,HB⟩:=hcut
    cases kq with
    | zero=>exact absurd HA.out (by simp [helmsmanref12_Text.j0])
    | succ kj8=>
     have H:=HA.out
     clear HA
     simp only [helmsmanref12_Text.j0] at H
     by_cases c13:x14_8=true
     ·subst c13
      have H1:(some a0_0)=some r:=by rw [if_pos rfl] at H;exact H
      clear H
      have H:=H1
      clear H1
      obtain rfl:=Option.some.inj H
      have hcz14_0:wc.cell? ⟨gb151,0,none⟩=some (.string a0_0):=zc_ BK151.out 0
      have hcz14_1:wc.cell? ⟨gb151,1,none⟩=some (.string a0_1):=zc_ BK151.out 1
      have hcz14_2:wc.cell? ⟨gb151,2,none⟩=some (.int .i64 a0_2):=zc_ BK151.out 2
      have hcz14_3:wc.cell? ⟨gb151,3,none⟩=some (.slice A0_3 l0_3.length c0_3):=zc_ BK151.out 3
      have hcz14_4:wc.cell? ⟨gb151,4,none⟩=some (.int .i64 a0_4):=zc_ BK151.out 4
      have hfz14_0:=blk_frozen BK151.out 0
      have hfz14_1:=blk_frozen BK151.out 1
      have hfz14_2:=blk_frozen BK151.out 2
      have hfz14_3:=blk_frozen BK151.out 3
      have hfz14_4:=blk_frozen BK151.out 4
      go_wp2
      go_ret
      exact ⟨rt_,bl_ HB.out⟩
     ·replace c13:=Bool.eq_false_iff.mpr c13
      subst c13
      have H1:(if a0_0.toList=([97,116]:List UInt8) then (if a0_1.size+1≤9223372036854775807 then (if 0 < (l0_3.length:Int) then ((helmsmanref12_Text.f kj8 ((rd_T24 l0_3 0).f0) ((rd_T24 l0_3 0).f1) ((rd_T24 l0_3 0).f2) ((rd_T24 l0_3 0).f3) ((rd_T24 l0_3 0).f4)).bind fun t154=>(if (a0_1++(⟨#[91]⟩:ByteArray)).size+t154.size≤9223372036854775807 then (if ((a0_1++(⟨#[91]⟩:ByteArray))++t154).size+1≤9223372036854775807 then (some (((a0_1++(⟨#[91]⟩:ByteArray))++t154)++(⟨#[93]⟩:ByteArray))) else (none)) else (none))) else (none)) else (none)) else (if a0_0.toList=([110,101,103]:List UInt8) then (if 0 < (l0_3.length:Int) then ((helmsmanref12_closed.f kj8 ((rd_T24 l0_3 0).f0) ((rd_T24 l0_3 0).f1) ((rd_T24 l0_3 0).f2) ((rd_T24 l0_3 0).f3) ((rd_T24 l0_3 0).f4)).bind fun t156=>(if 1+t156.size≤9223372036854775807 then (some ((⟨#[45]⟩:ByteArray)++t156)) else (none))) else (none)) else (if a0_0.toList=([110,111,116]:List UInt8) then (if 0 < (l0_3.length:Int) then ((helmsmanref12_closed.f kj8 ((rd_T24 l0_3 0).f0) ((rd_T24 l0_3 0).f1) ((rd_T24 l0_3 0).f2) ((rd_T24 l0_3 0).f3) ((rd_T24 l0_3 0).f4)).bind fun t158=>(if 1+t158.size≤9223372036854775807 then (some ((⟨#[33]⟩:ByteArray)++t158)) else (none))) else (none)) else (if 0 < (l0_3.length:Int) then ((helmsmanref12_closed.f kj8 ((rd_T24 l0_3 0).f0) ((rd_T24 l0_3 0).f1) ((rd_T24 l0_3 0).f2) ((rd_T24 l0_3 0).f3) ((rd_T24 l0_3 0).f4)).bind fun t160=>(if t160.size+1≤9223372036854775807 then (if (t160++(⟨#[32]⟩:ByteArray)).size+a0_0.size≤9223372036854775807 then (if ((t160++(⟨#[32]⟩:ByteArray))++a0_0).size+1≤9223372036854775807 then (if 1 < (l0_3.length:Int) then ((helmsmanref12_closed.f kj8 ((rd_T24 l0_3 1).f0) ((rd_T24 l0_3 1).f1) ((rd_T24 l0_3 1).f2) ((rd_T24 l0_3 1).f3) ((rd_T24 l0_3 1).f4)).bind fun t162=>(if (((t160++(⟨#[32]⟩:ByteArray))++a0_0)++(⟨#[32]⟩:ByteArray)).size+t162.size≤9223372036854775807 then (some ((((t160++(⟨#[32]⟩:ByteArray))++a0_0)++(⟨#[32]⟩:ByteArray))++t162)) else (none))) else (none)) else (none)) else (none)) else (none))) else (none)))))=some r:=by rw [if_neg (show ¬ (false=true) by decide)] at H;exact H
      clear H
      have H:=H1
      clear H1
      by_cases c15:a0_0.toList=([97,116]:List UInt8)
      ·rw [if_pos c15] at H
       have c15b0:(a0_0.toList == ([97,116]:List UInt8))=true:=beq_iff_eq.mpr c15
       have c15b1:(a0_0.toList != ([97,116]:List UInt8))=false:=bne_eq_false_iff_eq.mpr c15
       clear c15
       by_cases c16:a0_1.size+1≤9223372036854775807
       ·rw [if_pos c16] at H
        have c16b0:=eq_true c16
        have c16b1:decide (a0_1.size+1≤9223372036854775807)=true:=decide_eq_true c16
        try have c16b2:(9223372036854775807 < a0_1.size+1)=False:=eq_false (Nat.not_lt.2 c16)
        by_cases c17:0 < (l0_3.length:Int)
        ·rw [if_pos c17] at H
         have c17b0:decide (0 < (l0_3.length:Int))=true:=decide_eq_true c17
         have c17b1:decide (0 < l0_3.length)=true:=decide_eq_true (by omega)
         clear c17
         replace H:=Option.bind_eq_some_iff.mp H
         obtain ⟨t154,A180,H⟩:=H
         replace H:(if (a0_1++(⟨#[91]⟩:ByteArray)).size+t154.size≤9223372036854775807 then (if ((a0_1++(⟨#[91]⟩:ByteArray))++t154).size+1≤9223372036854775807 then (some (((a0_1++(⟨#[91]⟩:ByteArray))++t154)++(⟨#[93]⟩:ByteArray))) else (none)) else (none))=some r:=H
         have A18:=Aside0.mk A180
         clear A180
         by_cases c19:(a0_1++(⟨#[91]⟩:ByteArray)).size+t154.size≤9223372036854775807
         ·rw [if_pos c19] at H
          have c19b0:=eq_true c19
          have c19b1:decide ((a0_1++(⟨#[91]⟩:ByteArray)).size+t154.size≤9223372036854775807)=true:=decide_eq_true c19
          try have c19b2:(9223372036854775807 < (a0_1++(⟨#[91]⟩:ByteArray)).size+t154.size)=False:=eq_false (Nat.not_lt.2 c19)
          try have c19b3:(9223372036854775807 < a0_1.size+1+t154.size)=False:=by have h_:=c19b2;simp only [ByteArray.size_append] at h_;exact h_
          try have c19b4:(a0_1.size+1+t154.size≤9223372036854775807)=True:=by have h_:=c19b0;simp only [ByteArray.size_append] at h_;exact h_
          by_cases c20:((a0_1++(⟨#[91]⟩:ByteArray))++t154).size+1≤9223372036854775807
          ·rw [if_pos c20] at H
           have c20b0:=eq_true c20
           have c20b1:decide (((a0_1++(⟨#[91]⟩:ByteArray))++t154).size+1≤9223372036854775807)=true:=decide_eq_true c20
           try have c20b2:(9223372036854775807 < ((a0_1++(⟨#[91]⟩:ByteArray))++t154).size+1)=False:=eq_false (Nat.not_lt.2 c20)
           try have c20b3:(9223372036854775807 < a0_1.size+1+t154.size+1)=False:=by have h_:=c20b2;simp only [ByteArray.size_append] at h_;exact h_
           try have c20b4:(a0_1.size+1+t154.size+1≤9223372036854775807)=True:=by have h_:=c20b0;simp only [ByteArray.size_append] at h_;exact h_
           obtain rfl:=Option.some.inj H
           try go_wp2
           have n0_:=Aside0.mk (blk_drew BK151.out)
           have n1_:=Aside0.mk (below_drew1 HB.out)
           clear BK151
           clear HB
           have BK151:=n0_
           have HB:=n1_
           clear n0_ n1_
           have p153:0≤(0:Int):=(by omega)
           have q153:0 < (l0_3.length:Int):=of_decide_eq_true as_
           obtain ⟨ad153,A153_3,c153_3,e153,hx153_0,hx153_1,hx153_2,hx153_3,hx153_4,hl153_3,hi153_3⟩:=at_T24 HR0_3.out 0 p153 q153
           have hw153_4:=hx153_4
           (try rw [show ((0:Int)).toNat=0 from rfl] at hw153_4)
           (try rw [show 0 * 5=0 from rfl] at hw153_4)
           (try rw [Addr.add_zero'] at hw153_4)
           have hw153_3:=hx153_3
           (try rw [show ((0:Int)).toNat=0 from rfl] at hw153_3)
           (try rw [show 0 * 5=0 from rfl] at hw153_3)
           (try rw [Addr.add_zero'] at hw153_3)
           have hw153_2:=hx153_2
           (try rw [show ((0:Int)).toNat=0 from rfl] at hw153_2)
           (try rw [show 0 * 5=0 from rfl] at hw153_2)
           (try rw [Addr.add_zero'] at hw153_2)
           have hw153_1:=hx153_1
           (try rw [show ((0:Int)).toNat=0 from rfl] at hw153_1)
           (try rw [show 0 * 5=0 from rfl] at hw153_1)
           (try rw [Addr.add_zero'] at hw153_1)
           have hw153_0:=hx153_0
           (try rw [show ((0:Int)).toNat=0 from rfl] at hw153_0)
           (try rw [show 0 * 5=0 from rfl] at hw153_0)
           (try rw [Addr.add_zero'] at hw153_0)
           cases e153
           have qi153:(0 < l0_3.length)=True:=eq_true (by omega)
           (try rw [show ((0:Int)).toNat=0 from rfl] at hx153_0)
           (try rw [show 0 * 5=0 from rfl] at hx153_0)
           (try rw [Addr.add_zero'] at hx153_0)
           (try rw [show ((0:Int)).toNat=0 from rfl] at hx153_1)
           (try rw [show 0 * 5=0 from rfl] at hx153_1)
           (try rw [Addr.add_zero'] at hx153_1)
           (try rw [show ((0:Int)).toNat=0 from rfl] at hx153_2)
           (try rw [show 0 * 5=0 from rfl] at hx153_2)
           (try rw [Addr.add_zero'] at hx153_2)
           (try rw [show ((0:Int)).toNat=0 from rfl] at hx153_3)
           (try rw [show 0 * 5=0 from rfl] at hx153_3)
           (try rw [Addr.add_zero'] at hx153_3)
           (try rw [show ((0:Int)).toNat=0 from rfl] at hx153_4)
           (try rw [show 0 * 5=0 from rfl] at hx153_4)
           (try rw [Addr.add_zero'] at hx153_4)
           replace hx153_0:=(cb_ HB.out hx153_0:_)
           replace hx153_1:=(cb_ HB.out hx153_1:_)
           replace hx153_2:=(cb_ HB.out hx153_2:_)
           replace hx153_3:=(cb_ HB.out hx153_3:_)
           replace hx153_4:=(cb_ HB.out hx153_4:_)
           have HR153_3:=Aside0.mk hi153_3
           have HC153_3:=Aside0.mk hl153_3
           clear hi153_3 hl153_3
           replace p153:=eq_true p153
           replace q153:=eq_true q153
           refine start_ (n:=11) (S:=fun w'=>w'.cell? ⟨gb151,0,none⟩=some (.string a0_0)∧w'.cell? ⟨gb151,1,none⟩=some (.string a0_1)∧w'.cell? ⟨gb151,2,none⟩=some (.int .i64 a0_2)∧w'.cell? ⟨gb151,3,none⟩=some (.slice (some ad153) l0_3.length c0_3)∧w'.cell? ⟨gb151,4,none⟩=some (.int .i64 a0_4)∧w'.cell? ad153=some (.string ((rd_T24 l0_3 0).f0))∧w'.cell? ⟨ad153.block,ad153.off+1,none⟩=some (.string ((rd_T24 l0_3 0).f1))∧w'.cell? ⟨ad153.block,ad153.off+2,none⟩=some (.int .i64 ((rd_T24 l0_3 0).f2))∧w'.cell? ⟨ad153.block,ad153.off+3,none⟩=some (.slice A153_3 ((rd_T24 l0_3 0).f3).length c153_3)∧w'.cell? ⟨ad153.block,ad153.off+4,none⟩=some (.int .i64 ((rd_T24 l0_3 0).f4))) (ds:=[]) (flg 11 0) (by kernel_rfl) rfl (by kernel_rfl) ⟨zc_ BK151.out 0,zc_ BK151.out 1,zc_ BK151.out 2,zc_ BK151.out 3,zc_ BK151.out 4,((cb_ HB.out hw153_0:_)),((cb_ HB.out hw153_1:_)),((cb_ HB.out hw153_2:_)),((cb_ HB.out hw153_3:_)),((cb_ HB.out hw153_4:_))⟩ (fun hHeld=>?_);refine with_tabW helmsmanref12_Text.tab10 helmsmanref12_Text.bits10 (fun HT_ HW_=>?_)
           generalize wc.drew=w21 at BK151 HB HR153_3 hx153_0 hx153_1 hx153_2 hx153_3 hx153_4 hHeld ⊢
           refine pur_ 0 21 (flg 11 1) rfl rfl (any_of HT_.out (by kernel_rfl)) (fun _ _ _ h=>h) ?_
           refine pur_ 3 24 (flg 11 9) rfl rfl (any_of HT_.out (by kernel_rfl)) (fun _ _ _ h=>h) ?_
           refine tak_ 1 22 (flg 11 11) rfl rfl (take_ofW HT_.out HW_.out (by kernel_rfl)) (fun _ _ _ h=>h) hHeld ?_
           refine pur_ 2 23 (flg 11 15) rfl rfl (any_of HT_.out (by kernel_rfl)) (fun _ _ _ h=>h) ?_
           refine tak_ 4 25 (flg 11 31) rfl rfl (take_ofW HT_.out HW_.out (by kernel_rfl)) (fun _ _ _ h=>h) hHeld ?_
           refine pur_ 5 26 (flg 11 63) rfl rfl (any_of HT_.out (by kernel_rfl)) (fun _ _ _ h=>h) ?_
           refine tak_ 6 27 (flg 11 127) rfl rfl (take_ofW HT_.out HW_.out (by kernel_rfl)) (fun _ _ _ h=>h) hHeld ?_
           refine one_ (i:=7) (N:=some 28) (flg 11 255) rfl rfl (one_of HT_.out (by kernel_rfl)) (by decide) (fun K hK=>?_)
           refine goes_ Tryd.func13 (by kernel_rfl) rfl #[.agg #[.string ((rd_T24 l0_3 0).f0),.string ((rd_T24 l0_3 0).f1),.int .i64 ((rd_T24 l0_3 0).f2),.slice A153_3 ((rd_T24 l0_3 0).f3).length c153_3,.int .i64 ((rd_T24 l0_3 0).f4)]] (by rfl) rfl rfl ar_ ?_
           with_reducible refine (ih13 kj8 (by have:=HJ8.out;omega) ((rd_T24 l0_3 0).f0) ((rd_T24 l0_3 0).f1) ((rd_T24 l0_3 0).f2) _ _ ((rd_T24 l0_3 0).f3) ((rd_T24 l0_3 0).f4) t154 _ ?side1 ?side2 A18.out).mono ?_
           (case side1=>exact kc_ HR153_3.out HB.out)
           (case side2=>exact HC153_3.out)
           rintro e w22 ⟨rfl,hb⟩
           refine ⟨_,rfl,?_⟩
           have n0_:=Aside0.mk (bb_ BK151.out hb)
           have n1_:=Aside0.mk (below_step (bl_ HB.out) hb)
           clear BK151
           clear HB
           have BK151:=n0_
           have HB:=n1_
           clear n0_ n1_
           (try clear hb)
           (try clear hb2)
           (try clear hk)
           (try clear hi)
           refine hK.out _ _ ⟨zc_ BK151.out 0,zc_ BK151.out 1,zc_ BK151.out 2,zc_ BK151.out 3,zc_ BK151.out 4,((cb_ HB.out hw153_0:_)),((cb_ HB.out hw153_1:_)),((cb_ HB.out hw153_2:_)),((cb_ HB.out hw153_3:_)),((cb_ HB.out hw153_4:_))⟩ (fun hHeld=>?_)
           clear hK K
           refine norm_ (a':=?_) ?_ ?_
           rotate_left
           ·show Act.put _ (some 28) _=_
            simp only [Act.put,List.setIfInBounds_toArray,List.set_cons_zero,List.set_cons_succ,i64_w,i32_w]
            rfl
           refine pur_ 8 29 (flg 11 511) rfl rfl (any_of HT_.out (by kernel_rfl)) (fun _ _ _ h=>h) ?_
           refine pur_ 9 30 (flg 11 1023) rfl rfl (any_of HT_.out (by kernel_rfl)) (fun _ _ _ h=>h) ?_
           refine pur_ 10 2 (flg 11 2047) rfl rfl (any_of HT_.out (by kernel_rfl)) (fun _ _ _ h=>h) ?_
           refine done_ (done_of HT_.out (by kernel_rfl)) ?_
           try go_wp2
           go_ret
           exact ⟨rt_,bl_ HB.out⟩
          ·rw [if_neg c20] at H
           exact absurd H (by simp)
         ·rw [if_neg c19] at H
          exact absurd H (by simp)
        ·rw [if_neg c17] at H
         exact absurd H (by simp)
       ·rw [if_neg c16] at H
        exact absurd H (by simp)
      ·rw [if_neg c15] at H
       have c15b0:(a0_0.toList == ([97,116]:List UInt8))=false:=beq_eq_false_iff_ne.mpr c15
       have c15b1:(a0_0.toList != ([97,116]:List UInt8))=true:=bne_iff_ne.mpr c15
       by_cases c23:a0_0.toList=([110,101,103]:List UInt8)
       ·rw [if_pos c23] at H
        have c23b0:(a0_0.toList == ([110,101,103]:List UInt8))=true:=beq_iff_eq.mpr c23
        have c23b1:(a0_0.toList != ([110,101,103]:List UInt8))=false:=bne_eq_false_iff_eq.mpr c23
        clear c23
        by_cases c24:0 < (l0_3.length:Int)
        ·rw [if_pos c24] at H
         have c24b0:decide (0 < (l0_3.length:Int))=true:=decide_eq_true c24
         have c24b1:decide (0 < l0_3.length)=true:=decide_eq_true (by omega)
         clear c24
         replace H:=Option.bind_eq_some_iff.mp H
         obtain ⟨t156,A250,H⟩:=H
         replace H:(if 1+t156.size≤9223372036854775807 then (some ((⟨#[45]⟩:ByteArray)++t156)) else (none))=some r:=H
         have A25:=Aside0.mk A250
         clear A250
         by_cases c26:1+t156.size≤9223372036854775807
         ·rw [if_pos c26] at H
          have c26b0:=eq_true c26
          have c26b1:decide (1+t156.size≤9223372036854775807)=true:=decide_eq_true c26
          try have c26b2:(9223372036854775807 < 1+t156.size)=False:=eq_false (Nat.not_lt.2 c26)
          obtain rfl:=Option.some.inj H
          have hcz27_0:wc.cell? ⟨gb151,0,none⟩=some (.string a0_0):=zc_ BK151.out 0
          have hcz27_1:wc.cell? ⟨gb151,1,none⟩=some (.string a0_1):=zc_ BK151.out 1
          have hcz27_2:wc.cell? ⟨gb151,2,none⟩=some (.int .i64 a0_2):=zc_ BK151.out 2
          have hcz27_3:wc.cell? ⟨gb151,3,none⟩=some (.slice A0_3 l0_3.length c0_3):=zc_ BK151.out 3
          have hcz27_4:wc.cell? ⟨gb151,4,none⟩=some (.int .i64 a0_4):=zc_ BK151.out 4
          have hfz27_0:=blk_frozen BK151.out 0
          have hfz27_1:=blk_frozen BK151.out 1
          have hfz27_2:=blk_frozen BK151.out 2
          have hfz27_3:=blk_frozen BK151.out 3
          have hfz27_4:=blk_frozen BK151.out 4
          have p155:0≤(0:Int):=(by omega)
          have q155:0 < (l0_3.length:Int):=of_decide_eq_true as_
          obtain ⟨ad155,A155_3,c155_3,e155,hx155_0,hx155_1,hx155_2,hx155_3,hx155_4,hl155_3,hi155_3⟩:=at_T24 HR0_3.out 0 p155 q155
          cases e155
          have qi155:(0 < l0_3.length)=True:=eq_true (by omega)
          (try rw [show ((0:Int)).toNat=0 from rfl] at hx155_0)
          (try rw [show 0 * 5=0 from rfl] at hx155_0)
          (try rw [Addr.add_zero'] at hx155_0)
          (try rw [show ((0:Int)).toNat=0 from rfl] at hx155_1)
          (try rw [show 0 * 5=0 from rfl] at hx155_1)
          (try rw [Addr.add_zero'] at hx155_1)
          (try rw [show ((0:Int)).toNat=0 from rfl] at hx155_2)
          (try rw [show 0 * 5=0 from rfl] at hx155_2)
          (try rw [Addr.add_zero'] at hx155_2)
          (try rw [show ((0:Int)).toNat=0 from rfl] at hx155_3)
          (try rw [show 0 * 5=0 from rfl] at hx155_3)
          (try rw [Addr.add_zero'] at hx155_3)
          (try rw [show ((0:Int)).toNat=0 from rfl] at hx155_4)
          (try rw [show 0 * 5=0 from rfl] at hx155_4)
          (try rw [Addr.add_zero'] at hx155_4)
          replace hx155_0:=(cb_ HB.out hx155_0:_)
          replace hx155_1:=(cb_ HB.out hx155_1:_)
          replace hx155_2:=(cb_ HB.out hx155_2:_)
          replace hx155_3:=(cb_ HB.out hx155_3:_)
          replace hx155_4:=(cb_ HB.out hx155_4:_)
          have HR155_3:=Aside0.mk hi155_3
          have HC155_3:=Aside0.mk hl155_3
          clear hi155_3 hl155_3
          replace p155:=eq_true p155
          replace q155:=eq_true q155
          go_wp2_with (first|((with_reducible refine gate_callee (f:=35) rfl ?_);refine goesL_ (some 37) rfl rfl Tryd.func35 (by kernel_rfl) rfl #[.agg #[.string ((rd_T24 l0_3 0).f0),.string ((rd_T24 l0_3 0).f1),.int .i64 ((rd_T24 l0_3 0).f2),.slice A155_3 ((rd_T24 l0_3 0).f3).length c155_3,.int .i64 ((rd_T24 l0_3 0).f4)]] rfl ar_ ?_;(with_reducible refine (ih35 kj8 (by have:=HJ8.out;omega) ((rd_T24 l0_3 0).f0) ((rd_T24 l0_3 0).f1) ((rd_T24 l0_3 0).f2) _ _ ((rd_T24 l0_3 0).f3) ((rd_T24 l0_3 0).f4) t156 _ ?side1 ?side2 A25.out).mono ?_);(case side1=>exact kc_ HR155_3.out HB.out);(case side2=>exact HC155_3.out);rintro e w28 ⟨rfl,hb⟩;refine ⟨_,rfl,?_⟩;have n0_:=Aside0.mk (bb_ BK151.out hb);have n1_:=Aside0.mk (below_step (bl_ HB.out) hb);clear BK151;clear HB;have BK151:=n0_;have HB:=n1_;clear n0_ n1_;(try clear hb);(try clear hb2);(try clear hk);(try clear hi)))
          go_ret
          exact ⟨rt_,bl_ HB.out⟩
         ·rw [if_neg c26] at H
          exact absurd H (by simp)
        ·rw [if_neg c24] at H
         exact absurd H (by simp)
       ·rw [if_neg c23] at H
        have c23b0:(a0_0.toList == ([110,101,103]:List UInt8))=false:=beq_eq_false_iff_ne.mpr c23
        have c23b1:(a0_0.toList != ([110,101,103]:List UInt8))=true:=bne_iff_ne.mpr c23
        by_cases c29:a0_0.toList=([110,111,116]:List UInt8)
        ·rw [if_pos c29] at H
         have c29b0:(a0_0.toList == ([110,111,116]:List UInt8))=true:=beq_iff_eq.mpr c29
         have c29b1:(a0_0.toList != ([110,111,116]:List UInt8))=false:=bne_eq_false_iff_eq.mpr c29
         clear c29
         by_cases c30:0 < (l0_3.length:Int)
         ·rw [if_pos c30] at H
          have c30b0:decide (0 < (l0_3.length:Int))=true:=decide_eq_true c30
          have c30b1:decide (0 < l0_3.length)=true:=decide_eq_true (by omega)
          clear c30
          replace H:=Option.bind_eq_some_iff.mp H
          obtain ⟨t158,A310,H⟩:=H
          replace H:(if 1+t158.size≤9223372036854775807 then (some ((⟨#[33]⟩:ByteArray)++t158)) else (none))=some r:=H
          have A31:=Aside0.mk A310
          clear A310
          by_cases c32:1+t158.size≤9223372036854775807
          ·rw [if_pos c32] at H
           have c32b0:=eq_true c32
           have c32b1:decide (1+t158.size≤9223372036854775807)=true:=decide_eq_true c32
           try have c32b2:(9223372036854775807 < 1+t158.size)=False:=eq_false (Nat.not_lt.2 c32)
           obtain rfl:=Option.some.inj H
           have hcz33_0:wc.cell? ⟨gb151,0,none⟩=some (.string a0_0):=zc_ BK151.out 0
           have hcz33_1:wc.cell? ⟨gb151,1,none⟩=some (.string a0_1):=zc_ BK151.out 1
           have hcz33_2:wc.cell? ⟨gb151,2,none⟩=some (.int .i64 a0_2):=zc_ BK151.out 2
           have hcz33_3:wc.cell? ⟨gb151,3,none⟩=some (.slice A0_3 l0_3.length c0_3):=zc_ BK151.out 3
           have hcz33_4:wc.cell? ⟨gb151,4,none⟩=some (.int .i64 a0_4):=zc_ BK151.out 4
           have hfz33_0:=blk_frozen BK151.out 0
           have hfz33_1:=blk_frozen BK151.out 1
           have hfz33_2:=blk_frozen BK151.out 2
           have hfz33_3:=blk_frozen BK151.out 3
           have hfz33_4:=blk_frozen BK151.out 4
           have p157:0≤(0:Int):=(by omega)
           have q157:0 < (l0_3.length:Int):=of_decide_eq_true as_
           obtain ⟨ad157,A157_3,c157_3,e157,hx157_0,hx157_1,hx157_2,hx157_3,hx157_4,hl157_3,hi157_3⟩:=at_T24 HR0_3.out 0 p157 q157
           cases e157
           have qi157:(0 < l0_3.length)=True:=eq_true (by omega)
           (try rw [show ((0:Int)).toNat=0 from rfl] at hx157_0)
           (try rw [show 0 * 5=0 from rfl] at hx157_0)
           (try rw [Addr.add_zero'] at hx157_0)
           (try rw [show ((0:Int)).toNat=0 from rfl] at hx157_1)
           (try rw [show 0 * 5=0 from rfl] at hx157_1)
           (try rw [Addr.add_zero'] at hx157_1)
           (try rw [show ((0:Int)).toNat=0 from rfl] at hx157_2)
           (try rw [show 0 * 5=0 from rfl] at hx157_2)
           (try rw [Addr.add_zero'] at hx157_2)
           (try rw [show ((0:Int)).toNat=0 from rfl] at hx157_3)
           (try rw [show 0 * 5=0 from rfl] at hx157_3)
           (try rw [Addr.add_zero'] at hx157_3)
           (try rw [show ((0:Int)).toNat=0 from rfl] at hx157_4)
           (try rw [show 0 * 5=0 from rfl] at hx157_4)
           (try rw [Addr.add_zero'] at hx157_4)
           replace hx157_0:=(cb_ HB.out hx157_0:_)
           replace hx157_1:=(cb_ HB.out hx157_1:_)
           replace hx157_2:=(cb_ HB.out hx157_2:_)
           replace hx157_3:=(cb_ HB.out hx157_3:_)
           replace hx157_4:=(cb_ HB.out hx157_4:_)
           have HR157_3:=Aside0.mk hi157_3
           have HC157_3:=Aside0.mk hl157_3
           clear hi157_3 hl157_3
           replace p157:=eq_true p157
           replace q157:=eq_true q157
           go_wp2_with (first|((with_reducible refine gate_callee (f:=35) rfl ?_);refine goesL_ (some 45) rfl rfl Tryd.func35 (by kernel_rfl) rfl #[.agg #[.string ((rd_T24 l0_3 0).f0),.string ((rd_T24 l0_3 0).f1),.int .i64 ((rd_T24 l0_3 0).f2),.slice A157_3 ((rd_T24 l0_3 0).f3).length c157_3,.int .i64 ((rd_T24 l0_3 0).f4)]] rfl ar_ ?_;(with_reducible refine (ih35 kj8 (by have:=HJ8.out;omega) ((rd_T24 l0_3 0).f0) ((rd_T24 l0_3 0).f1) ((rd_T24 l0_3 0).f2) _ _ ((rd_T24 l0_3 0).f3) ((rd_T24 l0_3 0).f4) t158 _ ?side1 ?side2 A31.out).mono ?_);(case side1=>exact kc_ HR157_3.out HB.out);(case side2=>exact HC157_3.out);rintro e w34 ⟨rfl,hb⟩;refine ⟨_,rfl,?_⟩;have n0_:=Aside0.mk (bb_ BK151.out hb);have n1_:=Aside0.mk (below_step (bl_ HB.out) hb);clear BK151;clear HB;have BK151:=n0_;have HB:=n1_;clear n0_ n1_;(try clear hb);(try clear hb2);(try clear hk);(try clear hi)))
           go_ret
           exact ⟨rt_,bl_ HB.out⟩
          ·rw [if_neg c32] at H
           exact absurd H (by simp)
         ·rw [if_neg c30] at H
          exact absurd H (by simp)
        ·rw [if_neg c29] at H
         have c29b0:(a0_0.toList == ([110,111,116]:List UInt8))=false:=beq_eq_false_iff_ne.mpr c29
         have c29b1:(a0_0.toList != ([110,111,116]:List UInt8))=true:=bne_iff_ne.mpr c29
         by_cases c35:0 < (l0_3.length:Int)
         ·rw [if_pos c35] at H
          have c35b0:decide (0 < (l0_3.length:Int))=true:=decide_eq_true c35
          have c35b1:decide (0 < l0_3.length)=true:=decide_eq_true (by omega)
          clear c35
          replace H:=Option.bind_eq_some_iff.mp H
          obtain ⟨t160,A360,H⟩:=H
          replace H:(if t160.size+1≤9223372036854775807 then (if (t160++(⟨#[32]⟩:ByteArray)).size+a0_0.size≤9223372036854775807 then (if ((t160++(⟨#[32]⟩:ByteArray))++a0_0).size+1≤9223372036854775807 then (if 1 < (l0_3.length:Int) then ((helmsmanref12_closed.f kj8 ((rd_T24 l0_3 1).f0) ((rd_T24 l0_3 1).f1) ((rd_T24 l0_3 1).f2) ((rd_T24 l0_3 1).f3) ((rd_T24 l0_3 1).f4)).bind fun t162=>(if (((t160++(⟨#[32]⟩:ByteArray))++a0_0)++(⟨#[32]⟩:ByteArray)).size+t162.size≤9223372036854775807 then (some ((((t160++(⟨#[32]⟩:ByteArray))++a0_0)++(⟨#[32]⟩:ByteArray))++t162)) else (none))) else (none)) else (none)) else (none)) else (none))=some r:=H
          have A36:=Aside0.mk A360
          clear A360
          by_cases c37:t160.size+1≤9223372036854775807
          ·rw [if_pos c37] at H
           have c37b0:=eq_true c37
           have c37b1:decide (t160.size+1≤9223372036854775807)=true:=decide_eq_true c37
           try have c37b2:(9223372036854775807 < t160.size+1)=False:=eq_false (Nat.not_lt.2 c37)
           by_cases c38:(t160++(⟨#[32]⟩:ByteArray)).size+a0_0.size≤9223372036854775807
           ·rw [if_pos c38] at H
            have c38b0:=eq_true c38
            have c38b1:decide ((t160++(⟨#[32]⟩:ByteArray)).size+a0_0.size≤9223372036854775807)=true:=decide_eq_true c38
            try have c38b2:(9223372036854775807 < (t160++(⟨#[32]⟩:ByteArray)).size+a0_0.size)=False:=eq_false (Nat.not_lt.2 c38)
            try have c38b3:(9223372036854775807 < t160.size+1+a0_0.size)=False:=by have h_:=c38b2;simp only [ByteArray.size_append] at h_;exact h_
            try have c38b4:(t160.size+1+a0_0.size≤9223372036854775807)=True:=by have h_:=c38b0;simp only [ByteArray.size_append] at h_;exact h_
            by_cases c39:((t160++(⟨#[32]⟩:ByteArray))++a0_0).size+1≤9223372036854775807
            ·rw [if_pos c39] at H
             have c39b0:=eq_true c39
             have c39b1:decide (((t160++(⟨#[32]⟩:ByteArray))++a0_0).size+1≤9223372036854775807)=true:=decide_eq_true c39
             try have c39b2:(9223372036854775807 < ((t160++(⟨#[32]⟩:ByteArray))++a0_0).size+1)=False:=eq_false (Nat.not_lt.2 c39)
             try have c39b3:(9223372036854775807 < t160.size+1+a0_0.size+1)=False:=by have h_:=c39b2;simp only [ByteArray.size_append] at h_;exact h_
             try have c39b4:(t160.size+1+a0_0.size+1≤9223372036854775807)=True:=by have h_:=c39b0;simp only [ByteArray.size_append] at h_;exact h_
             by_cases c40:1 < (l0_3.length:Int)
             ·rw [if_pos c40] at H
              have c40b0:decide (1 < (l0_3.length:Int))=true:=decide_eq_true c40
              have c40b1:decide (1 < l0_3.length)=true:=decide_eq_true (by omega)
              clear c40
              replace H:=Option.bind_eq_some_iff.mp H
              obtain ⟨t162,A410,H⟩:=H
              replace H:(if (((t160++(⟨#[32]⟩:ByteArray))++a0_0)++(⟨#[32]⟩:ByteArray)).size+t162.size≤9223372036854775807 then (some ((((t160++(⟨#[32]⟩:ByteArray))++a0_0)++(⟨#[32]⟩:ByteArray))++t162)) else (none))=some r:=H
              have A41:=Aside0.mk A410
              clear A410
              by_cases c42:(((t160++(⟨#[32]⟩:ByteArray))++a0_0)++(⟨#[32]⟩:ByteArray)).size+t162.size≤9223372036854775807
              ·rw [if_pos c42] at H
               have c42b0:=eq_true c42
               have c42b1:decide ((((t160++(⟨#[32]⟩:ByteArray))++a0_0)++(⟨#[32]⟩:ByteArray)).size+t162.size≤9223372036854775807)=true:=decide_eq_true c42
               try have c42b2:(9223372036854775807 < (((t160++(⟨#[32]⟩:ByteArray))++a0_0)++(⟨#[32]⟩:ByteArray)).size+t162.size)=False:=eq_false (Nat.not_lt.2 c42)
               try have c42b3:(9223372036854775807 < t160.size+1+a0_0.size+1+t162.size)=False:=by have h_:=c42b2;simp only [ByteArray.size_append] at h_;exact h_
               try have c42b4:(t160.size+1+a0_0.size+1+t162.size≤9223372036854775807)=True:=by have h_:=c42b0;simp only [ByteArray.size_append] at h_;exact h_
               obtain rfl:=Option.some.inj H
               try go_wp2
               have n0_:=Aside0.mk (blk_drew BK151.out)
               have n1_:=Aside0.mk (below_drew1 HB.out)
               clear BK151
               clear HB
               have BK151:=n0_
               have HB:=n1_
               clear n0_ n1_
               have p159:0≤(0:Int):=(by omega)
               have q159:0 < (l0_3.length:Int):=of_decide_eq_true as_
               obtain ⟨ad159,A159_3,c159_3,e159,hx159_0,hx159_1,hx159_2,hx159_3,hx159_4,hl159_3,hi159_3⟩:=at_T24 HR0_3.out 0 p159 q159
               have hw159_4:=hx159_4
               (try rw [show ((0:Int)).toNat=0 from rfl] at hw159_4)
               (try rw [show 0 * 5=0 from rfl] at hw159_4)
               (try rw [Addr.add_zero'] at hw159_4)
               have hw159_3:=hx159_3
               (try rw [show ((0:Int)).toNat=0 from rfl] at hw159_3)
               (try rw [show 0 * 5=0 from rfl] at hw159_3)
               (try rw [Addr.add_zero'] at hw159_3)
               have hw159_2:=hx159_2
               (try rw [show ((0:Int)).toNat=0 from rfl] at hw159_2)
               (try rw [show 0 * 5=0 from rfl] at hw159_2)
               (try rw [Addr.add_zero'] at hw159_2)
               have hw159_1:=hx159_1
               (try rw [show ((0:Int)).toNat=0 from rfl] at hw159_1)
               (try rw [show 0 * 5=0 from rfl] at hw159_1)
               (try rw [Addr.add_zero'] at hw159_1)
               have hw159_0:=hx159_0
               (try rw [show ((0:Int)).toNat=0 from rfl] at hw159_0)
               (try rw [show 0 * 5=0 from rfl] at hw159_0)
               (try rw [Addr.add_zero'] at hw159_0)
               cases e159
               have qi159:(0 < l0_3.length)=True:=eq_true (by omega)
               (try rw [show ((0:Int)).toNat=0 from rfl] at hx159_0)
               (try rw [show 0 * 5=0 from rfl] at hx159_0)
               (try rw [Addr.add_zero'] at hx159_0)
               (try rw [show ((0:Int)).toNat=0 from rfl] at hx159_1)
               (try rw [show 0 * 5=0 from rfl] at hx159_1)
               (try rw [Addr.add_zero'] at hx159_1)
               (try rw [show ((0:Int)).toNat=0 from rfl] at hx159_2)
               (try rw [show 0 * 5=0 from rfl] at hx159_2)
               (try rw [Addr.add_zero'] at hx159_2)
               (try rw [show ((0:Int)).toNat=0 from rfl] at hx159_3)
               (try rw [show 0 * 5=0 from rfl] at hx159_3)
               (try rw [Addr.add_zero'] at hx159_3)
               (try rw [show ((0:Int)).toNat=0 from rfl] at hx159_4)
               (try rw [show 0 * 5=0 from rfl] at hx159_4)
               (try rw [Addr.add_zero'] at hx159_4)
               replace hx159_0:=(cb_ HB.out hx159_0:_)
               replace hx159_1:=(cb_ HB.out hx159_1:_)
               replace hx159_2:=(cb_ HB.out hx159_2:_)
               replace hx159_3:=(cb_ HB.out hx159_3:_)
               replace hx159_4:=(cb_ HB.out hx159_4:_)
               have HR159_3:=Aside0.mk hi159_3
               have HC159_3:=Aside0.mk hl159_3
               clear hi159_3 hl159_3
               replace p159:=eq_true p159
               replace q159:=eq_true q159
               have p161:0≤(1:Int):=(by omega)
               have q161:1 < (l0_3.length:Int):=of_decide_eq_true as_
               obtain ⟨ad161,A161_3,c161_3,e161,hx161_0,hx161_1,hx161_2,hx161_3,hx161_4,hl161_3,hi161_3⟩:=at_T24 HR0_3.out 1 p161 q161
               have hw161_4:=hx161_4
               (try rw [show ((1:Int)).toNat=1 from rfl] at hw161_4)
               (try rw [show 1 * 5=5 from rfl] at hw161_4)
               (try simp only [Nat.reduceMul,Nat.reduceEqDiff,Go.Addr.add,↓reduceIte] at hw161_4)
               have hw161_3:=hx161_3
               (try rw [show ((1:Int)).toNat=1 from rfl] at hw161_3)
               (try rw [show 1 * 5=5 from rfl] at hw161_3)
               (try simp only [Nat.reduceMul,Nat.reduceEqDiff,Go.Addr.add,↓reduceIte] at hw161_3)
               have hw161_2:=hx161_2
               (try rw [show ((1:Int)).toNat=1 from rfl] at hw161_2)
               (try rw [show 1 * 5=5 from rfl] at hw161_2)
               (try simp only [Nat.reduceMul,Nat.reduceEqDiff,Go.Addr.add,↓reduceIte] at hw161_2)
               have hw161_1:=hx161_1
               (try rw [show ((1:Int)).toNat=1 from rfl] at hw161_1)
               (try rw [show 1 * 5=5 from rfl] at hw161_1)
               (try simp only [Nat.reduceMul,Nat.reduceEqDiff,Go.Addr.add,↓reduceIte] at hw161_1)
               have hw161_0:=hx161_0
               (try rw [show ((1:Int)).toNat=1 from rfl] at hw161_0)
               (try rw [show 1 * 5=5 from rfl] at hw161_0)
               (try simp only [Nat.reduceMul,Nat.reduceEqDiff,Go.Addr.add,↓reduceIte] at hw161_0)
               obtain rfl:ad159=ad161:=(by injection e161)
               (try simp only [show (1:Int).toNat=1 from rfl,Nat.reduceMul,Nat.reduceEqDiff,Go.Addr.add,↓reduceIte] at hx161_0)
               (try simp only [show (1:Int).toNat=1 from rfl,Nat.reduceMul,Nat.reduceEqDiff,Go.Addr.add,↓reduceIte] at hx161_1)
               (try simp only [show (1:Int).toNat=1 from rfl,Nat.reduceMul,Nat.reduceEqDiff,Go.Addr.add,↓reduceIte] at hx161_2)
               (try simp only [show (1:Int).toNat=1 from rfl,Nat.reduceMul,Nat.reduceEqDiff,Go.Addr.add,↓reduceIte] at hx161_3)
               (try simp only [show (1:Int).toNat=1 from rfl,Nat.reduceMul,Nat.reduceEqDiff,Go.Addr.add,↓reduceIte] at hx161_4)
               have qi161:(1 < l0_3.length)=True:=eq_true (by omega)
               (try rw [show ((1:Int)).toNat=1 from rfl] at hx161_0)
               (try rw [show 1 * 5=5 from rfl] at hx161_0)
               (try rw [show ((1:Int)).toNat=1 from rfl] at hx161_1)
               (try rw [show 1 * 5=5 from rfl] at hx161_1)
               (try rw [show ((1:Int)).toNat=1 from rfl] at hx161_2)
               (try rw [show 1 * 5=5 from rfl] at hx161_2)
               (try rw [show ((1:Int)).toNat=1 from rfl] at hx161_3)
               (try rw [show 1 * 5=5 from rfl] at hx161_3)
               (try rw [show ((1:Int)).toNat=1 from rfl] at hx161_4)
               (try rw [show 1 * 5=5 from rfl] at hx161_4)
               replace hx161_0:=(cb_ HB.out hx161_0:_)
               replace hx161_1:=(cb_ HB.out hx161_1:_)
               replace hx161_2:=(cb_ HB.out hx161_2:_)
               replace hx161_3:=(cb_ HB.out hx161_3:_)
               replace hx161_4:=(cb_ HB.out hx161_4:_)
               have HR161_3:=Aside0.mk hi161_3
               have HC161_3:=Aside0.mk hl161_3
               clear hi161_3 hl161_3
               replace p161:=eq_true p161
               replace q161:=eq_true q161
               refine start_ (n:=17) (S:=fun w'=>w'.cell? ⟨gb151,0,none⟩=some (.string a0_0)∧w'.cell? ⟨gb151,1,none⟩=some (.string a0_1)∧w'.cell? ⟨gb151,2,none⟩=some (.int .i64 a0_2)∧w'.cell? ⟨gb151,3,none⟩=some (.slice (some ad159) l0_3.length c0_3)∧w'.cell? ⟨gb151,4,none⟩=some (.int .i64 a0_4)∧w'.cell? ad159=some (.string ((rd_T24 l0_3 0).f0))∧w'.cell? ⟨ad159.block,ad159.off+1,none⟩=some (.string ((rd_T24 l0_3 0).f1))∧w'.cell? ⟨ad159.block,ad159.off+2,none⟩=some (.int .i64 ((rd_T24 l0_3 0).f2))∧w'.cell? ⟨ad159.block,ad159.off+3,none⟩=some (.slice A159_3 ((rd_T24 l0_3 0).f3).length c159_3)∧w'.cell? ⟨ad159.block,ad159.off+4,none⟩=some (.int .i64 ((rd_T24 l0_3 0).f4))∧w'.cell? ⟨ad159.block,ad159.off+5,none⟩=some (.string ((rd_T24 l0_3 1).f0))∧w'.cell? ⟨ad159.block,ad159.off+5+1,none⟩=some (.string ((rd_T24 l0_3 1).f1))∧w'.cell? ⟨ad159.block,ad159.off+5+2,none⟩=some (.int .i64 ((rd_T24 l0_3 1).f2))∧w'.cell? ⟨ad159.block,ad159.off+5+3,none⟩=some (.slice A161_3 ((rd_T24 l0_3 1).f3).length c161_3)∧w'.cell? ⟨ad159.block,ad159.off+5+4,none⟩=some (.int .i64 ((rd_T24 l0_3 1).f4))) (ds:=[]) (flg 17 0) (by kernel_rfl) rfl (by kernel_rfl) ⟨zc_ BK151.out 0,zc_ BK151.out 1,zc_ BK151.out 2,zc_ BK151.out 3,zc_ BK151.out 4,((cb_ HB.out hw159_0:_)),((cb_ HB.out hw159_1:_)),((cb_ HB.out hw159_2:_)),((cb_ HB.out hw159_3:_)),((cb_ HB.out hw159_4:_)),((cb_ HB.out hw161_0:_)),((cb_ HB.out hw161_1:_)),((cb_ HB.out hw161_2:_)),((cb_ HB.out hw161_3:_)),((cb_ HB.out hw161_4:_))⟩ (fun hHeld=>?_);refine with_tabW helmsmanref12_Text.tab15 helmsmanref12_Text.bits15 (fun HT_ HW_=>?_)
               generalize wc.drew=w43 at BK151 HB HR159_3 HR161_3 hx159_0 hx159_1 hx159_2 hx159_3 hx159_4 hx161_0 hx161_1 hx161_2 hx161_3 hx161_4 hHeld ⊢
               refine pur_ 0 47 (flg 17 1) rfl rfl (any_of HT_.out (by kernel_rfl)) (fun _ _ _ h=>h) ?_
               refine pur_ 6 53 (flg 17 65) rfl rfl (any_of HT_.out (by kernel_rfl)) (fun _ _ _ h=>h) ?_
               refine pur_ 10 57 (flg 17 1089) rfl rfl (any_of HT_.out (by kernel_rfl)) (fun _ _ _ h=>h) ?_
               refine tak_ 1 48 (flg 17 1091) rfl rfl (take_ofW HT_.out HW_.out (by kernel_rfl)) (fun _ _ _ h=>h) hHeld ?_
               refine pur_ 2 49 (flg 17 1095) rfl rfl (any_of HT_.out (by kernel_rfl)) (fun _ _ _ h=>h) ?_
               refine tak_ 3 50 (flg 17 1103) rfl rfl (take_ofW HT_.out HW_.out (by kernel_rfl)) (fun _ _ _ h=>h) hHeld ?_
               refine tak_ 7 54 (flg 17 1231) rfl rfl (take_ofW HT_.out HW_.out (by kernel_rfl)) (fun _ _ _ h=>h) hHeld ?_
               refine tak_ 11 58 (flg 17 3279) rfl rfl (take_ofW HT_.out HW_.out (by kernel_rfl)) (fun _ _ _ h=>h) hHeld ?_
               refine pur_ 12 59 (flg 17 7375) rfl rfl (any_of HT_.out (by kernel_rfl)) (fun _ _ _ h=>h) ?_
               refine tak_ 13 60 (flg 17 15567) rfl rfl (take_ofW HT_.out HW_.out (by kernel_rfl)) (fun _ _ _ h=>h) hHeld ?_
               refine one_ (i:=4) (N:=some 51) (flg 17 15583) rfl rfl (one_of HT_.out (by kernel_rfl)) (by decide) (fun K hK=>?_)
               refine goes_ Tryd.func35 (by kernel_rfl) rfl #[.agg #[.string ((rd_T24 l0_3 0).f0),.string ((rd_T24 l0_3 0).f1),.int .i64 ((rd_T24 l0_3 0).f2),.slice A159_3 ((rd_T24 l0_3 0).f3).length c159_3,.int .i64 ((rd_T24 l0_3 0).f4)]] (by rfl) rfl rfl ar_ ?_
               with_reducible refine (ih35 kj8 (by have:=HJ8.out;omega) ((rd_T24 l0_3 0).f0) ((rd_T24 l0_3 0).f1) ((rd_T24 l0_3 0).f2) _ _ ((rd_T24 l0_3 0).f3) ((rd_T24 l0_3 0).f4) t160 _ ?side1 ?side2 A36.out).mono ?_
               (case side1=>exact kc_ HR159_3.out HB.out)
               (case side2=>exact HC159_3.out)
               rintro e w44 ⟨rfl,hb⟩
               refine ⟨_,rfl,?_⟩
               have n0_:=Aside0.mk (bb_ BK151.out hb)
               have n1_:=Aside0.mk (below_step (bl_ HB.out) hb)
               clear BK151
               clear HB
               have BK151:=n0_
               have HB:=n1_
               clear n0_ n1_
               (try clear hb)
               (try clear hb2)
               (try clear hk)
               (try clear hi)
               refine hK.out _ _ ⟨zc_ BK151.out 0,zc_ BK151.out 1,zc_ BK151.out 2,zc_ BK151.out 3,zc_ BK151.out 4,((cb_ HB.out hw159_0:_)),((cb_ HB.out hw159_1:_)),((cb_ HB.out hw159_2:_)),((cb_ HB.out hw159_3:_)),((cb_ HB.out hw159_4:_)),((cb_ HB.out hw161_0:_)),((cb_ HB.out hw161_1:_)),((cb_ HB.out hw161_2:_)),((cb_ HB.out hw161_3:_)),((cb_ HB.out hw161_4:_))⟩ (fun hHeld=>?_)
               clear hK K
               refine norm_ (a':=?_) ?_ ?_
               rotate_left
               ·show Act.put _ (some 51) _=_
                simp only [Act.put,List.setIfInBounds_toArray,List.set_cons_zero,List.set_cons_succ,i64_w,i32_w]
                rfl
               refine pur_ 5 52 (flg 17 15615) rfl rfl (any_of HT_.out (by kernel_rfl)) (fun _ _ _ h=>h) ?_
               refine pur_ 8 55 (flg 17 15871) rfl rfl (any_of HT_.out (by kernel_rfl)) (fun _ _ _ h=>h) ?_
               refine pur_ 9 56 (flg 17 16383) rfl rfl (any_of HT_.out (by kernel_rfl)) (fun _ _ _ h=>h) ?_
               refine one_ (i:=14) (N:=some 61) (flg 17 32767) rfl rfl (one_of HT_.out (by kernel_rfl)) (by decide) (fun K hK=>?_)
               refine goes_ Tryd.func35 (by kernel_rfl) rfl #[.agg #[.string ((rd_T24 l0_3 1).f0),.string ((rd_T24 l0_3 1).f1),.int .i64 ((rd_T24 l0_3 1).f2),.slice A161_3 ((rd_T24 l0_3 1).f3).length c161_3,.int .i64 ((rd_T24 l0_3 1).f4)]] (by rfl) rfl rfl ar_ ?_
               with_reducible refine (ih35 kj8 (by have:=HJ8.out;omega) ((rd_T24 l0_3 1).f0) ((rd_T24 l0_3 1).f1) ((rd_T24 l0_3 1).f2) _ _ ((rd_T24 l0_3 1).f3) ((rd_T24 l0_3 1).f4) t162 _ ?side1 ?side2 A41.out).mono ?_
               (case side1=>exact kc_ HR161_3.out HB.out)
               (case side2=>exact HC161_3.out)
               rintro e w45 ⟨rfl,hb⟩
               refine ⟨_,rfl,?_⟩
               have n0_:=Aside0.mk (bb_ BK151.out hb)
               have n1_:=Aside0.mk (below_step (bl_ HB.out) hb)
               clear BK151
               clear HB
               have BK151:=n0_
               have HB:=n1_
               clear n0_ n1_
               (try clear hb)
               (try clear hb2)
               (try clear hk)
               (try clear hi)
               refine hK.out _ _ ⟨zc_ BK151.out 0,zc_ BK151.out 1,zc_ BK151.out 2,zc_ BK151.out 3,zc_ BK151.out 4,((cb_ HB.out hw159_0:_)),((cb_ HB.out hw159_1:_)),((cb_ HB.out hw159_2:_)),((cb_ HB.out hw159_3:_)),((cb_ HB.out hw159_4:_)),((cb_ HB.out hw161_0:_)),((cb_ HB.out hw161_1:_)),((cb_ HB.out hw161_2:_)),((cb_ HB.out hw161_3:_)),((cb_ HB.out hw161_4:_))⟩ (fun hHeld=>?_)
               clear hK K
               refine norm_ (a':=?_) ?_ ?_
               rotate_left
               ·show Act.put _ (some 61) _=_
                simp only [Act.put,List.setIfInBounds_toArray,List.set_cons_zero,List.set_cons_succ,i64_w,i32_w]
                rfl
               refine pur_ 15 62 (flg 17 65535) rfl rfl (any_of HT_.out (by kernel_rfl)) (fun _ _ _ h=>h) ?_
               refine pur_ 16 2 (flg 17 131071) rfl rfl (any_of HT_.out (by kernel_rfl)) (fun _ _ _ h=>h) ?_
               refine done_ (done_of HT_.out (by kernel_rfl)) ?_
               try go_wp2
               go_ret
               exact ⟨rt_,bl_ HB.out⟩
              ·rw [if_neg c42] at H
               exact absurd H (by simp)
             ·rw [if_neg c40] at H
              exact absurd H (by simp)
            ·rw [if_neg c39] at H
             exact absurd H (by simp)
           ·rw [if_neg c38] at H
            exact absurd H (by simp)
          ·rw [if_neg c37] at H
           exact absurd H (by simp)
         ·rw [if_neg c35] at H
          exact absurd H (by simp)
end Go.Proofs.YtnnbbeloifhofaaDoor.P
end
section
namespace Go.Proofs.YtnnbbeloifhofaaDoor.P
open Go.RowKit Go.Proofs.YtnnbbeloifhofaaDoorW.PrintWords Go.Proofs.YtnnbbeloifhofaaDoorW.PrintLast Go.Proofs.YtnnbbeloifhofaaDoorW.PrintMore
attribute [local go_sem] max2_int min2_int max_two min_two max_three min_three max_four min_four
set_option linter.unusedVariables false
set_option linter.unusedSimpArgs false
set_option maxHeartbeats 8000000 in
set_option maxRecDepth 100000 in
theorem helmsmanref12_closed.step (k:Nat) (ih13 : ∀ m_,m_ < k→helmsmanref12_Text.Stmt m_) (ih35 : ∀ m_,m_ < k→helmsmanref12_closed.Stmt m_):helmsmanref12_closed.Stmt k:=by
 intro a0_0 a0_1 a0_2 A0_3 c0_3 l0_3 a0_4 r w hr0_3 hc0_3 h
 cases k with
 | zero=>exact absurd h (by simp [helmsmanref12_closed.f])
 | succ k=>
 simp only [helmsmanref12_closed.f] at h
 have hu24:=Tryd.underlying24
 have HR0_3:=Aside0.mk hr0_3
 have HC0_3:=Aside0.mk hc0_3
 clear hr0_3 hc0_3
 have HB:=Aside0.mk (Below.refl w.heap.size w)
 have H:((helmsmanref12_simple.f a0_0 a0_1 a0_2 l0_3 a0_4).bind fun t164=>(if t164=true then ((helmsmanref12_Text.f k a0_0 a0_1 a0_2 l0_3 a0_4).bind fun t165=>(some t165)) else ((helmsmanref12_Text.f k a0_0 a0_1 a0_2 l0_3 a0_4).bind fun t166=>(if 1+t166.size≤9223372036854775807 then (if ((⟨#[40]⟩:ByteArray)++t166).size+1≤9223372036854775807 then (some (((⟨#[40]⟩:ByteArray)++t166)++(⟨#[41]⟩:ByteArray))) else (none)) else (none)))))=some r:=h
 clear h
 replace H:=Option.bind_eq_some_iff.mp H
 obtain ⟨t164,A20,H⟩:=H
 replace H:(if t164=true then ((helmsmanref12_Text.f k a0_0 a0_1 a0_2 l0_3 a0_4).bind fun t165=>(some t165)) else ((helmsmanref12_Text.f k a0_0 a0_1 a0_2 l0_3 a0_4).bind fun t166=>(if 1+t166.size≤9223372036854775807 then (if ((⟨#[40]⟩:ByteArray)++t166).size+1≤9223372036854775807 then (some (((⟨#[40]⟩:ByteArray)++t166)++(⟨#[41]⟩:ByteArray))) else (none)) else (none))))=some r:=H
 have A2:=Aside0.mk A20
 clear A20
 by_cases c3:t164=true
 ·subst c3
  have H1:((helmsmanref12_Text.f k a0_0 a0_1 a0_2 l0_3 a0_4).bind fun t165=>(some t165))=some r:=by rw [if_pos rfl] at H;exact H
  clear H
  have H:=H1
  clear H1
  replace H:=Option.bind_eq_some_iff.mp H
  obtain ⟨t165,A40,H⟩:=H
  replace H:(some t165)=some r:=H
  have A4:=Aside0.mk A40
  clear A40
  obtain rfl:=Option.some.inj H
  go_enter Tryd.func35,Tryd.ntmps35
  go_wp2_with (first|((with_reducible refine gate_dst (N:=1) rfl ?_);refine box_event ?hg (N:=1) ?hd (cs:=#[.string a0_0,.string a0_1,.int .i64 a0_2,.slice A0_3 l0_3.length c0_3,.int .i64 a0_4]) (t:=24) ?hr ?_;(case hd=>rfl);(case hg=>rfl);(case hr=>first|(go_simp;done)|(go_simp;rfl));intro gb163 hg w5 hbox hb;have n0_:=Aside0.mk (below_step (bl_ HB.out) hb);have n1_:=Aside0.mk (hbox);have n2_:=Aside0.mk ((gs_ hg (bl_ HB.out):w.heap.size≤gb163));have n3_:=Aside0.mk ((gs_ hg (bl_ HB.out):w.heap.size≤gb163));clear HB;have HB:=n0_;have BK163:=n1_;have GW163:=n2_;have GE163:=n3_;clear n0_ n1_ n2_ n3_;clear hb hbox hg;have hcz6_0:w5.cell? ⟨gb163,0,none⟩=some (.string a0_0):=zc_ BK163.out 0;have hcz6_1:w5.cell? ⟨gb163,1,none⟩=some (.string a0_1):=zc_ BK163.out 1;have hcz6_2:w5.cell? ⟨gb163,2,none⟩=some (.int .i64 a0_2):=zc_ BK163.out 2;have hcz6_3:w5.cell? ⟨gb163,3,none⟩=some (.slice A0_3 l0_3.length c0_3):=zc_ BK163.out 3;have hcz6_4:w5.cell? ⟨gb163,4,none⟩=some (.int .i64 a0_4):=zc_ BK163.out 4;have hfz6_0:=blk_frozen BK163.out 0;have hfz6_1:=blk_frozen BK163.out 1;have hfz6_2:=blk_frozen BK163.out 2;have hfz6_3:=blk_frozen BK163.out 3;have hfz6_4:=blk_frozen BK163.out 4)|((with_reducible refine gate_callee (f:=56) rfl ?_);refine goesL_ (some 4) rfl rfl Tryd.func56 (by kernel_rfl) rfl #[.agg #[.string a0_0,.string a0_1,.int .i64 a0_2,.slice A0_3 l0_3.length c0_3,.int .i64 a0_4]] rfl ar_ ?_;(with_reducible refine (helmsmanref12_simple.calls a0_0 a0_1 a0_2 _ _ l0_3 a0_4 true _ ?side1 ?side2 A2.out).mono ?_);(case side1=>exact kc_ HR0_3.out HB.out);(case side2=>exact HC0_3.out);rintro e w7 ⟨rfl,hb⟩;refine ⟨_,rfl,?_⟩;have n0_:=Aside0.mk (bb_ BK163.out hb);have n1_:=Aside0.mk (below_step (bl_ HB.out) hb);clear BK163;clear HB;have BK163:=n0_;have HB:=n1_;clear n0_ n1_;(try clear hb);(try clear hb2);(try clear hk);(try clear hi);have hcz8_0:w7.cell? ⟨gb163,0,none⟩=some (.string a0_0):=zc_ BK163.out 0;have hcz8_1:w7.cell? ⟨gb163,1,none⟩=some (.string a0_1):=zc_ BK163.out 1;have hcz8_2:w7.cell? ⟨gb163,2,none⟩=some (.int .i64 a0_2):=zc_ BK163.out 2;have hcz8_3:w7.cell? ⟨gb163,3,none⟩=some (.slice A0_3 l0_3.length c0_3):=zc_ BK163.out 3;have hcz8_4:w7.cell? ⟨gb163,4,none⟩=some (.int .i64 a0_4):=zc_ BK163.out 4;have hfz8_0:=blk_frozen BK163.out 0;have hfz8_1:=blk_frozen BK163.out 1;have hfz8_2:=blk_frozen BK163.out 2;have hfz8_3:=blk_frozen BK163.out 3;have hfz8_4:=blk_frozen BK163.out 4)|((with_reducible refine gate_callee (f:=13) rfl ?_);refine goesL_ (some 6) rfl rfl Tryd.func13 (by kernel_rfl) rfl #[.agg #[.string a0_0,.string a0_1,.int .i64 a0_2,.slice A0_3 l0_3.length c0_3,.int .i64 a0_4]] rfl ar_ ?_;(with_reducible refine (ih13 k (by omega) a0_0 a0_1 a0_2 _ _ l0_3 a0_4 t165 _ ?side1 ?side2 A4.out).mono ?_);(case side1=>exact kc_ HR0_3.out HB.out);(case side2=>exact HC0_3.out);rintro e w9 ⟨rfl,hb⟩;refine ⟨_,rfl,?_⟩;have n0_:=Aside0.mk (bb_ BK163.out hb);have n1_:=Aside0.mk (below_step (bl_ HB.out) hb);clear BK163;clear HB;have BK163:=n0_;have HB:=n1_;clear n0_ n1_;(try clear hb);(try clear hb2);(try clear hk);(try clear hi)))
  go_ret
  exact ⟨rt_,bl_ HB.out⟩
 ·replace c3:=Bool.eq_false_iff.mpr c3
  subst c3
  have H1:((helmsmanref12_Text.f k a0_0 a0_1 a0_2 l0_3 a0_4).bind fun t166=>(if 1+t166.size≤9223372036854775807 then (if ((⟨#[40]⟩:ByteArray)++t166).size+1≤9223372036854775807 then (some (((⟨#[40]⟩:ByteArray)++t166)++(⟨#[41]⟩:ByteArray))) else (none)) else (none)))=some r:=by rw [if_neg (show ¬ (false=true) by decide)] at H;exact H
  clear H
  have H:=H1
  clear H1
  replace H:=Option.bind_eq_some_iff.mp H
  obtain ⟨t166,A100,H⟩:=H
  replace H:(if 1+t166.size≤9223372036854775807 then (if ((⟨#[40]⟩:ByteArray)++t166).size+1≤9223372036854775807 then (some (((⟨#[40]⟩:ByteArray)++t166)++(⟨#[41]⟩:ByteArray))) else (none)) else (none))=some r:=H
  have A10:=Aside0.mk A100
  clear A100
  by_cases c11:1+t166.size≤9223372036854775807
  ·rw [if_pos c11] at H
   have c11b0:=eq_true c11
   have c11b1:decide (1+t166.size≤9223372036854775807)=true:=decide_eq_true c11
   try have c11b2:(9223372036854775807 < 1+t166.size)=False:=eq_false (Nat.not_lt.2 c11)
   by_cases c12:((⟨#[40]⟩:ByteArray)++t166).size+1≤9223372036854775807
   ·rw [if_pos c12] at H
    have c12b0:=eq_true c12
    have c12b1:decide (((⟨#[40]⟩:ByteArray)++t166).size+1≤9223372036854775807)=true:=decide_eq_true c12
    try have c12b2:(9223372036854775807 < ((⟨#[40]⟩:ByteArray)++t166).size+1)=False:=eq_false (Nat.not_lt.2 c12)
    try have c12b3:(9223372036854775807 < 1+t166.size+1)=False:=by have h_:=c12b2;simp only [ByteArray.size_append] at h_;exact h_
    try have c12b4:(1+t166.size+1≤9223372036854775807)=True:=by have h_:=c12b0;simp only [ByteArray.size_append] at h_;exact h_
    obtain rfl:=Option.some.inj H
    go_enter Tryd.func35,Tryd.ntmps35
    go_wp2_with (first|((with_reducible refine gate_dst (N:=1) rfl ?_);refine box_event ?hg (N:=1) ?hd (cs:=#[.string a0_0,.string a0_1,.int .i64 a0_2,.slice A0_3 l0_3.length c0_3,.int .i64 a0_4]) (t:=24) ?hr ?_;(case hd=>rfl);(case hg=>rfl);(case hr=>first|(go_simp;done)|(go_simp;rfl));intro gb163 hg w13 hbox hb;have n0_:=Aside0.mk (below_step (bl_ HB.out) hb);have n1_:=Aside0.mk (hbox);have n2_:=Aside0.mk ((gs_ hg (bl_ HB.out):w.heap.size≤gb163));have n3_:=Aside0.mk ((gs_ hg (bl_ HB.out):w.heap.size≤gb163));clear HB;have HB:=n0_;have BK163:=n1_;have GW163:=n2_;have GE163:=n3_;clear n0_ n1_ n2_ n3_;clear hb hbox hg;have hcz14_0:w13.cell? ⟨gb163,0,none⟩=some (.string a0_0):=zc_ BK163.out 0;have hcz14_1:w13.cell? ⟨gb163,1,none⟩=some (.string a0_1):=zc_ BK163.out 1;have hcz14_2:w13.cell? ⟨gb163,2,none⟩=some (.int .i64 a0_2):=zc_ BK163.out 2;have hcz14_3:w13.cell? ⟨gb163,3,none⟩=some (.slice A0_3 l0_3.length c0_3):=zc_ BK163.out 3;have hcz14_4:w13.cell? ⟨gb163,4,none⟩=some (.int .i64 a0_4):=zc_ BK163.out 4;have hfz14_0:=blk_frozen BK163.out 0;have hfz14_1:=blk_frozen BK163.out 1;have hfz14_2:=blk_frozen BK163.out 2;have hfz14_3:=blk_frozen BK163.out 3;have hfz14_4:=blk_frozen BK163.out 4)|((with_reducible refine gate_callee (f:=56) rfl ?_);refine goesL_ (some 4) rfl rfl Tryd.func56 (by kernel_rfl) rfl #[.agg #[.string a0_0,.string a0_1,.int .i64 a0_2,.slice A0_3 l0_3.length c0_3,.int .i64 a0_4]] rfl ar_ ?_;(with_reducible refine (helmsmanref12_simple.calls a0_0 a0_1 a0_2 _ _ l0_3 a0_4 false _ ?side1 ?side2 A2.out).mono ?_);(case side1=>exact kc_ HR0_3.out HB.out);(case side2=>exact HC0_3.out);rintro e w15 ⟨rfl,hb⟩;refine ⟨_,rfl,?_⟩;have n0_:=Aside0.mk (bb_ BK163.out hb);have n1_:=Aside0.mk (below_step (bl_ HB.out) hb);clear BK163;clear HB;have BK163:=n0_;have HB:=n1_;clear n0_ n1_;(try clear hb);(try clear hb2);(try clear hk);(try clear hi);have hcz16_0:w15.cell? ⟨gb163,0,none⟩=some (.string a0_0):=zc_ BK163.out 0;have hcz16_1:w15.cell? ⟨gb163,1,none⟩=some (.string a0_1):=zc_ BK163.out 1;have hcz16_2:w15.cell? ⟨gb163,2,none⟩=some (.int .i64 a0_2):=zc_ BK163.out 2;have hcz16_3:w15.cell? ⟨gb163,3,none⟩=some (.slice A0_3 l0_3.length c0_3):=zc_ BK163.out 3;have hcz16_4:w15.cell? ⟨gb163,4,none⟩=some (.int .i64 a0_4):=zc_ BK163.out 4;have hfz16_0:=blk_frozen BK163.out 0;have hfz16_1:=blk_frozen BK163.out 1;have hfz16_2:=blk_frozen BK163.out 2;have hfz16_3:=blk_frozen BK163.out 3;have hfz16_4:=blk_frozen BK163.out 4)|((with_reducible refine gate_callee (f:=13) rfl ?_);refine goesL_ (some 8) rfl rfl Tryd.func13 (by kernel_rfl) rfl #[.agg #[.string a0_0,.string a0_1,.int .i64 a0_2,.slice A0_3 l0_3.length c0_3,.int .i64 a0_4]] rfl ar_ ?_;(with_reducible refine (ih13 k (by omega) a0_0 a0_1 a0_2 _ _ l0_3 a0_4 t166 _ ?side1 ?side2 A10.out).mono ?_);(case side1=>exact kc_ HR0_3.out HB.out);(case side2=>exact HC0_3.out);rintro e w17 ⟨rfl,hb⟩;refine ⟨_,rfl,?_⟩;have n0_:=Aside0.mk (bb_ BK163.out hb);have n1_:=Aside0.mk (below_step (bl_ HB.out) hb);clear BK163;clear HB;have BK163:=n0_;have HB:=n1_;clear n0_ n1_;(try clear hb);(try clear hb2);(try clear hk);(try clear hi)))
    go_ret
    exact ⟨rt_,bl_ HB.out⟩
   ·rw [if_neg c12] at H
    exact absurd H (by simp)
  ·rw [if_neg c11] at H
   exact absurd H (by simp)
end Go.Proofs.YtnnbbeloifhofaaDoor.P
end
section
namespace Go.Proofs.YtnnbbeloifhofaaDoor.P
open Go.RowKit Go.Proofs.YtnnbbeloifhofaaDoorW.PrintWords Go.Proofs.YtnnbbeloifhofaaDoorW.PrintLast Go.Proofs.YtnnbbeloifhofaaDoorW.PrintMore
attribute [local go_sem] max2_int min2_int max_two min_two max_three min_three max_four min_four
set_option linter.unusedVariables false
set_option linter.unusedSimpArgs false
theorem helmsmanref12_Text_ring.all (k:Nat):helmsmanref12_Text.Stmt k∧helmsmanref12_closed.Stmt k:=by
  induction k using Nat.strongRecOn with
  | _ k ih=>
  exact ⟨helmsmanref12_Text.step k (fun m_ h_=>(ih m_ h_).1) (fun m_ h_=>(ih m_ h_).2),helmsmanref12_closed.step k (fun m_ h_=>(ih m_ h_).1) (fun m_ h_=>(ih m_ h_).2)⟩
theorem helmsmanref12_Text.calls (k:Nat):helmsmanref12_Text.Stmt k:=(helmsmanref12_Text_ring.all k).1
end Go.Proofs.YtnnbbeloifhofaaDoor.P
end
section
namespace Go.Proofs.YtnnbbeloifhofaaDoor.P
open Go Go.RowKit Go.Proofs
open Go.Proofs.YtnnbbeloifhofaaDoorW.PrintWords Go.Proofs.YtnnbbeloifhofaaDoorW.PrintLast Go.Proofs.YtnnbbeloifhofaaDoorW.PrintMore
abbrev bins:List (List UInt8):=[[43],[45],[42],[47],[61,61],[33,61],[60],[60,61],[62],[62,61],[38,38],[124,124]]
def manyB (op:List UInt8):Option Nat:=
  if op=opNum∨op=opName∨op=opTrue∨op=opFalse then some 0
  else if op=opAt∨op=opNeg∨op=opNot then some 1
  else if op ∈ bins then some 2 else none
def headB (op:ByteArray) (n:Int) (len:Nat):Bool:=decide (manyB op.toList=some len) && !(decide (op.toList=opNum) && decide (n < 0))
mutual
def wholeE:RE→Bool
  | ⟨op,_,n,l,_⟩=>headB op n l.length && wholeEs l
def wholeEs:List RE→Bool
  | []=>true
  | x :: xs=>wholeE x && wholeEs xs
end
theorem wholeE_eq (x:RE):wholeE x=(headB x.f0 x.f2 x.f3.length && wholeEs x.f3):=by cases x;rw [wholeE]
theorem wholeEs_all (l:List RE):wholeEs l=l.all wholeE:=by
  induction l with
  | nil=>rfl
  | cons x xs ih=>rw [wholeEs,ih];rfl
theorem one_step {α:Type} (xs:List α) (z:α) (l0:Nat→Int→Option Bool) (s:α→Bool) (rest:Bool) (hlim:xs.length < 4611686018427387904)
    (hin : ∀ i:Nat,i < xs.length→∀ r,Ev (fun k=>l0 k (wrap64 ((i:Int)+1))) r→Ev (fun k=>l0 k i) (s (xs.getD i z) && r))
    (hout:Ev (fun k=>l0 k xs.length) rest):Ev (fun k=>l0 k 0) (xs.all s && rest):=by
  have key : ∀ (m i:Nat),xs.length - i=m→i≤xs.length→Ev (fun k=>l0 k i) ((xs.drop i).all s && rest):=by
    intro m
    induction m with
    | zero=>
      intro i hm hi
      obtain rfl:i=xs.length:=by omega
      rw [List.drop_length,List.all_nil,Bool.true_and]
      exact hout
    | succ m ih=>
      intro i hm hi
      have hx:i < xs.length:=by omega
      have:=hin i hx ((xs.drop (i+1)).all s && rest) (by rw [wrap64_small (by omega) (by omega)];exact ih (i+1) (by omega) (by omega))
      rw [List.getD_eq_getElem?_getD,List.getElem?_eq_getElem hx,Option.getD_some] at this
      rw [List.drop_eq_getElem_cons hx,List.all_cons,Bool.and_assoc]
      exact this
  exact key _ 0 rfl (Nat.zero_le _)
theorem Whole_l0 (xs:List RE) (a b:ByteArray) (n t:Int) (hl:xs.length < 4611686018427387904) (h : ∀ y ∈ xs,Ev (fun k=>helmsmanref12_Whole.f k y.f0 y.f1 y.f2 y.f3 y.f4) (wholeE y)) :
    Ev (fun k=>helmsmanref12_Whole.l0 k 0 a b n xs t) (wholeEs xs):=by
  rw [wholeEs_all,← Bool.and_true (xs.all wholeE)]
  refine one_step xs z24 (fun k i=>helmsmanref12_Whole.l0 k i a b n xs t) wholeE true hl ?_ ?_
  · intro i hi r hr
    refine Ev.step (fun k=>helmsmanref12_Whole.l0.eq_2 _ _ _ _ _ _ k) (Ev.yes (by omega) (Ev.yes (by omega) (Ev.bind (h _ (getD_mem' z24 hi)) ?_)))
    cases e:wholeE (xs.getD i z24) with
    | false=>exact Ev.no (by rw [show wholeE (rd_T24 xs (i:Int))=false from e];simp) (Ev.now _)
    | true=>exact Ev.yes e (by rw [Bool.true_and];exact hr)
  · exact Ev.step (fun k=>helmsmanref12_Whole.l0.eq_2 _ _ _ _ _ _ k) (Ev.no (by omega) (Ev.now _))
theorem Whole_j2 (x:RE) (m:Nat) (hm:manyB x.f0.toList=some m) (h:Ev (fun k=>helmsmanref12_Whole.l0 k 0 x.f0 x.f1 x.f2 x.f3 x.f4) (wholeEs x.f3)) :
    Ev (fun k=>helmsmanref12_Whole.j2 k (m:Int) x.f0 x.f1 x.f2 x.f3 x.f4) (wholeE x):=by
  rw [wholeE_eq]
  refine Ev.step (fun k=>helmsmanref12_Whole.j2.eq_2 _ _ _ _ _ _ k) ?_
  unfold headB
  rw [hm]
  by_cases c:x.f3.length=m
  · refine Ev.yes (by omega) ?_
    rw [decide_eq_true (show some m=some x.f3.length from congrArg some c.symm),Bool.true_and]
    by_cases c2:x.f0.toList=opNum
    · refine Ev.yes c2 (Ev.step (fun k=>helmsmanref12_Whole.j3.eq_2 _ _ _ _ _ _ k) ?_)
      rw [decide_eq_true c2,Bool.true_and]
      cases e:decide (x.f2 < 0) with
      | true=>exact Ev.yes rfl (Ev.now _)
      | false=>exact Ev.no (by simp) (by rw [Bool.not_false,Bool.true_and];exact h)
    · refine Ev.no c2 (Ev.step (fun k=>helmsmanref12_Whole.j3.eq_2 _ _ _ _ _ _ k) (Ev.no (by simp) ?_))
      rw [decide_eq_false c2,Bool.false_and,Bool.not_false,Bool.true_and];exact h
  · refine Ev.no (by omega) (Ev.step (fun k=>helmsmanref12_Whole.j3.eq_2 _ _ _ _ _ _ k) (Ev.yes rfl ?_))
    rw [decide_eq_false (by intro e;exact c (Option.some.inj e).symm),Bool.false_and,Bool.false_and]
    exact Ev.now _
theorem Whole_j1 (x:RE) (h0 : ¬ (x.f0.toList=opNum∨x.f0.toList=opName∨x.f0.toList=opTrue∨x.f0.toList=opFalse)) (h1 : ¬ (x.f0.toList=opAt∨x.f0.toList=opNeg∨x.f0.toList=opNot)) (h:Ev (fun k=>helmsmanref12_Whole.l0 k 0 x.f0 x.f1 x.f2 x.f3 x.f4) (wholeEs x.f3)) :
    Ev (fun k=>helmsmanref12_Whole.j1 k x.f0 false x.f0 x.f1 x.f2 x.f3 x.f4) (wholeE x):=by
  refine Ev.step (fun k=>helmsmanref12_Whole.j1.eq_2 _ _ _ _ _ _ _ k) (Ev.no (by simp) ?_)
  have two:x.f0.toList ∈ bins→Ev (fun k=>helmsmanref12_Whole.j2 k 2 x.f0 x.f1 x.f2 x.f3 x.f4) (wholeE x):=fun hm=>Whole_j2 x 2 (by unfold manyB;rw [if_neg h0,if_neg h1,if_pos hm]) h
  by_cases hm:x.f0.toList ∈ bins
  · have go:=two hm
    by_cases c1:x.f0.toList=[43]
    · exact Ev.yes c1 go
    refine Ev.no c1 ?_
    by_cases c2:x.f0.toList=[45]
    · exact Ev.yes c2 go
    refine Ev.no c2 ?_
    by_cases c3:x.f0.toList=[42]
    · exact Ev.yes c3 go
    refine Ev.no c3 ?_
    by_cases c4:x.f0.toList=[47]
    · exact Ev.yes c4 go
    refine Ev.no c4 ?_
    by_cases c5:x.f0.toList=[61,61]
    · exact Ev.yes c5 go
    refine Ev.no c5 ?_
    by_cases c6:x.f0.toList=[33,61]
    · exact Ev.yes c6 go
    refine Ev.no c6 ?_
    by_cases c7:x.f0.toList=[60]
    · exact Ev.yes c7 go
    refine Ev.no c7 ?_
    by_cases c8:x.f0.toList=[60,61]
    · exact Ev.yes c8 go
    refine Ev.no c8 ?_
    by_cases c9:x.f0.toList=[62]
    · exact Ev.yes c9 go
    refine Ev.no c9 ?_
    by_cases c10:x.f0.toList=[62,61]
    · exact Ev.yes c10 go
    refine Ev.no c10 ?_
    by_cases c11:x.f0.toList=[38,38]
    · exact Ev.yes c11 go
    refine Ev.no c11 ?_
    by_cases c12:x.f0.toList=[124,124]
    · exact Ev.yes c12 go
    exact absurd hm (by simp only [bins,List.mem_cons,List.not_mem_nil,or_false];simp only [c1,c2,c3,c4,c5,c6,c7,c8,c9,c10,c11,c12,or_false,not_false_iff])
  · have hn : ∀ l ∈ bins,¬ x.f0.toList=l:=fun l hl e=>hm (e ▸ hl)
    rw [wholeE_eq]
    unfold headB manyB
    rw [if_neg h0,if_neg h1,if_neg hm]
    refine Ev.no (hn _ (by decide)) (Ev.no (hn _ (by decide)) (Ev.no (hn _ (by decide)) (Ev.no (hn _ (by decide)) (Ev.no (hn _ (by decide)) (Ev.no (hn _ (by decide)) (Ev.no (hn _ (by decide)) (Ev.no (hn _ (by decide)) (Ev.no (hn _ (by decide)) (Ev.no (hn _ (by decide)) (Ev.no (hn _ (by decide)) (Ev.no (hn _ (by decide)) ?_)))))))))))
    exact Ev.now _
theorem Whole_ev : ∀ x:RE,bulkE x < 1099511627776→Ev (fun k=>helmsmanref12_Whole.f k x.f0 x.f1 x.f2 x.f3 x.f4) (wholeE x):=RE.all fun x ih hb=>by
  rw [bulkE_eq] at hb
  have hl:=len_bulkEs x.f3
  have h:=Whole_l0 x.f3 x.f0 x.f1 x.f2 x.f4 (by omega) (fun y hy=>ih y hy (by have:=mem_bulkEs hy;omega))
  refine Ev.step (fun k=>helmsmanref12_Whole.f.eq_2 _ _ _ _ _ k) ?_
  have zero:(x.f0.toList=opNum∨x.f0.toList=opName∨x.f0.toList=opTrue∨x.f0.toList=opFalse)→Ev (fun k=>helmsmanref12_Whole.j0 k x.f0 true x.f0 x.f1 x.f2 x.f3 x.f4) (wholeE x):=fun hm=>
    Ev.step (fun k=>helmsmanref12_Whole.j0.eq_2 _ _ _ _ _ _ _ k) (Ev.yes rfl (Whole_j2 x 0 (by unfold manyB;rw [if_pos hm]) h))
  by_cases c1:x.f0.toList=opNum
  · refine Ev.yes c1 ?_
    rw [show (x.f0.toList == opNum)=true from beq_iff_eq.2 c1]
    exact zero (.inl c1)
  refine Ev.no c1 ?_
  by_cases c2:x.f0.toList=opName
  · refine Ev.yes c2 ?_
    rw [show (x.f0.toList == opName)=true from beq_iff_eq.2 c2]
    exact zero (.inr (.inl c2))
  refine Ev.no c2 ?_
  by_cases c3:x.f0.toList=opTrue
  · refine Ev.yes c3 ?_
    rw [show (x.f0.toList == opTrue)=true from beq_iff_eq.2 c3]
    exact zero (.inr (.inr (.inl c3)))
  refine Ev.no c3 ?_
  by_cases c4:x.f0.toList=opFalse
  · rw [show (x.f0.toList == opFalse)=true from beq_iff_eq.2 c4]
    exact zero (.inr (.inr (.inr c4)))
  rw [show (x.f0.toList == opFalse)=false from beq_eq_false_iff_ne.2 c4]
  have h0 : ¬ (x.f0.toList=opNum∨x.f0.toList=opName∨x.f0.toList=opTrue∨x.f0.toList=opFalse):=by simp only [c1,c2,c3,c4,or_false,not_false_iff]
  have one:(x.f0.toList=opAt∨x.f0.toList=opNeg∨x.f0.toList=opNot)→Ev (fun k=>helmsmanref12_Whole.j1 k x.f0 true x.f0 x.f1 x.f2 x.f3 x.f4) (wholeE x):=fun hm=>
    Ev.step (fun k=>helmsmanref12_Whole.j1.eq_2 _ _ _ _ _ _ _ k) (Ev.yes rfl (Whole_j2 x 1 (by unfold manyB;rw [if_neg h0,if_pos hm]) h))
  refine Ev.step (fun k=>helmsmanref12_Whole.j0.eq_2 _ _ _ _ _ _ _ k) (Ev.no (by simp) ?_)
  by_cases d1:x.f0.toList=opAt
  · refine Ev.yes d1 ?_
    rw [show (x.f0.toList == opAt)=true from beq_iff_eq.2 d1]
    exact one (.inl d1)
  refine Ev.no d1 ?_
  by_cases d2:x.f0.toList=opNeg
  · refine Ev.yes d2 ?_
    rw [show (x.f0.toList == opNeg)=true from beq_iff_eq.2 d2]
    exact one (.inr (.inl d2))
  refine Ev.no d2 ?_
  by_cases d3:x.f0.toList=opNot
  · rw [show (x.f0.toList == opNot)=true from beq_iff_eq.2 d3]
    exact one (.inr (.inr d3))
  rw [show (x.f0.toList == opNot)=false from beq_eq_false_iff_ne.2 d3]
  exact Whole_j1 x h0 (by simp only [d1,d2,d3,or_false,not_false_iff]) h
end Go.Proofs.YtnnbbeloifhofaaDoor.P
end
section
namespace Go.Proofs.YtnnbbeloifhofaaDoor.P
open Go Go.RowKit Go.Proofs
open Go.Proofs.YtnnbbeloifhofaaDoorW.PrintWords Go.Proofs.YtnnbbeloifhofaaDoorW.PrintLast Go.Proofs.YtnnbbeloifhofaaDoorW.PrintMore
theorem digit_one (u:Nat) (h:u < 10):(⟨#[48,49,50,51,52,53,54,55,56,57]⟩:ByteArray).extract ((u:Int)).toNat (((u:Int)+1)).toNat=strOf [UInt8.ofNat (48+u)]:=by
  match u,h with
  | 0,_|1,_|2,_|3,_|4,_|5,_|6,_|7,_|8,_|9,_=>rfl
  | n+10,h=>exact absurd h (by omega)
theorem strOf_append (a b:List UInt8):strOf (a++b)=strOf a++strOf b:=by
  apply ByteArray.ext
  apply Array.toList_inj.mp
  simp [strOf]
theorem digits_ev : ∀ (u:Nat),u≤9223372036854775807→Ev (fun k=>helmsmanref01_digits.f k (u:Int)) (strOf (Lib.decDigits u)):=by
  intro u
  induction u using Nat.strongRecOn with
  | _ u ih=>
  intro hu
  rw [Lib.decDigits]
  by_cases h:u < 10
  · rw [dif_pos h]
    refine Ev.step (fun k=>helmsmanref01_digits.f.eq_2 _ k) (Ev.yes (by omega) ?_)
    rw [wrap64_small (by omega) (by omega),digit_one u h]
    exact Ev.yes (by omega) (Ev.yes (by omega) (Ev.yes (by omega) (Ev.now _)))
  · rw [dif_neg h,strOf_append]
    refine Ev.step (fun k=>helmsmanref01_digits.f.eq_2 _ k) (Ev.no (by omega) ?_)
    have e1:Int.tdiv (u:Int) 10=((u / 10:Nat):Int):=by rw [Int.tdiv_eq_ediv_of_nonneg (by omega)];omega
    have e2:Int.tmod (u:Int) 10=((u % 10:Nat):Int):=by rw [Int.tmod_eq_emod_of_nonneg (by omega)];omega
    rw [e1,e2,wrap64_small (by omega) (by omega)]
    have hd:=ih (u % 10) (by omega) (by omega)
    rw [Lib.decDigits,dif_pos (by omega)] at hd
    refine Ev.bind (ih (u / 10) (by omega) (by omega)) (Ev.bind hd ?_)
    have hl:(strOf (Lib.decDigits (u / 10))).size≤21:=by
      rw [strOf_size]
      have:=Lib.itoa_length_le ((u / 10:Nat):Int) (by omega) (by omega)
      unfold Lib.itoa at this
      rw [if_neg (by omega)] at this
      exact this
    exact Ev.yes (by rw [strOf_size [_],List.length_singleton];omega) (Ev.now _)
theorem Digits_ev (n:Int) (h0:0≤n) (h1:n≤9223372036854775807):Ev (fun k=>helmsmanref01_Digits.f k n) (itoaB n):=by
  unfold helmsmanref01_Digits.f itoaB Lib.itoa
  rw [if_neg (show ¬ n < 0 by omega)]
  have:=digits_ev n.toNat (by omega)
  rw [show ((n.toNat:Nat):Int)=n by omega] at this
  exact Ev.no (by omega) (Ev.bind this (Ev.now _))
theorem simple_some (x:RE):helmsmanref12_simple.f x.f0 x.f1 x.f2 x.f3 x.f4=some (simpB x.f0):=by
  unfold helmsmanref12_simple.f simpB
  by_cases c1:x.f0.toList=opNum
  · rw [if_pos c1,c1];rfl
  rw [if_neg c1,show (x.f0.toList == opNum)=false from beq_eq_false_iff_ne.2 c1,Bool.false_or]
  by_cases c2:x.f0.toList=opName
  · rw [if_pos c2,c2];rfl
  rw [if_neg c2,show (x.f0.toList == opName)=false from beq_eq_false_iff_ne.2 c2,Bool.false_or]
  by_cases c3:x.f0.toList=opAt
  · rw [if_pos c3,c3];rfl
  rw [if_neg c3,show (x.f0.toList == opAt)=false from beq_eq_false_iff_ne.2 c3,Bool.false_or]
  by_cases c4:x.f0.toList=opTrue
  · rw [if_pos c4,c4];rfl
  rw [if_neg c4,show (x.f0.toList == opTrue)=false from beq_eq_false_iff_ne.2 c4,Bool.false_or]
abbrev RTextOk (x:RE):Prop:=Ev (fun k=>helmsmanref12_Text.f k x.f0 x.f1 x.f2 x.f3 x.f4) (textE x)
theorem rclosed_of (x:RE) (h:RTextOk x) (hz:(textE x).size < 4611686018427387904):Ev (fun k=>helmsmanref12_closed.f k x.f0 x.f1 x.f2 x.f3 x.f4) (cloE x):=by
  refine Ev.step (fun k=>helmsmanref12_closed.f.eq_2 _ _ _ _ _ k) (Ev.then (simple_some x) ?_)
  rw [cloE_eq];unfold cloB
  cases e:simpB x.f0 with
  | true=>exact Ev.yes rfl (Ev.bind h (Ev.now _))
  | false=>exact Ev.no (by simp) (Ev.bind h (Ev.yes (by omega) (Ev.yes (by rw [ByteArray.size_append];exact (show 1+_+1≤_ by omega)) (Ev.now _))))
theorem rd_head (x:RE) (xs:List RE):rd_T24 (x :: xs) 0=x:=rfl
theorem rd_next (x y:RE) (xs:List RE):rd_T24 (x :: y :: xs) 1=y:=rfl
theorem rtext_ev : ∀ x:RE,okE x→wholeE x=true→bulkE x < 1099511627776→RTextOk x:=RE.all fun x ih ho hw hb=>by
  have hsz:=textE_size x ho
  rw [okE_eq] at ho
  rw [wholeE_eq,Bool.and_eq_true,wholeEs_all,List.all_eq_true] at hw
  obtain ⟨hh,hws⟩:=hw
  unfold headB at hh
  rw [Bool.and_eq_true,decide_eq_true_eq] at hh
  obtain ⟨hm,hn⟩:=hh
  have hbx:=hb
  rw [bulkE_eq] at hb
  have hz : ∀ y ∈ x.f3,(textE y).size < 2199023255552 * 24:=fun y hy=>by
    have:=textE_size y (okEs_mem ho.2 hy);have:=mem_bulkEs hy;omega
  have hT : ∀ y ∈ x.f3,RTextOk y:=fun y hy=>ih y hy (okEs_mem ho.2 hy) (hws y hy) (by have:=mem_bulkEs hy;omega)
  have hC : ∀ y ∈ x.f3,Ev (fun k=>helmsmanref12_closed.f k y.f0 y.f1 y.f2 y.f3 y.f4) (cloE y):=fun y hy=>rclosed_of y (hT y hy) (by have:=hz y hy;omega)
  have hcz : ∀ y ∈ x.f3,(cloE y).size < 2199023255552 * 24+2:=fun y hy=>by rw [cloE_eq];have:=hz y hy;have:=cloB_size y.f0 (textE y);omega
  unfold RTextOk
  rw [textE_eq,textEs_map,cloEs_map]
  unfold textF
  refine Ev.step (fun k=>helmsmanref12_Text.f.eq_2 _ _ _ _ _ k) ?_
  by_cases c1:x.f0.toList=opNum
  · rw [if_pos c1]
    rw [decide_eq_true c1,Bool.true_and,Bool.not_eq_true',decide_eq_false_iff_not] at hn
    exact Ev.yes c1 (Ev.bind (Digits_ev _ (by omega) ho.1.2) (Ev.now _))
  rw [if_neg c1]
  refine Ev.no c1 ?_
  by_cases c2:x.f0.toList=opName
  · rw [if_pos c2]
    exact Ev.yes c2 (Ev.now _)
  rw [if_neg c2]
  refine Ev.no c2 ?_
  by_cases c4:x.f0.toList=opTrue
  · rw [if_neg (by rw [c4];decide),if_pos c4]
    refine Ev.yes c4 (Ev.step (fun k=>helmsmanref12_Text.j0.eq_2 _ _ _ _ _ _ _ k) (Ev.yes ?_ (Ev.now _)))
    rw [c4];rfl
  refine Ev.no c4 (Ev.step (fun k=>helmsmanref12_Text.j0.eq_2 _ _ _ _ _ _ _ k) ?_)
  by_cases c5:x.f0.toList=opFalse
  · rw [if_neg (by rw [c5];decide),if_neg c4,if_pos c5]
    refine Ev.yes ?_ (Ev.now _)
    rw [c5];rfl
  refine Ev.no (by rw [beq_iff_eq];exact c5) ?_
  by_cases c3:x.f0.toList=opAt
  · rw [if_pos c3]
    have hl:1=x.f3.length:=Option.some.inj (by rw [← hm];unfold manyB;rw [if_neg (by simp only [c1,c2,c4,c5,or_false,not_false_iff]),if_pos (.inl c3)])
    obtain ⟨y,e⟩:=List.length_eq_one_iff.1 hl.symm
    rw [e] at hT hz ⊢
    have:=hz y (List.mem_singleton_self y)
    refine Ev.yes c3 (Ev.yes (by omega) (Ev.yes (by simp) ?_))
    rw [rd_head]
    refine Ev.bind (hT y (List.mem_singleton_self y)) (Ev.yes (by rw [ByteArray.size_append];exact (show x.f1.size+1+_≤_ by omega)) (Ev.yes (by rw [ByteArray.size_append,ByteArray.size_append];exact (show x.f1.size+1+_+1≤_ by omega)) (Ev.now _)))
  rw [if_neg c3,if_neg c4,if_neg c5]
  refine Ev.no c3 ?_
  by_cases c6:x.f0.toList=opNeg
  · rw [if_pos c6]
    have hl:1=x.f3.length:=Option.some.inj (by rw [← hm];unfold manyB;rw [if_neg (by simp only [c1,c2,c4,c5,or_false,not_false_iff]),if_pos (.inr (.inl c6))])
    obtain ⟨y,e⟩:=List.length_eq_one_iff.1 hl.symm
    rw [e] at hC hcz ⊢
    have:=hcz y (List.mem_singleton_self y)
    refine Ev.yes c6 (Ev.yes (by simp) ?_)
    rw [rd_head]
    exact Ev.bind (hC y (List.mem_singleton_self y)) (Ev.yes (by omega) (Ev.now _))
  rw [if_neg c6]
  refine Ev.no c6 ?_
  by_cases c7:x.f0.toList=opNot
  · rw [if_pos c7]
    have hl:1=x.f3.length:=Option.some.inj (by rw [← hm];unfold manyB;rw [if_neg (by simp only [c1,c2,c4,c5,or_false,not_false_iff]),if_pos (.inr (.inr c7))])
    obtain ⟨y,e⟩:=List.length_eq_one_iff.1 hl.symm
    rw [e] at hC hcz ⊢
    have:=hcz y (List.mem_singleton_self y)
    refine Ev.yes c7 (Ev.yes (by simp) ?_)
    rw [rd_head]
    exact Ev.bind (hC y (List.mem_singleton_self y)) (Ev.yes (by omega) (Ev.now _))
  rw [if_neg c7]
  refine Ev.no c7 ?_
  have hl:2=x.f3.length:=by
    unfold manyB at hm
    rw [if_neg (by simp only [c1,c2,c4,c5,or_false,not_false_iff]),if_neg (by simp only [c3,c6,c7,or_false,not_false_iff])] at hm
    split at hm
    · exact Option.some.inj hm
    · cases hm
  obtain ⟨y,z,e⟩ : ∃ y z,x.f3=[y,z]:=by
    match x.f3,hl with
    | [y,z],_=>exact ⟨y,z,rfl⟩
  rw [e] at hC hcz ⊢
  have hy:=hcz y (List.mem_cons_self ..)
  have hz':=hcz z (List.mem_cons_of_mem _ (List.mem_singleton_self z))
  refine Ev.yes (by simp) ?_
  rw [rd_head,rd_next]
  refine Ev.bind (hC y (List.mem_cons_self ..)) (Ev.yes (by omega) (Ev.yes (by rw [ByteArray.size_append];exact (show _+1+x.f0.size≤_ by omega)) (Ev.yes (by rw [ByteArray.size_append,ByteArray.size_append];exact (show _+1+x.f0.size+1≤_ by omega)) (Ev.yes (by simp) (Ev.bind (hC z (List.mem_cons_of_mem _ (List.mem_singleton_self z))) ?_)))))
  exact Ev.yes (by rw [ByteArray.size_append,ByteArray.size_append,ByteArray.size_append];exact (show _+1+x.f0.size+1+_≤_ by omega)) (Ev.now _)
end Go.Proofs.YtnnbbeloifhofaaDoor.P
end
section
namespace Go.Proofs.YtnnbbeloifhofaaDoor.P
open Go Go.RowKit Go.Proofs
open Go.Proofs.YtnnbbeloifhofaaDoorW.PrintWords Go.Proofs.YtnnbbeloifhofaaDoorW.PrintLast Go.Proofs.YtnnbbeloifhofaaDoorW.PrintMore
set_option linter.unusedVariables false
set_option linter.unusedSimpArgs false
set_option maxHeartbeats 4000000 in
set_option maxRecDepth 100000 in
theorem texts_pr (x:RE) (A:Option Addr) (c:Nat) (w:World) (hT:TabT w) (hC:Kd.C k24 w A x.f3.length x.f3) (hl:x.f3.length≤c) (ho:okE x) (hb:bulkE x≤2097152) :
    Calls Tryd.prog 3 #[.agg #[.string x.f0,.string x.f1,.int .i64 x.f2,.slice A x.f3.length c,.int .i64 x.f4]] w fun e w'=>e=.returned (.bool true)∧Below w.heap.size w w':=by
  obtain ⟨kw,hw⟩:=(Whole_ev x (by omega)).rounds
  have HW:=Aside0.mk hw
  have HC:=Aside0.mk hC
  have HO:=Aside0.mk ho
  have HB:=Aside0.mk hb
  have HL:=Aside0.mk hl
  clear hw hC ho hb hl
  go_enter Tryd.func3,Tryd.ntmps3
  go_wp2_with (first|((with_reducible refine gate_dst (N:=1) rfl ?_);refine box_event ?hgP (N:=1) ?hdP (cs:=#[.string x.f0,.string x.f1,.int .i64 x.f2,.slice A x.f3.length c,.int .i64 x.f4]) (t:=24) ?hrP ?_;(case hdP=>rfl);(case hgP=>rfl);(case hrP=>first|(go_simp;done)|(go_simp;rfl));intro gA hg w1 hbox hb;have BKP:=Aside0.mk hbox;have GWP:=Aside0.mk hg;have HBP:=Aside0.mk hb;clear hb hbox hg;have zP0:w1.cell? ⟨gA,0,none⟩=some (.string x.f0):=(blk_cell BKP.out 0).trans rfl;have yP0:=blk_frozen BKP.out 0;have zP1:w1.cell? ⟨gA,1,none⟩=some (.string x.f1):=(blk_cell BKP.out 1).trans rfl;have yP1:=blk_frozen BKP.out 1;have zP2:w1.cell? ⟨gA,2,none⟩=some (.int .i64 x.f2):=(blk_cell BKP.out 2).trans rfl;have yP2:=blk_frozen BKP.out 2;have zP3:w1.cell? ⟨gA,3,none⟩=some (.slice A x.f3.length c):=(blk_cell BKP.out 3).trans rfl;have yP3:=blk_frozen BKP.out 3;have zP4:w1.cell? ⟨gA,4,none⟩=some (.int .i64 x.f4):=(blk_cell BKP.out 4).trans rfl;have yP4:=blk_frozen BKP.out 4))
  refine (helmsmanref12_Whole.calls kw x.f0 x.f1 x.f2 A c x.f3 x.f4 (wholeE x) w1 (Kd.C_below HC.out HBP.out) HL.out HW.out).mono ?_
  rintro e_ w2 ⟨rfl,hb⟩
  have BK:=Aside0.mk (blk_below BKP.out hb)
  have HB2:=Aside0.mk (HBP.out.trans (hb.mono HBP.out.size))
  clear hb BKP HBP zP0 zP1 zP2 zP3 zP4 yP0 yP1 yP2 yP3 yP4
  have z0:w2.cell? ⟨gA,0,none⟩=some (.string x.f0):=(blk_cell BK.out 0).trans rfl
  have z1:w2.cell? ⟨gA,1,none⟩=some (.string x.f1):=(blk_cell BK.out 1).trans rfl
  have z2:w2.cell? ⟨gA,2,none⟩=some (.int .i64 x.f2):=(blk_cell BK.out 2).trans rfl
  have z3:w2.cell? ⟨gA,3,none⟩=some (.slice A x.f3.length c):=(blk_cell BK.out 3).trans rfl
  have z4:w2.cell? ⟨gA,4,none⟩=some (.int .i64 x.f4):=(blk_cell BK.out 4).trans rfl
  generalize hwb:wholeE x=wb
  have HWB:=Aside0.mk hwb
  clear hwb
  cases wb with
  | false=>
    go_wp2_with fail
    refine (alive_pr _ (hT.later HB2.out)).mono ?_
    rintro e_ w3 ⟨rfl,hb⟩
    have HB3:=HB2.out.trans (hb.mono HB2.out.size)
    go_wp2
    go_ret
    exact ⟨rfl,HB3⟩
  | true=>
    go_wp2_with fail
    have hB0:((w2.alloc (.cells #[.string x.f0,.string x.f1,.int .i64 x.f2,.slice A x.f3.length c,.int .i64 x.f4] 24 (0,0))).alloc (.cells #[.string (⟨#[]⟩:ByteArray),.string (⟨#[]⟩:ByteArray),.slice (some ⟨w2.heap.size,0,none⟩) 1 1,.slice none 0 0,.slice none 0 0,.int .i64 0] 29 (0,0))).heap[w2.heap.size]?=some (.cells #[.string x.f0,.string x.f1,.int .i64 x.f2,.slice A x.f3.length c,.int .i64 x.f4] 24 (0,0)):=blk_alloc (blk_at rfl _) _
    have hB1:((w2.alloc (.cells #[.string x.f0,.string x.f1,.int .i64 x.f2,.slice A x.f3.length c,.int .i64 x.f4] 24 (0,0))).alloc (.cells #[.string (⟨#[]⟩:ByteArray),.string (⟨#[]⟩:ByteArray),.slice (some ⟨w2.heap.size,0,none⟩) 1 1,.slice none 0 0,.slice none 0 0,.int .i64 0] 29 (0,0))).heap[w2.heap.size+1]?=some (.cells #[.string (⟨#[]⟩:ByteArray),.string (⟨#[]⟩:ByteArray),.slice (some ⟨w2.heap.size,0,none⟩) 1 1,.slice none 0 0,.slice none 0 0,.int .i64 0] 29 (0,0)):=blk_at (size_at rfl _) _
    have hb:Below w2.heap.size w2 ((w2.alloc (.cells #[.string x.f0,.string x.f1,.int .i64 x.f2,.slice A x.f3.length c,.int .i64 x.f4] 24 (0,0))).alloc (.cells #[.string (⟨#[]⟩:ByteArray),.string (⟨#[]⟩:ByteArray),.slice (some ⟨w2.heap.size,0,none⟩) 1 1,.slice none 0 0,.slice none 0 0,.int .i64 0] 29 (0,0))):=below_alloc (below_alloc (Below.refl _ _) _) _
    generalize ((w2.alloc (.cells #[.string x.f0,.string x.f1,.int .i64 x.f2,.slice A x.f3.length c,.int .i64 x.f4] 24 (0,0))).alloc (.cells #[.string (⟨#[]⟩:ByteArray),.string (⟨#[]⟩:ByteArray),.slice (some ⟨w2.heap.size,0,none⟩) 1 1,.slice none 0 0,.slice none 0 0,.int .i64 0] 29 (0,0)))=w3 at hB0 hB1 hb ⊢
    have HB3:=Aside0.mk (HB2.out.trans (hb.mono HB2.out.size))
    have hK:=k24_mk w3 x HL.out (Kd.C_below HC.out HB3.out)
    have hE:=C_one (c:=[.string x.f0,.string x.f1,.int .i64 x.f2,.slice A x.f3.length c,.int .i64 x.f4]) hB0 hK
    have hK2:=k29_mk w3 ⟨⟨#[]⟩,⟨#[]⟩,[x],[],[],0⟩ (A2:=some ⟨w2.heap.size,0,none⟩) (c2:=1) (Nat.le_refl _) hE (A3:=none) (c3:=0) (Nat.le_refl _) (Kd.C_nil _ _) (A4:=none) (c4:=0) (Nat.le_refl _) (Kd.C_nil _ _)
    have hS:=C_one (c:=[.string (⟨#[]⟩:ByteArray),.string (⟨#[]⟩:ByteArray),.slice (some ⟨w2.heap.size,0,none⟩) 1 1,.slice none 0 0,.slice none 0 0,.int .i64 0]) hB1 hK2
    have BK3:=Aside0.mk (blk_below BK.out hb)
    have hzb:bulkSs [⟨⟨#[]⟩,⟨#[]⟩,[x],[],[],0⟩] < 1099511627775:=by
      have h1:=HB.out
      have h2:bulkSs [⟨⟨#[]⟩,⟨#[]⟩,[x],[],[],0⟩]=bulkE x+1:=by simp [bulkSs,bulkS,bulkEs];rfl
      rw [h2];omega
    obtain ⟨kz,hz⟩:=(Size_ev [⟨⟨#[]⟩,⟨#[]⟩,[x],[],[],0⟩] hzb).rounds
    have hzv:szSs [⟨⟨#[]⟩,⟨#[]⟩,[x],[],[],0⟩]=szE x+1:=by simp [szSs,szS,szEs]
    rw [hzv] at hz
    have hzx:=szE_bulk x
    clear hB0 hB1 hb hK hE hK2 hzb hzv
    refine (helmsmanref12_Size.calls kz (some ⟨w2.heap.size+1,0,none⟩) 1 [⟨⟨#[]⟩,⟨#[]⟩,[x],[],[],0⟩] ((szE x+1:Nat):Int) w3 hS (Nat.le_refl _) hz).mono ?_
    rintro e_ w4 ⟨rfl,hb⟩
    have BK:=Aside0.mk (blk_below BK3.out hb)
    have HB4:=Aside0.mk (HB3.out.trans (hb.mono HB3.out.size))
    clear hb BK3 HB3 hS hz z0 z1 z2 z3 z4
    have z0:w4.cell? ⟨gA,0,none⟩=some (.string x.f0):=(blk_cell BK.out 0).trans rfl
    have z1:w4.cell? ⟨gA,1,none⟩=some (.string x.f1):=(blk_cell BK.out 1).trans rfl
    have z2:w4.cell? ⟨gA,2,none⟩=some (.int .i64 x.f2):=(blk_cell BK.out 2).trans rfl
    have z3:w4.cell? ⟨gA,3,none⟩=some (.slice A x.f3.length c):=(blk_cell BK.out 3).trans rfl
    have z4:w4.cell? ⟨gA,4,none⟩=some (.int .i64 x.f4):=(blk_cell BK.out 4).trans rfl
    by_cases hg:szE x+1 > 300
    · have g0:decide (((szE x+1:Nat):Int) > 300)=true:=decide_eq_true (by omega)
      have g1:decide ((300:Int) < ((szE x+1:Nat):Int))=true:=decide_eq_true (by omega)
      have g2:decide (300 < szE x+1)=true:=decide_eq_true (by omega)
      have g3:decide ((300:Int) < (szE x:Int)+1)=true:=decide_eq_true (by omega)
      clear hg hzx
      go_wp2_with fail
      refine (alive_pr _ (hT.later HB4.out)).mono ?_
      rintro e_ w5 ⟨rfl,hb⟩
      have HB5:=HB4.out.trans (hb.mono HB4.out.size)
      go_wp2
      go_ret
      exact ⟨rfl,HB5⟩
    · have g0:decide (((szE x+1:Nat):Int) > 300)=false:=decide_eq_false (by omega)
      have g1:decide ((300:Int) < ((szE x+1:Nat):Int))=false:=decide_eq_false (by omega)
      have g2:decide (300 < szE x+1)=false:=decide_eq_false (by omega)
      have g3:decide ((300:Int) < (szE x:Int)+1)=false:=decide_eq_false (by omega)
      obtain ⟨ke,he⟩:=(Expr_ev x (by have:=HB.out;omega)).rounds
      have HEX:=Aside0.mk he
      clear hg hzx he
      go_wp2_with fail
      refine (helmsmanlaw12_Expr.calls ke x.f0 x.f1 x.f2 A c x.f3 x.f4 _ _ _ _ _ w4 (Kd.C_below HC.out HB4.out) HL.out HEX.out).mono ?_
      rintro e_ w5 ⟨v3_,rfl,hR,hb⟩
      obtain ⟨Ax,cx,rfl⟩:=Kd.R_slice hR
      have HX:=Aside0.mk (Kd.R_reads' hR).2
      have BK5:=Aside0.mk (blk_below BK.out hb)
      have HB5:=Aside0.mk (HB4.out.trans (hb.mono HB4.out.size))
      clear hR hb BK HB4 z0 z1 z2 z3 z4
      go_wp2_with (first|((with_reducible refine gate_dst (N:=3) rfl ?_);refine box_event ?hgX (N:=3) ?hdX (cs:=#[.string (⟨#[]⟩:ByteArray),.string (⟨#[]⟩:ByteArray),.int .i64 0,.slice none 0 0,.int .i64 0]) (t:=33) ?hrX ?_;(case hdX=>rfl);(case hgX=>rfl);(case hrX=>first|(go_simp;done)|(go_simp;rfl));intro gX hg w6 hbox hb;have BKX:=Aside0.mk hbox;have GWX:=Aside0.mk hg;have HBX:=Aside0.mk hb;clear hb hbox hg;have zX0:w6.cell? ⟨gX,0,none⟩=some (.string (⟨#[]⟩:ByteArray)):=(blk_cell BKX.out 0).trans rfl;have yX0:=blk_frozen BKX.out 0;have zX1:w6.cell? ⟨gX,1,none⟩=some (.string (⟨#[]⟩:ByteArray)):=(blk_cell BKX.out 1).trans rfl;have yX1:=blk_frozen BKX.out 1;have zX2:w6.cell? ⟨gX,2,none⟩=some (.int .i64 0):=(blk_cell BKX.out 2).trans rfl;have yX2:=blk_frozen BKX.out 2;have zX3:w6.cell? ⟨gX,3,none⟩=some (.slice none 0 0):=(blk_cell BKX.out 3).trans rfl;have yX3:=blk_frozen BKX.out 3;have zX4:w6.cell? ⟨gX,4,none⟩=some (.int .i64 0):=(blk_cell BKX.out 4).trans rfl;have yX4:=blk_frozen BKX.out 4))
      have hge:w5.heap.size≤gX:=Nat.le_of_eq GWX.out.symm
      have BX:=blk_set (blk_set (blk_set (blk_set (blk_set BKX.out 0 (.string (convE x).f0)) 1 (.string (convE x).f1)) 2 (.int .i64 (convE x).f2)) 3 (.slice Ax (convE x).f3.length cx)) 4 (.int .i64 (convE x).f4)
      have e7:Below w5.heap.size w5 (((((w6.setCell ⟨gX,0,none⟩ (.string (convE x).f0)).setCell ⟨gX,1,none⟩ (.string (convE x).f1)).setCell ⟨gX,2,none⟩ (.int .i64 (convE x).f2)).setCell ⟨gX,3,none⟩ (.slice Ax (convE x).f3.length cx)).setCell ⟨gX,4,none⟩ (.int .i64 (convE x).f4)):=((((HBX.out.setCell (p:=⟨gX,0,none⟩) hge _).setCell (p:=⟨gX,1,none⟩) hge _).setCell (p:=⟨gX,2,none⟩) hge _).setCell (p:=⟨gX,3,none⟩) hge _).setCell (p:=⟨gX,4,none⟩) hge _
      have BK7:=Aside0.mk (blk_below BK5.out e7)
      clear zX0 zX1 zX2 zX3 zX4 yX0 yX1 yX2 yX3 yX4 BKX HBX
      generalize (((((w6.setCell ⟨gX,0,none⟩ (.string (convE x).f0)).setCell ⟨gX,1,none⟩ (.string (convE x).f1)).setCell ⟨gX,2,none⟩ (.int .i64 (convE x).f2)).setCell ⟨gX,3,none⟩ (.slice Ax (convE x).f3.length cx)).setCell ⟨gX,4,none⟩ (.int .i64 (convE x).f4))=w7 at BX e7 BK7 ⊢
      have HB7:=Aside0.mk (HB5.out.trans (e7.mono HB5.out.size))
      have HX7:=Aside0.mk (Kd.C_below HX.out.2 e7)
      have HXL:=Aside0.mk HX.out.1
      have BX7:=Aside0.mk BX
      clear BX e7 BK5 HX HB5 hge GWX
      obtain ⟨k1,t1⟩:=(text_ev x HO.out (by have:=HB.out;omega)).rounds
      obtain ⟨k2,t2⟩:=(rtext_ev x HO.out HWB.out (by have:=HB.out;omega)).rounds
      obtain ⟨k3,t3⟩:=(tDeep_ev x (by have:=HB.out;omega)).rounds
      obtain ⟨k4,t4⟩:=(Deep_ev x (by have:=HB.out;omega)).rounds
      have T1:=Aside0.mk t1
      have T2:=Aside0.mk t2
      have T3:=Aside0.mk t3
      have T4:=Aside0.mk t4
      clear t1 t2 t3 t4
      generalize htx:textE x=tx at T1 T2
      clear htx
      generalize hdx:(dpE x:Int)=dx at T3 T4
      clear hdx
      have hHeld0:w7.drew.cell? ⟨gA,0,none⟩=some (.string x.f0)∧w7.drew.cell? ⟨gA,1,none⟩=some (.string x.f1)∧w7.drew.cell? ⟨gA,2,none⟩=some (.int .i64 x.f2)∧w7.drew.cell? ⟨gA,3,none⟩=some (.slice A x.f3.length c)∧w7.drew.cell? ⟨gA,4,none⟩=some (.int .i64 x.f4)∧w7.drew.cell? ⟨gX,0,none⟩=some (.string (convE x).f0)∧w7.drew.cell? ⟨gX,1,none⟩=some (.string (convE x).f1)∧w7.drew.cell? ⟨gX,2,none⟩=some (.int .i64 (convE x).f2)∧w7.drew.cell? ⟨gX,3,none⟩=some (.slice Ax (convE x).f3.length cx)∧w7.drew.cell? ⟨gX,4,none⟩=some (.int .i64 (convE x).f4)∧Below w7.heap.size w7 w7.drew:=⟨(blk_cell BK7.out 0).trans rfl,(blk_cell BK7.out 1).trans rfl,(blk_cell BK7.out 2).trans rfl,(blk_cell BK7.out 3).trans rfl,(blk_cell BK7.out 4).trans rfl,(blk_cell BX7.out 0).trans rfl,(blk_cell BX7.out 1).trans rfl,(blk_cell BX7.out 2).trans rfl,(blk_cell BX7.out 3).trans rfl,(blk_cell BX7.out 4).trans rfl,Below.drew (Below.refl _ w7)⟩
      refine start_ (n:=16) (ds:=[]) (S:=fun w'=>w'.cell? ⟨gA,0,none⟩=some (.string x.f0)∧w'.cell? ⟨gA,1,none⟩=some (.string x.f1)∧w'.cell? ⟨gA,2,none⟩=some (.int .i64 x.f2)∧w'.cell? ⟨gA,3,none⟩=some (.slice A x.f3.length c)∧w'.cell? ⟨gA,4,none⟩=some (.int .i64 x.f4)∧w'.cell? ⟨gX,0,none⟩=some (.string (convE x).f0)∧w'.cell? ⟨gX,1,none⟩=some (.string (convE x).f1)∧w'.cell? ⟨gX,2,none⟩=some (.int .i64 (convE x).f2)∧w'.cell? ⟨gX,3,none⟩=some (.slice Ax (convE x).f3.length cx)∧w'.cell? ⟨gX,4,none⟩=some (.int .i64 (convE x).f4)∧Below w7.heap.size w7 w') (flg 16 0) (by kernel_rfl) rfl (by kernel_rfl) hHeld0 (fun hHeld=>?_)
      clear hHeld0
      generalize w7.drew=v0 at hHeld ⊢
      refine one_ (i:=0) (N:=some 18) (flg 16 1) rfl rfl (by kernel_rfl) (by decide) (fun K hK=>?_)
      refine goes_ Tryd.func10 (by kernel_rfl) rfl #[] (by rfl) rfl rfl ar_ ?_
      have hb7:=hHeld.2.2.2.2.2.2.2.2.2.2
      have hbw:=HB7.out.trans (hb7.mono HB7.out.size)
      refine (alive_pr v0 (hT.later hbw)).mono ?_
      rintro e_ v1 ⟨rfl,hb⟩
      refine ⟨_,rfl,?_⟩
      obtain ⟨t0,t1,t2,t3,t4,t5,t6,t7,t8,t9,t10⟩:=hHeld
      have hHeld:v1.cell? ⟨gA,0,none⟩=some (.string x.f0)∧v1.cell? ⟨gA,1,none⟩=some (.string x.f1)∧v1.cell? ⟨gA,2,none⟩=some (.int .i64 x.f2)∧v1.cell? ⟨gA,3,none⟩=some (.slice A x.f3.length c)∧v1.cell? ⟨gA,4,none⟩=some (.int .i64 x.f4)∧v1.cell? ⟨gX,0,none⟩=some (.string (convE x).f0)∧v1.cell? ⟨gX,1,none⟩=some (.string (convE x).f1)∧v1.cell? ⟨gX,2,none⟩=some (.int .i64 (convE x).f2)∧v1.cell? ⟨gX,3,none⟩=some (.slice Ax (convE x).f3.length cx)∧v1.cell? ⟨gX,4,none⟩=some (.int .i64 (convE x).f4)∧Below w7.heap.size w7 v1:=⟨(hb.cell (World.block_lt_of_cell? v0 _ t0)).trans t0,(hb.cell (World.block_lt_of_cell? v0 _ t1)).trans t1,(hb.cell (World.block_lt_of_cell? v0 _ t2)).trans t2,(hb.cell (World.block_lt_of_cell? v0 _ t3)).trans t3,(hb.cell (World.block_lt_of_cell? v0 _ t4)).trans t4,(hb.cell (World.block_lt_of_cell? v0 _ t5)).trans t5,(hb.cell (World.block_lt_of_cell? v0 _ t6)).trans t6,(hb.cell (World.block_lt_of_cell? v0 _ t7)).trans t7,(hb.cell (World.block_lt_of_cell? v0 _ t8)).trans t8,(hb.cell (World.block_lt_of_cell? v0 _ t9)).trans t9,t10.trans (hb.mono t10.size)⟩
      have HBE:=Aside0.mk (hbw.trans (hb.mono hbw.size))
      refine hK.out _ _ hHeld (fun hHeld=>?_)
      clear hK K hb hb7 hbw t0 t1 t2 t3 t4 t5 t6 t7 t8 t9 t10
      refine norm_ (a':=?_) ?_ ?_
      rotate_left
      · show Act.put _ (some 18) _=_
        simp only [Act.put,pA_,pB_,pC_,i64_w,i32_w]
        rfl
      refine pur_ 1 19 (flg 16 3) rfl rfl (by kernel_rfl) (fun _ _ _ h=>h) ?_
      refine tak_ 2 20 (flg 16 7) rfl rfl (by kernel_rfl) (fun _ _ _ h=>h) hHeld ?_
      refine tak_ 4 22 (flg 16 23) rfl rfl (by kernel_rfl) (fun _ _ _ h=>h) hHeld ?_
      refine one_ (i:=3) (N:=some 21) (flg 16 31) rfl rfl (by kernel_rfl) (by decide) (fun K hK=>?_)
      refine goes_ Tryd.func12 (by kernel_rfl) rfl #[.agg #[.string (convE x).f0,.string (convE x).f1,.int .i64 (convE x).f2,.slice Ax (convE x).f3.length cx,.int .i64 (convE x).f4]] (by rfl) rfl rfl ar_ ?_
      have hb7:=hHeld.2.2.2.2.2.2.2.2.2.2
      have hbw:=HB7.out.trans (hb7.mono HB7.out.size)
      refine (tree_Text.calls k1 _ _ _ Ax cx _ _ tx v1 (hT.later hbw) (Kd.C_below HX7.out hb7) HXL.out T1.out).mono ?_
      rintro e_ v2 ⟨rfl,hb⟩
      refine ⟨_,rfl,?_⟩
      obtain ⟨t0,t1,t2,t3,t4,t5,t6,t7,t8,t9,t10⟩:=hHeld
      have hHeld:v2.cell? ⟨gA,0,none⟩=some (.string x.f0)∧v2.cell? ⟨gA,1,none⟩=some (.string x.f1)∧v2.cell? ⟨gA,2,none⟩=some (.int .i64 x.f2)∧v2.cell? ⟨gA,3,none⟩=some (.slice A x.f3.length c)∧v2.cell? ⟨gA,4,none⟩=some (.int .i64 x.f4)∧v2.cell? ⟨gX,0,none⟩=some (.string (convE x).f0)∧v2.cell? ⟨gX,1,none⟩=some (.string (convE x).f1)∧v2.cell? ⟨gX,2,none⟩=some (.int .i64 (convE x).f2)∧v2.cell? ⟨gX,3,none⟩=some (.slice Ax (convE x).f3.length cx)∧v2.cell? ⟨gX,4,none⟩=some (.int .i64 (convE x).f4)∧Below w7.heap.size w7 v2:=⟨(hb.cell (World.block_lt_of_cell? v1 _ t0)).trans t0,(hb.cell (World.block_lt_of_cell? v1 _ t1)).trans t1,(hb.cell (World.block_lt_of_cell? v1 _ t2)).trans t2,(hb.cell (World.block_lt_of_cell? v1 _ t3)).trans t3,(hb.cell (World.block_lt_of_cell? v1 _ t4)).trans t4,(hb.cell (World.block_lt_of_cell? v1 _ t5)).trans t5,(hb.cell (World.block_lt_of_cell? v1 _ t6)).trans t6,(hb.cell (World.block_lt_of_cell? v1 _ t7)).trans t7,(hb.cell (World.block_lt_of_cell? v1 _ t8)).trans t8,(hb.cell (World.block_lt_of_cell? v1 _ t9)).trans t9,t10.trans (hb.mono t10.size)⟩
      have HBE:=Aside0.mk (hbw.trans (hb.mono hbw.size))
      refine hK.out _ _ hHeld (fun hHeld=>?_)
      clear hK K hb hb7 hbw t0 t1 t2 t3 t4 t5 t6 t7 t8 t9 t10
      refine norm_ (a':=?_) ?_ ?_
      rotate_left
      · show Act.put _ (some 21) _=_
        simp only [Act.put,pA_,pB_,pC_,i64_w,i32_w]
        rfl
      refine one_ (i:=5) (N:=some 23) (flg 16 63) rfl rfl (by kernel_rfl) (by decide) (fun K hK=>?_)
      refine goes_ Tryd.func13 (by kernel_rfl) rfl #[.agg #[.string x.f0,.string x.f1,.int .i64 x.f2,.slice A x.f3.length c,.int .i64 x.f4]] (by rfl) rfl rfl ar_ ?_
      have hb7:=hHeld.2.2.2.2.2.2.2.2.2.2
      have hbw:=HB7.out.trans (hb7.mono HB7.out.size)
      refine (helmsmanref12_Text.calls k2 _ _ _ A c _ _ tx v2 (Kd.C_below HC.out hbw) HL.out T2.out).mono ?_
      rintro e_ v3 ⟨rfl,hb⟩
      refine ⟨_,rfl,?_⟩
      obtain ⟨t0,t1,t2,t3,t4,t5,t6,t7,t8,t9,t10⟩:=hHeld
      have hHeld:v3.cell? ⟨gA,0,none⟩=some (.string x.f0)∧v3.cell? ⟨gA,1,none⟩=some (.string x.f1)∧v3.cell? ⟨gA,2,none⟩=some (.int .i64 x.f2)∧v3.cell? ⟨gA,3,none⟩=some (.slice A x.f3.length c)∧v3.cell? ⟨gA,4,none⟩=some (.int .i64 x.f4)∧v3.cell? ⟨gX,0,none⟩=some (.string (convE x).f0)∧v3.cell? ⟨gX,1,none⟩=some (.string (convE x).f1)∧v3.cell? ⟨gX,2,none⟩=some (.int .i64 (convE x).f2)∧v3.cell? ⟨gX,3,none⟩=some (.slice Ax (convE x).f3.length cx)∧v3.cell? ⟨gX,4,none⟩=some (.int .i64 (convE x).f4)∧Below w7.heap.size w7 v3:=⟨(hb.cell (World.block_lt_of_cell? v2 _ t0)).trans t0,(hb.cell (World.block_lt_of_cell? v2 _ t1)).trans t1,(hb.cell (World.block_lt_of_cell? v2 _ t2)).trans t2,(hb.cell (World.block_lt_of_cell? v2 _ t3)).trans t3,(hb.cell (World.block_lt_of_cell? v2 _ t4)).trans t4,(hb.cell (World.block_lt_of_cell? v2 _ t5)).trans t5,(hb.cell (World.block_lt_of_cell? v2 _ t6)).trans t6,(hb.cell (World.block_lt_of_cell? v2 _ t7)).trans t7,(hb.cell (World.block_lt_of_cell? v2 _ t8)).trans t8,(hb.cell (World.block_lt_of_cell? v2 _ t9)).trans t9,t10.trans (hb.mono t10.size)⟩
      have HBE:=Aside0.mk (hbw.trans (hb.mono hbw.size))
      refine hK.out _ _ hHeld (fun hHeld=>?_)
      clear hK K hb hb7 hbw t0 t1 t2 t3 t4 t5 t6 t7 t8 t9 t10
      refine norm_ (a':=?_) ?_ ?_
      rotate_left
      · show Act.put _ (some 23) _=_
        simp only [Act.put,pA_,pB_,pC_,i64_w,i32_w]
        rfl
      refine pur_ 6 24 (flg 16 127) rfl rfl (by kernel_rfl) (fun _ _ _ h=>h) ?_
      refine pur_ 7 25 (flg 16 255) rfl rfl (by kernel_rfl) (fun _ _ _ h=>h) ?_
      refine pur_ 8 26 (flg 16 511) rfl rfl (by kernel_rfl) (fun _ _ _ h=>h) ?_
      refine tak_ 9 27 (flg 16 1023) rfl rfl (by kernel_rfl) (fun _ _ _ h=>h) hHeld ?_
      refine tak_ 11 29 (flg 16 3071) rfl rfl (by kernel_rfl) (fun _ _ _ h=>h) hHeld ?_
      refine one_ (i:=10) (N:=some 28) (flg 16 4095) rfl rfl (by kernel_rfl) (by decide) (fun K hK=>?_)
      refine goes_ Tryd.func14 (by kernel_rfl) rfl #[.agg #[.string (convE x).f0,.string (convE x).f1,.int .i64 (convE x).f2,.slice Ax (convE x).f3.length cx,.int .i64 (convE x).f4]] (by rfl) rfl rfl ar_ ?_
      have hb7:=hHeld.2.2.2.2.2.2.2.2.2.2
      have hbw:=HB7.out.trans (hb7.mono HB7.out.size)
      refine (tree_Deep.calls k3 _ _ _ Ax cx _ _ dx v3 (Kd.C_below HX7.out hb7) HXL.out T3.out).mono ?_
      rintro e_ v4 ⟨rfl,hb⟩
      refine ⟨_,rfl,?_⟩
      obtain ⟨t0,t1,t2,t3,t4,t5,t6,t7,t8,t9,t10⟩:=hHeld
      have hHeld:v4.cell? ⟨gA,0,none⟩=some (.string x.f0)∧v4.cell? ⟨gA,1,none⟩=some (.string x.f1)∧v4.cell? ⟨gA,2,none⟩=some (.int .i64 x.f2)∧v4.cell? ⟨gA,3,none⟩=some (.slice A x.f3.length c)∧v4.cell? ⟨gA,4,none⟩=some (.int .i64 x.f4)∧v4.cell? ⟨gX,0,none⟩=some (.string (convE x).f0)∧v4.cell? ⟨gX,1,none⟩=some (.string (convE x).f1)∧v4.cell? ⟨gX,2,none⟩=some (.int .i64 (convE x).f2)∧v4.cell? ⟨gX,3,none⟩=some (.slice Ax (convE x).f3.length cx)∧v4.cell? ⟨gX,4,none⟩=some (.int .i64 (convE x).f4)∧Below w7.heap.size w7 v4:=⟨(hb.cell (World.block_lt_of_cell? v3 _ t0)).trans t0,(hb.cell (World.block_lt_of_cell? v3 _ t1)).trans t1,(hb.cell (World.block_lt_of_cell? v3 _ t2)).trans t2,(hb.cell (World.block_lt_of_cell? v3 _ t3)).trans t3,(hb.cell (World.block_lt_of_cell? v3 _ t4)).trans t4,(hb.cell (World.block_lt_of_cell? v3 _ t5)).trans t5,(hb.cell (World.block_lt_of_cell? v3 _ t6)).trans t6,(hb.cell (World.block_lt_of_cell? v3 _ t7)).trans t7,(hb.cell (World.block_lt_of_cell? v3 _ t8)).trans t8,(hb.cell (World.block_lt_of_cell? v3 _ t9)).trans t9,t10.trans (hb.mono t10.size)⟩
      have HBE:=Aside0.mk (hbw.trans (hb.mono hbw.size))
      refine hK.out _ _ hHeld (fun hHeld=>?_)
      clear hK K hb hb7 hbw t0 t1 t2 t3 t4 t5 t6 t7 t8 t9 t10
      refine norm_ (a':=?_) ?_ ?_
      rotate_left
      · show Act.put _ (some 28) _=_
        simp only [Act.put,pA_,pB_,pC_,i64_w,i32_w]
        rfl
      refine one_ (i:=12) (N:=some 30) (flg 16 8191) rfl rfl (by kernel_rfl) (by decide) (fun K hK=>?_)
      refine goes_ Tryd.func15 (by kernel_rfl) rfl #[.agg #[.string x.f0,.string x.f1,.int .i64 x.f2,.slice A x.f3.length c,.int .i64 x.f4]] (by rfl) rfl rfl ar_ ?_
      have hb7:=hHeld.2.2.2.2.2.2.2.2.2.2
      have hbw:=HB7.out.trans (hb7.mono HB7.out.size)
      refine (helmsmanref12_Deep.calls k4 _ _ _ A c _ _ dx v4 (Kd.C_below HC.out hbw) HL.out T4.out).mono ?_
      rintro e_ v5 ⟨rfl,hb⟩
      refine ⟨_,rfl,?_⟩
      obtain ⟨t0,t1,t2,t3,t4,t5,t6,t7,t8,t9,t10⟩:=hHeld
      have hHeld:v5.cell? ⟨gA,0,none⟩=some (.string x.f0)∧v5.cell? ⟨gA,1,none⟩=some (.string x.f1)∧v5.cell? ⟨gA,2,none⟩=some (.int .i64 x.f2)∧v5.cell? ⟨gA,3,none⟩=some (.slice A x.f3.length c)∧v5.cell? ⟨gA,4,none⟩=some (.int .i64 x.f4)∧v5.cell? ⟨gX,0,none⟩=some (.string (convE x).f0)∧v5.cell? ⟨gX,1,none⟩=some (.string (convE x).f1)∧v5.cell? ⟨gX,2,none⟩=some (.int .i64 (convE x).f2)∧v5.cell? ⟨gX,3,none⟩=some (.slice Ax (convE x).f3.length cx)∧v5.cell? ⟨gX,4,none⟩=some (.int .i64 (convE x).f4)∧Below w7.heap.size w7 v5:=⟨(hb.cell (World.block_lt_of_cell? v4 _ t0)).trans t0,(hb.cell (World.block_lt_of_cell? v4 _ t1)).trans t1,(hb.cell (World.block_lt_of_cell? v4 _ t2)).trans t2,(hb.cell (World.block_lt_of_cell? v4 _ t3)).trans t3,(hb.cell (World.block_lt_of_cell? v4 _ t4)).trans t4,(hb.cell (World.block_lt_of_cell? v4 _ t5)).trans t5,(hb.cell (World.block_lt_of_cell? v4 _ t6)).trans t6,(hb.cell (World.block_lt_of_cell? v4 _ t7)).trans t7,(hb.cell (World.block_lt_of_cell? v4 _ t8)).trans t8,(hb.cell (World.block_lt_of_cell? v4 _ t9)).trans t9,t10.trans (hb.mono t10.size)⟩
      have HBE:=Aside0.mk (hbw.trans (hb.mono hbw.size))
      refine hK.out _ _ hHeld (fun hHeld=>?_)
      clear hK K hb hb7 hbw t0 t1 t2 t3 t4 t5 t6 t7 t8 t9 t10
      refine norm_ (a':=?_) ?_ ?_
      rotate_left
      · show Act.put _ (some 30) _=_
        simp only [Act.put,pA_,pB_,pC_,i64_w,i32_w]
        rfl
      refine pur_ 13 31 (flg 16 16383) rfl rfl (by kernel_rfl) (fun _ _ _ h=>h) ?_
      refine pur_ 14 32 (flg 16 32767) rfl rfl (by kernel_rfl) (fun _ _ _ h=>h) ?_
      refine pur_ 15 2 (flg 16 65535) rfl rfl (by kernel_rfl) (fun _ _ _ h=>h) ?_
      refine done_ (by kernel_rfl) ?_
      clear hHeld
      go_wp2
      go_ret
      exact ⟨rfl,HBE.out⟩
end Go.Proofs.YtnnbbeloifhofaaDoor.P
end
section
namespace Go.Proofs.YtnnbbeloifhofaaDoor.P
open Go Go.RowKit Go.Proofs
open Go.Proofs.YtnnbbeloifhofaaDoorW.PrintWords
set_option linter.unusedVariables false
def helmsmanlaw12_TreeTexts.f (k:Nat) (a0_0 a0_1:ByteArray) (a0_2:Int) (l0_3:List RE) (a0_4:Int):Option Bool:=if (okEB ⟨a0_0,a0_1,a0_2,l0_3,a0_4⟩ && decide (bulkE ⟨a0_0,a0_1,a0_2,l0_3,a0_4⟩≤2097152))=true then some true else none
theorem helmsmanlaw12_TreeTexts.calls (k:Nat) (a0_0 a0_1:ByteArray) (a0_2:Int) (A0_3:Option Addr) (c0_3:Nat) (l0_3:List RE) (a0_4:Int) (r:Bool) (w:World) (hT:TabT w) (hr0_3:Kd.C k24 w A0_3 l0_3.length l0_3) (hc0_3:l0_3.length≤c0_3) (h:helmsmanlaw12_TreeTexts.f k a0_0 a0_1 a0_2 l0_3 a0_4=some r) :
    Calls Tryd.prog 3 #[.agg #[.string a0_0,.string a0_1,.int .i64 a0_2,.slice A0_3 l0_3.length c0_3,.int .i64 a0_4]] w fun e w'=>e=.returned (.bool r)∧Below w.heap.size w w':=by
  unfold helmsmanlaw12_TreeTexts.f at h
  split at h
  · rename_i hc
    rw [Bool.and_eq_true,okEB_iff,decide_eq_true_eq] at hc
    obtain rfl:=Option.some.inj h
    exact texts_pr ⟨a0_0,a0_1,a0_2,l0_3,a0_4⟩ A0_3 c0_3 w hT hr0_3 hc0_3 hc.1 hc.2
  · cases h
theorem TreeTexts_ev (x:RE) (ho:okE x) (hb:bulkE x≤2097152):Ev (fun k=>helmsmanlaw12_TreeTexts.f k x.f0 x.f1 x.f2 x.f3 x.f4) true:=by
  cases x
  unfold helmsmanlaw12_TreeTexts.f
  exact Ev.yes (by rw [Bool.and_eq_true,okEB_iff,decide_eq_true_eq];exact ⟨ho,hb⟩) (Ev.now _)
end Go.Proofs.YtnnbbeloifhofaaDoor.P
end
section
namespace Go.Proofs.YtnnbbeloifhofaaDoor.treeTextsUpto
open Go.ChangeShapes Go.WideShapes Go.ChangeAt Go.RowKit
open Go.ChangeMaps (open_string shut_string)
set_option linter.unusedVariables false
theorem reads (os:Os) {H:Type} (enc:TypeId × Value→H) : ∃ places,DataW.whole enc Tryd.prog ((laidWorld os).forCall (fun _ _=>0) ⟨#[],#[.agg #[.string ByteArray.empty,.string ByteArray.empty,.int .i64 0,.slice none 0 0,.int .i64 0]],[]⟩).memory Tryd.f3.params.toList Rows.treeTextsSpec.vars false (#[.agg #[.string ByteArray.empty,.string ByteArray.empty,.int .i64 0,.slice none 0 0,.int .i64 0]]:Array Value).toList 8=some ([.agg [.lit (.string []),.lit (.string []),.lit (.int .i64 0),.nil,.lit (.int .i64 0)]],[],places):=
  ⟨[],by kernel_rfl⟩
set_option maxRecDepth 100000 in
theorem lifted (os:Os) (started:os.Started) (H:Type) (enc:TypeId × Value→H) (F:Stop.Interp) :
    ReturnsInHanded {} Tryd.checked os 3 .any ((Rows.OpenSpec.upto Rows.treeTextsSpec).preRow enc Tryd.prog Tryd.f3 Rows.treeTextsUptoRow.domain false Rows.treeTextsUptoRow.laid) (((Rows.OpenSpec.upto Rows.treeTextsSpec).at F).post enc Tryd.prog Tryd.f3 false true false false):=by
  obtain ⟨places,hx⟩:=reads os enc
  refine returnsInHanded_of_row (C:=Tryd.checked) (s:=(Rows.OpenSpec.upto Rows.treeTextsSpec)) own started (by kernel_rfl) Tryd.func3
    (witness_row_atRef (enc:=enc) (C:=Tryd.checked) false (laidWorld os) #[.agg #[.string ByteArray.empty,.string ByteArray.empty,.int .i64 0,.slice none 0 0,.int .i64 0]] rfl (by kernel_rfl) (by kernel_rfl) (by kernel_rfl)
      (OpenSpec.preRow_of_cond 8 hx (by kernel_rfl) (fun k hk=>by cases hk;kernel_rfl) (by kernel_rfl) (laid_met os _))) ?_
  intro W base args ds gs before hval0 hW _ hcond hsz0 hL _ _
  have hval : ∀ (j:Nat) t v,Tryd.f3.params[j]?=some t→args[j]?=some v→Value.okWide Tryd.prog W .any base t v:=hval0
  have hW':=hW
  obtain ⟨p,q,hA0,hV,rfl,hfz,hnd⟩:=hW
  have hA:DataW.TrodAll enc Tryd.prog W 0 (fun _=>true) true Tryd.f3.params.toList args.toList ds p:=hA0
  rw [Tryd.params3] at hA hval
  obtain ⟨v0,vs0,d0,ds0,p0,q0,hargs,rfl,rfl,h0,r0⟩:=trodAll_cons hA
  obtain ⟨rfl,rfl,rfl⟩:=trodAll_nil r0
  obtain rfl:args=#[v0]:=by cases args;simp_all
  obtain ⟨rfl,rfl⟩:=trodVars_none hV
  have lt0 : ∀ x ∈ p0,x.block < W.heap.size:=by obtain ⟨m,hm⟩:=h0;exact DataW.trod_lt m _ _ _ hm
  have hr0:=h0
  obtain ⟨m0,hm0⟩:=hr0
  have hT:P.TabT W:=tabs hL
  obtain ⟨cs0,rfl,_⟩:=okWide_struct Tryd.underlying24 (hval 0 24 v0 rfl rfl)
  obtain ⟨X0,⟨A0,c0,hcs0,l0,g0⟩,B0,O0⟩:=P.readE m0 _ _ hm0
  replace hcs0:cs0.toList=[.string X0.f0,.string X0.f1,.int .i64 X0.f2,.slice A0 X0.f3.length c0,.int .i64 X0.f4]:=hcs0
  obtain rfl:cs0=#[.string X0.f0,.string X0.f1,.int .i64 X0.f2,.slice A0 X0.f3.length c0,.int .i64 X0.f4]:=by cases cs0;simp_all
  replace B0:_≤Rows.uptoBulk d0:=B0
  have hB:Rows.uptoBulkAll [d0]≤1048576:=of_decide_eq_true (hcond _ rfl)
  simp only [Rows.uptoBulkAll] at hB
  obtain ⟨k,hk⟩:=(P.TreeTexts_ev X0 O0 (by omega)).rounds
  refine (P.helmsmanlaw12_TreeTexts.calls k X0.f0 X0.f1 X0.f2 A0 c0 X0.f3 X0.f4 true W hT g0 l0 hk).mono fun e W' ⟨he,bel⟩=>?_
  subst he
  exact ⟨_,rfl,_,_,_,[],_,[],hW',trodAll_mk1 (shut_bool Tryd.underlying4 _),(trodAll_cons_mk (Below.trod laidOut (by kernel_rfl) (of_decide_eq_true (by kernel_rfl)) h0 bel lt0) trodAll_mk0),rfl,bel.frame _,fun h=>by cases h⟩
theorem said:Rows.TreeTextsUptoSaid:=
  OpenClaim.holds_of_cond 3 Tryd.f3 rfl rfl rfl rfl rfl rfl rfl ⟨rfl,rfl,rfl,rfl,rfl⟩ rfl rfl rfl rfl rfl (by kernel_rfl) Tryd.func3 (by kernel_rfl)
    (of_decide_eq_true (by kernel_rfl)) (by unfold Func.isWrapper;first|(rw [if_pos (by decide +kernel)];kernel_rfl)|(rw [if_neg (by decide +kernel)];exact ⟨rfl,rfl⟩))
    (fun os started H enc _ F=>by rw [OpenClaim.pre_eq_preRow];exact lifted os started H enc F)
theorem plain (f:FuncId) (fn:Func) (hf:Tryd.pinned.checked.prog.funcNamed Rows.treeTextsUptoRow.func=some f) (hfn:Tryd.pinned.checked.prog.funcs[f]?=some fn) :
    false=Tryd.pinned.checked.prog.looks []∧∀ (j:Nat) t,fn.params[j]?=some t→Tryd.pinned.checked.prog.wantsStandIn t=false:=by
  obtain rfl:f=3:=Option.some.inj ((show Tryd.prog.funcNamed Rows.treeTextsUptoRow.func=some 3 by kernel_rfl).symm.trans hf) |>.symm
  obtain rfl:fn=Tryd.f3:=(Option.some.inj (Tryd.func3.symm.trans hfn)).symm
  refine ⟨by kernel_rfl,fun j t ht=>?_⟩
  rw [Tryd.params3] at ht
  have ht2:=Array.mem_of_getElem? ht
  have ht3:t=24:=by simpa using ht2
  obtain rfl:=ht3
  exact (show Tryd.prog.wantsStandIn 24=false by kernel_rfl)
end Go.Proofs.YtnnbbeloifhofaaDoor.treeTextsUpto
namespace Go.Proofs.YtnnbbeloifhofaaDoor
theorem treeTextsUpto_holds:Rows.TreeTextsUptoCardSaid:=
  Claim7.holds_tied_plain_at .later [] _ _ _ _ treeTextsUpto.said (fun _ h=>by cases h) (by kernel_rfl) (fun _ h=>by cases h) treeTextsUpto_row_tie rfl ⟨rfl,rfl⟩ (by kernel_rfl) rfl treeTextsUpto.plain (by kernel_rfl)
#print axioms treeTextsUpto_holds
end Go.Proofs.YtnnbbeloifhofaaDoor
end
