/- TreePlaces: for all programs (what is read of bulk at most 1048576) and any shift, where things stood is of no account: what is moved is the same, and is printed alike. The second form: no other condition. -/
import Derived.Test.YtnnbbeloifhofaaDoorCTreePlacesUpto7
import Derived.Test.YtnnbbeloifhofaaDoorCTreePlacesUpto8
import Derived.Test.YtnnbbeloifhofaaDoorCards
import Derived.Test.YtnnbbeloifhofaaDoorTie
import Derived.Test.YtnnbbeloifhofaaDoorCTreePlacesUpto0
import Derived.Test.YtnnbbeloifhofaaDoorCTreePlacesUpto6
import Derived.WalkKit
import Derived.ProofKit
import Derived.OpenShut
import Derived.ShutString
import Derived.ChangeOld
import Derived.Below
import Derived.SizedLaws
section
/- The plain law of TreePlaces. -/
namespace Go.Proofs.YtnnbbeloifhofaaDoor.P
open Go Go.RowKit Go.Proofs
open Go.Proofs.YtnnbbeloifhofaaDoorW.PrintWords Go.Proofs.YtnnbbeloifhofaaDoorW.PrintLast Go.Proofs.YtnnbbeloifhofaaDoorW.PrintMore
set_option linter.unusedVariables false

def movP (d : Int) (x : RP) : RP := ⟨x.f0, movSs d x.f1⟩
mutual
theorem okE_mov (d : Int) : ∀ x : RE, okE x → okE (movE d x)
  | ⟨a, b, n, l, t⟩, h => by rw [movE, okE]; rw [okE] at h; exact ⟨h.1, okEs_mov d l h.2⟩
theorem okEs_mov (d : Int) : ∀ l : List RE, okEs l → okEs (movEs d l)
  | [], _ => trivial
  | x :: xs, h => ⟨okE_mov d x h.1, okEs_mov d xs h.2⟩
end
mutual
theorem okS_mov (d : Int) : ∀ x : RS, okS x → okS (movS d x)
  | ⟨a, b, e, l, m, t⟩, h => by rw [movS, okS]; rw [okS] at h; exact ⟨okEs_mov d e h.1, okSs_mov d l h.2.1, okSs_mov d m h.2.2⟩
theorem okSs_mov (d : Int) : ∀ l : List RS, okSs l → okSs (movSs d l)
  | [], _ => trivial
  | x :: xs, h => ⟨okS_mov d x h.1, okSs_mov d xs h.2⟩
end
mutual
theorem bulkE_mov (d : Int) : ∀ x : RE, bulkE (movE d x) = bulkE x
  | ⟨a, b, n, l, t⟩ => by rw [movE, bulkE, bulkE, bulkEs_mov d l]
theorem bulkEs_mov (d : Int) : ∀ l : List RE, bulkEs (movEs d l) = bulkEs l
  | [] => rfl
  | x :: xs => by rw [movEs, bulkEs, bulkEs, bulkE_mov d x, bulkEs_mov d xs]
end
mutual
theorem bulkS_mov (d : Int) : ∀ x : RS, bulkS (movS d x) = bulkS x
  | ⟨a, b, e, l, m, t⟩ => by rw [movS, bulkS, bulkS, bulkEs_mov d e, bulkSs_mov d l, bulkSs_mov d m]
theorem bulkSs_mov (d : Int) : ∀ l : List RS, bulkSs (movSs d l) = bulkSs l
  | [] => rfl
  | x :: xs => by rw [movSs, bulkSs, bulkSs, bulkS_mov d x, bulkSs_mov d xs]
end
theorem bulkPr_mov (d : Int) (l : List RP) : ((l.map (movP d)).map bulkPr).sum = (l.map bulkPr).sum := by
  induction l with
  | nil => rfl
  | cons x xs ih =>
    rw [List.map_cons, List.map_cons, List.sum_cons, List.map_cons, List.sum_cons, ih]
    unfold bulkPr movP
    simp only [bulkSs_mov]
section
variable (e : List REn) (v : List RV) (p : List RP) (m : List RS) (d : Int)
theorem strs_refl (l : List ByteArray) : all2 (fun a b => decide (a = b)) l l = true := all2_refl (fun x _ => by simp)
theorem ens_refl : all2 sameEn e e = true := all2_refl (fun x _ => by unfold sameEn; rw [strs_refl]; simp)
theorem vars_refl : all2 sameV v v = true := all2_refl (fun x _ => by unfold sameV; simp)
theorem sameP_mov : sameP e v p m e v (p.map (movP d)) (movSs d m) = true := by
  unfold sameP
  rw [ens_refl, vars_refl, sameSs_mov, all2_self (f := movP d) (fun x _ => by unfold samePr movP; rw [sameSs_mov]; simp)]
  rfl
theorem sameP_refl : sameP e v p m e v p m = true := by
  unfold sameP
  rw [ens_refl, vars_refl, sameSs_refl, all2_refl (fun x _ => by unfold samePr; rw [sameSs_refl]; simp)]
  rfl
theorem procsB_mov : ∀ l : List RP, procsB (l.map (movP d)) = procsB l
  | [] => rfl
  | x :: xs => by
    rw [List.map_cons, procsB, procsB, procsB_mov xs]
    unfold procB movP
    rw [same_stmts (sameSs_mov d x.f1)]
theorem printB_mov (ens : List ES) (vs : List VS) : printB ens vs (p.map (movP d)) (movSs d m) = printB ens vs p m := by
  unfold printB mainB
  rw [procsB_mov, same_stmts (sameSs_mov d m)]
theorem places_l0 (h : Small e v p m) (ho : okP v p m) (hb : bulkP e v p m ≤ 2097152) : ∀ (xs pre : List RP) (n : Int) (acc : List TP), p = pre ++ xs → n = ((pre ++ xs).length : Int) → acc = convPs (pre.map (movP d)) →
    Ev (fun k => helmsmanlaw12_TreePlaces.l0 k d (convPs p) n pre.length (e.map convEn) (v.map convV) (convPs p) (convSs m) (e.map convEn) (v.map convV) acc (convSs (movSs d m))) true := by
  intro xs
  induction xs with
  | nil =>
    intro pre n acc hp hn ha
    rw [List.append_nil] at hp hn
    subst hn ha
    refine Ev.step (fun k => helmsmanlaw12_TreePlaces.l0.eq_2 _ _ _ _ _ _ _ _ _ _ _ _ k) (Ev.no (Int.lt_irrefl _) (alive_now (Ev.yes rfl ?_)))
    have s1 := Same_ev e v p m h e v (p.map (movP d)) (movSs d m)
    have s2 := Same_ev e v p m h e v p m
    rw [sameP_mov] at s1
    rw [sameP_refl] at s2
    rw [← hp]
    refine Ev.bind s1 (Ev.yes rfl (Ev.bind s2 (Ev.yes rfl ?_)))
    have o1 := printOk_small e v p m ho hb
    have o2 := printOk_small e v (p.map (movP d)) (movSs d m) ⟨ho.1, fun x hx => by
      obtain ⟨y, hy, rfl⟩ := List.mem_map.1 hx
      exact okSs_mov d _ (ho.2.1 y hy), okSs_mov d m ho.2.2⟩ (by unfold bulkP at hb ⊢; rw [bulkPr_mov, bulkSs_mov]; exact hb)
    refine Ev.then (tree_Print.some _ _ _ _ o1) (Ev.then (tree_Print.some _ _ _ _ o2) ?_)
    rw [printB_mov, show ((strOf (printB (e.map convEn) (v.map convV) p m)).toList == (strOf (printB (e.map convEn) (v.map convV) p m)).toList) = true from beq_self_eq_true _]
    exact Ev.now _
  | cons x xs ih =>
    intro pre n acc hp hn ha
    have hl := h.pr
    have hbx := h.bo x (by rw [hp]; simp)
    rw [hp] at hl
    subst hn
    refine Ev.step (fun k => helmsmanlaw12_TreePlaces.l0.eq_2 _ _ _ _ _ _ _ _ _ _ _ _ k) (Ev.yes (mid_lt pre x xs) (Ev.yes (by omega) (Ev.yes (by rw [convPs_len, hp]; exact mid_lt pre x xs) ?_)))
    rw [show rd_T66 (convPs p) (pre.length : Int) = convP x by
      rw [hp, convPs, List.map_append, List.map_cons]
      have := rdTP (pre.map convP) (convP x) (xs.map convP)
      rw [List.length_map] at this; exact this]
    refine Ev.bind (movSs_ev d x.f1 hbx) (Ev.yes (by rw [ha, convPs_len, List.length_map]; rw [List.length_append] at hl; omega) ?_)
    rw [next_len pre x xs (by omega)]
    have := ih (pre ++ [x]) ((pre ++ x :: xs).length : Int) (acc ++ [convP (movP d x)]) (by rw [← snoc]; exact hp) (by rw [← snoc]) (by rw [ha, List.map_append, convPs, convPs, List.map_append]; rfl)
    exact this
theorem TreePlaces_ev (ho : okP v p m) (hb : bulkP e v p m ≤ 2097152) : Ev (fun k => helmsmanlaw12_TreePlaces.f k e v p m d) true := by
  have h := small_of e v p m (by omega)
  have yes : Ev (fun k => helmsmanlaw12_TreePlaces.j0 k d true e v p m) true := Ev.step (fun k => helmsmanlaw12_TreePlaces.j0.eq_2 _ _ _ _ _ _ k) (Ev.yes rfl (alive_now (Ev.now _)))
  unfold helmsmanlaw12_TreePlaces.f
  refine Ev.bind (Sized_ev e v p m h (by omega)) ?_
  by_cases g1 : (szP p m : Int) > 300
  · exact Ev.yes g1 yes
  refine Ev.no g1 ?_
  by_cases g2 : d < -1000
  · exact Ev.yes g2 yes
  refine Ev.no g2 ?_
  by_cases g3 : d > 1000
  · rw [decide_eq_true g3]; exact yes
  rw [decide_eq_false g3]
  refine Ev.step (fun k => helmsmanlaw12_TreePlaces.j0.eq_2 _ _ _ _ _ _ k) (Ev.no (by simp) (Ev.bind (Prog_ev e v p m h) (Ev.bind (movSs_ev d m h.ma) ?_)))
  refine places_l0 e v p m d h ho hb p [] _ [] rfl ?_ rfl
  rw [List.nil_append, convPs_len]
end
end Go.Proofs.YtnnbbeloifhofaaDoor.P
end

section
namespace Go.Proofs.YtnnbbeloifhofaaDoor.treePlacesUpto
open Go.ChangeShapes Go.WideShapes Go.ChangeAt Go.RowKit
open Go.ChangeMaps (open_string shut_string)
set_option linter.unusedVariables false

theorem reads (os : Os) {H : Type} (enc : TypeId × Value → H) : ∃ places, DataW.whole enc Tryd.prog ((laidWorld os).forCall (fun _ _ => 0) ⟨#[], #[.agg #[.slice none 0 0, .slice none 0 0, .slice none 0 0, .slice none 0 0], .int .i64 0], []⟩).memory Tryd.f6.params.toList Rows.treePlacesSpec.vars false (#[.agg #[.slice none 0 0, .slice none 0 0, .slice none 0 0, .slice none 0 0], .int .i64 0] : Array Value).toList 8 = some ([.agg [.nil, .nil, .nil, .nil], .lit (.int .i64 0)], [], places) :=
  ⟨[], by kernel_rfl⟩

set_option maxRecDepth 100000 in
theorem lifted (os : Os) (started : os.Started) (H : Type) (enc : TypeId × Value → H) (F : Stop.Interp) :
    ReturnsInHanded {} Tryd.checked os 6 .any ((Rows.OpenSpec.upto Rows.treePlacesSpec).preRow enc Tryd.prog Tryd.f6 Rows.treePlacesUptoRow.domain false Rows.treePlacesUptoRow.laid) (((Rows.OpenSpec.upto Rows.treePlacesSpec).at F).post enc Tryd.prog Tryd.f6 false true false false) := by
  obtain ⟨places, hx⟩ := reads os enc
  refine returnsInHanded_of_row (C := Tryd.checked) (s := (Rows.OpenSpec.upto Rows.treePlacesSpec)) own started (by kernel_rfl) Tryd.func6
    (witness_row_atRef (enc := enc) (C := Tryd.checked) false (laidWorld os) #[.agg #[.slice none 0 0, .slice none 0 0, .slice none 0 0, .slice none 0 0], .int .i64 0] rfl (by kernel_rfl) (by kernel_rfl) (by kernel_rfl)
      (OpenSpec.preRow_of_cond 8 hx (by kernel_rfl) (fun k hk => by cases hk; kernel_rfl) (by kernel_rfl) (laid_met os _))) ?_
  intro W base args ds gs before hval0 hW _ hcond hsz0 hL _ _
  have hval : ∀ (j : Nat) t v, Tryd.f6.params[j]? = some t → args[j]? = some v → Value.okWide Tryd.prog W .any base t v := hval0
  have hW' := hW
  obtain ⟨p, q, hA0, hV, rfl, hfz, hnd⟩ := hW
  have hA : DataW.TrodAll enc Tryd.prog W 0 (fun _ => true) true Tryd.f6.params.toList args.toList ds p := hA0
  rw [Tryd.params6] at hA hval
  obtain ⟨v0, vs0, d0, ds0, p0, q0, hargs, rfl, rfl, h0, r0⟩ := trodAll_cons hA
  obtain ⟨v1, vs1, d1, ds1, p1, q1, rfl, rfl, rfl, h1, r1⟩ := trodAll_cons r0
  obtain ⟨rfl, rfl, rfl⟩ := trodAll_nil r1
  obtain rfl : args = #[v0, v1] := by cases args; simp_all
  obtain ⟨rfl, rfl⟩ := trodVars_none hV
  have lt0 : ∀ x ∈ p0, x.block < W.heap.size := by obtain ⟨m, hm⟩ := h0; exact DataW.trod_lt m _ _ _ hm
  have lt1 : ∀ x ∈ p1, x.block < W.heap.size := by obtain ⟨m, hm⟩ := h1; exact DataW.trod_lt m _ _ _ hm
  have hr0 := h0
  obtain ⟨m0, hm0⟩ := hr0
  have hT : P.TabT W := tabs hL
  obtain ⟨cs0, rfl, _⟩ := okWide_struct Tryd.underlying43 (hval 0 43 v0 rfl rfl)
  obtain ⟨E0, V0, P0, M0, A0_0, A0_1, A0_2, A0_3, c0_0, c0_1, c0_2, c0_3, hcs0, g0_0, l0_0, g0_1, l0_1, g0_2, l0_2, g0_3, l0_3, B0, O0⟩ := P.readProg m0 _ _ hm0
  replace hcs0 : cs0.toList = [.slice A0_0 E0.length c0_0, .slice A0_1 V0.length c0_1, .slice A0_2 P0.length c0_2, .slice A0_3 M0.length c0_3] := hcs0
  obtain rfl : cs0 = #[.slice A0_0 E0.length c0_0, .slice A0_1 V0.length c0_1, .slice A0_2 P0.length c0_2, .slice A0_3 M0.length c0_3] := by cases cs0; simp_all
  replace B0 : _ ≤ Rows.uptoBulk d0 := B0
  obtain ⟨I1, rfl, rfl, rfl, w1⟩ := open_int Tryd.underlying3 (hval 1 3 v1 rfl rfl) h1
  have hB : Rows.uptoBulkAll [d0, .lit (.int .i64 I1)] ≤ 1048576 := of_decide_eq_true (hcond _ rfl)
  simp only [Rows.uptoBulkAll] at hB
  obtain ⟨k, hk⟩ := (P.TreePlaces_ev E0 V0 P0 M0 I1 O0 (by omega)).rounds
  refine (P.helmsmanlaw12_TreePlaces.calls k A0_0 c0_0 E0 A0_1 c0_1 V0 A0_2 c0_2 P0 A0_3 c0_3 M0 I1 true W hT g0_0 l0_0 g0_1 l0_1 g0_2 l0_2 g0_3 l0_3 hk).mono fun e W' ⟨he, bel⟩ => ?_
  subst he
  exact ⟨_, rfl, _, _, _, [], _, [], hW', trodAll_mk1 (shut_bool Tryd.underlying4 _), (trodAll_cons_mk (Below.trod laidOut (by kernel_rfl) (of_decide_eq_true (by kernel_rfl)) h0 bel lt0) (trodAll_cons_mk (shut_int Tryd.underlying3 w1) trodAll_mk0)), rfl, bel.frame _, fun h => by cases h⟩

theorem said : Rows.TreePlacesUptoSaid :=
  OpenClaim.holds_of_cond 6 Tryd.f6 rfl rfl rfl rfl rfl rfl rfl ⟨rfl, rfl, rfl, rfl, rfl⟩ rfl rfl rfl rfl rfl (by kernel_rfl) Tryd.func6 (by kernel_rfl)
    (of_decide_eq_true (by kernel_rfl)) (by unfold Func.isWrapper; first | (rw [if_pos (by decide +kernel)]; kernel_rfl) | (rw [if_neg (by decide +kernel)]; exact ⟨rfl, rfl⟩))
    (fun os started H enc _ F => by rw [OpenClaim.pre_eq_preRow]; exact lifted os started H enc F)

theorem plain (f : FuncId) (fn : Func) (hf : Tryd.pinned.checked.prog.funcNamed Rows.treePlacesUptoRow.func = some f) (hfn : Tryd.pinned.checked.prog.funcs[f]? = some fn) :
    false = Tryd.pinned.checked.prog.looks [] ∧ ∀ (j : Nat) t, fn.params[j]? = some t → Tryd.pinned.checked.prog.wantsStandIn t = false := by
  obtain rfl : f = 6 := Option.some.inj ((show Tryd.prog.funcNamed Rows.treePlacesUptoRow.func = some 6 by kernel_rfl).symm.trans hf) |>.symm
  obtain rfl : fn = Tryd.f6 := (Option.some.inj (Tryd.func6.symm.trans hfn)).symm
  refine ⟨by kernel_rfl, fun j t ht => ?_⟩
  rw [Tryd.params6] at ht
  have ht2 := Array.mem_of_getElem? ht
  have ht3 : t = 43 ∨ t = 3 := by simpa using ht2
  rcases ht3 with rfl | rfl
  · exact (show Tryd.prog.wantsStandIn 43 = false by kernel_rfl)
  · exact (show Tryd.prog.wantsStandIn 3 = false by kernel_rfl)
end Go.Proofs.YtnnbbeloifhofaaDoor.treePlacesUpto
namespace Go.Proofs.YtnnbbeloifhofaaDoor
theorem treePlacesUpto_holds : Rows.TreePlacesUptoCardSaid :=
  Claim7.holds_tied_plain_at .later [] _ _ _ _ treePlacesUpto.said (fun _ h => by cases h) (by kernel_rfl) (fun _ h => by cases h) treePlacesUpto_row_tie rfl ⟨rfl, rfl⟩ (by kernel_rfl) rfl treePlacesUpto.plain (by kernel_rfl)
#print axioms treePlacesUpto_holds
end Go.Proofs.YtnnbbeloifhofaaDoor
end
