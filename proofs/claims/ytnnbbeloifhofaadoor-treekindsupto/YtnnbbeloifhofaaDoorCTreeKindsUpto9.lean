/- TreeKinds: for all programs (what is read of bulk at most 1048576), those of which enums, variables, or procedures are others are not the same; all else is. The second form: no other condition. -/
import Derived.Test.YtnnbbeloifhofaaDoorCTreeKindsUpto7
import Derived.Test.YtnnbbeloifhofaaDoorCTreeKindsUpto8
import Derived.Test.YtnnbbeloifhofaaDoorCards
import Derived.Test.YtnnbbeloifhofaaDoorTie
import Derived.Test.YtnnbbeloifhofaaDoorCTreeKindsUpto0
import Derived.Test.YtnnbbeloifhofaaDoorCTreeKindsUpto6
import Derived.WalkKit
import Derived.ProofKit
import Derived.OpenShut
import Derived.ShutString
import Derived.ChangeOld
import Derived.Below
import Derived.SizedLaws
section
/- The plain law of TreeKinds. -/
namespace Go.Proofs.YtnnbbeloifhofaaDoor.P
open Go Go.RowKit Go.Proofs
open Go.Proofs.YtnnbbeloifhofaaDoorW.PrintWords Go.Proofs.YtnnbbeloifhofaaDoorW.PrintLast Go.Proofs.YtnnbbeloifhofaaDoorW.PrintMore
set_option linter.unusedVariables false

/-- A loop that goes on while a flag is up; each round sets it. -/
theorem flag_loop {α β γ : Type} (xs : List α) (ys : List β) (za : α) (zb : β) (l0 : Nat → Bool → Int → Option γ) (s : α → β → Bool) (fin : Bool → γ) (hl : xs.length = ys.length) (hlim : xs.length < 4611686018427387904)
    (hno : ∀ i : Nat, Ev (fun k => l0 k false i) (fin false)) (hend : Ev (fun k => l0 k true xs.length) (fin true))
    (hin : ∀ i : Nat, i < xs.length → ∀ g : Bool → γ, (∀ b, Ev (fun k => l0 k b (wrap64 ((i : Int) + 1))) (g b)) → Ev (fun k => l0 k true i) (g (s (xs.getD i za) (ys.getD i zb)))) :
    Ev (fun k => l0 k true 0) (fin (all2 s xs ys)) := by
  have key : ∀ (m i : Nat), xs.length - i = m → i ≤ xs.length → Ev (fun k => l0 k true i) (fin (all2 s (xs.drop i) (ys.drop i))) := by
    intro m
    induction m with
    | zero =>
      intro i hm hi
      obtain rfl : i = xs.length := by omega
      rw [List.drop_length, hl, List.drop_length, all2]
      rw [hl] at hend
      exact hend
    | succ m ih =>
      intro i hm hi
      have hx : i < xs.length := by omega
      have hy : i < ys.length := by omega
      have := hin i hx (fun b => fin (b && all2 s (xs.drop (i + 1)) (ys.drop (i + 1)))) (fun b => by
        rw [wrap64_small (by omega) (by omega)]
        cases b with
        | false => exact hno (i + 1)
        | true => exact ih (i + 1) (by omega) (by omega))
      rw [List.getD_eq_getElem?_getD, List.getD_eq_getElem?_getD, List.getElem?_eq_getElem hx, List.getElem?_eq_getElem hy, Option.getD_some, Option.getD_some] at this
      rw [List.drop_eq_getElem_cons hx, List.drop_eq_getElem_cons hy, all2]
      exact this
  exact key _ 0 rfl (Nat.zero_le _)
theorem lists_beq (a b : ByteArray) : (a.toList == b.toList) = decide (a = b) := by
  rw [Bool.eq_iff_iff, beq_iff_eq, decide_eq_true_eq]; exact toList_iff
section
variable (e : List REn) (v : List RV) (p : List RP) (m : List RS) (e' : List REn) (v' : List RV) (p' : List RP) (m' : List RS)
theorem kinds_end (h : Small e v p m) (h' : Small e' v' p' m') (b : Bool) (i : Int) : Ev (fun k => helmsmanlaw12_TreeKinds.j7 k b i false e v p m e' v' p' m') (sameP e v p m e' v' p' m' == b) := by
  refine Ev.step (fun k => helmsmanlaw12_TreeKinds.j7.eq_2 _ _ _ _ _ _ _ _ _ _ _ k) (Ev.no (by simp) (alive_now (Ev.yes rfl ?_)))
  refine Ev.bind (Prog_ev e v p m h) (Ev.bind (Prog_ev e' v' p' m' h') (Ev.bind (Same_ev e v p m h e' v' p' m') (Ev.now _)))
theorem kinds_l2_no (h : Small e v p m) (h' : Small e' v' p' m') (i : Int) : Ev (fun k => helmsmanlaw12_TreeKinds.l2 k false i e v p m e' v' p' m') (sameP e v p m e' v' p' m' == false) :=
  Ev.step (fun k => helmsmanlaw12_TreeKinds.l2.eq_2 _ _ _ _ _ _ _ _ _ _ k) (Ev.no (by simp) (kinds_end e v p m e' v' p' m' h h' false i))
theorem kinds_l3 (i : Nat) (hi : i < e.length) (hi' : i < e'.length) (hlim : (e.getD i z72).f1.length < 4611686018427387904) (hl : (e.getD i z72).f1.length = (e'.getD i z72).f1.length) (g : Bool → Bool)
    (hg : ∀ b, Ev (fun k => helmsmanlaw12_TreeKinds.l2 k b (wrap64 ((i : Int) + 1)) e v p m e' v' p' m') (g b)) :
    Ev (fun k => helmsmanlaw12_TreeKinds.l3 k true i 0 e v p m e' v' p' m') (g (all2 (fun a b => decide (a = b)) (e.getD i z72).f1 (e'.getD i z72).f1)) := by
  refine flag_loop _ _ ByteArray.empty ByteArray.empty (fun k b j => helmsmanlaw12_TreeKinds.l3 k b i j e v p m e' v' p' m') (fun a b => decide (a = b)) g hl hlim ?_ ?_ ?_
  · intro j
    exact Ev.step (fun k => helmsmanlaw12_TreeKinds.l3.eq_2 _ _ _ _ _ _ _ _ _ _ _ k) (Ev.no (by simp) (hg false))
  · refine Ev.step (fun k => helmsmanlaw12_TreeKinds.l3.eq_2 _ _ _ _ _ _ _ _ _ _ _ k) (Ev.yes rfl (Ev.yes (by omega) (Ev.yes (by omega) (Ev.no ?_ (hg true)))))
    exact Int.lt_irrefl _
  · intro j hj g2 hg2
    refine Ev.step (fun k => helmsmanlaw12_TreeKinds.l3.eq_2 _ _ _ _ _ _ _ _ _ _ _ k) (Ev.yes rfl (Ev.yes (by omega) (Ev.yes (by omega) (Ev.yes ?_ (Ev.yes (by omega) (Ev.yes (by omega) (Ev.yes ?_ ?_)))))))
    · exact (show ((j : Int) < ((e.getD i z72).f1.length : Int)) by omega)
    · exact (show ((j : Int) < ((e'.getD i z72).f1.length : Int)) by omega)
    · rw [lists_beq]
      exact hg2 _
theorem kinds_l2 (h : Small e v p m) (h' : Small e' v' p' m') (hl : e.length = e'.length) :
    Ev (fun k => helmsmanlaw12_TreeKinds.l2 k true 0 e v p m e' v' p' m') (sameP e v p m e' v' p' m' == all2 sameEn e e') := by
  have h1 := h.en
  refine flag_loop e e' z72 z72 (fun k b i => helmsmanlaw12_TreeKinds.l2 k b i e v p m e' v' p' m') sameEn (fun b => sameP e v p m e' v' p' m' == b) hl (by omega) ?_ ?_ ?_
  · intro i; exact kinds_l2_no e v p m e' v' p' m' h h' _
  · refine Ev.step (fun k => helmsmanlaw12_TreeKinds.l2.eq_2 _ _ _ _ _ _ _ _ _ _ k) (Ev.yes rfl ?_)
    rw [decide_eq_false (Int.lt_irrefl _)]
    exact kinds_end e v p m e' v' p' m' h h' true _
  · intro i hi g hg
    have hm := getD_mem' z72 hi
    have hlim := h.el _ hm
    refine Ev.step (fun k => helmsmanlaw12_TreeKinds.l2.eq_2 _ _ _ _ _ _ _ _ _ _ k) (Ev.yes rfl ?_)
    rw [decide_eq_true (show (i : Int) < (e.length : Int) by omega)]
    refine Ev.step (fun k => helmsmanlaw12_TreeKinds.j7.eq_2 _ _ _ _ _ _ _ _ _ _ _ k) (Ev.yes rfl (Ev.yes (by omega) (Ev.yes (by omega) (Ev.yes (by omega) ?_))))
    show Ev _ (g (sameEn (e.getD i z72) (e'.getD i z72)))
    unfold sameEn
    have no : Ev (fun k => helmsmanlaw12_TreeKinds.j8 k false i e v p m e' v' p' m') (g false) :=
      Ev.step (fun k => helmsmanlaw12_TreeKinds.j8.eq_2 _ _ _ _ _ _ _ _ _ _ k) (Ev.step (fun k => helmsmanlaw12_TreeKinds.l3.eq_2 _ _ _ _ _ _ _ _ _ _ _ k) (Ev.no (by simp) (hg false)))
    by_cases h0 : (e.getD i z72).f0 = (e'.getD i z72).f0
    · refine Ev.yes (show (e.getD i z72).f0.toList = (e'.getD i z72).f0.toList from toList_iff.2 h0) ?_
      rw [decide_eq_true h0, Bool.true_and]
      show Ev (fun k => helmsmanlaw12_TreeKinds.j8 k (((e.getD i z72).f1.length : Int) == ((e'.getD i z72).f1.length : Int)) i e v p m e' v' p' m') _
      by_cases hl1 : (e.getD i z72).f1.length = (e'.getD i z72).f1.length
      · rw [show (((e.getD i z72).f1.length : Int) == ((e'.getD i z72).f1.length : Int)) = true from beq_iff_eq.2 (by omega)]
        exact Ev.step (fun k => helmsmanlaw12_TreeKinds.j8.eq_2 _ _ _ _ _ _ _ _ _ _ k) (kinds_l3 e v p m e' v' p' m' i hi (by omega) (by omega) hl1 g hg)
      · rw [show (((e.getD i z72).f1.length : Int) == ((e'.getD i z72).f1.length : Int)) = false from beq_eq_false_iff_ne.2 (by omega), all2_len hl1]
        exact no
    · refine Ev.no (show ¬ (e.getD i z72).f0.toList = (e'.getD i z72).f0.toList from fun q => h0 (toList_iff.1 q)) ?_
      rw [decide_eq_false h0, Bool.false_and]
      exact no
theorem kinds_l1 (h : Small e v p m) (h' : Small e' v' p' m') (hl : e.length = e'.length) (hlp : p.length = p'.length) :
    Ev (fun k => helmsmanlaw12_TreeKinds.l1 k true 0 e v p m e' v' p' m') (sameP e v p m e' v' p' m' == (all2 samePr p p' && all2 sameEn e e')) := by
  have h1 := h.pr
  have no : ∀ i : Nat, Ev (fun k => helmsmanlaw12_TreeKinds.l1 k false i e v p m e' v' p' m') (sameP e v p m e' v' p' m' == (false && all2 sameEn e e')) := fun i =>
    Ev.step (fun k => helmsmanlaw12_TreeKinds.l1.eq_2 _ _ _ _ _ _ _ _ _ _ k) (Ev.no (by simp) (Ev.step (fun k => helmsmanlaw12_TreeKinds.j5.eq_2 _ _ _ _ _ _ _ _ _ k) (kinds_l2_no e v p m e' v' p' m' h h' 0)))
  refine flag_loop p p' z69 z69 (fun k b i => helmsmanlaw12_TreeKinds.l1 k b i e v p m e' v' p' m') samePr (fun b => sameP e v p m e' v' p' m' == (b && all2 sameEn e e')) hlp (by omega) no ?_ ?_
  · refine Ev.step (fun k => helmsmanlaw12_TreeKinds.l1.eq_2 _ _ _ _ _ _ _ _ _ _ k) (Ev.yes rfl (Ev.no (Int.lt_irrefl _) (Ev.step (fun k => helmsmanlaw12_TreeKinds.j5.eq_2 _ _ _ _ _ _ _ _ _ k) ?_)))
    exact kinds_l2 e v p m e' v' p' m' h h' hl
  · intro i hi g hg
    have hm := getD_mem' z69 hi
    have hb := h.bo _ hm
    refine Ev.step (fun k => helmsmanlaw12_TreeKinds.l1.eq_2 _ _ _ _ _ _ _ _ _ _ k) (Ev.yes rfl (Ev.yes (by omega) (Ev.yes (by omega) (Ev.yes (by omega) ?_))))
    show Ev _ (g (samePr (p.getD i z69) (p'.getD i z69)))
    unfold samePr
    by_cases h0 : (p.getD i z69).f0 = (p'.getD i z69).f0
    · refine Ev.yes (show (p.getD i z69).f0.toList = (p'.getD i z69).f0.toList from toList_iff.2 h0) ?_
      rw [decide_eq_true h0, Bool.true_and]
      exact Ev.bind (rSameSs_ev _ _ hb) (hg _)
    · refine Ev.no (show ¬ (p.getD i z69).f0.toList = (p'.getD i z69).f0.toList from fun q => h0 (toList_iff.1 q)) ?_
      rw [decide_eq_false h0, Bool.false_and]
      exact hg false
theorem kinds_l0_no (h : Small e v p m) (h' : Small e' v' p' m') (i : Int) : Ev (fun k => helmsmanlaw12_TreeKinds.l0 k false i e v p m e' v' p' m') (sameP e v p m e' v' p' m' == false) :=
  Ev.step (fun k => helmsmanlaw12_TreeKinds.l0.eq_2 _ _ _ _ _ _ _ _ _ _ k) (Ev.no (by simp) (Ev.step (fun k => helmsmanlaw12_TreeKinds.j3.eq_2 _ _ _ _ _ _ _ _ _ k)
    (Ev.step (fun k => helmsmanlaw12_TreeKinds.l1.eq_2 _ _ _ _ _ _ _ _ _ _ k) (Ev.no (by simp) (Ev.step (fun k => helmsmanlaw12_TreeKinds.j5.eq_2 _ _ _ _ _ _ _ _ _ k) (kinds_l2_no e v p m e' v' p' m' h h' 0))))))
theorem kinds_l0 (h : Small e v p m) (h' : Small e' v' p' m') (hl : e.length = e'.length) (hlp : p.length = p'.length) (hlv : v.length = v'.length) :
    Ev (fun k => helmsmanlaw12_TreeKinds.l0 k true 0 e v p m e' v' p' m') (sameP e v p m e' v' p' m' == (all2 sameV v v' && (all2 samePr p p' && all2 sameEn e e'))) := by
  have h1 := h.va
  refine flag_loop v v' z56 z56 (fun k b i => helmsmanlaw12_TreeKinds.l0 k b i e v p m e' v' p' m') sameV (fun b => sameP e v p m e' v' p' m' == (b && (all2 samePr p p' && all2 sameEn e e'))) hlv (by omega) ?_ ?_ ?_
  · intro i; exact kinds_l0_no e v p m e' v' p' m' h h' _
  · refine Ev.step (fun k => helmsmanlaw12_TreeKinds.l0.eq_2 _ _ _ _ _ _ _ _ _ _ k) (Ev.yes rfl (Ev.no (Int.lt_irrefl _) (Ev.step (fun k => helmsmanlaw12_TreeKinds.j3.eq_2 _ _ _ _ _ _ _ _ _ k) ?_)))
    exact kinds_l1 e v p m e' v' p' m' h h' hl hlp
  · intro i hi g hg
    refine Ev.step (fun k => helmsmanlaw12_TreeKinds.l0.eq_2 _ _ _ _ _ _ _ _ _ _ k) (Ev.yes rfl (Ev.yes (by omega) (Ev.yes (by omega) (Ev.yes (by omega) ?_))))
    rw [lists_beq, lists_beq]
    exact hg _
theorem TreeKinds_ev (hb : bulkP e v p m < 1099511627775) (hb' : bulkP e' v' p' m' < 1099511627775) : Ev (fun k => helmsmanlaw12_TreeKinds.f k e v p m e' v' p' m') true := by
  have h := small_of e v p m hb
  have h' := small_of e' v' p' m' hb'
  have yes : Ev (fun k => helmsmanlaw12_TreeKinds.j0 k true e v p m e' v' p' m') true := Ev.step (fun k => helmsmanlaw12_TreeKinds.j0.eq_2 _ _ _ _ _ _ _ _ _ k) (Ev.yes rfl (alive_now (Ev.now _)))
  unfold helmsmanlaw12_TreeKinds.f
  refine Ev.bind (Sized_ev e v p m h hb) ?_
  by_cases g1 : (szP p m : Int) > 300
  · exact Ev.yes g1 yes
  refine Ev.no g1 (Ev.bind (Sized_ev e' v' p' m' h' hb') ?_)
  by_cases g2 : (szP p' m' : Int) > 300
  · rw [decide_eq_true g2]; exact yes
  rw [decide_eq_false g2]
  refine Ev.step (fun k => helmsmanlaw12_TreeKinds.j0.eq_2 _ _ _ _ _ _ _ _ _ k) (Ev.no (by simp) (Ev.bind (rSameSs_ev m m' h.ma) ?_))
  have no : sameP e v p m e' v' p' m' = false → Ev (fun k => helmsmanlaw12_TreeKinds.j1 k false e v p m e' v' p' m') true := fun q => by
    have := kinds_l0_no e v p m e' v' p' m' h h' 0
    rw [q] at this
    exact Ev.step (fun k => helmsmanlaw12_TreeKinds.j1.eq_2 _ _ _ _ _ _ _ _ _ k) this
  cases c : sameSs m m' with
  | false => exact Ev.no (by simp) (no (by unfold sameP; rw [c]; simp only [Bool.and_false]))
  | true =>
    refine Ev.yes rfl ?_
    by_cases c1 : e.length = e'.length
    · refine Ev.yes (by omega) ?_
      by_cases c2 : v.length = v'.length
      · refine Ev.yes (by omega) ?_
        by_cases c3 : p.length = p'.length
        · rw [show ((p.length : Int) == (p'.length : Int)) = true from beq_iff_eq.2 (by omega)]
          have := kinds_l0 e v p m e' v' p' m' h h' c1 c3 c2
          rw [show (sameP e v p m e' v' p' m' == (all2 sameV v v' && (all2 samePr p p' && all2 sameEn e e'))) = true by
            unfold sameP; rw [c]
            cases all2 sameV v v' <;> cases all2 samePr p p' <;> cases all2 sameEn e e' <;> rfl] at this
          exact Ev.step (fun k => helmsmanlaw12_TreeKinds.j1.eq_2 _ _ _ _ _ _ _ _ _ k) this
        · rw [show ((p.length : Int) == (p'.length : Int)) = false from beq_eq_false_iff_ne.2 (by omega)]
          exact no (by unfold sameP; rw [all2_len c3]; simp only [Bool.false_and, Bool.and_false])
      · exact Ev.no (by omega) (no (by unfold sameP; rw [all2_len c2]; simp only [Bool.false_and, Bool.and_false]))
    · exact Ev.no (by omega) (no (by unfold sameP; rw [all2_len c1]; simp only [Bool.false_and]))
end
end Go.Proofs.YtnnbbeloifhofaaDoor.P
end

section
namespace Go.Proofs.YtnnbbeloifhofaaDoor.treeKindsUpto
open Go.ChangeShapes Go.WideShapes Go.ChangeAt Go.RowKit
open Go.ChangeMaps (open_string shut_string)
set_option linter.unusedVariables false

theorem reads (os : Os) {H : Type} (enc : TypeId × Value → H) : ∃ places, DataW.whole enc Tryd.prog ((laidWorld os).forCall (fun _ _ => 0) ⟨#[], #[.agg #[.slice none 0 0, .slice none 0 0, .slice none 0 0, .slice none 0 0], .agg #[.slice none 0 0, .slice none 0 0, .slice none 0 0, .slice none 0 0]], []⟩).memory Tryd.f7.params.toList Rows.treeKindsSpec.vars false (#[.agg #[.slice none 0 0, .slice none 0 0, .slice none 0 0, .slice none 0 0], .agg #[.slice none 0 0, .slice none 0 0, .slice none 0 0, .slice none 0 0]] : Array Value).toList 8 = some ([.agg [.nil, .nil, .nil, .nil], .agg [.nil, .nil, .nil, .nil]], [], places) :=
  ⟨[], by kernel_rfl⟩

set_option maxRecDepth 100000 in
theorem lifted (os : Os) (started : os.Started) (H : Type) (enc : TypeId × Value → H) (F : Stop.Interp) :
    ReturnsInHanded {} Tryd.checked os 7 .any ((Rows.OpenSpec.upto Rows.treeKindsSpec).preRow enc Tryd.prog Tryd.f7 Rows.treeKindsUptoRow.domain false Rows.treeKindsUptoRow.laid) (((Rows.OpenSpec.upto Rows.treeKindsSpec).at F).post enc Tryd.prog Tryd.f7 false true false false) := by
  obtain ⟨places, hx⟩ := reads os enc
  refine returnsInHanded_of_row (C := Tryd.checked) (s := (Rows.OpenSpec.upto Rows.treeKindsSpec)) own started (by kernel_rfl) Tryd.func7
    (witness_row_atRef (enc := enc) (C := Tryd.checked) false (laidWorld os) #[.agg #[.slice none 0 0, .slice none 0 0, .slice none 0 0, .slice none 0 0], .agg #[.slice none 0 0, .slice none 0 0, .slice none 0 0, .slice none 0 0]] rfl (by kernel_rfl) (by kernel_rfl) (by kernel_rfl)
      (OpenSpec.preRow_of_cond 8 hx (by kernel_rfl) (fun k hk => by cases hk; kernel_rfl) (by kernel_rfl) (laid_met os _))) ?_
  intro W base args ds gs before hval0 hW _ hcond hsz0 hL _ _
  have hval : ∀ (j : Nat) t v, Tryd.f7.params[j]? = some t → args[j]? = some v → Value.okWide Tryd.prog W .any base t v := hval0
  have hW' := hW
  obtain ⟨p, q, hA0, hV, rfl, hfz, hnd⟩ := hW
  have hA : DataW.TrodAll enc Tryd.prog W 0 (fun _ => true) true Tryd.f7.params.toList args.toList ds p := hA0
  rw [Tryd.params7] at hA hval
  obtain ⟨v0, vs0, d0, ds0, p0, q0, hargs, rfl, rfl, h0, r0⟩ := trodAll_cons hA
  obtain ⟨v1, vs1, d1, ds1, p1, q1, rfl, rfl, rfl, h1, r1⟩ := trodAll_cons r0
  obtain ⟨rfl, rfl, rfl⟩ := trodAll_nil r1
  obtain rfl : args = #[v0, v1] := by cases args; simp_all
  obtain ⟨rfl, rfl⟩ := trodVars_none hV
  have lt0 : ∀ x ∈ p0, x.block < W.heap.size := by obtain ⟨m, hm⟩ := h0; exact DataW.trod_lt m _ _ _ hm
  have lt1 : ∀ x ∈ p1, x.block < W.heap.size := by obtain ⟨m, hm⟩ := h1; exact DataW.trod_lt m _ _ _ hm
  have hr0 := h0
  obtain ⟨m0, hm0⟩ := hr0
  have hr1 := h1
  obtain ⟨m1, hm1⟩ := hr1
  have hT : P.TabT W := tabs hL
  obtain ⟨cs0, rfl, _⟩ := okWide_struct Tryd.underlying43 (hval 0 43 v0 rfl rfl)
  obtain ⟨E0, V0, P0, M0, A0_0, A0_1, A0_2, A0_3, c0_0, c0_1, c0_2, c0_3, hcs0, g0_0, l0_0, g0_1, l0_1, g0_2, l0_2, g0_3, l0_3, B0, O0⟩ := P.readProg m0 _ _ hm0
  replace hcs0 : cs0.toList = [.slice A0_0 E0.length c0_0, .slice A0_1 V0.length c0_1, .slice A0_2 P0.length c0_2, .slice A0_3 M0.length c0_3] := hcs0
  obtain rfl : cs0 = #[.slice A0_0 E0.length c0_0, .slice A0_1 V0.length c0_1, .slice A0_2 P0.length c0_2, .slice A0_3 M0.length c0_3] := by cases cs0; simp_all
  replace B0 : _ ≤ Rows.uptoBulk d0 := B0
  obtain ⟨cs1, rfl, _⟩ := okWide_struct Tryd.underlying43 (hval 1 43 v1 rfl rfl)
  obtain ⟨E1, V1, P1, M1, A1_0, A1_1, A1_2, A1_3, c1_0, c1_1, c1_2, c1_3, hcs1, g1_0, l1_0, g1_1, l1_1, g1_2, l1_2, g1_3, l1_3, B1, O1⟩ := P.readProg m1 _ _ hm1
  replace hcs1 : cs1.toList = [.slice A1_0 E1.length c1_0, .slice A1_1 V1.length c1_1, .slice A1_2 P1.length c1_2, .slice A1_3 M1.length c1_3] := hcs1
  obtain rfl : cs1 = #[.slice A1_0 E1.length c1_0, .slice A1_1 V1.length c1_1, .slice A1_2 P1.length c1_2, .slice A1_3 M1.length c1_3] := by cases cs1; simp_all
  replace B1 : _ ≤ Rows.uptoBulk d1 := B1
  have hB : Rows.uptoBulkAll [d0, d1] ≤ 1048576 := of_decide_eq_true (hcond _ rfl)
  simp only [Rows.uptoBulkAll] at hB
  obtain ⟨k, hk⟩ := (P.TreeKinds_ev E0 V0 P0 M0 E1 V1 P1 M1 (by omega) (by omega)).rounds
  refine (P.helmsmanlaw12_TreeKinds.calls k A0_0 c0_0 E0 A0_1 c0_1 V0 A0_2 c0_2 P0 A0_3 c0_3 M0 A1_0 c1_0 E1 A1_1 c1_1 V1 A1_2 c1_2 P1 A1_3 c1_3 M1 true W hT g0_0 l0_0 g0_1 l0_1 g0_2 l0_2 g0_3 l0_3 g1_0 l1_0 g1_1 l1_1 g1_2 l1_2 g1_3 l1_3 hk).mono fun e W' ⟨he, bel⟩ => ?_
  subst he
  exact ⟨_, rfl, _, _, _, [], _, [], hW', trodAll_mk1 (shut_bool Tryd.underlying4 _), (trodAll_cons_mk (Below.trod laidOut (by kernel_rfl) (of_decide_eq_true (by kernel_rfl)) h0 bel lt0) (trodAll_cons_mk (Below.trod laidOut (by kernel_rfl) (of_decide_eq_true (by kernel_rfl)) h1 bel lt1) trodAll_mk0)), rfl, bel.frame _, fun h => by cases h⟩

theorem said : Rows.TreeKindsUptoSaid :=
  OpenClaim.holds_of_cond 7 Tryd.f7 rfl rfl rfl rfl rfl rfl rfl ⟨rfl, rfl, rfl, rfl, rfl⟩ rfl rfl rfl rfl rfl (by kernel_rfl) Tryd.func7 (by kernel_rfl)
    (of_decide_eq_true (by kernel_rfl)) (by unfold Func.isWrapper; first | (rw [if_pos (by decide +kernel)]; kernel_rfl) | (rw [if_neg (by decide +kernel)]; exact ⟨rfl, rfl⟩))
    (fun os started H enc _ F => by rw [OpenClaim.pre_eq_preRow]; exact lifted os started H enc F)

theorem plain (f : FuncId) (fn : Func) (hf : Tryd.pinned.checked.prog.funcNamed Rows.treeKindsUptoRow.func = some f) (hfn : Tryd.pinned.checked.prog.funcs[f]? = some fn) :
    false = Tryd.pinned.checked.prog.looks [] ∧ ∀ (j : Nat) t, fn.params[j]? = some t → Tryd.pinned.checked.prog.wantsStandIn t = false := by
  obtain rfl : f = 7 := Option.some.inj ((show Tryd.prog.funcNamed Rows.treeKindsUptoRow.func = some 7 by kernel_rfl).symm.trans hf) |>.symm
  obtain rfl : fn = Tryd.f7 := (Option.some.inj (Tryd.func7.symm.trans hfn)).symm
  refine ⟨by kernel_rfl, fun j t ht => ?_⟩
  rw [Tryd.params7] at ht
  have ht2 := Array.mem_of_getElem? ht
  have ht3 : t = 43 := by simpa using ht2
  obtain rfl := ht3
  exact (show Tryd.prog.wantsStandIn 43 = false by kernel_rfl)
end Go.Proofs.YtnnbbeloifhofaaDoor.treeKindsUpto
namespace Go.Proofs.YtnnbbeloifhofaaDoor
theorem treeKindsUpto_holds : Rows.TreeKindsUptoCardSaid :=
  Claim7.holds_tied_plain_at .later [] _ _ _ _ treeKindsUpto.said (fun _ h => by cases h) (by kernel_rfl) (fun _ h => by cases h) treeKindsUpto_row_tie rfl ⟨rfl, rfl⟩ (by kernel_rfl) rfl treeKindsUpto.plain (by kernel_rfl)
#print axioms treeKindsUpto_holds
end Go.Proofs.YtnnbbeloifhofaaDoor
end
