/- Texts of this claim, joined: PvP, Pv7, Pv5, PvL, PvM, PvN, PvF, PlLex, PwLex, PwLex2, PwLex3, PwLex4, PwLex5, Shelf, PwLibs, PwLibs2. -/
import Derived.Test.YtfgoedndpcblpaaDoorCParseReserved0
import Derived.Deep.LoopGhost
import Derived.Lib.ConvBytes
import Derived.Lib.Join
import Derived.Lib.IndexBytes
import Derived.Test.YtfgoedndpcblpaaDoorProg
import Derived.KernelRfl
import Derived.Laws.RangeAny
import Derived.Lib.Fields
import Derived.Shelf.Strings.OnBuilder
import Derived.Shelf.LaysM
import Derived.Shelf.Strconv.Itoa3
import Derived.Shelf.Strings.Fields
import Derived.Shelf.Strings.Repeat
import Derived.Lib.Builder
import Derived.Lib.UnsafeStr
import Derived.Lib.LaidTab
import Derived.Lib.Space
import Derived.Lib.AppendIntMem
import Derived.RegionTactic
import Derived.BigRegion
section
/- Operations in any order: what is come to. -/
namespace Go.Proofs.YtfgoedndpcblpaaDoor.Pv
noncomputable section
open Go
set_option linter.unusedSimpArgs false
set_option linter.unusedVariables false
variable {T : Base}

theorem trace_spec {P : Program} {H : Hand} {n : Nat} {ops : Array Oper} : ∀ {l : List Oper} {s s' : St} {cls : List Cls}, traceE P H n ops l s = some (cls, s') →
    ∃ S : Nat → St, S 0 = s ∧ S l.length = s' ∧ ∀ i o, l[i]? = some o → ∃ p σ, valE P H ops o (S i).env (S i).sto = some (p, σ) ∧ putE n (S i) o.dst p σ = some (S (i + 1)) ∧ cls.getD i (.w none) = clsE P o (S i).env (S i).sto p σ
  | [], s, s', cls, h => by
    cases h
    exact ⟨fun _ => s, rfl, rfl, fun i o e => by simp at e⟩
  | o :: rest, s, s', cls, h => by
    obtain ⟨⟨p, σ⟩, h0, h00⟩ := Option.bind_eq_some_iff.1 h
    obtain ⟨s1, h1, h2⟩ := Option.bind_eq_some_iff.1 h00
    obtain ⟨⟨c2, s2⟩, h3, h4⟩ := Option.map_eq_some_iff.1 h2
    cases h4
    obtain ⟨S, e0, e1, e2⟩ := trace_spec h3
    refine ⟨fun i => match i with | 0 => s | i + 1 => S i, rfl, e1, fun i o' e => ?_⟩
    cases i with
    | zero =>
      obtain rfl : o = o' := by simpa using e
      refine ⟨p, σ, h0, ?_, rfl⟩
      show putE n s o.dst p σ = some (S 0)
      rw [e0]; exact h1
    | succ i => exact e2 i o' (by simpa using e)
theorem orderOk_spec {ops : Array Oper} {cls : List Cls} (h : orderOk ops cls = true) : ∀ j y, ops[j]? = some y → (∀ k, waitsFor y k → k < j) ∧ ∀ i, i < j → ∀ x, ops[i]? = some x → Reach ops i j ∨ clash ops x y (cls.getD i (.w none)) (cls.getD j (.w none)) = false := by
  intro j y hy
  have hj : j < ops.size := (Array.getElem?_eq_some_iff.1 hy).1
  have h1 := List.all_eq_true.1 h j (List.mem_range.2 hj)
  rw [hy] at h1
  simp only [Bool.and_eq_true] at h1
  obtain ⟨h2, h3⟩ := h1
  refine ⟨?_, ?_⟩
  · rintro k ⟨e, he, hb, rfl⟩
    have := List.all_eq_true.1 h2 e he
    rw [hb] at this
    simpa using this
  · intro i hi x hx
    have := List.all_eq_true.1 h3 i (List.mem_range.2 hi)
    rw [hx] at this
    simp only [Bool.or_eq_true, Bool.not_eq_true'] at this
    rcases this with h4 | h4
    · exact .inl (tblB_spec ops ops.toList [] (fun k o hk => by simpa using hk) (fun k hk => absurd hk (Nat.not_lt_zero _)) j i h4)
    · exact .inr h4
def Lst (listed : Array Bool) (i : Nat) : Prop := listed.getD i false = true
def Down (ops : Array Oper) (listed : Array Bool) : Prop := ∀ i o, ops[i]? = some o → Lst listed i → ∀ k, waitsFor o k → Lst listed k
theorem Down.reach {ops : Array Oper} {listed : Array Bool} (h : Down ops listed) {j i : Nat} (hr : Reach ops j i) (hi : Lst listed i) : Lst listed j := by
  induction hr with
  | one ho hw => exact h _ _ ho hi _ hw
  | more ho hw _ ih => exact ih (h _ _ ho hi _ hw)
theorem Down.above {ops : Array Oper} {listed : Array Bool} (h : Down ops listed) {j i : Nat} {o : Oper} (ho : ops[i]? = some o) (hw : ∀ k, waitsFor o k → Lst listed k) (hr : Reach ops j i) : Lst listed j := by
  cases hr with
  | one ho' hw' => rw [ho] at ho'; cases ho'; exact hw _ hw'
  | more ho' hw' hr' => rw [ho] at ho'; cases ho'; exact h.reach hr' (hw _ hw')
theorem mem_ready {ops : Array Oper} {listed : Array Bool} {i : Nat} : i ∈ Region.ready .any ops listed ↔ i < ops.size ∧ listed.getD i true = false ∧ ∀ o, ops[i]? = some o → ∀ k, waitsFor o k → Lst listed k := by
  unfold Region.ready
  rw [List.mem_filter, List.mem_range]
  constructor
  · rintro ⟨h1, h2⟩
    rw [Bool.and_eq_true, Bool.not_eq_true'] at h2
    refine ⟨h1, h2.1, fun o ho k hk => ?_⟩
    obtain ⟨e, he, hb, rfl⟩ := hk
    have h3 := h2.2
    rw [ho] at h3
    simp only [Option.map_some, Option.getD_some] at h3
    have := Array.all_eq_true_iff_forall_mem.1 h3 e (by simpa using he)
    rw [hb] at this
    simpa [Lst] using this
  · rintro ⟨h1, h2, h3⟩
    refine ⟨h1, ?_⟩
    rw [h2, Array.getElem?_eq_getElem h1]
    simp only [Bool.not_false, Option.map_some, Option.getD_some, Bool.true_and]
    rw [Array.all_eq_true_iff_forall_mem]
    intro e he
    cases hb : Region.binds .any e with
    | false => rfl
    | true => simpa [Lst] using h3 _ (Array.getElem?_eq_getElem h1) e.on ⟨e, by simpa using he, hb, rfl⟩
theorem lst_set {listed : Array Bool} {i j : Nat} (hi : i < listed.size) : Lst (listed.setIfInBounds i true) j ↔ j = i ∨ Lst listed j := by
  unfold Lst
  rw [Array.getD_eq_getD_getElem?, Array.getD_eq_getD_getElem?]
  by_cases h : j = i
  · subst h
    rw [Array.getElem?_setIfInBounds_self_of_lt hi]; simp
  · rw [Array.getElem?_setIfInBounds_ne (Ne.symm h)]
    simp [h]
def cnt (N : Nat) (listed : Array Bool) : Nat := ((List.range N).filter fun i => !listed.getD i false).length
theorem cnt_set {N : Nat} {listed : Array Bool} {i : Nat} (hi : i < N) (hs : listed.size = N) (hn : ¬ Lst listed i) : cnt N (listed.setIfInBounds i true) < cnt N listed := by
  unfold cnt
  have hsub : ∀ l : List Nat, (l.filter fun j => !(listed.setIfInBounds i true).getD j false).length ≤ (l.filter fun j => !listed.getD j false).length ∧ (i ∈ l → (l.filter fun j => !(listed.setIfInBounds i true).getD j false).length < (l.filter fun j => !listed.getD j false).length) := by
    intro l
    induction l with
    | nil => exact ⟨Nat.le_refl _, fun h => by cases h⟩
    | cons j l ih =>
      have hb : (listed.setIfInBounds i true).getD j false = true ↔ j = i ∨ listed.getD j false = true := lst_set (by omega)
      by_cases hj : j = i
      · subst hj
        have h1 : (listed.setIfInBounds j true).getD j false = true := hb.2 (.inl rfl)
        have h2 : listed.getD j false = false := by simpa [Lst] using hn
        rw [List.filter_cons, List.filter_cons, h1, h2]
        simp only [Bool.not_true, Bool.not_false, if_true, if_false, Bool.false_eq_true, List.length_cons]
        have := ih.1
        exact ⟨by omega, fun _ => by omega⟩
      · cases h2 : listed.getD j false with
        | true =>
          have h1 : (listed.setIfInBounds i true).getD j false = true := hb.2 (.inr h2)
          rw [List.filter_cons, List.filter_cons, h1, h2]
          simp only [Bool.not_true]
          exact ⟨ih.1, fun h => ih.2 (by rcases List.mem_cons.1 h with h | h; exact absurd h.symm hj; exact h)⟩
        | false =>
          have h1 : (listed.setIfInBounds i true).getD j false = false := by
            cases hq : (listed.setIfInBounds i true).getD j false with
            | false => rfl
            | true => rcases hb.1 hq with h | h; exact absurd h hj; rw [h2] at h; cases h
          rw [List.filter_cons, List.filter_cons, h1, h2]
          simp only [Bool.not_false, if_true, List.length_cons]
          exact ⟨Nat.succ_le_succ ih.1, fun h => Nat.succ_lt_succ (ih.2 (by rcases List.mem_cons.1 h with h | h; exact absurd h.symm hj; exact h))⟩
  exact (hsub _).2 (List.mem_range.2 hi)
theorem cnt_zero {N : Nat} {listed : Array Bool} (h : cnt N listed = 0) {i : Nat} (hi : i < N) : Lst listed i := by
  unfold cnt at h
  rw [List.length_eq_zero_iff, List.filter_eq_nil_iff] at h
  have := h i (List.mem_range.2 hi)
  simpa [Lst] using this
/-- Between two places at which nothing is written, all is the same. -/
theorem same_between {α : Type} (f : Nat → α) (w : Nat → Prop) (N : Nat) (h : ∀ i, i < N → ¬ w i → f (i + 1) = f i) : ∀ {a b : Nat}, a ≤ b → b ≤ N → (∀ j, a ≤ j → j < b → ¬ w j) → f b = f a := by
  intro a b hab hb hw
  induction b with
  | zero => have : a = 0 := by omega
            subst this; rfl
  | succ b ih =>
    by_cases e : a = b + 1
    · rw [e]
    · rw [h b (by omega) (hw b (by omega) (by omega)), ih (by omega) (by omega) (fun j h1 h2 => hw j h1 (by omega))]
theorem same_two {α : Type} (f : Nat → α) (w : Nat → Prop) (N : Nat) (h : ∀ i, i < N → ¬ w i → f (i + 1) = f i) {a b : Nat} (ha : a ≤ N) (hb : b ≤ N) (hw : ∀ j, j < N → w j → (j < a ↔ j < b)) : f a = f b := by
  rcases Nat.le_total a b with hab | hab
  · exact (same_between f w N h hab hb (fun j h1 h2 hj => by have := (hw j (by omega) hj).2 h2; omega)).symm
  · exact same_between f w N h hab ha (fun j h1 h2 hj => by have := (hw j (by omega) hj).1 h2; omega)
section
variable {P : Program} {H : Hand} {n : Nat} {ops : Array Oper} {cls : List Cls} {S : Nat → St} {listed : Array Bool}
/-- What is written at a place, and by whom. -/
def Wr (ops : Array Oper) (t : Tmp) (j : Nat) : Prop := ∃ o, ops[j]? = some o ∧ o.dst = some t
structure Way (P : Program) (H : Hand) (n : Nat) (ops : Array Oper) (cls : List Cls) (S : Nat → St) : Prop where
  ro : RoOk (roF P 6) H
  step : ∀ i o, ops[i]? = some o → ∃ p σ, valE P H ops o (S i).env (S i).sto = some (p, σ) ∧ putE n (S i) o.dst p σ = some (S (i + 1)) ∧ cls.getD i (.w none) = clsE P o (S i).env (S i).sto p σ
  ord : ∀ j y, ops[j]? = some y → (∀ k, waitsFor y k → k < j) ∧ ∀ i, i < j → ∀ x, ops[i]? = some x → Reach ops i j ∨ clash ops x y (cls.getD i (.w none)) (cls.getD j (.w none)) = false
theorem Way.val (h : Way P H n ops cls S) {i : Nat} {o : Oper} (ho : ops[i]? = some o) : ∃ p, valE P H ops o (S i).env (S i).sto = some (p, (S (i + 1)).sto) ∧ (S (i + 1)).env = (match o.dst with | some d => upd (S i).env d p | none => (S i).env) ∧ (∀ s σ, putE n s o.dst p σ = some ⟨match o.dst with | some d => upd s.env d p | none => s.env, σ⟩) ∧ cls.getD i (.w none) = clsE P o (S i).env (S i).sto p (S (i + 1)).sto := by
  obtain ⟨p, σ, h1, h2, h3⟩ := h.step i o ho
  unfold putE at h2
  cases hd : o.dst with
  | none =>
    rw [hd] at h2
    have e := (Option.some.inj h2)
    exact ⟨p, by rw [h1, ← e], by rw [← e], fun s σ => rfl, by rw [h3, ← e]⟩
  | some d =>
    rw [hd] at h2
    simp only at h2
    split at h2
    · rename_i hlt
      have e := (Option.some.inj h2)
      exact ⟨p, by rw [h1, ← e], by rw [← e], fun s σ => by unfold putE; simp only; rw [if_pos hlt], by rw [h3, ← e]⟩
    · cases h2
theorem Way.sto (h : Way P H n ops cls S) : ∀ i, i < ops.size → ¬ (cls.getD i (.w none)).isW = true → (S (i + 1)).sto = (S i).sto := by
  intro i hi hw
  have ho := Array.getElem?_eq_getElem hi
  obtain ⟨p, h1, _, _, hc⟩ := h.val ho
  cases hq : cls.getD i (.w none) with
  | w bs => rw [hq] at hw; exact absurd rfl hw
  | p => exact (valE_still h1 (hc ▸ hq)).1
  | l b => exact (valE_look h.ro h1 (hc ▸ hq)).1
  | r => exact valE_read h.ro h1 (hc ▸ hq)
/-- A box is written there. -/
def Wb (cls : List Cls) (b j : Nat) : Prop := ∃ bs, cls.getD j (.w none) = .w bs ∧ hitB b bs = true
theorem Way.box (h : Way P H n ops cls S) (b : Nat) : ∀ i, i < ops.size → ¬ Wb cls b i → (S (i + 1)).sto.bx[b]? = (S i).sto.bx[b]? := by
  intro i hi hw
  have ho := Array.getElem?_eq_getElem hi
  obtain ⟨p, h1, _, _, hc⟩ := h.val ho
  by_cases hq : (cls.getD i (.w none)).isW = true
  · cases hq' : cls.getD i (.w none) with
    | w bs =>
      have hb : hitB b bs = false := by
        cases e : hitB b bs with
        | false => rfl
        | true => exact absurd ⟨bs, hq', e⟩ hw
      exact valE_write h1 (hc ▸ hq') hb
    | p => rw [hq'] at hq; cases hq
    | l b => rw [hq'] at hq; cases hq
    | r => rw [hq'] at hq; cases hq
  · rw [h.sto i hi hq]
theorem Way.env (h : Way P H n ops cls S) (t : Tmp) : ∀ i, i < ops.size → ¬ Wr ops t i → (S (i + 1)).env t = (S i).env t := by
  intro i hi hw
  have ho := Array.getElem?_eq_getElem hi
  obtain ⟨p, _, h2, _⟩ := h.val ho
  rw [h2]
  cases hd : (ops[i]).dst with
  | none => rfl
  | some d =>
    show upd _ d p t = _
    unfold upd
    rw [if_neg (fun e => hw ⟨_, ho, by rw [hd, e]⟩)]
/-- The state of a run in which these have been carried out. -/
structure Part (ops : Array Oper) (cls : List Cls) (S : Nat → St) (listed : Array Bool) (s : St) : Prop where
  size : listed.size = ops.size
  down : Down ops listed
  sto : ∃ m, m ≤ ops.size ∧ s.sto = (S m).sto ∧ ∀ j, j < ops.size → (cls.getD j (.w none)).isW = true → (j < m ↔ Lst listed j)
  env : ∀ t, ∃ m, m ≤ ops.size ∧ s.env t = (S m).env t ∧ ∀ j, j < ops.size → Wr ops t j → (j < m ↔ Lst listed j)
/-- What must be ordered with an operation that can be carried out now is, or is not, carried out as its number says. -/
theorem Part.side (hW : Way P H n ops cls S) {s : St} (h : Part ops cls S listed s) {i : Nat} {o : Oper} (ho : ops[i]? = some o) (hn : ¬ Lst listed i) (hw : ∀ k, waitsFor o k → Lst listed k) {j : Nat} {x : Oper} (hx : ops[j]? = some x) (hne : j ≠ i)
    (hc1 : j < i → clash ops x o (cls.getD j (.w none)) (cls.getD i (.w none)) = true) (hc2 : i < j → clash ops o x (cls.getD i (.w none)) (cls.getD j (.w none)) = true) : Lst listed j ↔ j < i := by
  rcases Nat.lt_or_gt_of_ne hne with hlt | hgt
  · refine ⟨fun _ => hlt, fun _ => ?_⟩
    rcases (hW.ord i o ho).2 j hlt x hx with hr | hr
    · exact h.down.above ho hw hr
    · rw [hc1 hlt] at hr; cases hr
  · refine ⟨fun hl => ?_, fun hlt => by omega⟩
    rcases (hW.ord j x hx).2 i hgt o ho with hr | hr
    · exact absurd (h.down.reach hr hl) hn
    · rw [hc2 hgt] at hr; cases hr
theorem clash_dst1 {x y : Oper} {c d : Cls} {t : Tmp} (h : x.dst = some t) (hm : t ∈ namesOf ops y) : clash ops x y c d = true := by
  unfold clash; rw [h]; simp [hm]
theorem clash_dst2 {x y : Oper} {c d : Cls} {t : Tmp} (h : y.dst = some t) (hm : t ∈ namesOf ops x) : clash ops x y c d = true := by
  unfold clash; rw [h]; simp [hm]
def Cls.all : Cls → Bool
  | .w _ => true
  | .r => true
  | _ => false
theorem clash_w1 {x y : Oper} {c d : Cls} (h : c.isW = true) (hd : d.all = true) : clash ops x y c d = true := by
  unfold clash; cases c <;> cases d <;> simp_all [Cls.isW, Cls.all]
theorem clash_w2 {x y : Oper} {c d : Cls} (h : d.isW = true) (hc : c.all = true) : clash ops x y c d = true := by
  unfold clash; cases c <;> cases d <;> simp_all [Cls.isW, Cls.all]
theorem clash_l1 {x y : Oper} {c : Cls} {b : Nat} {bs : Option (List Nat)} (h : c = .w bs) (hb : hitB b bs = true) : clash ops x y c (.l b) = true := by
  unfold clash; subst h; simp [hb]
theorem clash_l2 {x y : Oper} {c : Cls} {b : Nat} {bs : Option (List Nat)} (h : c = .w bs) (hb : hitB b bs = true) : clash ops x y (.l b) c = true := by
  unfold clash; subst h; simp [hb]
/-- One operation more. -/
theorem Part.next (hW : Way P H n ops cls S) {s : St} (h : Part ops cls S listed s) {i : Nat} {o : Oper} (ho : ops[i]? = some o) (hn : ¬ Lst listed i) (hw : ∀ k, waitsFor o k → Lst listed k) :
    ∃ s2, operE P H n ops o s = some s2 ∧ Part ops cls S (listed.setIfInBounds i true) s2 := by
  have hi : i < ops.size := (Array.getElem?_eq_some_iff.1 ho).1
  have hil : i < listed.size := by rw [h.size]; exact hi
  -- what it looks at
  have names : ∀ t ∈ namesOf ops o, ∀ m, m ≤ ops.size → (∀ j, j < ops.size → Wr ops t j → (j < m ↔ Lst listed j)) → (S m).env t = (S i).env t := by
    intro t ht m hm hiff
    refine same_two (fun k => (S k).env t) (Wr ops t) ops.size (hW.env t) hm (Nat.le_of_lt hi) (fun j hj hwr => ?_)
    obtain ⟨x, hx, hxd⟩ := hwr
    rw [hiff j hj ⟨x, hx, hxd⟩]
    by_cases hji : j = i
    · subst hji
      exact ⟨fun hl => absurd hl hn, fun hlt => by omega⟩
    · exact h.side hW ho hn hw hx hji (fun _ => clash_dst1 hxd ht) (fun _ => clash_dst2 hxd ht)
  have hag : Agree ops o s.env (S i).env := by
    intro t ht
    obtain ⟨m, hm, he, hiff⟩ := h.env t
    rw [he]
    exact names t (List.mem_append_right _ ht) m hm hiff
  obtain ⟨p, hv, henv, hput, hcl⟩ := hW.val ho
  have hlist : ∀ j, Lst (listed.setIfInBounds i true) j ↔ j = i ∨ Lst listed j := fun j => lst_set hil
  -- the store
  have hsto : (cls.getD i (.w none)).all = true → s.sto = (S i).sto := by
    intro hc
    obtain ⟨m, hm, he, hiff⟩ := h.sto
    rw [he]
    refine same_two (fun k => (S k).sto) (fun j => (cls.getD j (.w none)).isW = true) ops.size hW.sto hm (Nat.le_of_lt hi) (fun j hj hjw => ?_)
    rw [hiff j hj hjw]
    by_cases hji : j = i
    · subst hji
      exact ⟨fun hl => absurd hl hn, fun hlt => by omega⟩
    · exact h.side hW ho hn hw (Array.getElem?_eq_getElem hj) hji (fun _ => clash_w1 hjw hc) (fun _ => clash_w2 hjw hc)
  have hval : ∃ σ2, valE P H ops o s.env s.sto = some (p, σ2) ∧ ((¬ (cls.getD i (.w none)).isW = true → σ2 = s.sto) ∧ ((cls.getD i (.w none)).isW = true → σ2 = (S (i + 1)).sto)) := by
    rw [valE_congr hag]
    cases hq : cls.getD i (.w none) with
    | p =>
      obtain ⟨h1, h2⟩ := valE_still hv (by rw [← hcl]; exact hq)
      exact ⟨s.sto, h2 s.sto, fun _ => rfl, fun e => by cases e⟩
    | l b =>
      obtain ⟨h1, h2⟩ := valE_look hW.ro hv (by rw [← hcl]; exact hq)
      refine ⟨s.sto, h2 s.sto ?_, fun _ => rfl, fun e => by cases e⟩
      obtain ⟨m, hm, he, hiff⟩ := h.sto
      rw [he]
      refine same_two (fun k => (S k).sto.bx[b]?) (Wb cls b) ops.size (hW.box b) hm (Nat.le_of_lt hi) (fun j hj hjw => ?_)
      obtain ⟨bs, hj1, hj2⟩ := hjw
      rw [hiff j hj (by rw [hj1]; rfl)]
      by_cases hji : j = i
      · subst hji
        rw [hq] at hj1; cases hj1
      · exact h.side hW ho hn hw (Array.getElem?_eq_getElem hj) hji (fun _ => by rw [hq]; exact clash_l1 hj1 hj2) (fun _ => by rw [hq]; exact clash_l2 hj1 hj2)
    | r =>
      have e := hsto (by rw [hq]; rfl)
      rw [e]
      exact ⟨_, hv, fun _ => valE_read hW.ro hv (by rw [← hcl]; exact hq), fun e => by cases e⟩
    | w bs =>
      have e := hsto (by rw [hq]; rfl)
      rw [e]
      exact ⟨_, hv, fun e => absurd rfl e, fun _ => rfl⟩
  obtain ⟨σ2, hv2, hσ1, hσ2⟩ := hval
  refine ⟨⟨match o.dst with | some d => upd s.env d p | none => s.env, σ2⟩, by unfold operE; rw [hv2]; exact hput s σ2, ?_⟩
  refine ⟨by rw [Array.size_setIfInBounds]; exact h.size, ?_, ?_, ?_⟩
  · intro j y hy hl k hk
    rw [hlist] at hl ⊢
    rcases hl with rfl | hl
    · rw [ho] at hy; cases hy; exact .inr (hw k hk)
    · exact .inr (h.down j y hy hl k hk)
  · by_cases hq : (cls.getD i (.w none)).isW = true
    · refine ⟨i + 1, hi, hσ2 hq, fun j hj hjw => ?_⟩
      rw [hlist]
      by_cases hji : j = i
      · subst hji; exact ⟨fun _ => .inl rfl, fun _ => by omega⟩
      · have := h.side hW ho hn hw (Array.getElem?_eq_getElem hj) hji (fun _ => clash_w1 hjw (by cases hc' : cls.getD i (.w none) <;> simp_all [Cls.isW, Cls.all])) (fun _ => clash_w2 hjw (by cases hc' : cls.getD i (.w none) <;> simp_all [Cls.isW, Cls.all]))
        rw [this]
        exact ⟨fun _ => .inr (by omega), fun h => by rcases h with h | h <;> omega⟩
    · obtain ⟨m, hm, he, hiff⟩ := h.sto
      refine ⟨m, hm, (hσ1 hq).trans he, fun j hj hjw => ?_⟩
      rw [hlist, hiff j hj hjw]
      exact ⟨fun h => .inr h, fun h => by rcases h with rfl | h; exact absurd hjw hq; exact h⟩
  · intro t
    by_cases ht : o.dst = some t
    · refine ⟨i + 1, hi, ?_, fun j hj hjw => ?_⟩
      · rw [henv, ht]
        show upd s.env t p t = upd (S i).env t p t
        simp [upd]
      · obtain ⟨x, hx, hxd⟩ := hjw
        rw [hlist]
        by_cases hji : j = i
        · subst hji; exact ⟨fun _ => .inl rfl, fun _ => by omega⟩
        · have hm : t ∈ namesOf ops o := List.mem_append_left _ (by rw [ht]; simp)
          have := h.side hW ho hn hw hx hji (fun _ => clash_dst1 hxd hm) (fun _ => clash_dst2 hxd hm)
          rw [this]
          exact ⟨fun _ => .inr (by omega), fun h => by rcases h with h | h <;> omega⟩
    · obtain ⟨m, hm, he, hiff⟩ := h.env t
      refine ⟨m, hm, ?_, fun j hj hjw => ?_⟩
      · rw [← he]
        show (match o.dst with | some d => upd s.env d p | none => s.env) t = s.env t
        cases hd : o.dst with
        | none => rfl
        | some d =>
          show upd s.env d p t = s.env t
          unfold upd
          rw [if_neg (fun e => ht (by rw [hd, e]))]
      · rw [hlist, hiff j hj hjw]
        exact ⟨fun h => .inr h, fun h => by
          rcases h with rfl | h
          · obtain ⟨x, hx, hxd⟩ := hjw
            rw [ho] at hx; cases hx; exact absurd hxd ht
          · exact h⟩
theorem Part.fin (hW : Way P H n ops cls S) {s : St} (h : Part ops cls S listed s) (hall : ∀ i, i < ops.size → Lst listed i) : s = S ops.size := by
  have h1 : s.sto = (S ops.size).sto := by
    obtain ⟨m, hm, he, hiff⟩ := h.sto
    rw [he]
    exact same_two (fun k => (S k).sto) (fun j => (cls.getD j (.w none)).isW = true) ops.size hW.sto hm (Nat.le_refl _) (fun j hj hjw => by rw [hiff j hj hjw]; exact ⟨fun _ => hj, fun _ => hall j hj⟩)
  have h2 : s.env = (S ops.size).env := by
    funext t
    obtain ⟨m, hm, he, hiff⟩ := h.env t
    rw [he]
    exact same_two (fun k => (S k).env t) (Wr ops t) ops.size (hW.env t) hm (Nat.le_refl _) (fun j hj hjw => by rw [hiff j hj hjw]; exact ⟨fun _ => hj, fun _ => hall j hj⟩)
  cases s
  cases hs : S ops.size
  rw [hs] at h1 h2
  simp only at h1 h2
  rw [h1, h2]
theorem ready_nil (hW : Way P H n ops cls S) (h : Region.ready .any ops listed = []) (hs : listed.size = ops.size) : ∀ i, i < ops.size → Lst listed i := by
  intro i
  induction i using Nat.strongRecOn with
  | _ i ih =>
    intro hi
    apply Classical.byContradiction
    intro hn
    have : i ∈ Region.ready .any ops listed := mem_ready.2 ⟨hi, by
      have hn' : listed.getD i false = false := by simpa [Lst] using hn
      have hl : i < listed.size := by omega
      rw [Array.getD_eq_getD_getElem?, Array.getElem?_eq_getElem hl] at hn' ⊢
      exact hn', fun o ho k hk => by
      have := (hW.ord i o ho).1 k hk
      exact ih k this (by omega)⟩
    rw [h] at this
    cases this
theorem drawn_sound (hH : HandOk P T H) (hW : Way P H n ops cls S) {G : Gh} {w : World} {Q : Exit → Act → World → Prop} (hQ : ∀ G' a' w', Ok T G' n (S ops.size) a' w' → Later G w G' w' → Q .normal a' w') :
    ∀ (fuel : Nat) (listed : Array Bool) (s : St) (G1 : Gh) (a1 : Act) (w1 : World), Part ops cls S listed s → Ok T G1 n s a1 w1 → Later G w G1 w1 → cnt ops.size listed ≤ fuel → wpAny P .any ops Q fuel listed a1 w1
  | 0, listed, s, G1, a1, w1, hP, hO, hL, hc => by
    have hall : ∀ i, i < ops.size → Lst listed i := fun i hi => cnt_zero (Nat.le_zero.1 hc) hi
    refine ⟨?_, ?_⟩
    · apply List.eq_nil_iff_forall_not_mem.2
      intro i hi
      obtain ⟨h1, h2, _⟩ := mem_ready.1 hi
      have := hall i h1
      have hl : i < listed.size := by rw [hP.size]; exact h1
      unfold Lst at this
      rw [Array.getD_eq_getD_getElem?, Array.getElem?_eq_getElem hl] at this h2
      simp only [Option.getD_some] at this h2
      rw [this] at h2; cases h2
    · have := hP.fin hW hall
      subst this
      exact hQ G1 a1 w1 hO hL
  | fuel + 1, listed, s, G1, a1, w1, hP, hO, hL, hc => by
    refine ⟨fun hr => ?_, fun i hi => ?_⟩
    · have := hP.fin hW (ready_nil hW hr hP.size)
      subst this
      exact hQ G1 a1 w1 hO hL
    · obtain ⟨h1, h2, h3⟩ := mem_ready.1 hi
      have ho := Array.getElem?_eq_getElem h1
      have hl : i < listed.size := by rw [hP.size]; exact h1
      have hn : ¬ Lst listed i := by
        unfold Lst
        rw [Array.getD_eq_getD_getElem?, Array.getElem?_eq_getElem hl] at h2 ⊢
        simp only [Option.getD_some] at h2 ⊢
        rw [h2]; simp
      obtain ⟨s2, hs2, hP2⟩ := hP.next hW ho hn (h3 _ ho)
      have hlt := cnt_set h1 hP.size hn
      have := oper_sound (Q := Q) (K := wpAny P .any ops Q fuel (listed.setIfInBounds i true)) hH hs2 hO (fun G' a' w' hO' hL' => drawn_sound hH hW hQ fuel _ s2 G' a' w' hP2 hO' (hL.trans hL') (by omega))
      unfold wpOp
      rw [ho]
      simp only
      split
      · rename_i hw; rw [if_pos hw] at this; exact .inl this
      · rename_i hw; rw [if_neg hw] at this; exact this
end
end
end Go.Proofs.YtfgoedndpcblpaaDoor.Pv
end

section
/- Code. -/
namespace Go.Proofs.YtfgoedndpcblpaaDoor.Pv
noncomputable section
open Go
set_option linter.unusedSimpArgs false
set_option linter.unusedVariables false
variable {T : Base}

inductive Ctl where
  | next | exit (id : Nat) | ret
def iterE (body : St → Option (Ctl × St)) : Nat → St → Option (Ctl × St)
  | 0, _ => none
  | k + 1, s => match body s with
    | some (.next, s') => iterE body k s'
    | r => r
def codeE (P : Program) (H : Hand) (n fuel : Nat) : Code → St → Option (Ctl × St)
  | .skip, s => some (.next, s)
  | .region _ ops false, s => (opersE P H n ops ops.toList s).map (.next, ·)
  | .region _ ops true, s => match traceE P H n ops ops.toList s with
    | some (cls, s') => if orderOk ops cls = true then some (.next, s') else none
    | none => none
  | .seq x y, s => match codeE P H n fuel x s with
    | some (.next, s') => codeE P H n fuel y s'
    | r => r
  | .cond c x y, s => match opdE s.env c with
    | .im (.bool true) => codeE P H n fuel x s
    | .im (.bool false) => codeE P H n fuel y s
    | _ => none
  | .block id c, s => match codeE P H n fuel c s with
    | some (.exit j, s') => if j = id then some (.next, s') else some (.exit j, s')
    | r => r
  | .loop c, s => iterE (codeE P H n fuel c) fuel s
  | .exit id, s => some (.exit id, s)
  | .ret, s => some (.ret, s)
  | _, _ => none
/-- What a function yields. -/
def resultsE (P : Program) (env : Nat → PV) (σ : Sto) : List ResultVar → Option (List PV)
  | [] => some []
  | .tmp t :: rs => (resultsE P env σ rs).map (env t :: ·)
  | .cell a t :: rs => match env a with
    | .ptr b o => match σ.bx[b]? with
      | some (.cells cs) => match loadE P t cs o with
        | some v => (resultsE P env σ rs).map (v :: ·)
        | none => none
      | _ => none
    | _ => none
def initE (args : List PV) : Nat → PV := fun t => args.getD t (.im undef)
def bodyE (P : Program) (H : Hand) (fuel : Nat) (f : FuncId) (args : List PV) (σ : Sto) : Option (PV × Sto) :=
  match P.funcs[f]? with
  | some fn => match fn.body with
    | some c => if args.length ≤ fn.ntmps then
      match codeE P H fn.ntmps fuel c ⟨initE args, σ⟩ with
      | some (.next, s) | some (.ret, s) => match resultsE P s.env s.sto fn.results.toList with
        | some [v] => some (v, s.sto)
        | some vs => some (.tup vs, s.sto)
        | none => none
      | _ => none
      else none
    | none => none
  | none => none
/-- What is told of functions that are not gone through. -/
abbrev Lib := FuncId → Option (List PV → Sto → Option (PV × Sto))
def evF (P : Program) (L : Lib) : Nat → Hand
  | 0 => fun _ _ _ => none
  | k + 1 => fun f => match L f with
    | some h => h
    | none => bodyE P (evF P L k) k f


def Ctl.toExit : Ctl → Exit
  | .next => .normal
  | .exit id => .exit id
  | .ret => .ret
theorem code_sound {P : Program} {H : Hand} (hm : P.follows .mixedOrders = true) (hR : RoOk (roF P 6) H) (hH : HandOk P T H) {n fuel : Nat} : ∀ (c : Code) {s s' : St} {ctl : Ctl}, codeE P H n fuel c s = some (ctl, s') → ∀ {G : Gh} {a : Act} {w : World} {Q : Exit → Act → World → Prop}, Ok T G n s a w →
    (∀ G' a' w', Ok T G' n s' a' w' → Later G w G' w' → Q ctl.toExit a' w') → c.wp P Q a w := by
  intro c
  induction c with
  | skip =>
    intro s s' ctl h G a w Q hO hQ
    cases h
    exact wp_skip (hQ G a w hO (.refl _ _))
  | region id ops draw =>
    intro s s' ctl h G a w Q hO hQ
    cases draw with
    | true =>
      simp only [codeE] at h
      split at h
      · rename_i cls s1 ht
        split at h
        · rename_i hord
          cases h
          obtain ⟨S, e0, e1, e2⟩ := trace_spec ht
          have hW : Way P H n ops cls S := ⟨hR, fun i o ho => e2 i o (by simpa using ho), orderOk_spec hord⟩
          have hlen : ops.toList.length = ops.size := by simp
          rw [hlen] at e1
          refine wp_region_any hm ?_
          have hO1 : Ok T G n s a { w with drawn := w.drawn + 1 } := ⟨hO.inv.heap rfl, hO.env, hO.size, hO.defers, hO.tab⟩
          have hno : ∀ i, ¬ Lst (Array.replicate ops.size false) i := by
            intro i hi
            unfold Lst at hi
            rw [Array.getD_eq_getD_getElem?, Array.getElem?_replicate] at hi
            split at hi <;> simp at hi
          refine drawn_sound (G := G) (w := w) hH hW (fun G' a' w' hO' hL => hQ G' a' w' (e1 ▸ hO') hL) ops.size _ s G a _ ⟨by simp, fun i o _ hi => absurd hi (hno i), ⟨0, Nat.zero_le _, by rw [e0], fun j _ _ => ⟨fun h => absurd h (Nat.not_lt_zero _), fun h => absurd h (hno j)⟩⟩, fun t => ⟨0, Nat.zero_le _, by rw [e0], fun j _ _ => ⟨fun h => absurd h (Nat.not_lt_zero _), fun h => absurd h (hno j)⟩⟩⟩ hO1 (Later.heap G rfl ⟨rfl, rfl, rfl⟩) ?_
          unfold cnt
          exact Nat.le_trans (List.length_filter_le _ _) (by simp)
        · cases h
      · cases h
    | false =>
      simp only [codeE, Option.map_eq_some_iff] at h
      obtain ⟨s1, h1, e⟩ := h
      cases e
      exact wp_region_list (opers_sound hH h1 hO hQ)
  | seq x y ihx ihy =>
    intro s s' ctl h G a w Q hO hQ
    simp only [codeE] at h
    split at h
    · rename_i s1 h1
      exact wp_seq (ihx h1 hO (fun G' a' w' hO' hL => ihy h hO' (fun G'' a'' w'' hO'' hL' => hQ G'' a'' w'' hO'' (hL.trans hL'))))
    · rename_i hn
      refine wp_seq (ihx h hO (fun G' a' w' hO' hL => ?_))
      cases ctl with
      | next => exact absurd h (hn s')
      | exit id => exact hQ G' a' w' hO' hL
      | ret => exact hQ G' a' w' hO' hL
  | cond c x y ihx ihy =>
    intro s s' ctl h G a w Q hO hQ
    simp only [codeE] at h
    have hr := hO.env.opd c
    split at h
    · rename_i hc
      rw [hc] at hr
      generalize hv : a.eval c = v at hr
      cases hr
      exact wp_cond_true hv (ihx h hO hQ)
    · rename_i hc
      rw [hc] at hr
      generalize hv : a.eval c = v at hr
      cases hr
      exact wp_cond_false hv (ihy h hO hQ)
    · cases h
  | block id c ih =>
    intro s s' ctl h G a w Q hO hQ
    simp only [codeE] at h
    split at h
    · rename_i j s1 h1
      split at h
      · rename_i hj
        cases h
        refine wp_block (ih h1 hO (fun G' a' w' hO' hL => ?_))
        simp only [Ctl.toExit, Exit.inBlock, hj, if_true]
        exact hQ G' a' w' hO' hL
      · rename_i hj
        cases h
        refine wp_block (ih h1 hO (fun G' a' w' hO' hL => ?_))
        simp only [Ctl.toExit, Exit.inBlock, hj, if_false]
        exact hQ G' a' w' hO' hL
    · rename_i hn
      refine wp_block (ih h hO (fun G' a' w' hO' hL => ?_))
      cases ctl with
      | next => exact hQ G' a' w' hO' hL
      | exit id => exact absurd h (hn id s')
      | ret => exact hQ G' a' w' hO' hL
  | loop c ih =>
    intro s s' ctl h G a w Q hO hQ
    simp only [codeE] at h
    refine wp_loop_ghost (fun m a' w' => ∃ s1 G1, iterE (codeE P H n fuel c) m s1 = some (ctl, s') ∧ Ok T G1 n s1 a' w' ∧ Later G w G1 w') fuel ⟨s, G, h, hO, .refl _ _⟩ ?_
    rintro m a1 w1 ⟨s1, G1, h1, hO1, hL1⟩
    cases m with
    | zero => cases h1
    | succ m =>
      simp only [iterE] at h1
      split at h1
      · rename_i s2 h2
        exact ih h2 hO1 (fun G2 a2 w2 hO2 hL2 => ⟨m, Nat.lt_succ_self m, s2, G2, h1, hO2, hL1.trans hL2⟩)
      · rename_i hn
        refine ih h1 hO1 (fun G2 a2 w2 hO2 hL2 => ?_)
        cases ctl with
        | next => exact absurd h1 (hn s')
        | exit id => exact hQ G2 a2 w2 hO2 (hL1.trans hL2)
        | ret => exact hQ G2 a2 w2 hO2 (hL1.trans hL2)
  | exit id =>
    intro s s' ctl h G a w Q hO hQ
    cases h
    exact wp_exit (hQ G a w hO (.refl _ _))
  | ret =>
    intro s s' ctl h G a w Q hO hQ
    cases h
    exact wp_ret (hQ G a w hO (.refl _ _))
  | rangeFunc f params assign body _ _ => intro s s' ctl h; cases h
  | scope body _ => intro s s' ctl h; cases h
  | label l => intro s s' ctl h; cases h
  | goto l => intro s s' ctl h; cases h
  | refuse why => intro s s' ctl h; cases h
end
end Go.Proofs.YtfgoedndpcblpaaDoor.Pv
end

section
/- Functions. -/
namespace Go.Proofs.YtfgoedndpcblpaaDoor.Pv
noncomputable section
open Go
set_option linter.unusedSimpArgs false
set_option linter.unusedVariables false
variable {T : Base}

theorem results_sound {P : Program} {G : Gh} {σ : Sto} {w : World} {env : Nat → PV} {tmps : Array Value} (hI : Inv G σ w) (hE : ∀ t, Rep G (env t) (tmps.getD t undef)) : ∀ {rs : List ResultVar} {ps : List PV}, resultsE P env σ rs = some ps →
    ∃ vs : List Value, (rs.mapM fun | .tmp t => pure (tmps.getD t undef) | .cell a t => do loadVar t (← asAddr (tmps.getD a undef)) : Sem (List Value)).run P w = .ok vs w ∧ ps.length = vs.length ∧ ∀ i (h : i < ps.length) (k : i < vs.length), Rep G ps[i] vs[i]
  | [], ps, h => by cases h; exact ⟨[], rfl, rfl, fun i h => absurd h (Nat.not_lt_zero _)⟩
  | .tmp t :: rs, ps, h => by
    simp only [resultsE, Option.map_eq_some_iff] at h
    obtain ⟨qs, h1, rfl⟩ := h
    obtain ⟨vs, h2, h3, h4⟩ := results_sound hI hE h1
    refine ⟨tmps.getD t undef :: vs, ?_, by simp [h3], fun i h k => ?_⟩
    · rw [List.mapM_cons]
      simp only [Sem.run_bind, Sem.run_pure]
      show (Result.andThen (Sem.run P _ w) _) = _
      rw [h2]; rfl
    · cases i with
      | zero => exact hE t
      | succ i => exact h4 i (by simpa using h) (by simpa using k)
  | .cell a t :: rs, ps, h => by
    simp only [resultsE] at h
    split at h
    · rename_i b o hp
      split at h
      · rename_i cs hc
        split at h
        · rename_i v hv
          simp only [Option.map_eq_some_iff] at h
          obtain ⟨qs, h1, rfl⟩ := h
          obtain ⟨vs, h2, h3, h4⟩ := results_sound hI hE h1
          have hr := hE a
          rw [hp] at hr
          generalize hq : tmps.getD a undef = q at hr
          cases hr with
          | ptr hb =>
            rename_i blk
            obtain ⟨u, h5, h6⟩ := load_sound (hI.box hb hc) hv
            rw [Nat.zero_add] at h5
            have h7 : (do loadVar t (← asAddr (Value.pointer (some ⟨blk, o, none⟩))) : Sem Value).run P w = .ok u w := h5
            refine ⟨u :: vs, ?_, by simp [h3], fun i h k => ?_⟩
            · rw [List.mapM_cons]
              simp only [hq]
              rw [Sem.run_bind, h7]
              show (Sem.run P (do let x ← List.mapM _ rs; pure (u :: x)) w) = _
              rw [Sem.run_bind, h2]; rfl
            · cases i with
              | zero => exact h6
              | succ i => exact h4 i (by simpa using h) (by simpa using k)
        · cases h
      · cases h
    · cases h
def outP : List PV → PV
  | [p] => p
  | ps => .tup ps
theorem wrap_run {P : Program} {w : World} (f : ResultVar → Sem Value) {l : List ResultVar} {vs : List Value} (h : (l.mapM f).run P w = .ok vs w) : (do let vs ← l.toArray.mapM f; pure (if h : vs.size = 1 then vs[0] else .tuple vs) : Sem Value).run P w = .ok (if h : vs.toArray.size = 1 then vs.toArray[0] else .tuple vs.toArray) w := by
  rw [List.mapM_toArray]; simp [Sem.run_bind, h]
theorem results_run {P : Program} {G : Gh} {σ : Sto} {w : World} {env : Nat → PV} {tmps : Array Value} (hI : Inv G σ w) (hE : ∀ t, Rep G (env t) (tmps.getD t undef)) {fn : Func} {ps : List PV} (h : resultsE P env σ fn.results.toList = some ps) :
    ∃ v, (results fn tmps).run P w = .ok v w ∧ Rep G (outP ps) v := by
  obtain ⟨vs, h1, h2, h3⟩ := results_sound hI hE h
  clear h
  unfold results
  generalize fn.results = rs at h1
  obtain ⟨l, rfl⟩ : ∃ l : List ResultVar, rs = l.toArray := ⟨rs.toList, by simp⟩
  simp only [List.toList_toArray] at h1
  refine ⟨_, wrap_run _ h1, ?_⟩
  clear h1
  match ps, vs, h2, h3 with
  | [], [], _, _ => exact .tup rfl (fun i hi => absurd hi (Nat.not_lt_zero _))
  | [p], [u], _, h3 => exact h3 0 (by simp) (by simp)
  | p :: q :: ps, u :: v :: vs, h2, h3 =>
    rw [dif_neg (by simp)]
    refine .tup (by simpa using h2) (fun i hi => ?_)
    have hk : i < (u :: v :: vs).length := by rw [← h2]; exact hi
    rw [Array.getD_eq_getD_getElem?, List.getElem?_toArray, List.getElem?_eq_getElem hk, Option.getD_some]
    exact h3 i hi hk
theorem body_sound {P : Program} {H : Hand} (hmix : P.follows .mixedOrders = true) (hR : RoOk (roF P 6) H) (hH : HandOk P T H) (fuel : Nat) : HandOk P T (bodyE P H fuel) := by
  intro f args σ r σ' h G w vals hT hI hl ha
  unfold bodyE at h
  split at h
  · rename_i fn hf
    split at h
    · rename_i c hb
      split at h
      · rename_i hle
        have hO : Ok T G fn.ntmps ⟨initE args, σ⟩ { tmps := vals ++ Array.replicate (fn.ntmps - vals.size) undef, defers := [] } w := by
          refine ⟨hI, fun t => ?_, by simp; omega, rfl, hT⟩
          show Rep G (args.getD t (.im undef)) _
          by_cases ht : t < args.length
          · rw [List.getD_eq_getElem?_getD, List.getElem?_eq_getElem ht, Option.getD_some, Array.getD_eq_getD_getElem?, Array.getElem?_append_left (by omega), ← Array.getD_eq_getD_getElem?]
            exact ha t ht
          · rw [List.getD_eq_getElem?_getD, List.getElem?_eq_none (by omega), Option.getD_none, Array.getD_eq_getD_getElem?, Array.getElem?_append_right (by omega)]
            rw [show ((Array.replicate (fn.ntmps - vals.size) undef)[t - vals.size]?).getD undef = undef by
              rw [Array.getElem?_replicate]; split <;> rfl]
            exact .im _
        have fin : ∀ (ctl : Ctl) (s : St), (ctl = .next ∨ ctl = .ret) → codeE P H fn.ntmps fuel c ⟨initE args, σ⟩ = some (ctl, s) → (match resultsE P s.env s.sto fn.results.toList with | some [v] => some (v, s.sto) | some vs => some (PV.tup vs, s.sto) | none => none) = some (r, σ') →
            Calls P f vals w fun e w' => ∃ v G', e = .returned v ∧ Inv G' σ' w' ∧ Rep G' r v ∧ Later G w G' w' := by
          intro ctl s hctl hc hm
          refine calls_of_wp hf hb (code_sound hmix hR hH c hc hO (fun G' a' w' hO' hL => ?_))
          have hres : ∃ v, (results fn a'.tmps).run P w' = .ok v w' ∧ Rep G' r v ∧ σ' = s.sto := by
            cases he : resultsE P s.env s.sto fn.results.toList with
            | none => rw [he] at hm; cases hm
            | some ps =>
              obtain ⟨v, h1, h2⟩ := results_run hO'.inv hO'.env he
              rw [he] at hm
              match ps, hm, h2 with
              | [], hm, h2 => cases hm; exact ⟨v, h1, h2, rfl⟩
              | [p], hm, h2 => cases hm; exact ⟨v, h1, h2, rfl⟩
              | p :: q :: ps, hm, h2 => cases hm; exact ⟨v, h1, h2, rfl⟩
          obtain ⟨v, h1, h2, rfl⟩ := hres
          rcases hctl with rfl | rfl
          · exact ⟨hO'.defers, v, h1, v, G', rfl, hO'.inv, h2, hL⟩
          · exact ⟨hO'.defers, v, h1, v, G', rfl, hO'.inv, h2, hL⟩
        split at h
        · rename_i s hc; exact fin .next s (.inl rfl) hc h
        · rename_i s hc; exact fin .ret s (.inr rfl) hc h
        · cases h
      · cases h
    · cases h
  · cases h
theorem code_ro {P : Program} {H : Hand} {ro : FuncId → Bool} (hR : RoOk ro H) {n k : Nat} : ∀ {c : Code} {s s' : St} {ctl : Ctl}, roCode ro c = true → codeE P H n k c s = some (ctl, s') → s'.sto = s.sto := by
  have hval : ∀ {ops : Array Oper} {o : Oper} {env : Nat → PV} {σ σ1 : Sto} {v : PV}, roOp ro o.op = true → valE P H ops o env σ = some (v, σ1) → σ1 = σ := by
    intro ops o env σ σ1 v ho h
    unfold valE at h
    split at h
    · exact valO_ro hR h ho
    · cases h; rfl
    · cases h
  have hput : ∀ {s s' : St} {d : Option Tmp} {v : PV} {σ : Sto}, putE n s d v σ = some s' → s'.sto = σ := by
    intro s s' d v σ h
    unfold putE at h
    split at h
    · split at h
      · cases h; rfl
      · cases h
    · cases h; rfl
  have hops : ∀ {ops : Array Oper} {l : List Oper} {s s' : St}, (l.all fun o => roOp ro o.op) = true → opersE P H n ops l s = some s' → s'.sto = s.sto := by
    intro ops l
    induction l with
    | nil => intro s s' _ h; cases h; rfl
    | cons o l ih =>
      intro s s' ha h
      simp only [List.all_cons, Bool.and_eq_true] at ha
      obtain ⟨s1, h1, h2⟩ := Option.bind_eq_some_iff.1 h
      obtain ⟨⟨v, σ⟩, h3, h4⟩ := Option.bind_eq_some_iff.1 h1
      rw [ih ha.2 h2, hput h4, hval ha.1 h3]
  have htr : ∀ {ops : Array Oper} {l : List Oper} {s s' : St} {cls : List Cls}, (l.all fun o => roOp ro o.op) = true → traceE P H n ops l s = some (cls, s') → s'.sto = s.sto := by
    intro ops l
    induction l with
    | nil => intro s s' cls _ h; cases h; rfl
    | cons o l ih =>
      intro s s' cls ha h
      simp only [List.all_cons, Bool.and_eq_true] at ha
      obtain ⟨⟨v, σ⟩, h3, h5⟩ := Option.bind_eq_some_iff.1 h
      obtain ⟨s1, h4, h6⟩ := Option.bind_eq_some_iff.1 h5
      obtain ⟨⟨cl, s2⟩, h7, h8⟩ := Option.map_eq_some_iff.1 h6
      cases h8
      rw [ih ha.2 h7, hput h4, hval ha.1 h3]
  intro c
  induction c with
  | skip => intro s s' ctl _ h; cases h; rfl
  | region id ops draw =>
    intro s s' ctl hr h
    cases draw with
    | true =>
      simp only [codeE] at h
      split at h
      · rename_i cls s1 ht
        split at h
        · cases h; exact htr hr ht
        · cases h
      · cases h
    | false =>
      simp only [codeE, Option.map_eq_some_iff] at h
      obtain ⟨s1, h1, e⟩ := h
      cases e
      exact hops hr h1
  | seq a b iha ihb =>
    intro s s' ctl hr h
    simp only [roCode, Bool.and_eq_true] at hr
    simp only [codeE] at h
    split at h
    · rename_i s1 h1
      rw [ihb hr.2 h, iha hr.1 h1]
    · exact iha hr.1 h
  | cond c a b iha ihb =>
    intro s s' ctl hr h
    simp only [roCode, Bool.and_eq_true] at hr
    simp only [codeE] at h
    split at h
    · exact iha hr.1 h
    · exact ihb hr.2 h
    · cases h
  | block id c ih =>
    intro s s' ctl hr h
    simp only [codeE] at h
    split at h
    · rename_i j s1 h1
      split at h <;> (cases h; exact ih hr h1)
    · exact ih hr h
  | loop c ih =>
    intro s s' ctl hr h
    simp only [codeE] at h
    have key : ∀ (m : Nat) (s : St), iterE (codeE P H n k c) m s = some (ctl, s') → s'.sto = s.sto := by
      intro m
      induction m with
      | zero => intro s h; cases h
      | succ m ihm =>
        intro s h
        simp only [iterE] at h
        split at h
        · rename_i s1 h1
          rw [ihm s1 h, ih hr h1]
        · exact ih hr h
    exact key k s h
  | exit id => intro s s' ctl _ h; cases h; rfl
  | ret => intro s s' ctl _ h; cases h; rfl
  | rangeFunc f params assign body _ _ => intro s s' ctl _ h; cases h
  | scope body _ => intro s s' ctl _ h; cases h
  | label l => intro s s' ctl _ h; cases h
  | goto l => intro s s' ctl _ h; cases h
  | refuse why => intro s s' ctl _ h; cases h
/-- Of what is told of functions: those that write nothing leave the store as it is. -/
def LibRo (P : Program) (L : Lib) : Prop := ∀ f h, L f = some h → ∀ d, roF P d f = true → ∀ args σ r σ1, h args σ = some (r, σ1) → σ1 = σ
theorem ev_ro {P : Program} {L : Lib} (hL : LibRo P L) (d : Nat) : ∀ k, RoOk (roF P d) (evF P L k) := by
  induction d with
  | zero => intro k f hf; cases hf
  | succ d ihd =>
    intro k f hf args σ r σ1 h
    cases k with
    | zero => cases h
    | succ k =>
      have h' : (match L f with | some h => h | none => bodyE P (evF P L k) k f) args σ = some (r, σ1) := h
      cases hl : L f with
      | some g => rw [hl] at h'; exact hL f g hl (d + 1) hf args σ r σ1 h'
      | none =>
        rw [hl] at h'
        simp only [roF] at hf
        simp only [bodyE] at h'
        split at hf
        · rename_i fn hfn
          rw [hfn] at h'
          simp only at h'
          split at hf
          · rename_i c hb
            rw [hb] at h'
            simp only at h'
            split at h'
            · have fin : ∀ (ctl : Ctl) (s : St), codeE P (evF P L k) fn.ntmps k c ⟨initE args, σ⟩ = some (ctl, s) → (match resultsE P s.env s.sto fn.results.toList with | some [v] => some (v, s.sto) | some vs => some (PV.tup vs, s.sto) | none => none) = some (r, σ1) → σ1 = σ := by
                intro ctl s hc hm
                have := code_ro (ihd k) hf hc
                split at hm
                · cases hm; exact this
                · cases hm; exact this
                · cases hm
              split at h'
              · rename_i s hc; exact fin _ s hc h'
              · rename_i s hc; exact fin _ s hc h'
              · cases h'
            · cases h'
          · cases hf
        · cases hf
theorem ev_sound {P : Program} {L : Lib} (hmix : P.follows .mixedOrders = true) (hLR : LibRo P L) (hL : ∀ f h, L f = some h → FunOk P T f h) : ∀ k, HandOk P T (evF P L k)
  | 0 => fun f args σ r σ' h => by cases h
  | k + 1 => fun f => by
    show FunOk P T f (match L f with | some h => h | none => bodyE P (evF P L k) k f)
    cases h : L f with
    | some g => exact hL f g h
    | none => exact body_sound hmix (ev_ro hLR 6 k) (ev_sound hmix hLR hL k) k f
end
end Go.Proofs.YtfgoedndpcblpaaDoor.Pv
end

section
/- Without fuel: what is come to from some number of rounds on. -/
namespace Go.Proofs.YtfgoedndpcblpaaDoor.Pv
noncomputable section
open Go
set_option linter.unusedSimpArgs false
set_option linter.unusedVariables false

def HLe (H H' : Hand) : Prop := ∀ f args σ x, H f args σ = some x → H' f args σ = some x
theorem callE_mono {H H' : Hand} (h : HLe H H') {f : FuncId} {args : List PV} {σ : Sto} {x : PV × Sto} (e : callE H f args σ = some x) : callE H' f args σ = some x := by
  unfold callE callIn at e ⊢
  split at e
  · rename_i avs σs h1 h2
    split at e
    · rename_i r σ1 h3
      simp only [h1, h2, h _ _ _ _ h3]; exact e
    · cases e
  · cases e
theorem valE_mono {P : Program} {H H' : Hand} (h : HLe H H') {ops : Array Oper} {o : Oper} {env : Nat → PV} {σ : Sto} {x : PV × Sto} (e : valE P H ops o env σ = some x) : valE P H' ops o env σ = some x := by
  unfold valE valO at e ⊢
  split at e
  · split at e
    · split at e
      · split at e
        · rename_i hb; rw [if_pos hb]; exact callE_mono h e
        · cases e
      · cases e
    · exact e
  · exact e
  · cases e
theorem operE_mono {P : Program} {H H' : Hand} (h : HLe H H') {n : Nat} {ops : Array Oper} {o : Oper} {s s' : St} (e : operE P H n ops o s = some s') : operE P H' n ops o s = some s' := by
  obtain ⟨r, h1, h2⟩ := Option.bind_eq_some_iff.1 e
  exact Option.bind_eq_some_iff.2 ⟨r, valE_mono h h1, h2⟩
theorem opersE_mono {P : Program} {H H' : Hand} (h : HLe H H') {n : Nat} {ops : Array Oper} : ∀ {l : List Oper} {s s' : St}, opersE P H n ops l s = some s' → opersE P H' n ops l s = some s'
  | [], s, s', e => e
  | o :: rest, s, s', e => by
    obtain ⟨s1, h1, h2⟩ := Option.bind_eq_some_iff.1 e
    exact Option.bind_eq_some_iff.2 ⟨s1, operE_mono h h1, opersE_mono h h2⟩
theorem traceE_mono {P : Program} {H H' : Hand} (h : HLe H H') {n : Nat} {ops : Array Oper} : ∀ {l : List Oper} {s : St} {x : List Cls × St}, traceE P H n ops l s = some x → traceE P H' n ops l s = some x
  | [], s, x, e => e
  | o :: rest, s, x, e => by
    obtain ⟨r, h0, h00⟩ := Option.bind_eq_some_iff.1 e
    obtain ⟨s1, h1, h2⟩ := Option.bind_eq_some_iff.1 h00
    obtain ⟨q, h3, h4⟩ := Option.map_eq_some_iff.1 h2
    exact Option.bind_eq_some_iff.2 ⟨r, valE_mono h h0, Option.bind_eq_some_iff.2 ⟨s1, h1, Option.map_eq_some_iff.2 ⟨q, traceE_mono h h3, h4⟩⟩⟩
theorem iterE_mono {b b' : St → Option (Ctl × St)} (h : ∀ s x, b s = some x → b' s = some x) : ∀ {k k' : Nat} {s : St} {x : Ctl × St}, k ≤ k' → iterE b k s = some x → iterE b' k' s = some x
  | 0, k', s, x, _, e => by cases e
  | k + 1, 0, s, x, hk, e => by omega
  | k + 1, k' + 1, s, x, hk, e => by
    unfold iterE at e ⊢
    cases hb : b s with
    | none => rw [hb] at e; cases e
    | some y =>
      obtain ⟨ctl, s1⟩ := y
      rw [hb] at e
      rw [h s _ hb]
      cases ctl with
      | next => exact iterE_mono h (by omega) e
      | exit id => exact e
      | ret => exact e
theorem codeE_mono {P : Program} {H H' : Hand} (h : HLe H H') {n k k' : Nat} (hk : k ≤ k') : ∀ {c : Code} {s : St} {x : Ctl × St}, codeE P H n k c s = some x → codeE P H' n k' c s = some x := by
  intro c
  induction c with
  | skip => intro s x e; exact e
  | region id ops draw =>
    intro s x e
    cases draw with
    | true =>
      simp only [codeE] at e ⊢
      split at e
      · rename_i cls s1 ht
        rw [traceE_mono h ht]; exact e
      · cases e
    | false =>
      simp only [codeE] at e ⊢
      obtain ⟨s1, h1, h2⟩ := Option.map_eq_some_iff.1 e
      exact Option.map_eq_some_iff.2 ⟨s1, opersE_mono h h1, h2⟩
  | seq a b iha ihb =>
    intro s x e
    simp only [codeE] at e ⊢
    split at e
    · rename_i s1 h1
      rw [iha h1]; exact ihb e
    · rename_i hn
      rw [iha e]
      obtain ⟨ctl, s1⟩ := x
      cases ctl with
      | next => exact absurd e (hn s1)
      | exit id => rfl
      | ret => rfl
  | cond c a b iha ihb =>
    intro s x e
    simp only [codeE] at e ⊢
    split at e
    · exact iha e
    · exact ihb e
    · cases e
  | block id c ih =>
    intro s x e
    simp only [codeE] at e ⊢
    split at e
    · rename_i j s1 h1
      rw [ih h1]; exact e
    · rename_i hn
      rw [ih e]
      obtain ⟨ctl, s1⟩ := x
      cases ctl with
      | next => rfl
      | exit j => exact absurd e (hn j s1)
      | ret => rfl
  | loop c ih =>
    intro s x e
    simp only [codeE] at e ⊢
    exact iterE_mono (fun s x e => ih e) hk e
  | exit id => intro s x e; exact e
  | ret => intro s x e; exact e
  | rangeFunc f params assign body _ _ => intro s x e; cases e
  | scope body _ => intro s x e; cases e
  | label l => intro s x e; cases e
  | goto l => intro s x e; cases e
  | refuse why => intro s x e; cases e

/-! ### What can be told ahead: regions whose operations may come in any order -/
def plainT (P : Program) : Nat → TypeId → Bool
  | 0, _ => false
  | k + 1, t => match P.underlying t with
    | some (.int _) | some .bool | some .string | some (.slice _) => true
    | some (.struct fs) => fs.toList.all fun f => plainT P k f.type
    | some (.tuple ts) => ts.toList.all fun u => plainT P k u
    | _ => false
/-- A function: it writes nothing; it is handed, and yields, no address; whatever. -/
def kindF (P : Program) (g : FuncId) : Cls := if roF P 6 g = true then .r else match P.funcs[g]? with
  | some fn => if (fn.params.toList.all fun t => plainT P 8 t) && (fn.resultTypes.toList.all fun t => plainT P 8 t) then .p else .w none
  | none => .w none
def clsS (P : Program) : Op → Cls
  | .load .. | .lookup .. => .r
  | .move _ | .assign _ | .binOp .. | .unOp .. | .pick .. | .fieldAddr .. | .indexAddr .. | .extract .. | .nilCheck _ | .makeFunc .. | .build .. | .buildSlice .. | .index .. | .field .. | .convert .. | .slice .. => .p
  | .call { callee := .builtin .len, .. } => .p
  | .call { callee := .builtin .min, .. } => .p
  | .call { callee := .builtin .max, .. } => .p
  | .call { callee := .value (.func g), .. } => kindF P g
  | _ => .w none
def chk (c : Cls) (args : List PV) (v : PV) : Bool := match c with
  | .p => (ptrsL args).isEmpty && v.ptrs.isEmpty
  | _ => true
/-- A call of a function that is said to be handed no address is handed none. -/
def callP (P : Program) (env : Nat → PV) (v : PV) : Op → Bool
  | .call { callee := .value (.func g), args := args, .. } => chk (kindF P g) (args.toList.map (opdE env)) v
  | _ => true
def opersP (P : Program) (H : Hand) (n : Nat) (ops : Array Oper) : List Oper → St → Option St
  | [], s => some s
  | o :: rest, s => (valE P H ops o s.env s.sto).bind fun r => if callP P s.env r.1 o.op = true then (putE n s o.dst r.1 r.2).bind (opersP P H n ops rest) else none
theorem opersP_mono {P : Program} {H H' : Hand} (h : HLe H H') {n : Nat} {ops : Array Oper} : ∀ {l : List Oper} {s s' : St}, opersP P H n ops l s = some s' → opersP P H' n ops l s = some s'
  | [], s, s', e => e
  | o :: rest, s, s', e => by
    obtain ⟨r, h1, h2⟩ := Option.bind_eq_some_iff.1 e
    refine Option.bind_eq_some_iff.2 ⟨r, valE_mono h h1, ?_⟩
    split at h2
    · rename_i hc
      rw [if_pos hc]
      obtain ⟨s1, h3, h4⟩ := Option.bind_eq_some_iff.1 h2
      exact Option.bind_eq_some_iff.2 ⟨s1, h3, opersP_mono h h4⟩
    · cases h2
def Cls.Le (c d : Cls) : Prop := c = .p ∨ d = .w none ∨ (d = .r ∧ (c = .r ∨ ∃ b, c = .l b))
theorem clash_mono {ops : Array Oper} {x y : Oper} {c d c' d' : Cls} (hc : c.Le c') (hd : d.Le d') (h : clash ops x y c' d' = false) : clash ops x y c d = false := by
  unfold clash at h ⊢
  simp only [Bool.or_eq_false_iff] at h ⊢
  refine ⟨h.1, ?_⟩
  have h3 := h.2
  rcases hc with rfl | rfl | ⟨rfl, rfl | ⟨b, rfl⟩⟩ <;> rcases hd with rfl | rfl | ⟨rfl, rfl | ⟨b', rfl⟩⟩ <;> first | rfl | (cases d <;> first | rfl | (simp_all [hitB]; done)) | (cases c <;> first | rfl | (simp_all [hitB]; done)) | simp_all [hitB]
theorem orderOk_mono {ops : Array Oper} {cls cls' : List Cls} (hle : ∀ i : Nat, (cls.getD i (.w none)).Le (cls'.getD i (.w none))) (h : orderOk ops cls' = true) : orderOk ops cls = true := by
  unfold orderOk at h ⊢
  simp only [List.all_eq_true] at h ⊢
  intro j hj
  have h1 := h j hj
  split
  · rename_i hn; rw [hn] at h1; exact h1
  · rename_i y hy
    rw [hy] at h1
    simp only [Bool.and_eq_true] at h1 ⊢
    refine ⟨h1.1, ?_⟩
    have h2 := h1.2
    simp only [List.all_eq_true] at h2 ⊢
    intro i hi
    have h3 := h2 i hi
    split
    · rename_i hn; rw [hn] at h3; exact h3
    · rename_i x hx
      rw [hx] at h3
      simp only [Bool.or_eq_true, Bool.not_eq_true'] at h3 ⊢
      rcases h3 with h3 | h3
      · exact .inl h3
      · exact .inr (clash_mono (hle i) (hle j) h3)
theorem clsCall_le {P : Program} {env : Nat → PV} {σ σ1 : Sto} {v : PV} {g : FuncId} {args : Array Operand} (hc : chk (kindF P g) (args.toList.map (opdE env)) v = true) : (clsCall P env σ v σ1 (.func g) args).Le (kindF P g) := by
  have hf : funOf (opdE env (.func g)) = some (g, []) := rfl
  unfold clsCall
  rw [hf]
  simp only [List.append_nil]
  split
  · exact .inl rfl
  · rename_i hn
    split
    · rename_i hr
      refine .inr (.inr ⟨by unfold kindF; rw [if_pos hr], ?_⟩)
      rcases soloC_cases σ.bx (ptrsL (args.toList.map (opdE env))) v with e | ⟨b, x, _, _, _, _, _, e⟩
      · exact .inl e
      · exact .inr ⟨b, e⟩
    · rename_i hr
      cases hk : kindF P g with
      | p =>
        rw [hk] at hc
        simp only [chk, Bool.and_eq_true] at hc
        exact absurd hc hn
      | l b => unfold kindF at hk; rw [if_neg hr] at hk; split at hk <;> (try split at hk) <;> cases hk
      | r => unfold kindF at hk; rw [if_neg hr] at hk; split at hk <;> (try split at hk) <;> cases hk
      | w bs =>
        refine .inr (.inl ?_)
        unfold kindF at hk; rw [if_neg hr] at hk; split at hk <;> (try split at hk) <;> first | (cases hk; done) | (rw [← hk])
theorem clsS_le {P : Program} {o : Oper} {env : Nat → PV} {σ σ1 : Sto} {v : PV} (hc : callP P env v o.op = true) : (clsE P o env σ v σ1).Le (clsS P o.op) := by
  have key : ∀ (op : Op), callP P env v op = true → (clsOp P env σ v σ1 op).Le (clsS P op) := by
    intro op hc
    cases op with
    | load t x =>
      simp only [clsOp]
      split
      · exact .inr (.inr ⟨rfl, .inr ⟨_, rfl⟩⟩)
      · exact .inl rfl
    | lookup t x i ok => exact .inr (.inr ⟨rfl, .inl rfl⟩)
    | call c =>
      obtain ⟨callee, args, ts⟩ := c
      cases callee with
      | value f =>
        cases f with
        | func g => exact clsCall_le hc
        | tmp t => exact .inr (.inl rfl)
        | const v => exact .inr (.inl rfl)
        | global g => exact .inr (.inl rfl)
      | invoke r m => exact .inr (.inl rfl)
      | builtin b => cases b <;> first | exact .inl rfl | exact .inr (.inl rfl)
    | _ => first | exact .inl rfl | exact .inr (.inl rfl)
  unfold clsE
  split
  · unfold clsGd
    split
    · exact .inr (.inr ⟨by rename_i h; rw [h]; rfl, .inl rfl⟩)
    · rename_i g args ats h
      rw [h] at hc ⊢
      split
      · rename_i hr
        exact .inr (.inr ⟨by show kindF P g = .r; unfold kindF; rw [if_pos hr], .inl rfl⟩)
      · exact clsCall_le hc
    · exact key o.op hc
  · exact key o.op hc
theorem opersP_trace {P : Program} {H : Hand} {n : Nat} {ops : Array Oper} : ∀ {l : List Oper} {s s' : St}, opersP P H n ops l s = some s' → ∃ cls, traceE P H n ops l s = some (cls, s') ∧ ∀ i : Nat, (cls.getD i (.w none)).Le ((l.map fun o => clsS P o.op).getD i (.w none))
  | [], s, s', e => by cases e; exact ⟨[], rfl, fun i => .inr (.inl rfl)⟩
  | o :: rest, s, s', e => by
    obtain ⟨r, h1, h2⟩ := Option.bind_eq_some_iff.1 e
    split at h2
    · rename_i hc
      obtain ⟨s1, h3, h4⟩ := Option.bind_eq_some_iff.1 h2
      obtain ⟨cls, h5, h6⟩ := opersP_trace h4
      refine ⟨clsE P o s.env s.sto r.1 r.2 :: cls, Option.bind_eq_some_iff.2 ⟨r, h1, Option.bind_eq_some_iff.2 ⟨s1, h3, Option.map_eq_some_iff.2 ⟨_, h5, rfl⟩⟩⟩, fun i => ?_⟩
      cases i with
      | zero => exact clsS_le hc
      | succ i => exact h6 i
    · cases h2
/-- The same code, where regions but these are looked at ahead. -/
def codeU (P : Program) (H : Hand) (n fuel : Nat) (ids : List Nat) : Code → St → Option (Ctl × St)
  | .skip, s => some (.next, s)
  | .region id ops draw, s => if draw = true ∧ id ∉ ids then (opersP P H n ops ops.toList s).map (.next, ·) else codeE P H n fuel (.region id ops draw) s
  | .seq x y, s => match codeU P H n fuel ids x s with
    | some (.next, s') => codeU P H n fuel ids y s'
    | r => r
  | .cond c x y, s => match opdE s.env c with
    | .im (.bool true) => codeU P H n fuel ids x s
    | .im (.bool false) => codeU P H n fuel ids y s
    | _ => none
  | .block id c, s => match codeU P H n fuel ids c s with
    | some (.exit j, s') => if j = id then some (.next, s') else some (.exit j, s')
    | r => r
  | .loop c, s => iterE (codeU P H n fuel ids c) fuel s
  | .exit id, s => some (.exit id, s)
  | .ret, s => some (.ret, s)
  | _, _ => none
def statOk (P : Program) (ids : List Nat) : Code → Bool
  | .region id ops true => ids.contains id || orderOk ops (ops.toList.map fun o => clsS P o.op)
  | .seq a b => statOk P ids a && statOk P ids b
  | .cond _ a b => statOk P ids a && statOk P ids b
  | .block _ c => statOk P ids c
  | .loop c => statOk P ids c
  | _ => true
theorem codeU_E {P : Program} {H : Hand} {n k : Nat} {ids : List Nat} : ∀ {c : Code} {s : St} {x : Ctl × St}, statOk P ids c = true → codeU P H n k ids c s = some x → codeE P H n k c s = some x := by
  intro c
  induction c with
  | skip => intro s x _ e; exact e
  | region id ops draw =>
    intro s x hs e
    simp only [codeU] at e
    split at e
    · rename_i hd
      obtain ⟨rfl, hid⟩ := hd
      simp only [statOk, Bool.or_eq_true] at hs
      rcases hs with hs | hs
      · exact absurd (by simpa using hs) hid
      · obtain ⟨s1, h1, h2⟩ := Option.map_eq_some_iff.1 e
        obtain ⟨cls, h3, h4⟩ := opersP_trace h1
        simp only [codeE, h3, orderOk_mono h4 hs, if_true]
        rw [← h2]
    · exact e
  | seq a b iha ihb =>
    intro s x hs e
    simp only [statOk, Bool.and_eq_true] at hs
    simp only [codeU] at e
    simp only [codeE]
    split at e
    · rename_i s1 h1
      rw [iha hs.1 h1]; exact ihb hs.2 e
    · rename_i hn
      rw [iha hs.1 e]
      obtain ⟨ctl, s1⟩ := x
      cases ctl with
      | next => exact absurd e (hn s1)
      | exit id => rfl
      | ret => rfl
  | cond c a b iha ihb =>
    intro s x hs e
    simp only [statOk, Bool.and_eq_true] at hs
    simp only [codeU] at e
    simp only [codeE]
    split at e
    · rename_i hc; first | (rw [hc]; exact iha hs.1 e) | exact iha hs.1 e
    · rename_i hc; first | (rw [hc]; exact ihb hs.2 e) | exact ihb hs.2 e
    · cases e
  | block id c ih =>
    intro s x hs e
    simp only [statOk] at hs
    simp only [codeU] at e
    simp only [codeE]
    split at e
    · rename_i j s1 h1
      rw [ih hs h1]; exact e
    · rename_i hn
      rw [ih hs e]
      obtain ⟨ctl, s1⟩ := x
      cases ctl with
      | next => rfl
      | exit j => exact absurd e (hn j s1)
      | ret => rfl
  | loop c ih =>
    intro s x hs e
    simp only [statOk] at hs
    simp only [codeU] at e
    simp only [codeE]
    exact iterE_mono (fun s x e => ih hs e) (Nat.le_refl _) e
  | exit id => intro s x _ e; exact e
  | ret => intro s x _ e; exact e
  | rangeFunc f params assign body _ _ => intro s x _ e; cases e
  | scope body _ => intro s x _ e; cases e
  | label l => intro s x _ e; cases e
  | goto l => intro s x _ e; cases e
  | refuse why => intro s x _ e; cases e
theorem codeU_mono {P : Program} {H H' : Hand} (h : HLe H H') {n k k' : Nat} {ids : List Nat} (hk : k ≤ k') : ∀ {c : Code} {s : St} {x : Ctl × St}, codeU P H n k ids c s = some x → codeU P H' n k' ids c s = some x := by
  intro c
  induction c with
  | skip => intro s x e; exact e
  | region id ops draw =>
    intro s x e
    simp only [codeU] at e ⊢
    split at e
    · rename_i hd
      rw [if_pos hd]
      obtain ⟨s1, h1, h2⟩ := Option.map_eq_some_iff.1 e
      exact Option.map_eq_some_iff.2 ⟨s1, opersP_mono h h1, h2⟩
    · rename_i hd
      rw [if_neg hd]
      exact codeE_mono h hk e
  | seq a b iha ihb =>
    intro s x e
    simp only [codeU] at e ⊢
    split at e
    · rename_i s1 h1
      rw [iha h1]; exact ihb e
    · rename_i hn
      rw [iha e]
      obtain ⟨ctl, s1⟩ := x
      cases ctl with
      | next => exact absurd e (hn s1)
      | exit id => rfl
      | ret => rfl
  | cond c a b iha ihb =>
    intro s x e
    simp only [codeU] at e ⊢
    split at e
    · exact iha e
    · exact ihb e
    · cases e
  | block id c ih =>
    intro s x e
    simp only [codeU] at e ⊢
    split at e
    · rename_i j s1 h1
      rw [ih h1]; exact e
    · rename_i hn
      rw [ih e]
      obtain ⟨ctl, s1⟩ := x
      cases ctl with
      | next => rfl
      | exit j => exact absurd e (hn j s1)
      | ret => rfl
  | loop c ih =>
    intro s x e
    simp only [codeU] at e ⊢
    exact iterE_mono (fun s x e => ih e) hk e
  | exit id => intro s x e; exact e
  | ret => intro s x e; exact e
  | rangeFunc f params assign body _ _ => intro s x e; cases e
  | scope body _ => intro s x e; cases e
  | label l => intro s x e; cases e
  | goto l => intro s x e; cases e
  | refuse why => intro s x e; cases e
theorem bodyE_mono {P : Program} {H H' : Hand} (h : HLe H H') {k k' : Nat} (hk : k ≤ k') : HLe (bodyE P H k) (bodyE P H' k') := by
  intro f args σ x e
  unfold bodyE at e ⊢
  cases hf : P.funcs[f]? with
  | none => rw [hf] at e; cases e
  | some fn =>
    rw [hf] at e
    simp only at e ⊢
    cases hb : fn.body with
    | none => rw [hb] at e; cases e
    | some c =>
      rw [hb] at e
      simp only at e ⊢
      split at e
      · rename_i hle
        rw [if_pos hle]
        cases hc : codeE P H fn.ntmps k c ⟨initE args, σ⟩ with
        | none => rw [hc] at e; cases e
        | some y => rw [hc] at e; rw [codeE_mono h hk hc]; exact e
      · cases e
theorem evF_step (P : Program) (L : Lib) : ∀ k, HLe (evF P L k) (evF P L (k + 1))
  | 0 => fun f args σ x e => by cases e
  | k + 1 => fun f args σ x e => by
    show (match L f with | some h => h | none => bodyE P (evF P L (k + 1)) (k + 1) f) args σ = some x
    have e' : (match L f with | some h => h | none => bodyE P (evF P L k) k f) args σ = some x := e
    cases h : L f with
    | some g => rw [h] at e'; exact e'
    | none => rw [h] at e'; exact bodyE_mono (evF_step P L k) (Nat.le_succ k) f args σ x e'
theorem evF_le (P : Program) (L : Lib) {k k' : Nat} (h : k ≤ k') : HLe (evF P L k) (evF P L k') := by
  induction h with
  | refl => exact fun f args σ x e => e
  | step _ ih => exact fun f args σ x e => evF_step P L _ f args σ x (ih f args σ x e)
/-- What is come to in the end. -/
noncomputable def EV (P : Program) (L : Lib) : Hand := fun f args σ => open Classical in if h : ∃ x k, evF P L k f args σ = some x then some h.choose else none
theorem EV_iff {P : Program} {L : Lib} {f : FuncId} {args : List PV} {σ : Sto} {x : PV × Sto} : EV P L f args σ = some x ↔ ∃ k, evF P L k f args σ = some x := by
  unfold EV
  constructor
  · intro h
    split at h
    · rename_i hx
      cases h
      exact hx.choose_spec
    · cases h
  · rintro ⟨k, h⟩
    have hx : ∃ x k, evF P L k f args σ = some x := ⟨x, k, h⟩
    rw [dif_pos hx]
    obtain ⟨k', h'⟩ := hx.choose_spec
    have h1 := evF_le P L (Nat.le_max_left k k') _ _ _ _ h
    have h2 := evF_le P L (Nat.le_max_right k k') _ _ _ _ h'
    rw [h1] at h2
    exact h2.symm
theorem EV_call {P : Program} {L : Lib} {f : FuncId} {args : List PV} {σ : Sto} {x : PV × Sto} (e : callE (EV P L) f args σ = some x) : ∃ k, callE (evF P L k) f args σ = some x := by
  unfold callE callIn at e ⊢
  split at e
  · rename_i avs σs h1 h2
    split at e
    · rename_i r σ1 h3
      obtain ⟨k, hk⟩ := EV_iff.1 h3
      exact ⟨k, by simp only [h1, h2, hk]; exact e⟩
    · cases e
  · cases e
theorem EV_val {P : Program} {L : Lib} {ops : Array Oper} {o : Oper} {env : Nat → PV} {σ : Sto} {x : PV × Sto} (e : valE P (EV P L) ops o env σ = some x) : ∃ k, valE P (evF P L k) ops o env σ = some x := by
  unfold valE valO at e ⊢
  split at e
  · split at e
    · split at e
      · split at e
        · rename_i hb
          obtain ⟨k, hk⟩ := EV_call e
          exact ⟨k, by rw [if_pos hb]; exact hk⟩
        · cases e
      · cases e
    · exact ⟨0, e⟩
  · exact ⟨0, e⟩
  · cases e
theorem EV_opers {P : Program} {L : Lib} {n : Nat} {ops : Array Oper} : ∀ {l : List Oper} {s s' : St}, opersE P (EV P L) n ops l s = some s' → ∃ k, opersE P (evF P L k) n ops l s = some s'
  | [], s, s', e => ⟨0, e⟩
  | o :: rest, s, s', e => by
    obtain ⟨s1, h1, h2⟩ := Option.bind_eq_some_iff.1 e
    obtain ⟨r, h3, h4⟩ := Option.bind_eq_some_iff.1 h1
    obtain ⟨k, hk⟩ := EV_val h3
    obtain ⟨k', hk'⟩ := EV_opers h2
    exact ⟨max k k', Option.bind_eq_some_iff.2 ⟨s1, Option.bind_eq_some_iff.2 ⟨r, valE_mono (evF_le P L (Nat.le_max_left k k')) hk, h4⟩, opersE_mono (evF_le P L (Nat.le_max_right k k')) hk'⟩⟩
theorem EV_trace {P : Program} {L : Lib} {n : Nat} {ops : Array Oper} : ∀ {l : List Oper} {s : St} {x : List Cls × St}, traceE P (EV P L) n ops l s = some x → ∃ k, traceE P (evF P L k) n ops l s = some x
  | [], s, x, e => ⟨0, e⟩
  | o :: rest, s, x, e => by
    obtain ⟨r, h0, h00⟩ := Option.bind_eq_some_iff.1 e
    obtain ⟨s1, h1, h2⟩ := Option.bind_eq_some_iff.1 h00
    obtain ⟨q, h3, h4⟩ := Option.map_eq_some_iff.1 h2
    obtain ⟨k, hk⟩ := EV_val h0
    obtain ⟨k', hk'⟩ := EV_trace h3
    exact ⟨max k k', Option.bind_eq_some_iff.2 ⟨r, valE_mono (evF_le P L (Nat.le_max_left k k')) hk, Option.bind_eq_some_iff.2 ⟨s1, h1, Option.map_eq_some_iff.2 ⟨q, traceE_mono (evF_le P L (Nat.le_max_right k k')) hk', h4⟩⟩⟩⟩

/-! ### What code comes to -/
/-- Code comes to an end of which Q holds. -/
def WP (P : Program) (L : Lib) (n : Nat) (ids : List Nat) (c : Code) (s : St) (Q : Ctl → St → Prop) : Prop := ∃ k ctl s', codeU P (evF P L k) n k ids c s = some (ctl, s') ∧ Q ctl s'
variable {P : Program} {L : Lib} {n : Nat} {ids : List Nat} {s : St} {Q : Ctl → St → Prop}
theorem WP.mono {c : Code} {Q' : Ctl → St → Prop} (h : WP P L n ids c s Q) (hq : ∀ ctl s', Q ctl s' → Q' ctl s') : WP P L n ids c s Q' := by
  obtain ⟨k, ctl, s', h1, h2⟩ := h
  exact ⟨k, ctl, s', h1, hq ctl s' h2⟩
theorem WP.skip (h : Q .next s) : WP P L n ids .skip s Q := ⟨0, .next, s, rfl, h⟩
theorem WP.exit {id : Nat} (h : Q (.exit id) s) : WP P L n ids (.exit id) s Q := ⟨0, .exit id, s, rfl, h⟩
theorem WP.ret (h : Q .ret s) : WP P L n ids .ret s Q := ⟨0, .ret, s, rfl, h⟩
theorem EV_opersP {P : Program} {L : Lib} {n : Nat} {ops : Array Oper} : ∀ {l : List Oper} {s s' : St}, opersP P (EV P L) n ops l s = some s' → ∃ k, opersP P (evF P L k) n ops l s = some s'
  | [], s, s', e => ⟨0, e⟩
  | o :: rest, s, s', e => by
    obtain ⟨r, h1, h2⟩ := Option.bind_eq_some_iff.1 e
    split at h2
    · rename_i hc
      obtain ⟨s1, h3, h4⟩ := Option.bind_eq_some_iff.1 h2
      obtain ⟨k, hk⟩ := EV_val h1
      obtain ⟨k', hk'⟩ := EV_opersP h4
      exact ⟨max k k', Option.bind_eq_some_iff.2 ⟨r, valE_mono (evF_le P L (Nat.le_max_left k k')) hk, by
        rw [if_pos hc]; exact Option.bind_eq_some_iff.2 ⟨s1, h3, opersP_mono (evF_le P L (Nat.le_max_right k k')) hk'⟩⟩⟩
    · cases h2
theorem WP.region {id : Nat} {ops : Array Oper} (h : ∃ s', opersE P (EV P L) n ops ops.toList s = some s' ∧ Q .next s') : WP P L n ids (.region id ops false) s Q := by
  obtain ⟨s', h1, h2⟩ := h
  obtain ⟨k, hk⟩ := EV_opers h1
  exact ⟨k, .next, s', by simp only [codeU, Bool.false_eq_true, false_and, if_false, codeE, hk, Option.map_some], h2⟩
theorem WP.looked {id : Nat} {ops : Array Oper} (hid : id ∉ ids) (h : ∃ s', opersP P (EV P L) n ops ops.toList s = some s' ∧ Q .next s') : WP P L n ids (.region id ops true) s Q := by
  obtain ⟨s', h1, h2⟩ := h
  obtain ⟨k, hk⟩ := EV_opersP h1
  exact ⟨k, .next, s', by simp only [codeU]; rw [if_pos (by simp [hid]), hk]; rfl, h2⟩
theorem WP.drawn {id : Nat} {ops : Array Oper} (hid : id ∈ ids) (h : ∃ cls s', traceE P (EV P L) n ops ops.toList s = some (cls, s') ∧ orderOk ops cls = true ∧ Q .next s') : WP P L n ids (.region id ops true) s Q := by
  obtain ⟨cls, s', h1, h2, h3⟩ := h
  obtain ⟨k, hk⟩ := EV_trace h1
  exact ⟨k, .next, s', by simp only [codeU]; rw [if_neg (by simp [hid])]; simp only [codeE, hk, h2, if_true], h3⟩
def Ctl.then (Q : Ctl → St → Prop) (K : St → Prop) : Ctl → St → Prop
  | .next, s => K s
  | c, s => Q c s
theorem WP.seq {a b : Code} (h : WP P L n ids a s (Ctl.then Q fun s' => WP P L n ids b s' Q)) : WP P L n ids (.seq a b) s Q := by
  obtain ⟨k, ctl, s', h1, h2⟩ := h
  cases ctl with
  | next =>
    obtain ⟨k', ctl', s'', h3, h4⟩ := h2
    refine ⟨max k k', ctl', s'', ?_, h4⟩
    simp only [codeU, codeU_mono (evF_le P L (Nat.le_max_left k k')) (Nat.le_max_left k k') h1, codeU_mono (evF_le P L (Nat.le_max_right k k')) (Nat.le_max_right k k') h3]
  | exit id => exact ⟨k, .exit id, s', by simp only [codeU, h1], h2⟩
  | ret => exact ⟨k, .ret, s', by simp only [codeU, h1], h2⟩
theorem WP.cond_true {c : Operand} {a b : Code} (hc : opdE s.env c = .im (.bool true)) (h : WP P L n ids a s Q) : WP P L n ids (.cond c a b) s Q := by
  obtain ⟨k, ctl, s', h1, h2⟩ := h
  exact ⟨k, ctl, s', by simp only [codeU, hc]; exact h1, h2⟩
theorem WP.cond_false {c : Operand} {a b : Code} (hc : opdE s.env c = .im (.bool false)) (h : WP P L n ids b s Q) : WP P L n ids (.cond c a b) s Q := by
  obtain ⟨k, ctl, s', h1, h2⟩ := h
  exact ⟨k, ctl, s', by simp only [codeU, hc]; exact h1, h2⟩
theorem WP.cond {c : Operand} {a b : Code} {v : Bool} (hc : opdE s.env c = .im (.bool v)) (ht : v = true → WP P L n ids a s Q) (hf : v = false → WP P L n ids b s Q) : WP P L n ids (.cond c a b) s Q := by
  cases v with
  | true => exact .cond_true hc (ht rfl)
  | false => exact .cond_false hc (hf rfl)
def Ctl.inBlock (Q : Ctl → St → Prop) (id : Nat) : Ctl → St → Prop
  | .exit j, s => if j = id then Q .next s else Q (.exit j) s
  | c, s => Q c s
theorem WP.block {id : Nat} {c : Code} (h : WP P L n ids c s (Ctl.inBlock Q id)) : WP P L n ids (.block id c) s Q := by
  obtain ⟨k, ctl, s', h1, h2⟩ := h
  cases ctl with
  | next => exact ⟨k, .next, s', by simp only [codeU, h1], h2⟩
  | ret => exact ⟨k, .ret, s', by simp only [codeU, h1], h2⟩
  | exit j =>
    simp only [Ctl.inBlock] at h2
    by_cases hj : j = id
    · rw [if_pos hj] at h2
      exact ⟨k, .next, s', by simp only [codeU, h1, hj, if_true], h2⟩
    · rw [if_neg hj] at h2
      exact ⟨k, .exit j, s', by simp only [codeU, h1, hj, if_false], h2⟩
theorem WP.loop_step {c : Code} (h : WP P L n ids c s (Ctl.then Q fun s' => WP P L n ids (.loop c) s' Q)) : WP P L n ids (.loop c) s Q := by
  obtain ⟨k, ctl, s', h1, h2⟩ := h
  cases ctl with
  | next =>
    obtain ⟨k', ctl', s'', h3, h4⟩ := h2
    have h5 := codeU_mono (evF_le P L (Nat.le_max_left k k')) (Nat.le_max_left k k') h1
    have h6 := codeU_mono (evF_le P L (Nat.le_max_right k k')) (Nat.le_max_right k k') h3
    refine ⟨max k k' + 1, ctl', s'', ?_, h4⟩
    simp only [codeU] at h6 ⊢
    unfold iterE
    rw [codeU_mono (evF_le P L (Nat.le_succ _)) (Nat.le_succ _) h5]
    exact iterE_mono (fun s x e => codeU_mono (evF_le P L (Nat.le_succ _)) (Nat.le_succ _) e) (Nat.le_refl _) h6
  | exit id => exact ⟨k + 1, .exit id, s', by simp only [codeU]; unfold iterE; rw [codeU_mono (evF_le P L (Nat.le_succ _)) (Nat.le_succ _) h1], h2⟩
  | ret => exact ⟨k + 1, .ret, s', by simp only [codeU]; unfold iterE; rw [codeU_mono (evF_le P L (Nat.le_succ _)) (Nat.le_succ _) h1], h2⟩
/-- A loop of which each round makes something less. -/
theorem WP.loop {c : Code} (I : Nat → St → Prop) (m : Nat) (h0 : I m s) (h : ∀ m s, I m s → WP P L n ids c s (Ctl.then Q fun s' => ∃ m', m' < m ∧ I m' s')) : WP P L n ids (.loop c) s Q := by
  induction m using Nat.strongRecOn generalizing s with
  | _ m ih =>
    refine .loop_step ((h m s h0).mono fun ctl s' hq => ?_)
    cases ctl with
    | next =>
      obtain ⟨m', h1, h2⟩ := hq
      exact ih m' h1 h2
    | exit id => exact hq
    | ret => exact hq
/-- What a function yields. -/
def outE (P : Program) (env : Nat → PV) (σ : Sto) (rs : List ResultVar) : Option PV := match resultsE P env σ rs with
  | some [v] => some v
  | some vs => some (.tup vs)
  | none => none
theorem EV_fn {f : FuncId} (hl : L f = none) {fn : Func} {c : Code} {args : List PV} {σ σ' : Sto} {r : PV} (hf : P.funcs[f]? = some fn) (hb : fn.body = some c) (hs : statOk P ids c = true) (hn : args.length ≤ fn.ntmps)
    (h : WP P L fn.ntmps ids c ⟨initE args, σ⟩ fun ctl s => (ctl = .next ∨ ctl = .ret) ∧ outE P s.env s.sto fn.results.toList = some r ∧ s.sto = σ') : EV P L f args σ = some (r, σ') := by
  obtain ⟨k, ctl, s', h0, h2, h3, h4⟩ := h
  have h1 := codeU_E hs h0
  refine EV_iff.2 ⟨k + 1, ?_⟩
  show (match L f with | some h => h | none => bodyE P (evF P L k) k f) args σ = some (r, σ')
  rw [hl]
  simp only
  unfold bodyE
  rw [hf]
  simp only [hb]
  rw [if_pos hn]
  unfold outE at h3
  rcases h2 with rfl | rfl
  all_goals
    rw [h1]
    simp only
    split at h3
    · rename_i v hv; cases h3; first | (rw [hv]; simp only [h4]) | simp only [h4]
    · rename_i vs hne hv; cases h3; first | (rw [hv]; split <;> simp_all) | simp_all | (split <;> simp_all)
    · cases h3
mutual
/-- A value, of which nothing is known of any room. -/
def PV.era : PV → PV
  | .sl rows _ => .sl rows .unk
  | .agg cs => .agg (eraL cs)
  | .tup cs => .tup (eraL cs)
  | .fn f cs => .fn f (eraL cs)
  | .im v => .im v
  | .ptr b o => .ptr b o
  | .mp b => .mp b
  | .el row o => .el row o
def eraL : List PV → List PV
  | [] => []
  | x :: xs => x.era :: eraL xs
end
mutual
theorem ren_era {ρ : Nat → Option Nat} : ∀ {p : PV}, p.ptrs = [] → p.ren ρ (fun _ => .unk) = some p.era ∧ p.era.ptrs = [] ∧ p.era.era = p.era
  | .im v, _ => ⟨rfl, rfl, rfl⟩
  | .sl rows t, _ => ⟨rfl, rfl, rfl⟩
  | .el row o, _ => ⟨rfl, rfl, rfl⟩
  | .ptr b o, h => by cases h
  | .mp b, h => by cases h
  | .agg cs, h => by
    obtain ⟨h1, h2, h3⟩ := renL_era (ρ := ρ) (p := cs) h
    exact ⟨by simp only [PV.ren, h1, Option.map_some, PV.era], h2, by simp only [PV.era, h3]⟩
  | .tup cs, h => by
    obtain ⟨h1, h2, h3⟩ := renL_era (ρ := ρ) (p := cs) h
    exact ⟨by simp only [PV.ren, h1, Option.map_some, PV.era], h2, by simp only [PV.era, h3]⟩
  | .fn f cs, h => by
    obtain ⟨h1, h2, h3⟩ := renL_era (ρ := ρ) (p := cs) h
    exact ⟨by simp only [PV.ren, h1, Option.map_some, PV.era], h2, by simp only [PV.era, h3]⟩
theorem renL_era {ρ : Nat → Option Nat} : ∀ {p : List PV}, ptrsL p = [] → renL ρ (fun _ => .unk) p = some (eraL p) ∧ ptrsL (eraL p) = [] ∧ eraL (eraL p) = eraL p
  | [], _ => ⟨rfl, rfl, rfl⟩
  | x :: xs, h => by
    simp only [ptrsL, List.append_eq_nil_iff] at h
    obtain ⟨h1, h2, h3⟩ := ren_era (ρ := ρ) (p := x) h.1
    obtain ⟨h4, h5, h6⟩ := renL_era (ρ := ρ) (p := xs) h.2
    exact ⟨by simp only [renL, h1, h4, eraL], by simp only [eraL, ptrsL, h2, h5, List.append_nil], by simp only [eraL, h3, h6]⟩
end
theorem EV_lib {f : FuncId} {h : List PV → Sto → Option (PV × Sto)} (hl : L f = some h) {args : List PV} {σ : Sto} {x : PV × Sto} (e : h args σ = some x) : EV P L f args σ = some x :=
  EV_iff.2 ⟨1, by
    show (match L f with | some h => h | none => bodyE P (evF P L 0) 0 f) args σ = some x
    rw [hl]; exact e⟩
/-- A call that is handed nothing of the caller's own. -/
theorem call_pure {H : Hand} {f : FuncId} {args : List PV} {σ σ1 : Sto} {r : PV} (ha : ptrsL args = []) (h : H f (eraL args) ⟨[], []⟩ = some (r, σ1)) (hp : r.ptrs = []) : callE H f args σ = some (r.era, σ) := by
  obtain ⟨h1, h2, h3⟩ := ren_era (ρ := find []) hp
  obtain ⟨h4, _, _⟩ := ren_era (ρ := backB [] σ.bx.length 0) h2
  obtain ⟨h5, _, _⟩ := renL_era (ρ := find []) ha
  have e0 : gather σ.bx 64 (ptrsL args) [] = [] := by rw [ha]; rfl
  have e1 : gather σ1.bx 64 (r.ptrs ++ ptrsUpto σ1.bx ([] : List Nat).length) (iota ([] : List Nat).length) = [] := by rw [hp]; rfl
  have hsel : ∀ σ : Sto, selE σ [] [] = some ⟨[], []⟩ := fun σ => rfl
  unfold callE
  simp only [e0, tagsB, dd]
  unfold callIn
  simp only [h5, hsel, h]
  unfold callBack
  rw [e1]
  simp only [tagsB, dd, iota, List.length_nil]
  rw [h1, hsel]
  simp only [List.length_nil]
  rw [h4, h3]
  simp [renBs, backL, putMany]
end
end Go.Proofs.YtfgoedndpcblpaaDoor.Pv
end

section
/- Words for walks: each step told as an equation. -/
namespace Go.Proofs.YtfgoedndpcblpaaDoor.Pv
noncomputable section
open Go
set_option linter.unusedSimpArgs false
set_option linter.unusedVariables false
variable {P : Program} {L : Lib} {n : Nat} {ids : List Nat} {s : St} {Q : Ctl → St → Prop} {H : Hand} {ops : Array Oper} {env : Nat → PV} {σ : Sto}

theorem EV_of (P : Program) (L : Lib) (k : Nat) : HLe (evF P L k) (EV P L) := fun f args σ x e => EV_iff.2 ⟨k, e⟩
@[simp] theorem WP_skip : WP P L n ids .skip s Q ↔ Q .next s := ⟨fun ⟨k, ctl, s', h1, h2⟩ => by cases h1; exact h2, .skip⟩
@[simp] theorem WP_exit {id : Nat} : WP P L n ids (.exit id) s Q ↔ Q (.exit id) s := ⟨fun ⟨k, ctl, s', h1, h2⟩ => by cases h1; exact h2, .exit⟩
@[simp] theorem WP_ret : WP P L n ids .ret s Q ↔ Q .ret s := ⟨fun ⟨k, ctl, s', h1, h2⟩ => by cases h1; exact h2, .ret⟩
/-- A word that is always rewritten: so simp goes just where a law of congruence says. -/
def dum : Nat := 0
@[simp] theorem dum_eq : dum = 0 := rfl
/-- Some state is come to, of which K holds. -/
def Run {α : Type} (o : Option α) (K : α → Prop) : Prop := ∃ a, o = some a ∧ K a
@[simp] theorem Run_some {α : Type} {a : α} {K : α → Prop} : Run (some a) K ↔ K a := by simp [Run]
@[simp] theorem Run_none {α : Type} {K : α → Prop} : Run (none : Option α) K ↔ False := by simp [Run]
@[simp] theorem Run_bind {α β : Type} {o : Option α} {f : α → Option β} {K : β → Prop} : Run (o.bind f) K ↔ Run o fun a => Run (f a) K := by
  unfold Run
  constructor
  · rintro ⟨b, h1, h2⟩
    obtain ⟨a, h3, h4⟩ := Option.bind_eq_some_iff.1 h1
    exact ⟨a, h3, b, h4, h2⟩
  · rintro ⟨a, h3, b, h4, h2⟩
    exact ⟨b, Option.bind_eq_some_iff.2 ⟨a, h3, h4⟩, h2⟩
@[simp] theorem Run_map {α β : Type} {o : Option α} {f : α → β} {K : β → Prop} : Run (o.map f) K ↔ Run o fun a => K (f a) := by
  cases o <;> simp [Run]
@[simp] theorem Run_ite {α : Type} {p : Prop} [Decidable p] {a b : Option α} {K : α → Prop} : Run (if p then a else b) K ↔ (p → Run a K) ∧ (¬ p → Run b K) := by
  split <;> simp [*]
@[congr] theorem Run_congr {α : Type} {o o' : Option α} {K : α → Prop} {d : Nat} (hd : dum = d) (h : o = o') : Run o K = Run o' K := by rw [h]
@[congr] theorem bind_left {α β : Type} {o o' : Option α} {f : α → Option β} {d : Nat} (hd : dum = d) (h : o = o') : o.bind f = o'.bind f := by rw [h]
/-- A way is taken as a truth value tells. -/
def Branch (p : PV) (A B : Prop) : Prop := ∃ v, p = .im (.bool v) ∧ (v = true → A) ∧ (v = false → B)
@[simp] theorem Branch_true {A B : Prop} : Branch (.im (.bool true)) A B ↔ A := by simp [Branch]
@[simp] theorem Branch_false {A B : Prop} : Branch (.im (.bool false)) A B ↔ B := by simp [Branch]
@[simp] theorem Branch_of {v : Bool} {A B : Prop} : Branch (.im (.bool v)) A B ↔ (v = true → A) ∧ (v = false → B) := by simp [Branch]
@[congr] theorem Branch_congr {p p' : PV} {A B : Prop} {d : Nat} (hd : dum = d) (h : p = p') : Branch p A B = Branch p' A B := by rw [h]
@[congr] theorem WP_congr {c : Code} {s s' : St} {d : Nat} (hd : dum = d) (h : s = s') : WP P L n ids c s Q = WP P L n ids c s' Q := by rw [h]
@[simp] theorem WP_region {id : Nat} {l : List Oper} : WP P L n ids (.region id l.toArray false) s Q ↔ Run (opersE P (EV P L) n l.toArray l s) (Q .next) := by
  refine ⟨?_, .region⟩
  rintro ⟨k, ctl, s', h1, h2⟩
  simp only [codeU, Bool.false_eq_true, false_and, if_false, codeE, Option.map_eq_some_iff] at h1
  obtain ⟨s1, h3, h4⟩ := h1
  cases h4
  exact ⟨_, opersE_mono (EV_of P L k) h3, h2⟩
@[simp] theorem WP_seq {a b : Code} : WP P L n ids (.seq a b) s Q ↔ WP P L n ids a s (Ctl.then Q fun s' => WP P L n ids b s' Q) := by
  refine ⟨?_, .seq⟩
  rintro ⟨k, ctl, s', h1, h2⟩
  simp only [codeU] at h1
  split at h1
  · rename_i s1 h3
    exact ⟨k, .next, s1, h3, ⟨k, ctl, s', h1, h2⟩⟩
  · rename_i hn
    refine ⟨k, ctl, s', h1, ?_⟩
    cases ctl with
    | next => exact absurd h1 (hn s')
    | exit id => exact h2
    | ret => exact h2
@[simp] theorem WP_cond {c : Operand} {a b : Code} : WP P L n ids (.cond c a b) s Q ↔ Branch (opdE s.env c) (WP P L n ids a s Q) (WP P L n ids b s Q) := by
  refine ⟨?_, fun ⟨v, hc, ht, hf⟩ => .cond hc ht hf⟩
  rintro ⟨k, ctl, s', h1, h2⟩
  simp only [codeU] at h1
  split at h1
  · rename_i hc; exact ⟨true, hc, fun _ => ⟨k, ctl, s', h1, h2⟩, fun e => absurd e (by simp)⟩
  · rename_i hc; exact ⟨false, hc, fun e => absurd e (by simp), fun _ => ⟨k, ctl, s', h1, h2⟩⟩
  · cases h1
@[simp] theorem WP_block {id : Nat} {c : Code} : WP P L n ids (.block id c) s Q ↔ WP P L n ids c s (Ctl.inBlock Q id) := by
  refine ⟨?_, .block⟩
  rintro ⟨k, ctl, s', h1, h2⟩
  simp only [codeU] at h1
  split at h1
  · rename_i j s1 h3
    split at h1
    · rename_i hj; cases h1; exact ⟨k, _, _, h3, by simp only [Ctl.inBlock, hj, if_true]; exact h2⟩
    · rename_i hj; cases h1; exact ⟨k, _, _, h3, by simp only [Ctl.inBlock, hj, if_false]; exact h2⟩
  · rename_i hn
    refine ⟨k, ctl, s', h1, ?_⟩
    cases ctl with
    | next => exact h2
    | exit j => exact absurd h1 (hn j s')
    | ret => exact h2
@[congr] theorem Ctl.then_congr {K : St → Prop} {ctl : Ctl} {d : Nat} (hd : dum = d) : Ctl.then Q K ctl s = Ctl.then Q K ctl s := rfl
@[congr] theorem Ctl.inBlock_congr {id : Nat} {ctl : Ctl} {d : Nat} (hd : dum = d) : Ctl.inBlock Q id ctl s = Ctl.inBlock Q id ctl s := rfl
@[simp] theorem Ctl.then_next {K : St → Prop} : Ctl.then Q K .next s = K s := rfl
@[simp] theorem Ctl.then_exit {K : St → Prop} {id : Nat} : Ctl.then Q K (.exit id) s = Q (.exit id) s := rfl
@[simp] theorem Ctl.then_ret {K : St → Prop} : Ctl.then Q K .ret s = Q .ret s := rfl
@[simp] theorem Ctl.inBlock_next {id : Nat} : Ctl.inBlock Q id .next s = Q .next s := rfl
@[simp] theorem Ctl.inBlock_ret {id : Nat} : Ctl.inBlock Q id .ret s = Q .ret s := rfl
@[simp] theorem Ctl.inBlock_exit {id j : Nat} : Ctl.inBlock Q id (.exit j) s = if j = id then Q .next s else Q (.exit j) s := rfl

@[congr] theorem opersP_congr {l : List Oper} {s s' : St} {d : Nat} (hd : dum = d) (h : s = s') : opersP P H n ops l s = opersP P H n ops l s' := by rw [h]
@[simp] theorem WP_looked {id : Nat} {l : List Oper} (hid : id ∉ ids) : WP P L n ids (.region id l.toArray true) s Q ↔ Run (opersP P (EV P L) n l.toArray l s) (Q .next) := by
  refine ⟨?_, .looked hid⟩
  rintro ⟨k, ctl, s', h1, h2⟩
  simp only [codeU] at h1
  rw [if_pos (by simp [hid])] at h1
  obtain ⟨s1, h3, h4⟩ := Option.map_eq_some_iff.1 h1
  cases h4
  exact ⟨_, opersP_mono (EV_of P L k) h3, h2⟩
/-! ### Operations -/
def arg : List PV → Nat → PV
  | [], _ => .im undef
  | x :: _, 0 => x
  | _ :: xs, n + 1 => arg xs n
@[simp] theorem arg_nil {t : Nat} : arg [] t = .im undef := rfl
@[simp] theorem arg_zero {x : PV} {xs : List PV} : arg (x :: xs) 0 = x := rfl
@[simp] theorem arg_succ {x : PV} {xs : List PV} {t : Nat} : arg (x :: xs) (t + 1) = arg xs t := rfl
@[simp] theorem initE_at {args : List PV} {t : Nat} : initE args t = arg args t := by
  unfold initE
  induction args generalizing t with
  | nil => rfl
  | cons x xs ih => cases t with
    | zero => rfl
    | succ t => exact ih
/-- The truth value that a guard asks for. -/
def tru : PV → Option Bool
  | .im (.bool b) => some b
  | _ => none
@[simp] theorem tru_bool {b : Bool} : tru (.im (.bool b)) = some b := rfl
@[simp] theorem tru_undef : tru (.im undef) = none := rfl
@[simp] theorem tru_int {k : IntKind} {i : Int} : tru (.im (.int k i)) = none := rfl
@[simp] theorem tru_str {b : ByteArray} : tru (.im (.string b)) = none := rfl
def dstL : List Oper → Nat → Option Tmp
  | [], _ => none
  | o :: _, 0 => o.dst
  | _ :: l, j + 1 => dstL l j
@[simp] theorem dstL_zero {d : Option Tmp} {o : Op} {t : TypeId} {p : String} {a : Array Edge} {g : Option (Nat × Bool)} {l : List Oper} : dstL (⟨d, o, t, p, a, g⟩ :: l) 0 = d := rfl
@[simp] theorem dstL_succ {o : Oper} {l : List Oper} {j : Nat} : dstL (o :: l) (j + 1) = dstL l j := rfl
@[congr] theorem dstL_congr {l : List Oper} {j d : Nat} (hd : dum = d) : dstL l j = dstL l j := rfl
def yldL (env : Nat → PV) : Option Tmp → Option Bool
  | some d => tru (env d)
  | none => none
theorem yield_at (env : Nat → PV) : ∀ (l : List Oper) (j : Nat), yieldE l.toArray env j = yldL env (dstL l j)
  | [], j => by simp [yieldE, dstL, yldL]
  | o :: l, 0 => by
    cases h : o.dst with
    | none => simp [yieldE, dstL, h, yldL]
    | some d => simp only [yieldE, dstL, h, yldL]; simp [h]; rfl
  | o :: l, j + 1 => by
    have := yield_at env l j
    simp only [yieldE, dstL] at this ⊢
    simpa using this
@[congr] theorem opersE_congr {l : List Oper} {s s' : St} {d : Nat} (hd : dum = d) (h : s = s') : opersE P H n ops l s = opersE P H n ops l s' := by rw [h]
@[simp] theorem opersE_nil : opersE P H n ops [] s = some s := rfl
theorem valE_some {o : Oper} (h : guardE ops env o = some true) : valE P H ops o env σ = valO P H env σ o.op := by
  unfold valE
  rw [h]
@[simp] theorem opersE_cons {d : Option Tmp} {o : Op} {t : TypeId} {p : String} {a : Array Edge} {l : List Oper} {env : Nat → PV} : opersE P H n ops (⟨d, o, t, p, a, none⟩ :: l) ⟨env, σ⟩ = (valO P H env σ o).bind fun r => (putE n ⟨env, σ⟩ d r.1 r.2).bind fun s => opersE P H n ops l s := by
  show ((valE P H ops _ env σ).bind _).bind _ = _
  rw [valE_some rfl]
  cases valO P H env σ o <;> rfl
theorem opersE_guard0 {d : Option Tmp} {o : Op} {t : TypeId} {p : String} {a : Array Edge} {j : Nat} {w : Bool} {l : List Oper} {env : Nat → PV} : opersE P H n ops (⟨d, o, t, p, a, some (j, w)⟩ :: l) ⟨env, σ⟩ = (if yieldE ops env j = some w then valO P H env σ o else some (.im undef, σ)).bind fun r => (putE n ⟨env, σ⟩ d r.1 r.2).bind fun s => opersE P H n ops l s := by
  show ((valE P H ops _ env σ).bind _).bind _ = _
  split
  · rename_i h
    rw [valE_some (by simp [guardE, h])]
    cases valO P H env σ o <;> rfl
  · rename_i h
    have : valE P H ops ⟨d, o, t, p, a, some (j, w)⟩ env σ = some (.im undef, σ) := by
      unfold valE
      have hg : guardE ops env ⟨d, o, t, p, a, some (j, w)⟩ = some false := by simp [guardE, h]
      rw [hg]
    rw [this]; rfl
/-- A value that is told only if. -/
def gd (b : Bool) (v : PV) : PV := if b = true then v else .im undef
@[simp] theorem gd_true {v : PV} : gd true v = v := rfl
@[simp] theorem gd_false {v : PV} : gd false v = .im undef := rfl
def condB (p : PV) (w : Bool) : Bool := decide (tru p = some w)
@[simp] theorem condB_true {c : Bool} : condB (.im (.bool c)) true = c := by cases c <;> rfl
@[simp] theorem condB_false {c : Bool} : condB (.im (.bool c)) false = !c := by cases c <;> rfl
@[simp] theorem condB_undef {w : Bool} : condB (.im undef) w = false := by simp [condB]
@[simp] theorem condB_gtrue {b c : Bool} : condB (gd b (.im (.bool c))) true = (b && c) := by cases b <;> cases c <;> rfl
@[simp] theorem condB_gfalse {b c : Bool} : condB (gd b (.im (.bool c))) false = (b && !c) := by cases b <;> cases c <;> rfl
def condL (env : Nat → PV) (w : Bool) : Option Tmp → Bool
  | some g => condB (env g) w
  | none => false
@[simp] theorem condL_some {w : Bool} {g : Tmp} : condL env w (some g) = condB (env g) w := rfl
@[simp] theorem condL_none {w : Bool} : condL env w none = false := rfl
@[simp] theorem opersE_guard {d : Option Tmp} {o : Op} {t : TypeId} {p : String} {a : Array Edge} {j : Nat} {w : Bool} {l ol : List Oper} {env : Nat → PV} : opersE P H n ol.toArray (⟨d, o, t, p, a, some (j, w)⟩ :: l) ⟨env, σ⟩ = (if condL env w (dstL ol j) = true then valO P H env σ o else some (.im undef, σ)).bind fun r => (putE n ⟨env, σ⟩ d r.1 r.2).bind fun s => opersE P H n ol.toArray l s := by
  rw [opersE_guard0, yield_at]
  have h : condL env w (dstL ol j) = true ↔ yldL env (dstL ol j) = some w := by
    cases dstL ol j with
    | none => simp [condL, yldL]
    | some g => simp only [condL, yldL, condB, decide_eq_true_eq]
  by_cases h1 : yldL env (dstL ol j) = some w
  · rw [if_pos h1, if_pos (h.2 h1)]
  · rw [if_neg h1, if_neg (fun e => h1 (h.1 e))]
@[simp] theorem opersP_nil : opersP P H n ops [] s = some s := rfl
@[simp] theorem opersP_cons {d : Option Tmp} {o : Op} {t : TypeId} {p : String} {a : Array Edge} {l : List Oper} {env : Nat → PV} : opersP P H n ops (⟨d, o, t, p, a, none⟩ :: l) ⟨env, σ⟩ = (valO P H env σ o).bind fun r => if callP P env r.1 o = true then (putE n ⟨env, σ⟩ d r.1 r.2).bind fun s => opersP P H n ops l s else none := rfl
@[simp] theorem opersP_guard {d : Option Tmp} {o : Op} {t : TypeId} {p : String} {a : Array Edge} {j : Nat} {w : Bool} {l ol : List Oper} {env : Nat → PV} : opersP P H n ol.toArray (⟨d, o, t, p, a, some (j, w)⟩ :: l) ⟨env, σ⟩ = (if condL env w (dstL ol j) = true then valO P H env σ o else some (.im undef, σ)).bind fun r => if callP P env r.1 o = true then (putE n ⟨env, σ⟩ d r.1 r.2).bind fun s => opersP P H n ol.toArray l s else none := by
  show ((valE P H ol.toArray ⟨d, o, t, p, a, some (j, w)⟩ env σ).bind _) = _
  have hv : valE P H ol.toArray ⟨d, o, t, p, a, some (j, w)⟩ env σ = if condL env w (dstL ol j) = true then valO P H env σ o else some (.im undef, σ) := by
    have h : condL env w (dstL ol j) = true ↔ yieldE ol.toArray env j = some w := by
      rw [yield_at]
      cases dstL ol j with
      | none => simp [condL, yldL]
      | some g => simp only [condL, yldL, condB, decide_eq_true_eq]
    by_cases h1 : yieldE ol.toArray env j = some w
    · rw [if_pos (h.2 h1), valE_some (by simp [guardE, h1])]
    · rw [if_neg (fun e => h1 (h.1 e))]
      unfold valE
      have hg : guardE ol.toArray env ⟨d, o, t, p, a, some (j, w)⟩ = some false := by simp [guardE, h1]
      rw [hg]
  rw [hv]
@[simp] theorem callP_call {env : Nat → PV} {v : PV} {g : FuncId} {args : Array Operand} {ts : Array TypeId} : callP P env v (.call ⟨.value (.func g), args, ts⟩) = chk (kindF P g) (args.toList.map (opdE env)) v := rfl
@[simp] theorem callP_tmp {env : Nat → PV} {v : PV} {t : Tmp} {args : Array Operand} {ts : Array TypeId} : callP P env v (.call ⟨.value (.tmp t), args, ts⟩) = true := rfl
@[simp] theorem callP_builtin {env : Nat → PV} {v : PV} {b : Builtin} {args : Array Operand} {ts : Array TypeId} : callP P env v (.call ⟨.builtin b, args, ts⟩) = true := rfl
@[simp] theorem chk_p {args : List PV} {v : PV} : chk .p args v = ((ptrsL args).isEmpty && v.ptrs.isEmpty) := rfl
@[simp] theorem chk_r {args : List PV} {v : PV} : chk .r args v = true := rfl
@[simp] theorem chk_w {args : List PV} {v : PV} {bs : Option (List Nat)} : chk (.w bs) args v = true := rfl
section
variable {env : Nat → PV} {v : PV}
@[simp] theorem callP_move {x} : callP P env v (.move x) = true := rfl
@[simp] theorem callP_assign {x} : callP P env v (.assign x) = true := rfl
@[simp] theorem callP_binOp {a b c d e} : callP P env v (.binOp a b c d e) = true := rfl
@[simp] theorem callP_unOp {a b c} : callP P env v (.unOp a b c) = true := rfl
@[simp] theorem callP_pick {a b c} : callP P env v (.pick a b c) = true := rfl
@[simp] theorem callP_fieldAddr {a b c} : callP P env v (.fieldAddr a b c) = true := rfl
@[simp] theorem callP_indexAddr {a b c} : callP P env v (.indexAddr a b c) = true := rfl
@[simp] theorem callP_extract {a b} : callP P env v (.extract a b) = true := rfl
@[simp] theorem callP_nilCheck {a} : callP P env v (.nilCheck a) = true := rfl
@[simp] theorem callP_makeFunc {a b c} : callP P env v (.makeFunc a b c) = true := rfl
@[simp] theorem callP_build {a b} : callP P env v (.build a b) = true := rfl
@[simp] theorem callP_buildSlice {a b c} : callP P env v (.buildSlice a b c) = true := rfl
@[simp] theorem callP_index {a b c} : callP P env v (.index a b c) = true := rfl
@[simp] theorem callP_field {a b c} : callP P env v (.field a b c) = true := rfl
@[simp] theorem callP_convert {a b c} : callP P env v (.convert a b c) = true := rfl
@[simp] theorem callP_slice {a b c d e} : callP P env v (.slice a b c d e) = true := rfl
@[simp] theorem callP_load {a b} : callP P env v (.load a b) = true := rfl
@[simp] theorem callP_store {a b c} : callP P env v (.store a b c) = true := rfl
@[simp] theorem callP_alloc {a} : callP P env v (.alloc a) = true := rfl
@[simp] theorem callP_box {a b} : callP P env v (.box a b) = true := rfl
@[simp] theorem callP_lookup {a b c d} : callP P env v (.lookup a b c d) = true := rfl
@[simp] theorem callP_insert {a b c d} : callP P env v (.insert a b c d) = true := rfl
@[simp] theorem callP_mapUpdate {a b c d} : callP P env v (.mapUpdate a b c d) = true := rfl
@[simp] theorem callP_range {a b} : callP P env v (.range a b) = true := rfl
@[simp] theorem callP_next {a b} : callP P env v (.next a b) = true := rfl
@[simp] theorem callP_makeMap {a b} : callP P env v (.makeMap a b) = true := rfl
end
@[simp] theorem gd_ptrs {b : Bool} {v : PV} : (gd b v).ptrs = if b = true then v.ptrs else [] := by cases b <;> rfl
/-- A way in order, and what each operation does to the store. -/
def traceA (P : Program) (H : Hand) (n : Nat) (ops : Array Oper) (acc : List Cls) (l : List Oper) (s : St) : Option (List Cls × St) := (traceE P H n ops l s).map fun q => (acc ++ q.1, q.2)
@[congr] theorem traceA_congr {acc acc' : List Cls} {l : List Oper} {s s' : St} {d : Nat} (hd : dum = d) (h0 : acc = acc') (h : s = s') : traceA P H n ops acc l s = traceA P H n ops acc' l s' := by rw [h0, h]
@[congr] theorem orderOk_congr {cls cls' : List Cls} {d : Nat} (hd : dum = d) (hc : cls = cls') : orderOk ops cls = orderOk ops cls' := by rw [hc]
@[simp] theorem WP_drawn {id : Nat} {l : List Oper} (hid : id ∈ ids) : WP P L n ids (.region id l.toArray true) s Q ↔ Run (traceA P (EV P L) n l.toArray [] l s) fun x => orderOk l.toArray x.1 = true ∧ Q .next x.2 := by
  constructor
  · rintro ⟨k, ctl, s', h1, h2⟩
    simp only [codeU] at h1
    rw [if_neg (by simp [hid])] at h1
    simp only [codeE] at h1
    split at h1
    · rename_i cls s1 ht
      split at h1
      · rename_i ho
        cases h1
        have := traceE_mono (EV_of P L k) ht
        refine ⟨(cls, _), ?_, ho, h2⟩
        unfold traceA
        rw [this]; rfl
      · cases h1
    · cases h1
  · rintro ⟨x, h1, h2, h3⟩
    unfold traceA at h1
    obtain ⟨q, h4, h5⟩ := Option.map_eq_some_iff.1 h1
    cases h5
    exact .drawn hid ⟨q.1, q.2, h4, h2, h3⟩
@[simp] theorem traceA_nil {acc : List Cls} : traceA P H n ops acc [] s = some (acc, s) := by simp [traceA, traceE]
theorem traceA_step {acc : List Cls} {o : Oper} {l : List Oper} {env : Nat → PV} : traceA P H n ops acc (o :: l) ⟨env, σ⟩ = (valE P H ops o env σ).bind fun r => (putE n ⟨env, σ⟩ o.dst r.1 r.2).bind fun s => traceA P H n ops (acc ++ [clsE P o env σ r.1 r.2]) l s := by
  unfold traceA
  simp only [traceE]
  cases valE P H ops o env σ with
  | none => rfl
  | some r =>
    simp only [Option.bind_some]
    cases putE n ⟨env, σ⟩ o.dst r.1 r.2 with
    | none => rfl
    | some s1 =>
      simp only [Option.bind_some, Option.map_map]
      congr 1
      funext q
      simp
@[simp] theorem traceA_cons {acc : List Cls} {d : Option Tmp} {o : Op} {t : TypeId} {p : String} {a : Array Edge} {l : List Oper} {env : Nat → PV} : traceA P H n ops acc (⟨d, o, t, p, a, none⟩ :: l) ⟨env, σ⟩ = (valO P H env σ o).bind fun r => (putE n ⟨env, σ⟩ d r.1 r.2).bind fun s => traceA P H n ops (acc ++ [clsOp P env σ r.1 r.2 o]) l s := by
  rw [traceA_step, valE_some rfl]; rfl
@[simp] theorem traceA_guard {acc : List Cls} {d : Option Tmp} {o : Op} {t : TypeId} {p : String} {a : Array Edge} {j : Nat} {w : Bool} {l ol : List Oper} {env : Nat → PV} : traceA P H n ol.toArray acc (⟨d, o, t, p, a, some (j, w)⟩ :: l) ⟨env, σ⟩ = (if condL env w (dstL ol j) = true then valO P H env σ o else some (.im undef, σ)).bind fun r => (putE n ⟨env, σ⟩ d r.1 r.2).bind fun s => traceA P H n ol.toArray (acc ++ [clsGd P env σ r.1 r.2 o]) l s := by
  have hv : valE P H ol.toArray ⟨d, o, t, p, a, some (j, w)⟩ env σ = if condL env w (dstL ol j) = true then valO P H env σ o else some (.im undef, σ) := by
    have h : condL env w (dstL ol j) = true ↔ yieldE ol.toArray env j = some w := by
      rw [yield_at]
      cases dstL ol j with
      | none => simp [condL, yldL]
      | some g => simp only [condL, yldL, condB, decide_eq_true_eq]
    by_cases h1 : yieldE ol.toArray env j = some w
    · rw [if_pos (h.2 h1), valE_some (by simp [guardE, h1])]
    · rw [if_neg (fun e => h1 (h.1 e))]
      unfold valE
      have hg : guardE ol.toArray env ⟨d, o, t, p, a, some (j, w)⟩ = some false := by simp [guardE, h1]
      rw [hg]
  rw [traceA_step, hv]; rfl
/-- The class of a look. -/
def lookC : PV → Cls
  | .ptr b _ => .l b
  | _ => .p
@[simp] theorem lookC_ptr {b o : Nat} : lookC (.ptr b o) = .l b := rfl
@[simp] theorem lookC_el {row : List FV} {o : Nat} : lookC (.el row o) = .p := rfl
def storeC : PV → Cls
  | .ptr b _ => .w (some [b])
  | _ => .w none
@[simp] theorem storeC_ptr {b o : Nat} : storeC (.ptr b o) = .w (some [b]) := rfl
section
variable {env : Nat → PV} {v : PV} {σ σ1 : Sto}
@[simp] theorem clsOp_load {t : TypeId} {x : Operand} : clsOp P env σ v σ1 (.load t x) = lookC (opdE env x) := by simp only [clsOp]; cases opdE env x <;> rfl
@[simp] theorem clsOp_store {t : TypeId} {a x : Operand} : clsOp P env σ v σ1 (.store t a x) = storeC (opdE env a) := by simp only [clsOp]; cases opdE env a <;> rfl
@[simp] theorem clsOp_call {f : Operand} {args : Array Operand} {ts : Array TypeId} : clsOp P env σ v σ1 (.call ⟨.value f, args, ts⟩) = clsCall P env σ v σ1 f args := rfl
@[simp] theorem clsCall_func {g : FuncId} {args : Array Operand} : clsCall P env σ v σ1 (.func g) args = if (ptrsL (args.toList.map (opdE env))).isEmpty = true ∧ v.ptrs.isEmpty = true then .p else if roF P 6 g = true then soloC σ.bx (ptrsL (args.toList.map (opdE env))) v else .w (some (gather σ.bx 64 (ptrsL (args.toList.map (opdE env))) [] ++ newB σ.bx.length σ1.bx.length)) := by
  have hf : funOf (opdE env (.func g)) = some (g, []) := rfl
  unfold clsCall; rw [hf]; simp only [List.append_nil]
@[simp] theorem soloC_one {bx : List Bx} {b : Nat} : soloC bx [b] v = soloX bx[b]? v b := rfl
@[simp] theorem soloC_nil {bx : List Bx} : soloC bx [] v = .r := rfl
@[simp] theorem soloC_two {bx : List Bx} {b c : Nat} {l : List Nat} : soloC bx (b :: c :: l) v = .r := rfl
@[simp] theorem soloX_cells {cs : List PV} {b : Nat} : soloX (some (.cells cs)) v b = if v.ptrs.isEmpty = true ∧ (ptrsL cs).isEmpty = true ∧ (tagsL cs).isEmpty = true then .l b else .r := rfl
@[simp] theorem newB_self {a : Nat} : newB a a = [] := by simp [newB]
@[simp] theorem clsOp_len {x : Array Operand} {t : Array TypeId} : clsOp P env σ v σ1 (.call ⟨.builtin .len, x, t⟩) = .p := rfl
@[simp] theorem clsOp_append {x : Array Operand} {t : Array TypeId} : clsOp P env σ v σ1 (.call ⟨.builtin .append, x, t⟩) = .w (some []) := rfl
@[simp] theorem clsOp_alloc {t : TypeId} : clsOp P env σ v σ1 (.alloc t) = .w (some [σ.bx.length]) := rfl
@[simp] theorem clsGd_load {t : TypeId} {x : Operand} : clsGd P env σ v σ1 (.load t x) = .r := rfl
@[simp] theorem clsOp_move {x} : clsOp P env σ v σ1 (.move x) = .p := rfl
@[simp] theorem clsGd_move {x} : clsGd P env σ v σ1 (.move x) = .p := rfl
@[simp] theorem clsOp_assign {x} : clsOp P env σ v σ1 (.assign x) = .p := rfl
@[simp] theorem clsGd_assign {x} : clsGd P env σ v σ1 (.assign x) = .p := rfl
@[simp] theorem clsOp_binOp {a b c d e} : clsOp P env σ v σ1 (.binOp a b c d e) = .p := rfl
@[simp] theorem clsGd_binOp {a b c d e} : clsGd P env σ v σ1 (.binOp a b c d e) = .p := rfl
@[simp] theorem clsOp_unOp {a b c} : clsOp P env σ v σ1 (.unOp a b c) = .p := rfl
@[simp] theorem clsGd_unOp {a b c} : clsGd P env σ v σ1 (.unOp a b c) = .p := rfl
@[simp] theorem clsOp_pick {a b c} : clsOp P env σ v σ1 (.pick a b c) = .p := rfl
@[simp] theorem clsGd_pick {a b c} : clsGd P env σ v σ1 (.pick a b c) = .p := rfl
@[simp] theorem clsOp_fieldAddr {a b c} : clsOp P env σ v σ1 (.fieldAddr a b c) = .p := rfl
@[simp] theorem clsGd_fieldAddr {a b c} : clsGd P env σ v σ1 (.fieldAddr a b c) = .p := rfl
@[simp] theorem clsOp_indexAddr {a b c} : clsOp P env σ v σ1 (.indexAddr a b c) = .p := rfl
@[simp] theorem clsGd_indexAddr {a b c} : clsGd P env σ v σ1 (.indexAddr a b c) = .p := rfl
@[simp] theorem clsOp_extract {a b} : clsOp P env σ v σ1 (.extract a b) = .p := rfl
@[simp] theorem clsGd_extract {a b} : clsGd P env σ v σ1 (.extract a b) = .p := rfl
@[simp] theorem clsOp_nilCheck {a} : clsOp P env σ v σ1 (.nilCheck a) = .p := rfl
@[simp] theorem clsGd_nilCheck {a} : clsGd P env σ v σ1 (.nilCheck a) = .p := rfl
@[simp] theorem clsOp_makeFunc {a b c} : clsOp P env σ v σ1 (.makeFunc a b c) = .p := rfl
@[simp] theorem clsGd_makeFunc {a b c} : clsGd P env σ v σ1 (.makeFunc a b c) = .p := rfl
@[simp] theorem clsOp_build {a b} : clsOp P env σ v σ1 (.build a b) = .p := rfl
@[simp] theorem clsGd_build {a b} : clsGd P env σ v σ1 (.build a b) = .p := rfl
@[simp] theorem clsOp_buildSlice {a b c} : clsOp P env σ v σ1 (.buildSlice a b c) = .p := rfl
@[simp] theorem clsGd_buildSlice {a b c} : clsGd P env σ v σ1 (.buildSlice a b c) = .p := rfl
@[simp] theorem clsOp_index {a b c} : clsOp P env σ v σ1 (.index a b c) = .p := rfl
@[simp] theorem clsGd_index {a b c} : clsGd P env σ v σ1 (.index a b c) = .p := rfl
@[simp] theorem clsOp_field {a b c} : clsOp P env σ v σ1 (.field a b c) = .p := rfl
@[simp] theorem clsGd_field {a b c} : clsGd P env σ v σ1 (.field a b c) = .p := rfl
@[simp] theorem clsOp_convert {a b c} : clsOp P env σ v σ1 (.convert a b c) = .p := rfl
@[simp] theorem clsGd_convert {a b c} : clsGd P env σ v σ1 (.convert a b c) = .p := rfl
@[simp] theorem clsOp_slice {a b c d e} : clsOp P env σ v σ1 (.slice a b c d e) = .p := rfl
@[simp] theorem clsGd_slice {a b c d e} : clsGd P env σ v σ1 (.slice a b c d e) = .p := rfl
end
/-- The same boxes under other numbers: what clashes clashes still. -/
def Cls.ren (f : Nat → Nat) : Cls → Cls
  | .l b => .l (f b)
  | .w (some bs) => .w (some (bs.map f))
  | c => c
theorem orderOk_ren {cls : List Cls} (f : Nat → Nat) (h : orderOk ops (cls.map (Cls.ren f)) = true) : orderOk ops cls = true := by
  have hhit : ∀ b bs, hitB b (some bs) = true → hitB (f b) (some (bs.map f)) = true := by
    intro b bs h
    simp only [hitB, List.contains_iff_mem] at h ⊢
    exact List.mem_map_of_mem h
  have hcl : ∀ {x y : Oper} {c d : Cls}, clash ops x y (c.ren f) (d.ren f) = false → clash ops x y c d = false := by
    intro x y c d h
    unfold clash at h ⊢
    simp only [Bool.or_eq_false_iff] at h ⊢
    refine ⟨h.1, ?_⟩
    have h3 := h.2
    cases c with
    | p => cases d <;> rfl
    | r => cases d with
      | w bs => cases bs <;> cases h3
      | _ => rfl
    | l b => cases d with
      | w bs => cases bs with
        | none => cases h3
        | some bs =>
          cases hb : hitB b (some bs) with
          | false => exact hb
          | true => have := hhit b bs hb; simp only [Cls.ren] at h3; rw [this] at h3; cases h3
      | _ => rfl
    | w bs => cases d with
      | p => rfl
      | r => cases bs <;> cases h3
      | w bs' => cases bs <;> cases bs' <;> cases h3
      | l b => cases bs with
        | none => cases h3
        | some bs =>
          cases hb : hitB b (some bs) with
          | false => exact hb
          | true => have := hhit b bs hb; simp only [Cls.ren] at h3; rw [this] at h3; cases h3
  have hget : ∀ i : Nat, (cls.map (Cls.ren f)).getD i (.w none) = (cls.getD i (.w none)).ren f := by
    intro i
    rw [List.getD_eq_getElem?_getD, List.getD_eq_getElem?_getD, List.getElem?_map]
    cases cls[i]? <;> rfl
  unfold orderOk at h ⊢
  simp only [List.all_eq_true] at h ⊢
  intro j hj
  have h1 := h j hj
  split
  · rename_i hn; rw [hn] at h1; exact h1
  · rename_i y hy
    rw [hy] at h1
    simp only [Bool.and_eq_true] at h1 ⊢
    refine ⟨h1.1, ?_⟩
    have h2 := h1.2
    simp only [List.all_eq_true] at h2 ⊢
    intro i hi
    have h3 := h2 i hi
    split
    · rename_i hn; rw [hn] at h3; exact h3
    · rename_i x hx
      rw [hx] at h3
      simp only [Bool.or_eq_true, Bool.not_eq_true'] at h3 ⊢
      rcases h3 with h3 | h3
      · exact .inl h3
      · rw [hget, hget] at h3
        exact .inr (hcl h3)
@[simp] theorem guard_some {b : Bool} {v : PV} : (if b = true then some (v, σ) else some (.im undef, σ)) = some (gd b v, σ) := by cases b <;> rfl
@[simp] theorem guard_and {b c : Bool} {v : PV} : (if b = true ∧ c = true then some (v, σ) else some (.im undef, σ)) = some (gd (b && c) v, σ) := by cases b <;> cases c <;> rfl
@[simp] theorem guard_andn {b c : Bool} {v : PV} : (if b = true ∧ c = false then some (v, σ) else some (.im undef, σ)) = some (gd (b && !c) v, σ) := by cases b <;> cases c <;> rfl
@[simp] theorem guard_nand {b c : Bool} {v : PV} : (if b = false ∧ c = true then some (v, σ) else some (.im undef, σ)) = some (gd (!b && c) v, σ) := by cases b <;> cases c <;> rfl
@[simp] theorem guard_nandn {b c : Bool} {v : PV} : (if b = false ∧ c = false then some (v, σ) else some (.im undef, σ)) = some (gd (!b && !c) v, σ) := by cases b <;> cases c <;> rfl
@[simp] theorem guard_not {b : Bool} {v : PV} : (if b = false then some (v, σ) else some (.im undef, σ)) = some (gd (!b) v, σ) := by cases b <;> rfl
@[simp] theorem pick_bool {c d e : Bool} : (if c = true then some (PV.im (.bool d)) else some (PV.im (.bool e))) = some (.im (.bool (bif c then d else e))) := by cases c <;> rfl
attribute [congr] ite_congr
attribute [simp] PV.ptrs PV.era ptrsL eraL PV.tags tagsL Tag.rows
@[simp] theorem putE_some {d : Tmp} {v : PV} {env : Nat → PV} {τ : Sto} : putE n ⟨env, τ⟩ (some d) v σ = if d < n then some ⟨upd env d v, σ⟩ else none := rfl
@[simp] theorem putE_none {v : PV} {env : Nat → PV} {τ : Sto} : putE n ⟨env, τ⟩ none v σ = some ⟨env, σ⟩ := rfl
@[simp] theorem opd_tmp {t : Tmp} : opdE env (.tmp t) = env t := rfl
@[simp] theorem opd_const {v : Value} : opdE env (.const v) = constV v := rfl
@[simp] theorem opd_func {f : FuncId} : opdE env (.func f) = .im (.func (.func f) #[] #[]) := rfl
@[simp] theorem upd_at {t u : Nat} {v : PV} : upd env t v u = if u = t then v else env u := rfl
@[simp] theorem constV_int {k : IntKind} {i : Int} : constV (.int k i) = .im (.int k i) := rfl
@[simp] theorem constV_bool {b : Bool} : constV (.bool b) = .im (.bool b) := rfl
@[simp] theorem constV_string {b : ByteArray} : constV (.string b) = .im (.string b) := rfl
@[simp] theorem constV_nil : constV (.slice none 0 0) = .sl [] .full := rfl
@[simp] theorem valO_move {x : Operand} : valO P H env σ (.move x) = some (opdE env x, σ) := rfl
@[simp] theorem valO_assign {x : Operand} : valO P H env σ (.assign x) = some (opdE env x, σ) := rfl
@[simp] theorem valO_bin {op : BinOp} {t u : TypeId} {x y : Operand} : valO P H env σ (.binOp op t x y u) = (binE P t op (opdE env x) (opdE env y)).map (·, σ) := rfl
@[simp] theorem valO_un {op : UnOp} {t : TypeId} {x : Operand} : valO P H env σ (.unOp op t x) = (unE op (opdE env x)).map (·, σ) := rfl
@[simp] theorem valO_call {g : FuncId} {args : Array Operand} {ts : Array TypeId} : valO P H env σ (.call ⟨.value (.func g), args, ts⟩) = if isBody P g = true then callE H g (args.toList.map (opdE env)) σ else none := by
  show (match funOf (opdE env (.func g)) with | some (g, cap) => if isBody P g = true then callE H g (args.toList.map (opdE env) ++ cap) σ else none | none => none) = _
  simp [funOf, opdE]
theorem valO_value {t : Tmp} {args : Array Operand} {ts : Array TypeId} : valO P H env σ (.call ⟨.value (.tmp t), args, ts⟩) = match funOf (env t) with | some (g, cap) => if isBody P g = true then callE H g (args.toList.map (opdE env) ++ cap) σ else none | none => none := rfl
@[simp] theorem valO_len {x : Operand} {t : TypeId} : valO P H env σ (.call ⟨.builtin .len, #[x], #[t]⟩) = (lenE P t (opdE env x)).map (·, σ) := rfl
@[simp] theorem valO_min {x y : Operand} {ts : Array TypeId} : valO P H env σ (.call ⟨.builtin .min, #[x, y], ts⟩) = (min2E (opdE env x) (opdE env y)).map (·, σ) := rfl
@[simp] theorem valO_max {x y : Operand} {ts : Array TypeId} : valO P H env σ (.call ⟨.builtin .max, #[x, y], ts⟩) = (max2E (opdE env x) (opdE env y)).map (·, σ) := rfl
@[simp] theorem valO_append {x y : Operand} {t u : TypeId} : valO P H env σ (.call ⟨.builtin .append, #[x, y], #[t, u]⟩) = appendE P t u σ (opdE env x) (opdE env y) := rfl
@[simp] theorem valO_fieldAddr {t : TypeId} {x : Operand} {f : Nat} : valO P H env σ (.fieldAddr t x f) = (fieldAddrE P t (opdE env x) f).map (·, σ) := rfl
@[simp] theorem valO_indexAddr {t : TypeId} {x i : Operand} : valO P H env σ (.indexAddr t x i) = (indexE P t (opdE env x) (opdE env i)).map (·, σ) := rfl
@[simp] theorem valO_index {t : TypeId} {x i : Operand} : valO P H env σ (.index t x i) = (strIndexE P t (opdE env x) (opdE env i)).map (·, σ) := rfl
@[simp] theorem valO_field {t : TypeId} {x : Operand} {f : Nat} : valO P H env σ (.field t x f) = (fieldE P t (opdE env x) f).map (·, σ) := rfl
@[simp] theorem valO_conv {t u : TypeId} {x : Operand} : valO P H env σ (.convert t u x) = (convE P t u (opdE env x)).map (·, σ) := rfl
@[simp] theorem valO_build {t : TypeId} {ps : Array (Nat × Operand)} : valO P H env σ (.build t ps) = (buildE P t (ps.toList.map fun p => (p.1, opdE env p.2))).map (·, σ) := rfl
@[simp] theorem valO_buildSlice {t : TypeId} {len : Nat} {ps : Array (Nat × Operand)} : valO P H env σ (.buildSlice t len ps) = (buildSliceE P t len (ps.toList.map fun p => (p.1, opdE env p.2))).map (·, σ) := rfl
@[simp] theorem valO_slice {t : TypeId} {x : Operand} {lo hi mx : Option Operand} : valO P H env σ (.slice t x lo hi mx) = (sliceE P t (opdE env x) (lo.map (opdE env)) (hi.map (opdE env)) (mx.map (opdE env))).map (·, σ) := rfl
@[simp] theorem valO_lookup {t : TypeId} {x i : Operand} {ok : Bool} : valO P H env σ (.lookup t x i ok) = (lookupE P σ t (opdE env x) (opdE env i) ok).map (·, σ) := rfl
theorem valO_pick0 {c a b : Operand} : valO P H env σ (.pick c a b) = match opdE env c with
    | .im (.bool true) => some (opdE env a, σ)
    | .im (.bool false) => some (opdE env b, σ)
    | _ => none := rfl
theorem valO_pick {c a b : Operand} {v : Bool} (h : opdE env c = .im (.bool v)) : valO P H env σ (.pick c a b) = some (bif v then opdE env a else opdE env b, σ) := by
  rw [valO_pick0, h]; cases v <;> rfl
theorem valO_extract0 {t : Operand} {i : Nat} : valO P H env σ (.extract t i) = match opdE env t with
    | .tup vs => (vs[i]?).map (·, σ)
    | _ => none := rfl
theorem valO_nilCheck0 {x : Operand} : valO P H env σ (.nilCheck x) = match opdE env x with
    | .ptr b o => some (.ptr b o, σ)
    | .el row o => some (.el row o, σ)
    | _ => none := rfl
theorem valO_load0 {t : TypeId} {x : Operand} : valO P H env σ (.load t x) = match opdE env x with
    | .ptr b o => match σ.bx[b]? with
      | some (.cells cells) => (loadE P t cells o).map (·, σ)
      | _ => none
    | .el row o => (loadE P t (row.map FV.up) o).map (·, σ)
    | _ => none := rfl
theorem valO_store0 {t : TypeId} {a x : Operand} : valO P H env σ (.store t a x) = match opdE env a with
    | .ptr b o => match σ.bx[b]?, (opdE env x).cells?, P.info? t with
      | some (.cells cells), some vs, some i => if vs.length = i.size ∧ o + vs.length ≤ cells.length ∧ (!flagged (setAt cells o vs) || flagged cells) = true then some (.im undef, { σ with bx := σ.bx.set b (.cells (setAt cells o vs)) }) else none
      | _, _, _ => none
    | _ => none := rfl
@[simp] theorem valO_alloc {t : TypeId} : valO P H env σ (.alloc t) = (zeroE P t).bind fun cs => if bldOk t cs = true then some (.ptr σ.bx.length 0, { σ with bx := σ.bx ++ [.cells cs] }) else none := rfl
@[simp] theorem valO_box {t : TypeId} {x : Operand} : valO P H env σ (.box t x) = (opdE env x).cells?.bind fun cs => if bldOk t cs = true then some (.ptr σ.bx.length 0, { σ with bx := σ.bx ++ [.cells cs] }) else none := rfl
@[simp] theorem valO_makeFunc {f : Fn} {first cap : Array Operand} : valO P H env σ (.makeFunc f first cap) = if first.size = 0 then some (.fn f (cap.toList.map (opdE env)), σ) else none := rfl

/-! ### Operations whose types are known -/
theorem isBody_of {g : FuncId} {fn : Func} (h : P.funcs[g]? = some fn) (h1 : fn.body.isSome = true) (h2 : (fn.name == "runtime.NumGoroutine") = false) : isBody P g = true := by
  unfold isBody; rw [h]; simp [h1, h2]
theorem fieldAddr_of {t : TypeId} {fs : Array Field} {f : Nat} {fd : Field} {i : TypeInfo} {x : PV} {o : Nat} (h : P.underlying t = some (.struct fs)) (h1 : fs[f]? = some fd) (h2 : P.info? fd.type = some i) (h3 : i.size ≠ 0) (h4 : fd.offset = o) : fieldAddrE P t x f = addE x o := by
  unfold fieldAddrE; rw [h]; simp [h1, h2, h3, h4]
def ldA (n : Nat) (cells : List PV) (o : Nat) : Option PV := if o + n ≤ cells.length then some (.agg ((cells.drop o).take n)) else none
theorem load_agg {t : TypeId} {fs : Array Field} {i : TypeInfo} {n : Nat} {cells : List PV} {o : Nat} (h : P.underlying t = some (.struct fs)) (h1 : P.info? t = some i) (h2 : i.size = n) : loadE P t cells o = ldA n cells o := by
  unfold loadE ldA; rw [h]; simp [h1, h2]
theorem load_one {t : TypeId} {d : TypeDesc} {cells : List PV} {o : Nat} (h : P.underlying t = some d) (h1 : d.isRow = false) : loadE P t cells o = cells[o]? := by
  unfold loadE; rw [h]; cases d <;> first | rfl | cases h1
theorem field_of {t : TypeId} {fs : Array Field} {f : Nat} {fd : Field} {cs : List PV} (h : P.underlying t = some (.struct fs)) (h1 : fs[f]? = some fd) : fieldE P t (.agg cs) f = loadE P fd.type cs fd.offset := by
  unfold fieldE; rw [h]; simp [h1]
theorem zero_of {t : TypeId} {i : TypeInfo} {v : Value} {l : List PV} (h : P.info? t = some i) (h1 : i.zero = some v) (h2 : (v.cells.toList.all fun c => c.oneCell') = true) (h3 : v.cells.toList.map constV = l) : zeroE P t = some l := by
  unfold zeroE; rw [h]; simp only [h1, h2, if_true, h3]
theorem len_str {t : TypeId} {s : ByteArray} (h : P.underlying t = some .string) : lenE P t (.im (.string s)) = some (.im (.int .i64 s.size)) := by unfold lenE; rw [h]
theorem len_sl {t e : TypeId} {rows : List (List FV)} {tag : Tag} (h : P.underlying t = some (.slice e)) : lenE P t (.sl rows tag) = some (.im (.int .i64 rows.length)) := by unfold lenE; rw [h]
def idx (n : Nat) (rows : List (List FV)) (i : Int) : Option PV := if 0 ≤ i ∧ i < rows.length then match rows[i.toNat]? with
    | some row => if row.length = n then some (.el row 0) else none
    | none => none
  else none
theorem index_of {t e : TypeId} {i : TypeInfo} {n : Nat} {rows : List (List FV)} {tag : Tag} {k : IntKind} {x : Int} (h : P.underlying t = some (.slice e)) (h1 : P.info? e = some i) (h2 : i.size = n) (h3 : n ≠ 0) : indexE P t (.sl rows tag) (.im (.int k x)) = idx n rows x := by
  subst h2
  unfold indexE idx; rw [h]; simp only [h1]
  split
  · cases rows[x.toNat]? <;> simp [h3]
  · rfl
theorem idx_get {n : Nat} {rows : List (List FV)} {i : Nat} {row : List FV} (h : rows[i]? = some row) (hn : row.length = n) : idx n rows i = some (.el row 0) := by
  have := (List.getElem?_eq_some_iff.1 h).1
  unfold idx
  rw [if_pos ⟨Int.natCast_nonneg i, by exact_mod_cast this⟩, Int.toNat_natCast, h]
  simp only [hn, if_true]
def strIdx (s : ByteArray) (i : Int) : Option PV := match (if 0 ≤ i then s[i.toNat]? else none) with
  | some b => some (.im (.int .u8 b.toNat))
  | none => none
theorem strIndex_of {t : TypeId} {s : ByteArray} {k : IntKind} {x : Int} (h : P.underlying t = some .string) : strIndexE P t (.im (.string s)) (.im (.int k x)) = strIdx s x := by unfold strIndexE strIdx; rw [h]; rfl
def slS (s : ByteArray) (lo hi : Option PV) : Option PV := match boundE hi s.size s.size with
  | some h => match boundE lo h 0 with
    | some l => some (.im (.string (s.extract l h)))
    | none => none
  | none => none
theorem slice_str {t : TypeId} {s : ByteArray} {lo hi : Option PV} (h : P.underlying t = some .string) : sliceE P t (.im (.string s)) lo hi none = slS s lo hi := by unfold sliceE slS; rw [h]; rfl
def slL (n : Nat) (rows : List (List FV)) (tag : Tag) (lo hi : Option PV) : Option PV := match boundE hi rows.length rows.length with
  | some h => match boundE lo h 0 with
    | some l => if l = 0 ∨ sized n rows = true then some (.sl ((rows.drop l).take (h - l)) (if hi.isNone = true ∧ tag = .full then .full else .unk)) else none
    | none => none
  | none => none
theorem slice_sl {t e : TypeId} {i : TypeInfo} {n : Nat} {rows : List (List FV)} {tag : Tag} {lo hi : Option PV} (h : P.underlying t = some (.slice e)) (h1 : P.info? e = some i) (h2 : i.size = n) : sliceE P t (.sl rows tag) lo hi none = slL n rows tag lo hi := by unfold sliceE slL; rw [h]; simp only [h1, h2]; rfl
@[simp] theorem bound_none {y d : Nat} : boundE none y d = some d := rfl
@[simp] theorem bound_int {k : IntKind} {i : Int} {y d : Nat} : boundE (some (.im (.int k i))) y d = if 0 ≤ i ∧ i ≤ y then some i.toNat else none := rfl
theorem conv_int {s t u : TypeId} {d : TypeDesc} {k j : IntKind} {x : Int} (h : P.underlying s = some d) (h1 : P.underlying u = some (.int k)) : convE P s u (.im (.int j x)) = some (.im (.int k (k.wrap x))) := by unfold convE; rw [h, h1]
theorem conv_str {s u : TypeId} {d : TypeDesc} {x : ByteArray} (h : P.underlying s = some d) (h1 : P.underlying u = some .string) : convE P s u (.im (.string x)) = some (.im (.string x)) := by unfold convE; rw [h, h1]
def appL (n b : Nat) (σ : Sto) (rows : List (List FV)) (tag : Tag) (xs : List (List FV)) : Option (PV × Sto) :=
  if sized n rows = true ∧ sized n xs = true ∧ (rows.length + xs.length) * b ≤ 70368744177664 then
    match tag with
    | .full => if xs.length = 0 then none else some (.sl (rows ++ xs) (.grow σ.gr.length), { σ with gr := σ.gr ++ [(rows.length + xs.length, n)] })
    | .grow g => if σ.gr[g]? = some (rows.length, n) ∧ xs.length ≠ 0 then some (.sl (rows ++ xs) (.grow g), { σ with gr := σ.gr.set g (rows.length + xs.length, n) }) else none
    | .unk => none
  else none
theorem append_of {t u e : TypeId} {i : TypeInfo} {n b : Nat} {rows xs : List (List FV)} {tag tag' : Tag} (h : appInfo P t u = some (e, i)) (h1 : i.size = n) (h2 : i.bytes = b) (h3 : e ≠ byteT) : appendE P t u σ (.sl rows tag) (.sl xs tag') = appL n b σ rows tag xs := by
  subst h1; subst h2; unfold appendE appL; simp only [h, if_neg h3]; rfl
/-- A store of a value of so many cells. -/
def stE (n : Nat) (σ : Sto) (a x : PV) : Option (PV × Sto) := match a with
  | .ptr b o => match σ.bx[b]?, x.cells? with
    | some (.cells cells), some vs => if vs.length = n ∧ o + vs.length ≤ cells.length ∧ (!flagged (setAt cells o vs) || flagged cells) = true then some (.im undef, { σ with bx := σ.bx.set b (.cells (setAt cells o vs)) }) else none
    | _, _ => none
  | _ => none
theorem store_of {t : TypeId} {i : TypeInfo} {m : Nat} {a x : Operand} (h : P.info? t = some i) (h1 : i.size = m) : valO P H env σ (.store t a x) = stE m σ (opdE env a) (opdE env x) := by
  subst h1
  rw [valO_store0, h]; unfold stE
  cases opdE env a <;> try rfl
  rename_i b o
  simp only
  cases σ.bx[b]? with
  | none => rfl
  | some c => cases c <;> try rfl
              cases (opdE env x).cells? <;> rfl
def bldE (ps : List (Nat × Nat)) (zs : List PV) (parts : List (Nat × PV)) : Option PV := (fillE (fun i => ps[i]?) zs parts).map .agg
theorem build_of {t : TypeId} {fs : Array Field} {ps : List (Nat × Nat)} {zs : List PV} {parts : List (Nat × PV)} (h : P.underlying t = some (.struct fs)) (h1 : placesE P fs.toList = some ps) (h2 : zeroE P t = some zs) : buildE P t parts = bldE ps zs parts := by
  unfold buildE bldE; rw [h]; simp only [h1, h2]
def bldS (n : Nat) (zs : List PV) (len : Nat) (parts : List (Nat × PV)) : Option PV :=
  if len * n ≤ 16777216 then
    match fillE (fun k => some (k * n, n)) ((List.range (len * n)).map fun k => zs.getD (k % n) (.im undef)) parts with
    | some cells => (toFs cells).map fun fs => .sl (chunks n len fs) .full
    | none => none
  else none
theorem buildSlice_of {t e : TypeId} {i : TypeInfo} {n : Nat} {zs : List PV} {len : Nat} {parts : List (Nat × PV)} (h : P.underlying t = some (.slice e)) (h1 : P.info? e = some i) (h2 : i.size = n) (h3 : zeroE P e = some zs) (h4 : zs.length = n) (h5 : n ≠ 0) : buildSliceE P t len parts = bldS n zs len parts := by
  subst h2; unfold buildSliceE bldS; rw [h]; simp only [h1, h3, h4, h5, true_and, ne_eq, not_false_iff]
  rfl

section
variable {t : TypeId} {k : IntKind} {a b : Int}
@[simp] theorem bin_add : binE P t .add (.im (.int k a)) (.im (.int k b)) = some (.im (.int k (k.wrap (a + b)))) := by simp [binE]
@[simp] theorem bin_sub : binE P t .sub (.im (.int k a)) (.im (.int k b)) = some (.im (.int k (k.wrap (a - b)))) := by simp [binE]
@[simp] theorem bin_mul : binE P t .mul (.im (.int k a)) (.im (.int k b)) = some (.im (.int k (k.wrap (a * b)))) := by simp [binE]
theorem bin_quo (h : b ≠ 0) : binE P t .quo (.im (.int k a)) (.im (.int k b)) = some (.im (.int k (k.wrap (a.tdiv b)))) := by simp [binE, h]
theorem bin_rem (h : b ≠ 0) : binE P t .rem (.im (.int k a)) (.im (.int k b)) = some (.im (.int k (a.tmod b))) := by simp [binE, h]
@[simp] theorem bin_eql : binE P t .eql (.im (.int k a)) (.im (.int k b)) = some (.im (.bool (decide (a = b)))) := by simp [binE]; rfl
@[simp] theorem bin_neq : binE P t .neq (.im (.int k a)) (.im (.int k b)) = some (.im (.bool (decide (a ≠ b)))) := by simp [binE]; rfl
@[simp] theorem bin_lss : binE P t .lss (.im (.int k a)) (.im (.int k b)) = some (.im (.bool (decide (a < b)))) := by simp [binE]
@[simp] theorem bin_leq : binE P t .leq (.im (.int k a)) (.im (.int k b)) = some (.im (.bool (decide (a ≤ b)))) := by simp [binE]
@[simp] theorem bin_gtr : binE P t .gtr (.im (.int k a)) (.im (.int k b)) = some (.im (.bool (decide (a > b)))) := by simp [binE]
@[simp] theorem bin_geq : binE P t .geq (.im (.int k a)) (.im (.int k b)) = some (.im (.bool (decide (a ≥ b)))) := by simp [binE]
end
theorem toList_data (s : ByteArray) : s.toList = s.data.toList := by
  have := Lib.extract_toList s 0 s.size
  have h2 := Lib.extract_data s 0 s.size
  have e : s.extract 0 s.size = s := by
    apply ByteArray.ext
    apply Array.toList_inj.mp
    rw [h2]
    simp
    exact List.take_of_length_le (by simp)
  rw [e] at this h2
  rw [this]; exact h2.symm
theorem str_eq (a b : ByteArray) : (a.toList == b.toList) = decide (a = b) := by
  have h : a.toList = b.toList ↔ a = b := ⟨fun h => by
    rw [toList_data, toList_data] at h
    exact ByteArray.ext (Array.toList_inj.mp h), fun h => by rw [h]⟩
  by_cases h1 : a = b
  · subst h1; simp
  · simp [h1, h]
@[simp] theorem bin_seq {t : TypeId} {a b : ByteArray} : binE P t .eql (.im (.string a)) (.im (.string b)) = some (.im (.bool (decide (a = b)))) := by simp only [binE, str_eq]
@[simp] theorem bin_sne {t : TypeId} {a b : ByteArray} : binE P t .neq (.im (.string a)) (.im (.string b)) = some (.im (.bool (decide (a ≠ b)))) := by simp only [binE, str_eq, decide_not]
theorem bin_sadd {t : TypeId} {a b : ByteArray} (h : a.size + b.size ≤ 9223372036854775807) : binE P t .add (.im (.string a)) (.im (.string b)) = some (.im (.string (a ++ b))) := by simp only [binE, h, if_true]
theorem bin_beq {t : TypeId} {a b : Bool} (h : P.underlying t = some .bool) : binE P t .eql (.im (.bool a)) (.im (.bool b)) = some (.im (.bool (a == b))) := by simp only [binE, h]
theorem bin_bne {t : TypeId} {a b : Bool} (h : P.underlying t = some .bool) : binE P t .neq (.im (.bool a)) (.im (.bool b)) = some (.im (.bool (!(a == b)))) := by simp only [binE, h]
@[simp] theorem un_not {b : Bool} : unE .not (.im (.bool b)) = some (.im (.bool (!b))) := rfl
@[simp] theorem un_neg {k : IntKind} {i : Int} : unE .neg (.im (.int k i)) = some (.im (.int k (k.wrap (0 - i)))) := rfl
@[simp] theorem pick_true {a b c : Operand} (h : opdE env c = .im (.bool true)) : valO P H env σ (.pick c a b) = some (opdE env a, σ) := by rw [valO_pick0, h]
@[simp] theorem pick_false {a b c : Operand} (h : opdE env c = .im (.bool false)) : valO P H env σ (.pick c a b) = some (opdE env b, σ) := by rw [valO_pick0, h]
/-- One of two, as a truth value tells. -/
def pickP (c a b : PV) : Option PV := match c with
  | .im (.bool true) => some a
  | .im (.bool false) => some b
  | _ => none
@[simp] theorem valO_pickP {c a b : Operand} : valO P H env σ (.pick c a b) = (pickP (opdE env c) (opdE env a) (opdE env b)).map (·, σ) := by
  rw [valO_pick0]; unfold pickP; split <;> simp_all
@[simp] theorem pickP_true {a b : PV} : pickP (.im (.bool true)) a b = some a := rfl
@[simp] theorem pickP_false {a b : PV} : pickP (.im (.bool false)) a b = some b := rfl
@[simp] theorem pickP_of {v : Bool} {a b : PV} : pickP (.im (.bool v)) a b = if v = true then some a else some b := by cases v <;> rfl
@[simp] theorem valO_extract {t : Operand} {i : Nat} {vs : List PV} (h : opdE env t = .tup vs) : valO P H env σ (.extract t i) = (vs[i]?).map (·, σ) := by rw [valO_extract0, h]
/-- What stands at a place. -/
def loadP (P : Program) (t : TypeId) (σ : Sto) : PV → Option PV
  | .ptr b o => match σ.bx[b]? with
    | some (.cells cells) => loadE P t cells o
    | _ => none
  | .el row o => loadE P t (row.map FV.up) o
  | _ => none
@[simp] theorem valO_load {t : TypeId} {x : Operand} : valO P H env σ (.load t x) = (loadP P t σ (opdE env x)).map (·, σ) := by
  rw [valO_load0]; unfold loadP
  cases opdE env x <;> try rfl
  rename_i b o
  simp only
  cases σ.bx[b]? with
  | none => rfl
  | some c => cases c <;> rfl
@[simp] theorem loadP_el {t : TypeId} {row : List FV} {o : Nat} : loadP P t σ (.el row o) = loadE P t (row.map FV.up) o := rfl
def boxAt (t : Option Bx) : Option (List PV) := match t with
  | some (.cells cs) => some cs
  | _ => none
@[simp] theorem boxAt_some {cs : List PV} : boxAt (some (.cells cs)) = some cs := rfl
@[simp] theorem loadP_ptr {t : TypeId} {b o : Nat} : loadP P t σ (.ptr b o) = (boxAt σ.bx[b]?).bind fun cs => loadE P t cs o := by
  unfold loadP boxAt
  simp only
  cases σ.bx[b]? with
  | none => rfl
  | some c => cases c <;> rfl
@[simp] theorem stE_ptr {m b o : Nat} {x : PV} : stE m σ (.ptr b o) x = (boxAt σ.bx[b]?).bind fun cells => x.cells?.bind fun vs => if vs.length = m ∧ o + vs.length ≤ cells.length ∧ (!flagged (setAt cells o vs) || flagged cells) = true then some (.im undef, { σ with bx := σ.bx.set b (.cells (setAt cells o vs)) }) else none := by
  unfold stE boxAt
  simp only
  cases σ.bx[b]? with
  | none => rfl
  | some c => cases c <;> try rfl
              cases x.cells? <;> rfl
def nilP : PV → Option PV
  | .ptr b o => some (.ptr b o)
  | .el row o => some (.el row o)
  | _ => none
@[simp] theorem valO_nilCheck {x : Operand} : valO P H env σ (.nilCheck x) = (nilP (opdE env x)).map (·, σ) := by
  rw [valO_nilCheck0]; unfold nilP; cases opdE env x <;> rfl
@[simp] theorem nilP_ptr {b o : Nat} : nilP (.ptr b o) = some (.ptr b o) := rfl
@[simp] theorem nilP_el {row : List FV} {o : Nat} : nilP (.el row o) = some (.el row o) := rfl
@[simp] theorem addE_ptr {b o m : Nat} : addE (.ptr b o) m = some (.ptr b (o + m)) := rfl
@[simp] theorem addE_el {row : List FV} {o m : Nat} : addE (.el row o) m = some (.el row (o + m)) := rfl
@[simp] theorem valO_range {t : TypeId} {x : Operand} : valO P H env σ (.range t x) = (rangeE P t (opdE env x)).map fun b => (.ptr σ.bx.length 0, { σ with bx := σ.bx ++ [b] }) := rfl
def iterAt (t : Option Bx) : Option (ByteArray × Nat) := match t with
  | some (.iter s pos) => some (s, pos)
  | _ => none
@[simp] theorem iterAt_some {b : ByteArray} {pos : Nat} : iterAt (some (.iter b pos)) = some (b, pos) := rfl
def nextP (σ : Sto) : PV → Option (PV × Sto)
  | .ptr b 0 => (iterAt σ.bx[b]?).bind fun x => if x.2 < x.1.size then some (PV.tup [.im (.bool true), .im (.int .i64 x.2), .im (.int .i32 (Utf8.decode x.1 x.2).1)], { σ with bx := σ.bx.set b (.iter x.1 (x.2 + (Utf8.decode x.1 x.2).2)) }) else some (PV.tup [.im (.bool false)], σ)
  | _ => none
@[simp] theorem nextP_ptr {b : Nat} : nextP σ (.ptr b 0) = (iterAt σ.bx[b]?).bind fun x => if x.2 < x.1.size then some (PV.tup [.im (.bool true), .im (.int .i64 x.2), .im (.int .i32 (Utf8.decode x.1 x.2).1)], { σ with bx := σ.bx.set b (.iter x.1 (x.2 + (Utf8.decode x.1 x.2).2)) }) else some (PV.tup [.im (.bool false)], σ) := rfl
@[simp] theorem valO_next {x : Operand} : valO P H env σ (.next x true) = nextP σ (opdE env x) := by
  show (match opdE env x with
    | .ptr b 0 => match σ.bx[b]? with
      | some (.iter s pos) => if pos < s.size then some (PV.tup [.im (.bool true), .im (.int .i64 pos), .im (.int .i32 (Utf8.decode s pos).1)], { σ with bx := σ.bx.set b (.iter s (pos + (Utf8.decode s pos).2)) }) else some (PV.tup [.im (.bool false)], σ)
      | _ => none
    | _ => none) = _
  unfold nextP iterAt
  cases opdE env x <;> try rfl
  rename_i b o
  cases o <;> try rfl
  simp only
  cases σ.bx[b]? with
  | none => rfl
  | some c => cases c <;> rfl
theorem range_str {t : TypeId} {b : ByteArray} (h : P.underlying t = some .string) : rangeE P t (.im (.string b)) = some (.iter b 0) := by unfold rangeE; rw [h]
def funP (P : Program) (H : Hand) (σ : Sto) (args : List PV) (f : PV) : Option (PV × Sto) := match funOf f with
  | some (g, cap) => if isBody P g = true then callE H g (args ++ cap) σ else none
  | none => none
@[simp] theorem valO_valueP {t : Tmp} {args : Array Operand} {ts : Array TypeId} : valO P H env σ (.call ⟨.value (.tmp t), args, ts⟩) = funP P H σ (args.toList.map (opdE env)) (env t) := rfl
@[simp] theorem funP_im {g : FuncId} {args : List PV} : funP P H σ args (.im (.func (.func g) #[] #[])) = if isBody P g = true then callE H g args σ else none := by simp [funP, funOf]
@[simp] theorem funP_fn {g : FuncId} {args cap : List PV} : funP P H σ args (.fn (.func g) cap) = if isBody P g = true then callE H g (args ++ cap) σ else none := rfl
@[simp] theorem bldE_nil {ps : List (Nat × Nat)} {zs : List PV} : bldE ps zs [] = some (.agg zs) := rfl
@[simp] theorem bldE_cons {ps : List (Nat × Nat)} {zs : List PV} {i : Nat} {v : PV} {rest : List (Nat × PV)} : bldE ps zs ((i, v) :: rest) = (ps[i]?).bind fun p => v.cells?.bind fun vs => if vs.length = p.2 ∧ p.1 + vs.length ≤ zs.length then bldE ps (setAt zs p.1 vs) rest else none := by
  unfold bldE
  simp only [fillE]
  cases h : ps[i]? with
  | none => simp
  | some p =>
    obtain ⟨o, m⟩ := p
    cases h2 : v.cells? with
    | none => simp
    | some vs =>
      simp only [Option.bind_some]
      split <;> rfl
@[simp] theorem cells_int {k : IntKind} {i : Int} : PV.cells? (.im (.int k i)) = some [.im (.int k i)] := rfl
@[simp] theorem cells_str {b : ByteArray} : PV.cells? (.im (.string b)) = some [.im (.string b)] := rfl
@[simp] theorem cells_bool {b : Bool} : PV.cells? (.im (.bool b)) = some [.im (.bool b)] := rfl
@[simp] theorem cells_ptr {b o : Nat} : PV.cells? (.ptr b o) = some [.ptr b o] := rfl
@[simp] theorem cells_mp {b : Nat} : PV.cells? (.mp b) = some [.mp b] := rfl
@[simp] theorem cells_sl {rows : List (List FV)} {t : Tag} : PV.cells? (.sl rows t) = some [.sl rows t] := rfl
@[simp] theorem cells_fn {f : Fn} {cs : List PV} : PV.cells? (.fn f cs) = some [.fn f cs] := rfl
@[simp] theorem cells_func {f : FuncId} : PV.cells? (.im (.func (.func f) #[] #[])) = some [.im (.func (.func f) #[] #[])] := rfl
@[simp] theorem cells_nilmap : PV.cells? (.im (.map none)) = some [.im (.map none)] := rfl
@[simp] theorem cells_nilptr : PV.cells? (.im (.pointer none)) = some [.im (.pointer none)] := rfl
@[simp] theorem cells_agg {cs : List PV} : PV.cells? (.agg cs) = if cs.all PV.leaf = true then some cs else none := rfl
@[simp] theorem leaf_int {k : IntKind} {i : Int} : PV.leaf (.im (.int k i)) = true := rfl
@[simp] theorem leaf_str {b : ByteArray} : PV.leaf (.im (.string b)) = true := rfl
@[simp] theorem leaf_bool {b : Bool} : PV.leaf (.im (.bool b)) = true := rfl
@[simp] theorem leaf_sl {rows : List (List FV)} {t : Tag} : PV.leaf (.sl rows t) = true := rfl
@[simp] theorem leaf_ptr {b o : Nat} : PV.leaf (.ptr b o) = true := rfl
@[simp] theorem leaf_mp {b : Nat} : PV.leaf (.mp b) = true := rfl
@[simp] theorem leaf_fn {f : Fn} {cs : List PV} : PV.leaf (.fn f cs) = true := rfl
@[simp] theorem leaf_nilmap : PV.leaf (.im (.map none)) = true := rfl
@[simp] theorem leaf_nilptr : PV.leaf (.im (.pointer none)) = true := rfl
@[simp] theorem toF_int {k : IntKind} {i : Int} : PV.toF (.im (.int k i)) = some (.im (.int k i)) := rfl
@[simp] theorem toF_str {b : ByteArray} : PV.toF (.im (.string b)) = some (.im (.string b)) := rfl
@[simp] theorem toF_bool {b : Bool} : PV.toF (.im (.bool b)) = some (.im (.bool b)) := rfl
@[simp] theorem toF_sl {rows : List (List FV)} {t : Tag} : PV.toF (.sl rows t) = some (.sl rows) := rfl
@[simp] theorem toFs_nil : toFs [] = some [] := rfl
@[simp] theorem toFs_cons {x : PV} {xs : List PV} : toFs (x :: xs) = x.toF.bind fun y => (toFs xs).map (y :: ·) := by
  simp only [toFs]
  cases x.toF <;> cases toFs xs <;> rfl
/-- A row of so many parts, each of which is told. -/
def fillS (n : Nat) (cells : List PV) (parts : List (Nat × PV)) : Option (List PV) := fillE (fun k => some (k * n, n)) cells parts
@[simp] theorem fillS_nil {m : Nat} {cells : List PV} : fillS m cells [] = some cells := rfl
@[simp] theorem fillS_cons {m i : Nat} {cells : List PV} {v : PV} {rest : List (Nat × PV)} : fillS m cells ((i, v) :: rest) = v.cells?.bind fun vs => if vs.length = m ∧ i * m + vs.length ≤ cells.length then fillS m (setAt cells (i * m) vs) rest else none := by
  unfold fillS
  simp only [fillE]
  cases v.cells? with
  | none => rfl
  | some vs => simp only [Option.bind_some]
def reps (zs : List PV) : Nat → List PV
  | 0 => []
  | n + 1 => zs ++ reps zs n
@[simp] theorem reps_zero {zs : List PV} : reps zs 0 = [] := rfl
@[simp] theorem reps_succ {zs : List PV} {k : Nat} : reps zs (k + 1) = zs ++ reps zs k := rfl
theorem reps_range {m : Nat} {zs : List PV} (h : zs.length = m) : ∀ len, ((List.range (len * m)).map fun k => zs.getD (k % m) (.im undef)) = reps zs len
  | 0 => by simp
  | len + 1 => by
    rw [show (len + 1) * m = m + len * m from by rw [Nat.add_mul]; omega, List.range_add, List.map_append, List.map_map]
    show _ = zs ++ reps zs len
    rw [← reps_range h len]
    congr 1
    · apply List.ext_getElem
      · simp [h]
      · intro i h1 h2
        simp only [List.getElem_map, List.getElem_range]
        rw [Nat.mod_eq_of_lt (by omega), List.getD_eq_getElem?_getD, List.getElem?_eq_getElem h2]; rfl
    · apply List.map_congr_left
      intro k _
      simp only [Function.comp]
      rw [Nat.add_mod_left]
def bldR (m : Nat) (zs : List PV) (len : Nat) (parts : List (Nat × PV)) : Option PV := if len * m ≤ 16777216 then (fillS m (reps zs len) parts).bind fun cells => (toFs cells).map fun fs => .sl (chunks m len fs) .full else none
@[simp] theorem bldR_eq {m len : Nat} {zs : List PV} {parts : List (Nat × PV)} : bldR m zs len parts = if len * m ≤ 16777216 then (fillS m (reps zs len) parts).bind fun cells => (toFs cells).map fun fs => .sl (chunks m len fs) .full else none := rfl
theorem buildSliceR_of {t e : TypeId} {i : TypeInfo} {n : Nat} {zs : List PV} {len : Nat} {parts : List (Nat × PV)} (h : P.underlying t = some (.slice e)) (h1 : P.info? e = some i) (h2 : i.size = n) (h3 : zeroE P e = some zs) (h4 : zs.length = n) (h5 : n ≠ 0) : buildSliceE P t len parts = bldR n zs len parts := by
  rw [buildSlice_of h h1 h2 h3 h4 h5]
  unfold bldS bldR fillS
  rw [reps_range h4]
  split
  · cases fillE (fun k => some (k * n, n)) _ parts <;> rfl
  · rfl
attribute [simp] ldA setAt
attribute [simp] bldOk
@[simp] theorem flagged_nil : flagged [] = false := rfl
@[simp] theorem flagged_one {x : PV} : flagged [x] = false := rfl
@[simp] theorem flagged_two {x y : PV} {l : List PV} : flagged (x :: y :: l) = (nilV x && slV y) := rfl
@[simp] theorem nilV_str {s : ByteArray} : nilV (.im (.string s)) = false := rfl
@[simp] theorem nilV_int {k : IntKind} {x : Int} : nilV (.im (.int k x)) = false := rfl
@[simp] theorem nilV_bool {b : Bool} : nilV (.im (.bool b)) = false := rfl
@[simp] theorem nilV_fun {f : Fn} {a b : Array Value} : nilV (.im (.func f a b)) = false := rfl
@[simp] theorem nilV_none : nilV (.im (.pointer none)) = true := rfl
@[simp] theorem nilV_some {a : Addr} : nilV (.im (.pointer (some a))) = false := rfl
@[simp] theorem nilV_sl {rows : List (List FV)} {t : Tag} : nilV (.sl rows t) = false := rfl
@[simp] theorem nilV_ptr {b o : Nat} : nilV (.ptr b o) = false := rfl
@[simp] theorem nilV_mp {b : Nat} : nilV (.mp b) = false := rfl
@[simp] theorem nilV_el {row : List FV} {o : Nat} : nilV (.el row o) = false := rfl
@[simp] theorem nilV_fn {f : Fn} {cs : List PV} : nilV (.fn f cs) = false := rfl
@[simp] theorem slV_sl {rows : List (List FV)} {t : Tag} : slV (.sl rows t) = true := rfl
@[simp] theorem slV_im {v : Value} : slV (.im v) = false := rfl
@[simp] theorem slV_ptr {b o : Nat} : slV (.ptr b o) = false := rfl
@[simp] theorem slV_mp {b : Nat} : slV (.mp b) = false := rfl
@[simp] theorem chunks_one {m : Nat} {fs : List FV} : chunks m 1 fs = [fs.take m] := by simp [chunks, List.range_succ]
@[simp] theorem chunks_two {m : Nat} {fs : List FV} : chunks m 2 fs = [fs.take m, (fs.drop m).take m] := by simp [chunks, List.range_succ]
@[simp] theorem chunks_three {m : Nat} {fs : List FV} : chunks m 3 fs = [fs.take m, (fs.drop m).take m, (fs.drop (2 * m)).take m] := by simp [chunks, List.range_succ]
@[simp] theorem bx_last {b : List Bx} {x : Bx} : (b ++ [x])[b.length]? = some x := by simp
@[simp] theorem bx_set {b : List Bx} {x y : Bx} : (b ++ [x]).set b.length y = b ++ [y] := by simp
@[simp high] theorem pickP_and {c d : Bool} : pickP (.im (.bool c)) (gd c (.im (.bool d))) (.im (.bool false)) = some (.im (.bool (c && d))) := by cases c <;> rfl
@[simp high] theorem pickP_or {c d : Bool} : pickP (.im (.bool c)) (.im (.bool true)) (gd (!c) (.im (.bool d))) = some (.im (.bool (c || d))) := by cases c <;> rfl
end
end Go.Proofs.YtfgoedndpcblpaaDoor.Pv
end

section
/- Words for walks: functions, loops, slices that grow. -/
namespace Go.Proofs.YtfgoedndpcblpaaDoor.Pv
noncomputable section
open Go
set_option linter.unusedSimpArgs false
set_option linter.unusedVariables false
variable {P : Program} {L : Lib} {n : Nat} {ids : List Nat} {s : St} {Q : Ctl → St → Prop} {env : Nat → PV} {σ : Sto}

abbrev str (b : ByteArray) : PV := .im (.string b)
abbrev int (i : Int) : PV := .im (.int .i64 i)
abbrev boo (b : Bool) : PV := .im (.bool b)
/-- A function that is handed, and yields, nothing of its caller's. -/
theorem call_fn {f : FuncId} {fn : Func} {rs : Array ResultVar} {args : List PV} {r : PV} (hl : L f = none) (hf : P.funcs[f]? = some fn) (hn : fn.ntmps = n) (hrs : fn.results = rs) (hlen : args.length ≤ n) (ha : ptrsL args = []) (he : eraL args = args)
    (h : ∃ c, fn.body = some c ∧ statOk P ids c = true ∧ WP P L n ids c ⟨initE args, ⟨[], []⟩⟩ fun ctl s => (ctl = .next ∨ ctl = .ret) ∧ Run (outE P s.env s.sto rs.toList) fun r' => r'.ptrs = [] ∧ r'.era = r) : callE (EV P L) f args σ = some (r, σ) := by
  obtain ⟨c, hb, hst, k, ctl, s', h1, h2, r', h3, h4, h5⟩ := h
  subst hn; subst hrs
  have : EV P L f args ⟨[], []⟩ = some (r', s'.sto) := EV_fn hl hf hb hst hlen ⟨k, ctl, s', h1, h2, h3, rfl⟩
  rw [← h5]
  exact call_pure ha (by rw [he]; exact this) h4
/-- A loop that goes through a row. -/
theorem WP.each {α : Type} {c : Code} (l : List α) (I : List α → Nat → St → Prop) (h0 : I l 0 s) (h : ∀ x xs i s, l[i]? = some x → i < l.length → l.drop (i + 1) = xs → I (x :: xs) i s → WP P L n ids c s (Ctl.then Q (I xs (i + 1)))) (he : ∀ s, I [] l.length s → WP P L n ids c s (Ctl.then Q fun _ => False)) : WP P L n ids (.loop c) s Q := by
  refine WP.loop (fun m s => ∃ i, i ≤ l.length ∧ m = l.length - i ∧ I (l.drop i) i s) l.length ⟨0, Nat.zero_le _, rfl, h0⟩ ?_
  rintro m s ⟨i, hi, rfl, hI⟩
  by_cases hlt : i < l.length
  · rw [List.drop_eq_getElem_cons hlt] at hI
    refine (h _ _ i s (List.getElem?_eq_getElem hlt) hlt rfl hI).mono fun ctl s' hq => ?_
    cases ctl with
    | next => exact ⟨_, by omega, i + 1, hlt, rfl, hq⟩
    | exit id => exact hq
    | ret => exact hq
  · have e : i = l.length := by omega
    subst e
    rw [List.drop_length] at hI
    refine (he s hI).mono fun ctl s' hq => ?_
    cases ctl with
    | next => exact hq.elim
    | exit id => exact hq
    | ret => exact hq
@[simp] theorem up_im {v : Value} : FV.up (.im v) = .im v := rfl
@[simp] theorem up_sl {rows : List (List FV)} : FV.up (.sl rows) = .sl rows .unk := rfl
def resP (P : Program) (t : TypeId) (σ : Sto) : PV → Option PV
  | .ptr b o => (boxAt σ.bx[b]?).bind fun cs => loadE P t cs o
  | _ => none
@[simp] theorem resP_ptr {t : TypeId} {b o : Nat} : resP P t σ (.ptr b o) = (boxAt σ.bx[b]?).bind fun cs => loadE P t cs o := rfl
@[simp] theorem res_nil : resultsE P env σ [] = some [] := rfl
@[simp] theorem res_tmp {t : Tmp} {rs : List ResultVar} : resultsE P env σ (.tmp t :: rs) = (resultsE P env σ rs).map (env t :: ·) := rfl
@[simp] theorem res_cell {a : Tmp} {t : TypeId} {rs : List ResultVar} : resultsE P env σ (.cell a t :: rs) = (resP P t σ (env a)).bind fun v => (resultsE P env σ rs).map (v :: ·) := by
  simp only [resultsE]
  cases env a <;> try rfl
  rename_i b o
  simp only [resP, boxAt]
  cases σ.bx[b]? with
  | none => rfl
  | some c => cases c <;> try rfl
              simp only [Option.bind_some]
              cases loadE P t _ o <;> rfl
@[simp] theorem outP_one {p : PV} : outP [p] = p := rfl
@[simp] theorem outP_two {p q : PV} : outP [p, q] = .tup [p, q] := rfl
@[simp] theorem outP_three {p q r : PV} : outP [p, q, r] = .tup [p, q, r] := rfl
@[simp] theorem outP_nil : outP [] = .tup [] := rfl
@[simp low] theorem out_eq {rs : List ResultVar} : outE P env σ rs = (resultsE P env σ rs).map outP := by
  unfold outE
  cases resultsE P env σ rs with
  | none => rfl
  | some l => match l with
    | [] => rfl
    | [_] => rfl
    | _ :: _ :: _ => rfl
@[simp] theorem out_one {t : Tmp} : outE P env σ [.tmp t] = some (env t) := rfl
@[simp] theorem out_two {t u : Tmp} : outE P env σ [.tmp t, .tmp u] = some (.tup [env t, env u]) := rfl
@[simp] theorem out_three {t u v : Tmp} : outE P env σ [.tmp t, .tmp u, .tmp v] = some (.tup [env t, env u, env v]) := rfl
@[simp] theorem out_nil : outE P env σ [] = some (.tup []) := rfl
@[simp] theorem wrap_of {x : Int} (h : -9223372036854775808 ≤ x ∧ x < 9223372036854775808) : IntKind.wrap .i64 x = x := by
  simp only [IntKind.wrap, IntKind.signed, IntKind.bits, Bool.true_and]; split <;> simp_all <;> omega
@[simp] theorem wrap32_of {x : Int} (h : -2147483648 ≤ x ∧ x < 2147483648) : IntKind.wrap .i32 x = x := by
  simp only [IntKind.wrap, IntKind.signed, IntKind.bits, Bool.true_and]; split <;> simp_all <;> omega
theorem wrap_nat {x : Nat} (h : x < 9223372036854775808) : IntKind.wrap .i64 (x : Int) = x := wrap_of (by omega)
theorem wrap_succ {x : Nat} (h : x < 9223372036854775807) : IntKind.wrap .i64 ((x : Int) + 1) = ((x + 1 : Nat) : Int) := by
  rw [wrap_of (by omega)]; omega
theorem strIdx_get {b : ByteArray} {i : Nat} (h : i < b.size) : strIdx b (i : Int) = some (.im (.int .u8 ((b[i]'h).toNat : Nat))) := by
  unfold strIdx
  rw [if_pos (Int.natCast_nonneg i), Int.toNat_natCast, getElem?_pos b i h]
theorem slS_lo {b : ByteArray} {k : IntKind} {i : Nat} (h : i ≤ b.size) : slS b (some (.im (.int k (i : Int)))) none = some (.im (.string (b.extract i b.size))) := by
  simp [slS, show (i : Int) ≤ (b.size : Int) from by omega]
theorem slS_hi {b : ByteArray} {k : IntKind} {i : Nat} (h : i ≤ b.size) : slS b none (some (.im (.int k (i : Int)))) = some (.im (.string (b.extract 0 i))) := by
  simp [slS, show (i : Int) ≤ (b.size : Int) from by omega]
theorem wrap_add {x y : Nat} (h : x + y < 9223372036854775808) : IntKind.wrap .i64 ((x : Int) + (y : Int)) = ((x + y : Nat) : Int) := by
  rw [wrap_of (by omega)]; omega
/-! ### Rows that grow -/
def Own (n : Nat) (gr : List (Nat × Nat)) (rows : List (List FV)) (tag : Tag) : Prop := tag = .full ∨ ∃ g, tag = .grow g ∧ gr[g]? = some (rows.length, n)
theorem Own.nil {gr : List (Nat × Nat)} {n : Nat} {rows : List (List FV)} : Own n gr rows .full := .inl rfl
theorem app_own {m b : Nat} {rows xs : List (List FV)} {tag : Tag} {gr : List (Nat × Nat)} (h : Own m gr rows tag) (hs : sized m rows = true) (hx : sized m xs = true) (hb : (rows.length + xs.length) * b ≤ 70368744177664) (hn : xs ≠ []) :
    ∃ tag' gr', (∀ bx, appL m b ⟨bx, gr⟩ rows tag xs = some (.sl (rows ++ xs) tag', ⟨bx, gr'⟩)) ∧ Own m gr' (rows ++ xs) tag' := by
  have hl : xs.length ≠ 0 := by simpa using hn
  rcases h with rfl | ⟨g, rfl, hg⟩
  · refine ⟨.grow gr.length, gr ++ [(rows.length + xs.length, m)], fun bx => ?_, .inr ⟨_, rfl, by simp⟩⟩
    unfold appL
    rw [if_pos ⟨hs, hx, hb⟩]
    simp only [if_neg hl]
  · have := (List.getElem?_eq_some_iff.1 hg).1
    refine ⟨.grow g, gr.set g (rows.length + xs.length, m), fun bx => ?_, .inr ⟨g, rfl, by simp [List.getElem?_set, this]⟩⟩
    unfold appL
    rw [if_pos ⟨hs, hx, hb⟩]
    simp only [hg, true_and, ne_eq, hl, not_false_iff, if_true]
theorem sized_map {α : Type} {m : Nat} {l : List α} {f : α → List FV} (h : ∀ x, (f x).length = m) : sized m (l.map f) = true := by
  unfold sized; rw [List.all_map]; exact List.all_eq_true.2 fun x _ => by simp [h]
end
end Go.Proofs.YtfgoedndpcblpaaDoor.Pv
end

section
/- What the walks must know of types and functions (printed by pvfacts.py). -/
namespace Go.Proofs.YtfgoedndpcblpaaDoor.Pv
open Go Go.Proofs
@[simp] theorem nfo101 : Tryd.prog.info? 101 = some Tryd.t101 := by kernel_rfl
@[simp] theorem nfo106 : Tryd.prog.info? 106 = some Tryd.t106 := by kernel_rfl
@[simp] theorem nfo22 : Tryd.prog.info? 22 = some Tryd.t22 := by kernel_rfl
@[simp] theorem nfo24 : Tryd.prog.info? 24 = some Tryd.t24 := by kernel_rfl
@[simp] theorem nfo25 : Tryd.prog.info? 25 = some Tryd.t25 := by kernel_rfl
@[simp] theorem nfo3 : Tryd.prog.info? 3 = some Tryd.t3 := by kernel_rfl
@[simp] theorem nfo34 : Tryd.prog.info? 34 = some Tryd.t34 := by kernel_rfl
@[simp] theorem nfo35 : Tryd.prog.info? 35 = some Tryd.t35 := by kernel_rfl
@[simp] theorem nfo36 : Tryd.prog.info? 36 = some Tryd.t36 := by kernel_rfl
@[simp] theorem nfo37 : Tryd.prog.info? 37 = some Tryd.t37 := by kernel_rfl
@[simp] theorem nfo39 : Tryd.prog.info? 39 = some Tryd.t39 := by kernel_rfl
@[simp] theorem nfo45 : Tryd.prog.info? 45 = some Tryd.t45 := by kernel_rfl
@[simp] theorem nfo47 : Tryd.prog.info? 47 = some Tryd.t47 := by kernel_rfl
@[simp] theorem nfo5 : Tryd.prog.info? 5 = some Tryd.t5 := by kernel_rfl
@[simp] theorem nfo51 : Tryd.prog.info? 51 = some Tryd.t51 := by kernel_rfl
@[simp] theorem nfo58 : Tryd.prog.info? 58 = some Tryd.t58 := by kernel_rfl
@[simp] theorem nfo63 : Tryd.prog.info? 63 = some Tryd.t63 := by kernel_rfl
@[simp] theorem nfo64 : Tryd.prog.info? 64 = some Tryd.t64 := by kernel_rfl
@[simp] theorem nfo66 : Tryd.prog.info? 66 = some Tryd.t66 := by kernel_rfl
@[simp] theorem nfo68 : Tryd.prog.info? 68 = some Tryd.t68 := by kernel_rfl
@[simp] theorem nfo70 : Tryd.prog.info? 70 = some Tryd.t70 := by kernel_rfl
@[simp] theorem nfo74 : Tryd.prog.info? 74 = some Tryd.t74 := by kernel_rfl
@[simp] theorem nfo77 : Tryd.prog.info? 77 = some Tryd.t77 := by kernel_rfl
@[simp] theorem nfo9 : Tryd.prog.info? 9 = some Tryd.t9 := by kernel_rfl
@[simp] theorem zr101 : zeroE Tryd.prog 101 = some [.im (.string ⟨#[]⟩), .im (.string ⟨#[]⟩), .sl [] .full, .sl [] .full, .sl [] .full, .im (.int .i64 0)] := zero_of Pv.nfo101 rfl (by kernel_rfl) (by kernel_rfl)
@[simp] theorem zr106 : zeroE Tryd.prog 106 = some [.im (.int .i64 0), .im (.int .i64 0)] := zero_of Pv.nfo106 rfl (by kernel_rfl) (by kernel_rfl)
@[simp] theorem zr24 : zeroE Tryd.prog 24 = some [.im (.string ⟨#[]⟩), .im (.string ⟨#[]⟩), .im (.int .i64 0), .sl [] .full, .im (.int .i64 0)] := zero_of Pv.nfo24 rfl (by kernel_rfl) (by kernel_rfl)
@[simp] theorem zr39 : zeroE Tryd.prog 39 = some [.sl [] .full, .sl [] .full, .sl [] .full, .sl [] .full] := zero_of Pv.nfo39 rfl (by kernel_rfl) (by kernel_rfl)
@[simp] theorem zr51 : zeroE Tryd.prog 51 = some [.sl [] .full, .im (.int .i64 0), .im (.int .i64 0), .im (.int .i64 0), .im (.int .i64 0), .im (.int .i64 0)] := zero_of Pv.nfo51 rfl (by kernel_rfl) (by kernel_rfl)
@[simp] theorem zr58 : zeroE Tryd.prog 58 = some [.im (.int .i64 0), .im (.string ⟨#[]⟩), .im (.int .i64 0), .im (.int .i64 0)] := zero_of Pv.nfo58 rfl (by kernel_rfl) (by kernel_rfl)
@[simp] theorem zr66 : zeroE Tryd.prog 66 = some [.im (.pointer none), .sl [] .full] := zero_of Pv.nfo66 rfl (by kernel_rfl) (by kernel_rfl)
@[simp] theorem zr68 : zeroE Tryd.prog 68 = some [.im (.pointer none), .sl [] .full, .im (.int .i64 0)] := zero_of Pv.nfo68 rfl (by kernel_rfl) (by kernel_rfl)
@[simp] theorem zr70 : zeroE Tryd.prog 70 = some [.im (.string ⟨#[]⟩), .sl [] .full] := zero_of Pv.nfo70 rfl (by kernel_rfl) (by kernel_rfl)
@[simp] theorem zr74 : zeroE Tryd.prog 74 = some [.im (.string ⟨#[]⟩), .im (.string ⟨#[]⟩), .im (.int .i64 0)] := zero_of Pv.nfo74 rfl (by kernel_rfl) (by kernel_rfl)
@[simp] theorem zr77 : zeroE Tryd.prog 77 = some [.im (.string ⟨#[]⟩), .sl [] .full] := zero_of Pv.nfo77 rfl (by kernel_rfl) (by kernel_rfl)
@[simp] theorem zr9 : zeroE Tryd.prog 9 = some [.im (.string ⟨#[]⟩)] := zero_of Pv.nfo9 rfl (by kernel_rfl) (by kernel_rfl)
@[simp] theorem ap104_104 {σ : Sto} {rows xs : List (List FV)} {tag tag2 : Tag} : appendE Tryd.prog 104 104 σ (.sl rows tag) (.sl xs tag2) = appL 2 16 σ rows tag xs := append_of (i := Tryd.t106) (e := 106) (by kernel_rfl) rfl rfl (by decide)
@[simp] theorem ap22_22 {σ : Sto} {rows xs : List (List FV)} {tag tag2 : Tag} : appendE Tryd.prog 22 22 σ (.sl rows tag) (.sl xs tag2) = appL 5 72 σ rows tag xs := append_of (i := Tryd.t24) (e := 24) (by kernel_rfl) rfl rfl (by decide)
@[simp] theorem ap34_34 {σ : Sto} {rows xs : List (List FV)} {tag tag2 : Tag} : appendE Tryd.prog 34 34 σ (.sl rows tag) (.sl xs tag2) = appL 2 40 σ rows tag xs := append_of (i := Tryd.t70) (e := 70) (by kernel_rfl) rfl rfl (by decide)
@[simp] theorem ap35_35 {σ : Sto} {rows xs : List (List FV)} {tag tag2 : Tag} : appendE Tryd.prog 35 35 σ (.sl rows tag) (.sl xs tag2) = appL 3 40 σ rows tag xs := append_of (i := Tryd.t74) (e := 74) (by kernel_rfl) rfl rfl (by decide)
@[simp] theorem ap36_36 {σ : Sto} {rows xs : List (List FV)} {tag tag2 : Tag} : appendE Tryd.prog 36 36 σ (.sl rows tag) (.sl xs tag2) = appL 2 40 σ rows tag xs := append_of (i := Tryd.t77) (e := 77) (by kernel_rfl) rfl rfl (by decide)
@[simp] theorem ap37_37 {σ : Sto} {rows xs : List (List FV)} {tag tag2 : Tag} : appendE Tryd.prog 37 37 σ (.sl rows tag) (.sl xs tag2) = appL 6 112 σ rows tag xs := append_of (i := Tryd.t101) (e := 101) (by kernel_rfl) rfl rfl (by decide)
@[simp] theorem ap45_45 {σ : Sto} {rows xs : List (List FV)} {tag tag2 : Tag} : appendE Tryd.prog 45 45 σ (.sl rows tag) (.sl xs tag2) = appL 1 16 σ rows tag xs := append_of (i := Tryd.t9) (e := 9) (by kernel_rfl) rfl rfl (by decide)
@[simp] theorem ap47_47 {σ : Sto} {rows xs : List (List FV)} {tag tag2 : Tag} : appendE Tryd.prog 47 47 σ (.sl rows tag) (.sl xs tag2) = appL 4 40 σ rows tag xs := append_of (i := Tryd.t58) (e := 58) (by kernel_rfl) rfl rfl (by decide)
@[simp] theorem bl101 {parts : List (Nat × PV)} : buildE Tryd.prog 101 parts = bldE [(0, 1), (1, 1), (2, 1), (3, 1), (4, 1), (5, 1)] [.im (.string ⟨#[]⟩), .im (.string ⟨#[]⟩), .sl [] .full, .sl [] .full, .sl [] .full, .im (.int .i64 0)] parts := build_of Tryd.underlying101 (by kernel_rfl) zr101
@[simp] theorem bl106 {parts : List (Nat × PV)} : buildE Tryd.prog 106 parts = bldE [(0, 1), (1, 1)] [.im (.int .i64 0), .im (.int .i64 0)] parts := build_of Tryd.underlying106 (by kernel_rfl) zr106
@[simp] theorem bl24 {parts : List (Nat × PV)} : buildE Tryd.prog 24 parts = bldE [(0, 1), (1, 1), (2, 1), (3, 1), (4, 1)] [.im (.string ⟨#[]⟩), .im (.string ⟨#[]⟩), .im (.int .i64 0), .sl [] .full, .im (.int .i64 0)] parts := build_of Tryd.underlying24 (by kernel_rfl) zr24
@[simp] theorem bl51 {parts : List (Nat × PV)} : buildE Tryd.prog 51 parts = bldE [(0, 1), (1, 1), (2, 1), (3, 1), (4, 1), (5, 1)] [.sl [] .full, .im (.int .i64 0), .im (.int .i64 0), .im (.int .i64 0), .im (.int .i64 0), .im (.int .i64 0)] parts := build_of Tryd.underlying51 (by kernel_rfl) zr51
@[simp] theorem bl58 {parts : List (Nat × PV)} : buildE Tryd.prog 58 parts = bldE [(0, 1), (1, 1), (2, 1), (3, 1)] [.im (.int .i64 0), .im (.string ⟨#[]⟩), .im (.int .i64 0), .im (.int .i64 0)] parts := build_of Tryd.underlying58 (by kernel_rfl) zr58
@[simp] theorem bl68 {parts : List (Nat × PV)} : buildE Tryd.prog 68 parts = bldE [(0, 2), (2, 1)] [.im (.pointer none), .sl [] .full, .im (.int .i64 0)] parts := build_of Tryd.underlying68 (by kernel_rfl) zr68
@[simp] theorem bl70 {parts : List (Nat × PV)} : buildE Tryd.prog 70 parts = bldE [(0, 1), (1, 1)] [.im (.string ⟨#[]⟩), .sl [] .full] parts := build_of Tryd.underlying70 (by kernel_rfl) zr70
@[simp] theorem bl74 {parts : List (Nat × PV)} : buildE Tryd.prog 74 parts = bldE [(0, 1), (1, 1), (2, 1)] [.im (.string ⟨#[]⟩), .im (.string ⟨#[]⟩), .im (.int .i64 0)] parts := build_of Tryd.underlying74 (by kernel_rfl) zr74
@[simp] theorem bl77 {parts : List (Nat × PV)} : buildE Tryd.prog 77 parts = bldE [(0, 1), (1, 1)] [.im (.string ⟨#[]⟩), .sl [] .full] parts := build_of Tryd.underlying77 (by kernel_rfl) zr77
@[simp] theorem bs104 {len : Nat} {parts : List (Nat × PV)} : buildSliceE Tryd.prog 104 len parts = bldR 2 [.im (.int .i64 0), .im (.int .i64 0)] len parts := buildSliceR_of Tryd.underlying104 Pv.nfo106 rfl zr106 rfl (by decide)
@[simp] theorem bs22 {len : Nat} {parts : List (Nat × PV)} : buildSliceE Tryd.prog 22 len parts = bldR 5 [.im (.string ⟨#[]⟩), .im (.string ⟨#[]⟩), .im (.int .i64 0), .sl [] .full, .im (.int .i64 0)] len parts := buildSliceR_of Tryd.underlying22 Pv.nfo24 rfl zr24 rfl (by decide)
@[simp] theorem bs34 {len : Nat} {parts : List (Nat × PV)} : buildSliceE Tryd.prog 34 len parts = bldR 2 [.im (.string ⟨#[]⟩), .sl [] .full] len parts := buildSliceR_of Tryd.underlying34 Pv.nfo70 rfl zr70 rfl (by decide)
@[simp] theorem bs35 {len : Nat} {parts : List (Nat × PV)} : buildSliceE Tryd.prog 35 len parts = bldR 3 [.im (.string ⟨#[]⟩), .im (.string ⟨#[]⟩), .im (.int .i64 0)] len parts := buildSliceR_of Tryd.underlying35 Pv.nfo74 rfl zr74 rfl (by decide)
@[simp] theorem bs36 {len : Nat} {parts : List (Nat × PV)} : buildSliceE Tryd.prog 36 len parts = bldR 2 [.im (.string ⟨#[]⟩), .sl [] .full] len parts := buildSliceR_of Tryd.underlying36 Pv.nfo77 rfl zr77 rfl (by decide)
@[simp] theorem bs37 {len : Nat} {parts : List (Nat × PV)} : buildSliceE Tryd.prog 37 len parts = bldR 6 [.im (.string ⟨#[]⟩), .im (.string ⟨#[]⟩), .sl [] .full, .sl [] .full, .sl [] .full, .im (.int .i64 0)] len parts := buildSliceR_of Tryd.underlying37 Pv.nfo101 rfl zr101 rfl (by decide)
@[simp] theorem bs45 {len : Nat} {parts : List (Nat × PV)} : buildSliceE Tryd.prog 45 len parts = bldR 1 [.im (.string ⟨#[]⟩)] len parts := buildSliceR_of Tryd.underlying45 Pv.nfo9 rfl zr9 rfl (by decide)
@[simp] theorem bs47 {len : Nat} {parts : List (Nat × PV)} : buildSliceE Tryd.prog 47 len parts = bldR 4 [.im (.int .i64 0), .im (.string ⟨#[]⟩), .im (.int .i64 0), .im (.int .i64 0)] len parts := buildSliceR_of Tryd.underlying47 Pv.nfo58 rfl zr58 rfl (by decide)
@[simp] theorem cv107_117 {j : IntKind} {x : Int} : convE Tryd.prog 107 117 (.im (.int j x)) = some (.im (.int .u64 (IntKind.wrap .u64 x))) := conv_int (t := 0) Tryd.underlying107 Tryd.underlying117
@[simp] theorem cv107_143 {j : IntKind} {x : Int} : convE Tryd.prog 107 143 (.im (.int j x)) = some (.im (.int .u64 (IntKind.wrap .u64 x))) := conv_int (t := 0) Tryd.underlying107 Tryd.underlying143
@[simp] theorem cv117_107 {j : IntKind} {x : Int} : convE Tryd.prog 117 107 (.im (.int j x)) = some (.im (.int .u32 (IntKind.wrap .u32 x))) := conv_int (t := 0) Tryd.underlying117 Tryd.underlying107
@[simp] theorem cv117_3 {j : IntKind} {x : Int} : convE Tryd.prog 117 3 (.im (.int j x)) = some (.im (.int .i64 (IntKind.wrap .i64 x))) := conv_int (t := 0) Tryd.underlying117 Tryd.underlying3
@[simp] theorem cv143_107 {j : IntKind} {x : Int} : convE Tryd.prog 143 107 (.im (.int j x)) = some (.im (.int .u32 (IntKind.wrap .u32 x))) := conv_int (t := 0) Tryd.underlying143 Tryd.underlying107
@[simp] theorem cv143_5 {j : IntKind} {x : Int} : convE Tryd.prog 143 5 (.im (.int j x)) = some (.im (.int .u8 (IntKind.wrap .u8 x))) := conv_int (t := 0) Tryd.underlying143 Tryd.underlying5
@[simp] theorem cv21_3 {j : IntKind} {x : Int} : convE Tryd.prog 21 3 (.im (.int j x)) = some (.im (.int .i64 (IntKind.wrap .i64 x))) := conv_int (t := 0) Tryd.underlying21 Tryd.underlying3
@[simp] theorem cv3_117 {j : IntKind} {x : Int} : convE Tryd.prog 3 117 (.im (.int j x)) = some (.im (.int .u64 (IntKind.wrap .u64 x))) := conv_int (t := 0) Tryd.underlying3 Tryd.underlying117
@[simp] theorem cv5_21 {j : IntKind} {x : Int} : convE Tryd.prog 5 21 (.im (.int j x)) = some (.im (.int .i32 (IntKind.wrap .i32 x))) := conv_int (t := 0) Tryd.underlying5 Tryd.underlying21
@[simp] theorem cv5_3 {j : IntKind} {x : Int} : convE Tryd.prog 5 3 (.im (.int j x)) = some (.im (.int .i64 (IntKind.wrap .i64 x))) := conv_int (t := 0) Tryd.underlying5 Tryd.underlying3
@[simp] theorem fa101_0 {x : PV} : fieldAddrE Tryd.prog 101 x 0 = addE x 0 := fieldAddr_of Tryd.underlying101 rfl Pv.nfo9 (by decide) rfl
@[simp] theorem fa101_1 {x : PV} : fieldAddrE Tryd.prog 101 x 1 = addE x 1 := fieldAddr_of Tryd.underlying101 rfl Pv.nfo9 (by decide) rfl
@[simp] theorem fa101_2 {x : PV} : fieldAddrE Tryd.prog 101 x 2 = addE x 2 := fieldAddr_of Tryd.underlying101 rfl Pv.nfo22 (by decide) rfl
@[simp] theorem fa101_3 {x : PV} : fieldAddrE Tryd.prog 101 x 3 = addE x 3 := fieldAddr_of Tryd.underlying101 rfl Pv.nfo37 (by decide) rfl
@[simp] theorem fa101_4 {x : PV} : fieldAddrE Tryd.prog 101 x 4 = addE x 4 := fieldAddr_of Tryd.underlying101 rfl Pv.nfo37 (by decide) rfl
@[simp] theorem fa106_0 {x : PV} : fieldAddrE Tryd.prog 106 x 0 = addE x 0 := fieldAddr_of Tryd.underlying106 rfl Pv.nfo3 (by decide) rfl
@[simp] theorem fa106_1 {x : PV} : fieldAddrE Tryd.prog 106 x 1 = addE x 1 := fieldAddr_of Tryd.underlying106 rfl Pv.nfo3 (by decide) rfl
@[simp] theorem fa24_0 {x : PV} : fieldAddrE Tryd.prog 24 x 0 = addE x 0 := fieldAddr_of Tryd.underlying24 rfl Pv.nfo9 (by decide) rfl
@[simp] theorem fa24_1 {x : PV} : fieldAddrE Tryd.prog 24 x 1 = addE x 1 := fieldAddr_of Tryd.underlying24 rfl Pv.nfo9 (by decide) rfl
@[simp] theorem fa24_2 {x : PV} : fieldAddrE Tryd.prog 24 x 2 = addE x 2 := fieldAddr_of Tryd.underlying24 rfl Pv.nfo3 (by decide) rfl
@[simp] theorem fa24_3 {x : PV} : fieldAddrE Tryd.prog 24 x 3 = addE x 3 := fieldAddr_of Tryd.underlying24 rfl Pv.nfo22 (by decide) rfl
@[simp] theorem fa39_0 {x : PV} : fieldAddrE Tryd.prog 39 x 0 = addE x 0 := fieldAddr_of Tryd.underlying39 rfl Pv.nfo34 (by decide) rfl
@[simp] theorem fa39_1 {x : PV} : fieldAddrE Tryd.prog 39 x 1 = addE x 1 := fieldAddr_of Tryd.underlying39 rfl Pv.nfo35 (by decide) rfl
@[simp] theorem fa39_2 {x : PV} : fieldAddrE Tryd.prog 39 x 2 = addE x 2 := fieldAddr_of Tryd.underlying39 rfl Pv.nfo36 (by decide) rfl
@[simp] theorem fa39_3 {x : PV} : fieldAddrE Tryd.prog 39 x 3 = addE x 3 := fieldAddr_of Tryd.underlying39 rfl Pv.nfo37 (by decide) rfl
@[simp] theorem fa51_0 {x : PV} : fieldAddrE Tryd.prog 51 x 0 = addE x 0 := fieldAddr_of Tryd.underlying51 rfl Pv.nfo47 (by decide) rfl
@[simp] theorem fa51_1 {x : PV} : fieldAddrE Tryd.prog 51 x 1 = addE x 1 := fieldAddr_of Tryd.underlying51 rfl Pv.nfo3 (by decide) rfl
@[simp] theorem fa51_2 {x : PV} : fieldAddrE Tryd.prog 51 x 2 = addE x 2 := fieldAddr_of Tryd.underlying51 rfl Pv.nfo3 (by decide) rfl
@[simp] theorem fa51_3 {x : PV} : fieldAddrE Tryd.prog 51 x 3 = addE x 3 := fieldAddr_of Tryd.underlying51 rfl Pv.nfo25 (by decide) rfl
@[simp] theorem fa51_4 {x : PV} : fieldAddrE Tryd.prog 51 x 4 = addE x 4 := fieldAddr_of Tryd.underlying51 rfl Pv.nfo3 (by decide) rfl
@[simp] theorem fa51_5 {x : PV} : fieldAddrE Tryd.prog 51 x 5 = addE x 5 := fieldAddr_of Tryd.underlying51 rfl Pv.nfo3 (by decide) rfl
@[simp] theorem fa58_0 {x : PV} : fieldAddrE Tryd.prog 58 x 0 = addE x 0 := fieldAddr_of Tryd.underlying58 rfl Pv.nfo3 (by decide) rfl
@[simp] theorem fa58_1 {x : PV} : fieldAddrE Tryd.prog 58 x 1 = addE x 1 := fieldAddr_of Tryd.underlying58 rfl Pv.nfo9 (by decide) rfl
@[simp] theorem fa58_2 {x : PV} : fieldAddrE Tryd.prog 58 x 2 = addE x 2 := fieldAddr_of Tryd.underlying58 rfl Pv.nfo3 (by decide) rfl
@[simp] theorem fa58_3 {x : PV} : fieldAddrE Tryd.prog 58 x 3 = addE x 3 := fieldAddr_of Tryd.underlying58 rfl Pv.nfo3 (by decide) rfl
@[simp] theorem fa66_0 {x : PV} : fieldAddrE Tryd.prog 66 x 0 = addE x 0 := fieldAddr_of Tryd.underlying66 rfl Pv.nfo63 (by decide) rfl
@[simp] theorem fa66_1 {x : PV} : fieldAddrE Tryd.prog 66 x 1 = addE x 1 := fieldAddr_of Tryd.underlying66 rfl Pv.nfo64 (by decide) rfl
@[simp] theorem fa68_0 {x : PV} : fieldAddrE Tryd.prog 68 x 0 = addE x 0 := fieldAddr_of Tryd.underlying68 rfl Pv.nfo66 (by decide) rfl
@[simp] theorem fa68_1 {x : PV} : fieldAddrE Tryd.prog 68 x 1 = addE x 2 := fieldAddr_of Tryd.underlying68 rfl Pv.nfo3 (by decide) rfl
@[simp] theorem fa70_0 {x : PV} : fieldAddrE Tryd.prog 70 x 0 = addE x 0 := fieldAddr_of Tryd.underlying70 rfl Pv.nfo9 (by decide) rfl
@[simp] theorem fa70_1 {x : PV} : fieldAddrE Tryd.prog 70 x 1 = addE x 1 := fieldAddr_of Tryd.underlying70 rfl Pv.nfo45 (by decide) rfl
@[simp] theorem fa74_0 {x : PV} : fieldAddrE Tryd.prog 74 x 0 = addE x 0 := fieldAddr_of Tryd.underlying74 rfl Pv.nfo9 (by decide) rfl
@[simp] theorem fa74_1 {x : PV} : fieldAddrE Tryd.prog 74 x 1 = addE x 1 := fieldAddr_of Tryd.underlying74 rfl Pv.nfo9 (by decide) rfl
@[simp] theorem fa74_2 {x : PV} : fieldAddrE Tryd.prog 74 x 2 = addE x 2 := fieldAddr_of Tryd.underlying74 rfl Pv.nfo3 (by decide) rfl
@[simp] theorem fa77_0 {x : PV} : fieldAddrE Tryd.prog 77 x 0 = addE x 0 := fieldAddr_of Tryd.underlying77 rfl Pv.nfo9 (by decide) rfl
@[simp] theorem fa77_1 {x : PV} : fieldAddrE Tryd.prog 77 x 1 = addE x 1 := fieldAddr_of Tryd.underlying77 rfl Pv.nfo37 (by decide) rfl
@[simp] theorem ib10 : isBody Tryd.prog 10 = true := isBody_of Tryd.func10 rfl (by decide)
@[simp] theorem ib11 : isBody Tryd.prog 11 = true := isBody_of Tryd.func11 rfl (by decide)
@[simp] theorem ib12 : isBody Tryd.prog 12 = true := isBody_of Tryd.func12 rfl (by decide)
@[simp] theorem ib13 : isBody Tryd.prog 13 = true := isBody_of Tryd.func13 rfl (by decide)
@[simp] theorem ib14 : isBody Tryd.prog 14 = true := isBody_of Tryd.func14 rfl (by decide)
@[simp] theorem ib15 : isBody Tryd.prog 15 = true := isBody_of Tryd.func15 rfl (by decide)
@[simp] theorem ib16 : isBody Tryd.prog 16 = true := isBody_of Tryd.func16 rfl (by decide)
@[simp] theorem ib17 : isBody Tryd.prog 17 = true := isBody_of Tryd.func17 rfl (by decide)
@[simp] theorem ib18 : isBody Tryd.prog 18 = true := isBody_of Tryd.func18 rfl (by decide)
@[simp] theorem ib19 : isBody Tryd.prog 19 = true := isBody_of Tryd.func19 rfl (by decide)
@[simp] theorem ib20 : isBody Tryd.prog 20 = true := isBody_of Tryd.func20 rfl (by decide)
@[simp] theorem ib21 : isBody Tryd.prog 21 = true := isBody_of Tryd.func21 rfl (by decide)
@[simp] theorem ib22 : isBody Tryd.prog 22 = true := isBody_of Tryd.func22 rfl (by decide)
@[simp] theorem ib23 : isBody Tryd.prog 23 = true := isBody_of Tryd.func23 rfl (by decide)
@[simp] theorem ib24 : isBody Tryd.prog 24 = true := isBody_of Tryd.func24 rfl (by decide)
@[simp] theorem ib25 : isBody Tryd.prog 25 = true := isBody_of Tryd.func25 rfl (by decide)
@[simp] theorem ib26 : isBody Tryd.prog 26 = true := isBody_of Tryd.func26 rfl (by decide)
@[simp] theorem ib27 : isBody Tryd.prog 27 = true := isBody_of Tryd.func27 rfl (by decide)
@[simp] theorem ib28 : isBody Tryd.prog 28 = true := isBody_of Tryd.func28 rfl (by decide)
@[simp] theorem ib29 : isBody Tryd.prog 29 = true := isBody_of Tryd.func29 rfl (by decide)
@[simp] theorem ib3 : isBody Tryd.prog 3 = true := isBody_of Tryd.func3 rfl (by decide)
@[simp] theorem ib30 : isBody Tryd.prog 30 = true := isBody_of Tryd.func30 rfl (by decide)
@[simp] theorem ib31 : isBody Tryd.prog 31 = true := isBody_of Tryd.func31 rfl (by decide)
@[simp] theorem ib32 : isBody Tryd.prog 32 = true := isBody_of Tryd.func32 rfl (by decide)
@[simp] theorem ib34 : isBody Tryd.prog 34 = true := isBody_of Tryd.func34 rfl (by decide)
@[simp] theorem ib35 : isBody Tryd.prog 35 = true := isBody_of Tryd.func35 rfl (by decide)
@[simp] theorem ib36 : isBody Tryd.prog 36 = true := isBody_of Tryd.func36 rfl (by decide)
@[simp] theorem ib37 : isBody Tryd.prog 37 = true := isBody_of Tryd.func37 rfl (by decide)
@[simp] theorem ib38 : isBody Tryd.prog 38 = true := isBody_of Tryd.func38 rfl (by decide)
@[simp] theorem ib39 : isBody Tryd.prog 39 = true := isBody_of Tryd.func39 rfl (by decide)
@[simp] theorem ib4 : isBody Tryd.prog 4 = true := isBody_of Tryd.func4 rfl (by decide)
@[simp] theorem ib40 : isBody Tryd.prog 40 = true := isBody_of Tryd.func40 rfl (by decide)
@[simp] theorem ib41 : isBody Tryd.prog 41 = true := isBody_of Tryd.func41 rfl (by decide)
@[simp] theorem ib42 : isBody Tryd.prog 42 = true := isBody_of Tryd.func42 rfl (by decide)
@[simp] theorem ib43 : isBody Tryd.prog 43 = true := isBody_of Tryd.func43 rfl (by decide)
@[simp] theorem ib44 : isBody Tryd.prog 44 = true := isBody_of Tryd.func44 rfl (by decide)
@[simp] theorem ib45 : isBody Tryd.prog 45 = true := isBody_of Tryd.func45 rfl (by decide)
@[simp] theorem ib46 : isBody Tryd.prog 46 = true := isBody_of Tryd.func46 rfl (by decide)
@[simp] theorem ib47 : isBody Tryd.prog 47 = true := isBody_of Tryd.func47 rfl (by decide)
@[simp] theorem ib48 : isBody Tryd.prog 48 = true := isBody_of Tryd.func48 rfl (by decide)
@[simp] theorem ib49 : isBody Tryd.prog 49 = true := isBody_of Tryd.func49 rfl (by decide)
@[simp] theorem ib5 : isBody Tryd.prog 5 = true := isBody_of Tryd.func5 rfl (by decide)
@[simp] theorem ib50 : isBody Tryd.prog 50 = true := isBody_of Tryd.func50 rfl (by decide)
@[simp] theorem ib51 : isBody Tryd.prog 51 = true := isBody_of Tryd.func51 rfl (by decide)
@[simp] theorem ib53 : isBody Tryd.prog 53 = true := isBody_of Tryd.func53 rfl (by decide)
@[simp] theorem ib54 : isBody Tryd.prog 54 = true := isBody_of Tryd.func54 rfl (by decide)
@[simp] theorem ib55 : isBody Tryd.prog 55 = true := isBody_of Tryd.func55 rfl (by decide)
@[simp] theorem ib56 : isBody Tryd.prog 56 = true := isBody_of Tryd.func56 rfl (by decide)
@[simp] theorem ib57 : isBody Tryd.prog 57 = true := isBody_of Tryd.func57 rfl (by decide)
@[simp] theorem ib58 : isBody Tryd.prog 58 = true := isBody_of Tryd.func58 rfl (by decide)
@[simp] theorem ib59 : isBody Tryd.prog 59 = true := isBody_of Tryd.func59 rfl (by decide)
@[simp] theorem ib6 : isBody Tryd.prog 6 = true := isBody_of Tryd.func6 rfl (by decide)
@[simp] theorem ib60 : isBody Tryd.prog 60 = true := isBody_of Tryd.func60 rfl (by decide)
@[simp] theorem ib61 : isBody Tryd.prog 61 = true := isBody_of Tryd.func61 rfl (by decide)
@[simp] theorem ib62 : isBody Tryd.prog 62 = true := isBody_of Tryd.func62 rfl (by decide)
@[simp] theorem ib63 : isBody Tryd.prog 63 = true := isBody_of Tryd.func63 rfl (by decide)
@[simp] theorem ib64 : isBody Tryd.prog 64 = true := isBody_of Tryd.func64 rfl (by decide)
@[simp] theorem ib65 : isBody Tryd.prog 65 = true := isBody_of Tryd.func65 rfl (by decide)
@[simp] theorem ib66 : isBody Tryd.prog 66 = true := isBody_of Tryd.func66 rfl (by decide)
@[simp] theorem ib7 : isBody Tryd.prog 7 = true := isBody_of Tryd.func7 rfl (by decide)
@[simp] theorem ib70 : isBody Tryd.prog 70 = true := isBody_of Tryd.func70 rfl (by decide)
@[simp] theorem ib71 : isBody Tryd.prog 71 = true := isBody_of Tryd.func71 rfl (by decide)
@[simp] theorem ib73 : isBody Tryd.prog 73 = true := isBody_of Tryd.func73 rfl (by decide)
@[simp] theorem ib74 : isBody Tryd.prog 74 = true := isBody_of Tryd.func74 rfl (by decide)
@[simp] theorem ib75 : isBody Tryd.prog 75 = true := isBody_of Tryd.func75 rfl (by decide)
@[simp] theorem ib8 : isBody Tryd.prog 8 = true := isBody_of Tryd.func8 rfl (by decide)
@[simp] theorem ib81 : isBody Tryd.prog 81 = true := isBody_of Tryd.func81 rfl (by decide)
@[simp] theorem ib82 : isBody Tryd.prog 82 = true := isBody_of Tryd.func82 rfl (by decide)
@[simp] theorem ib83 : isBody Tryd.prog 83 = true := isBody_of Tryd.func83 rfl (by decide)
@[simp] theorem ib84 : isBody Tryd.prog 84 = true := isBody_of Tryd.func84 rfl (by decide)
@[simp] theorem ib85 : isBody Tryd.prog 85 = true := isBody_of Tryd.func85 rfl (by decide)
@[simp] theorem ib87 : isBody Tryd.prog 87 = true := isBody_of Tryd.func87 rfl (by decide)
@[simp] theorem ib9 : isBody Tryd.prog 9 = true := isBody_of Tryd.func9 rfl (by decide)
@[simp] theorem ib90 : isBody Tryd.prog 90 = true := isBody_of Tryd.func90 rfl (by decide)
@[simp] theorem ib91 : isBody Tryd.prog 91 = true := isBody_of Tryd.func91 rfl (by decide)
@[simp] theorem ib92 : isBody Tryd.prog 92 = true := isBody_of Tryd.func92 rfl (by decide)
@[simp] theorem ix104 {rows : List (List FV)} {tag : Tag} {k : IntKind} {x : Int} : indexE Tryd.prog 104 (.sl rows tag) (.im (.int k x)) = idx 2 rows x := index_of Tryd.underlying104 Pv.nfo106 rfl (by decide)
@[simp] theorem ix22 {rows : List (List FV)} {tag : Tag} {k : IntKind} {x : Int} : indexE Tryd.prog 22 (.sl rows tag) (.im (.int k x)) = idx 5 rows x := index_of Tryd.underlying22 Pv.nfo24 rfl (by decide)
@[simp] theorem ix34 {rows : List (List FV)} {tag : Tag} {k : IntKind} {x : Int} : indexE Tryd.prog 34 (.sl rows tag) (.im (.int k x)) = idx 2 rows x := index_of Tryd.underlying34 Pv.nfo70 rfl (by decide)
@[simp] theorem ix35 {rows : List (List FV)} {tag : Tag} {k : IntKind} {x : Int} : indexE Tryd.prog 35 (.sl rows tag) (.im (.int k x)) = idx 3 rows x := index_of Tryd.underlying35 Pv.nfo74 rfl (by decide)
@[simp] theorem ix36 {rows : List (List FV)} {tag : Tag} {k : IntKind} {x : Int} : indexE Tryd.prog 36 (.sl rows tag) (.im (.int k x)) = idx 2 rows x := index_of Tryd.underlying36 Pv.nfo77 rfl (by decide)
@[simp] theorem ix37 {rows : List (List FV)} {tag : Tag} {k : IntKind} {x : Int} : indexE Tryd.prog 37 (.sl rows tag) (.im (.int k x)) = idx 6 rows x := index_of Tryd.underlying37 Pv.nfo101 rfl (by decide)
@[simp] theorem ix45 {rows : List (List FV)} {tag : Tag} {k : IntKind} {x : Int} : indexE Tryd.prog 45 (.sl rows tag) (.im (.int k x)) = idx 1 rows x := index_of Tryd.underlying45 Pv.nfo9 rfl (by decide)
@[simp] theorem ix47 {rows : List (List FV)} {tag : Tag} {k : IntKind} {x : Int} : indexE Tryd.prog 47 (.sl rows tag) (.im (.int k x)) = idx 4 rows x := index_of Tryd.underlying47 Pv.nfo58 rfl (by decide)
@[simp] theorem kf10 : kindF Tryd.prog 10 = .w none := by kernel_rfl
@[simp] theorem kf14 : kindF Tryd.prog 14 = .r := by kernel_rfl
@[simp] theorem kf18 : kindF Tryd.prog 18 = .r := by kernel_rfl
@[simp] theorem kf21 : kindF Tryd.prog 21 = .r := by kernel_rfl
@[simp] theorem kf24 : kindF Tryd.prog 24 = .w none := by kernel_rfl
@[simp] theorem kf25 : kindF Tryd.prog 25 = .p := by kernel_rfl
@[simp] theorem kf29 : kindF Tryd.prog 29 = .p := by kernel_rfl
@[simp] theorem kf30 : kindF Tryd.prog 30 = .p := by kernel_rfl
@[simp] theorem kf41 : kindF Tryd.prog 41 = .w none := by kernel_rfl
@[simp] theorem kf44 : kindF Tryd.prog 44 = .w none := by kernel_rfl
@[simp] theorem kf45 : kindF Tryd.prog 45 = .w none := by kernel_rfl
@[simp] theorem kf47 : kindF Tryd.prog 47 = .w none := by kernel_rfl
@[simp] theorem kf48 : kindF Tryd.prog 48 = .p := by kernel_rfl
@[simp] theorem kf6 : kindF Tryd.prog 6 = .p := by kernel_rfl
@[simp] theorem kf70 : kindF Tryd.prog 70 = .w none := by kernel_rfl
@[simp] theorem kf76 : kindF Tryd.prog 76 = .p := by kernel_rfl
@[simp] theorem ld101 {cells : List PV} {o : Nat} : loadE Tryd.prog 101 cells o = ldA 6 cells o := load_agg Tryd.underlying101 Pv.nfo101 rfl
@[simp] theorem ld106 {cells : List PV} {o : Nat} : loadE Tryd.prog 106 cells o = ldA 2 cells o := load_agg Tryd.underlying106 Pv.nfo106 rfl
@[simp] theorem ld22 {cells : List PV} {o : Nat} : loadE Tryd.prog 22 cells o = cells[o]? := load_one Tryd.underlying22 rfl
@[simp] theorem ld24 {cells : List PV} {o : Nat} : loadE Tryd.prog 24 cells o = ldA 5 cells o := load_agg Tryd.underlying24 Pv.nfo24 rfl
@[simp] theorem ld25 {cells : List PV} {o : Nat} : loadE Tryd.prog 25 cells o = cells[o]? := load_one Tryd.underlying25 rfl
@[simp] theorem ld3 {cells : List PV} {o : Nat} : loadE Tryd.prog 3 cells o = cells[o]? := load_one Tryd.underlying3 rfl
@[simp] theorem ld31 {cells : List PV} {o : Nat} : loadE Tryd.prog 31 cells o = cells[o]? := load_one Tryd.underlying31 rfl
@[simp] theorem ld34 {cells : List PV} {o : Nat} : loadE Tryd.prog 34 cells o = cells[o]? := load_one Tryd.underlying34 rfl
@[simp] theorem ld35 {cells : List PV} {o : Nat} : loadE Tryd.prog 35 cells o = cells[o]? := load_one Tryd.underlying35 rfl
@[simp] theorem ld36 {cells : List PV} {o : Nat} : loadE Tryd.prog 36 cells o = cells[o]? := load_one Tryd.underlying36 rfl
@[simp] theorem ld37 {cells : List PV} {o : Nat} : loadE Tryd.prog 37 cells o = cells[o]? := load_one Tryd.underlying37 rfl
@[simp] theorem ld39 {cells : List PV} {o : Nat} : loadE Tryd.prog 39 cells o = ldA 4 cells o := load_agg Tryd.underlying39 Pv.nfo39 rfl
@[simp] theorem ld45 {cells : List PV} {o : Nat} : loadE Tryd.prog 45 cells o = cells[o]? := load_one Tryd.underlying45 rfl
@[simp] theorem ld47 {cells : List PV} {o : Nat} : loadE Tryd.prog 47 cells o = cells[o]? := load_one Tryd.underlying47 rfl
@[simp] theorem ld5 {cells : List PV} {o : Nat} : loadE Tryd.prog 5 cells o = cells[o]? := load_one Tryd.underlying5 rfl
@[simp] theorem ld58 {cells : List PV} {o : Nat} : loadE Tryd.prog 58 cells o = ldA 4 cells o := load_agg Tryd.underlying58 Pv.nfo58 rfl
@[simp] theorem ld63 {cells : List PV} {o : Nat} : loadE Tryd.prog 63 cells o = cells[o]? := load_one Tryd.underlying63 rfl
@[simp] theorem ld64 {cells : List PV} {o : Nat} : loadE Tryd.prog 64 cells o = cells[o]? := load_one Tryd.underlying64 rfl
@[simp] theorem ld70 {cells : List PV} {o : Nat} : loadE Tryd.prog 70 cells o = ldA 2 cells o := load_agg Tryd.underlying70 Pv.nfo70 rfl
@[simp] theorem ld74 {cells : List PV} {o : Nat} : loadE Tryd.prog 74 cells o = ldA 3 cells o := load_agg Tryd.underlying74 Pv.nfo74 rfl
@[simp] theorem ld77 {cells : List PV} {o : Nat} : loadE Tryd.prog 77 cells o = ldA 2 cells o := load_agg Tryd.underlying77 Pv.nfo77 rfl
@[simp] theorem ld9 {cells : List PV} {o : Nat} : loadE Tryd.prog 9 cells o = cells[o]? := load_one Tryd.underlying9 rfl
@[simp] theorem ln104 {rows : List (List FV)} {tag : Tag} : lenE Tryd.prog 104 (.sl rows tag) = some (.im (.int .i64 rows.length)) := len_sl Tryd.underlying104
@[simp] theorem ln22 {rows : List (List FV)} {tag : Tag} : lenE Tryd.prog 22 (.sl rows tag) = some (.im (.int .i64 rows.length)) := len_sl Tryd.underlying22
@[simp] theorem ln34 {rows : List (List FV)} {tag : Tag} : lenE Tryd.prog 34 (.sl rows tag) = some (.im (.int .i64 rows.length)) := len_sl Tryd.underlying34
@[simp] theorem ln35 {rows : List (List FV)} {tag : Tag} : lenE Tryd.prog 35 (.sl rows tag) = some (.im (.int .i64 rows.length)) := len_sl Tryd.underlying35
@[simp] theorem ln36 {rows : List (List FV)} {tag : Tag} : lenE Tryd.prog 36 (.sl rows tag) = some (.im (.int .i64 rows.length)) := len_sl Tryd.underlying36
@[simp] theorem ln37 {rows : List (List FV)} {tag : Tag} : lenE Tryd.prog 37 (.sl rows tag) = some (.im (.int .i64 rows.length)) := len_sl Tryd.underlying37
@[simp] theorem ln45 {rows : List (List FV)} {tag : Tag} : lenE Tryd.prog 45 (.sl rows tag) = some (.im (.int .i64 rows.length)) := len_sl Tryd.underlying45
@[simp] theorem ln47 {rows : List (List FV)} {tag : Tag} : lenE Tryd.prog 47 (.sl rows tag) = some (.im (.int .i64 rows.length)) := len_sl Tryd.underlying47
@[simp] theorem ln64 {rows : List (List FV)} {tag : Tag} : lenE Tryd.prog 64 (.sl rows tag) = some (.im (.int .i64 rows.length)) := len_sl Tryd.underlying64
@[simp] theorem ln9 {s : ByteArray} : lenE Tryd.prog 9 (.im (.string s)) = some (.im (.int .i64 s.size)) := len_str Tryd.underlying9
@[simp] theorem rf10 : roF Tryd.prog 6 10 = false := by kernel_rfl
@[simp] theorem rf14 : roF Tryd.prog 6 14 = true := by kernel_rfl
@[simp] theorem rf18 : roF Tryd.prog 6 18 = true := by kernel_rfl
@[simp] theorem rf21 : roF Tryd.prog 6 21 = true := by kernel_rfl
@[simp] theorem rf24 : roF Tryd.prog 6 24 = false := by kernel_rfl
@[simp] theorem rf25 : roF Tryd.prog 6 25 = false := by kernel_rfl
@[simp] theorem rf29 : roF Tryd.prog 6 29 = false := by kernel_rfl
@[simp] theorem rf30 : roF Tryd.prog 6 30 = false := by kernel_rfl
@[simp] theorem rf41 : roF Tryd.prog 6 41 = false := by kernel_rfl
@[simp] theorem rf44 : roF Tryd.prog 6 44 = false := by kernel_rfl
@[simp] theorem rf45 : roF Tryd.prog 6 45 = false := by kernel_rfl
@[simp] theorem rf47 : roF Tryd.prog 6 47 = false := by kernel_rfl
@[simp] theorem rf48 : roF Tryd.prog 6 48 = false := by kernel_rfl
@[simp] theorem rf6 : roF Tryd.prog 6 6 = false := by kernel_rfl
@[simp] theorem rf70 : roF Tryd.prog 6 70 = false := by kernel_rfl
@[simp] theorem rf76 : roF Tryd.prog 6 76 = false := by kernel_rfl
@[simp] theorem rg9 {b : ByteArray} : rangeE Tryd.prog 9 (.im (.string b)) = some (.iter b 0) := range_str Tryd.underlying9
@[simp] theorem si9 {s : ByteArray} {k : IntKind} {x : Int} : strIndexE Tryd.prog 9 (.im (.string s)) (.im (.int k x)) = strIdx s x := strIndex_of Tryd.underlying9
@[simp] theorem ss45 {rows : List (List FV)} {tag : Tag} {lo hi : Option PV} : sliceE Tryd.prog 45 (.sl rows tag) lo hi none = slL 1 rows tag lo hi := slice_sl Tryd.underlying45 Pv.nfo9 rfl
@[simp] theorem ss64 {rows : List (List FV)} {tag : Tag} {lo hi : Option PV} : sliceE Tryd.prog 64 (.sl rows tag) lo hi none = slL 1 rows tag lo hi := slice_sl Tryd.underlying64 Pv.nfo5 rfl
@[simp] theorem ss9 {s : ByteArray} {lo hi : Option PV} : sliceE Tryd.prog 9 (.im (.string s)) lo hi none = slS s lo hi := slice_str Tryd.underlying9
@[simp] theorem st101 {H : Hand} {env : Nat → PV} {σ : Sto} {a x : Operand} : valO Tryd.prog H env σ (.store 101 a x) = stE 6 σ (opdE env a) (opdE env x) := store_of Pv.nfo101 rfl
@[simp] theorem st106 {H : Hand} {env : Nat → PV} {σ : Sto} {a x : Operand} : valO Tryd.prog H env σ (.store 106 a x) = stE 2 σ (opdE env a) (opdE env x) := store_of Pv.nfo106 rfl
@[simp] theorem st22 {H : Hand} {env : Nat → PV} {σ : Sto} {a x : Operand} : valO Tryd.prog H env σ (.store 22 a x) = stE 1 σ (opdE env a) (opdE env x) := store_of Pv.nfo22 rfl
@[simp] theorem st24 {H : Hand} {env : Nat → PV} {σ : Sto} {a x : Operand} : valO Tryd.prog H env σ (.store 24 a x) = stE 5 σ (opdE env a) (opdE env x) := store_of Pv.nfo24 rfl
@[simp] theorem st25 {H : Hand} {env : Nat → PV} {σ : Sto} {a x : Operand} : valO Tryd.prog H env σ (.store 25 a x) = stE 1 σ (opdE env a) (opdE env x) := store_of Pv.nfo25 rfl
@[simp] theorem st3 {H : Hand} {env : Nat → PV} {σ : Sto} {a x : Operand} : valO Tryd.prog H env σ (.store 3 a x) = stE 1 σ (opdE env a) (opdE env x) := store_of Pv.nfo3 rfl
@[simp] theorem st34 {H : Hand} {env : Nat → PV} {σ : Sto} {a x : Operand} : valO Tryd.prog H env σ (.store 34 a x) = stE 1 σ (opdE env a) (opdE env x) := store_of Pv.nfo34 rfl
@[simp] theorem st35 {H : Hand} {env : Nat → PV} {σ : Sto} {a x : Operand} : valO Tryd.prog H env σ (.store 35 a x) = stE 1 σ (opdE env a) (opdE env x) := store_of Pv.nfo35 rfl
@[simp] theorem st36 {H : Hand} {env : Nat → PV} {σ : Sto} {a x : Operand} : valO Tryd.prog H env σ (.store 36 a x) = stE 1 σ (opdE env a) (opdE env x) := store_of Pv.nfo36 rfl
@[simp] theorem st37 {H : Hand} {env : Nat → PV} {σ : Sto} {a x : Operand} : valO Tryd.prog H env σ (.store 37 a x) = stE 1 σ (opdE env a) (opdE env x) := store_of Pv.nfo37 rfl
@[simp] theorem st39 {H : Hand} {env : Nat → PV} {σ : Sto} {a x : Operand} : valO Tryd.prog H env σ (.store 39 a x) = stE 4 σ (opdE env a) (opdE env x) := store_of Pv.nfo39 rfl
@[simp] theorem st45 {H : Hand} {env : Nat → PV} {σ : Sto} {a x : Operand} : valO Tryd.prog H env σ (.store 45 a x) = stE 1 σ (opdE env a) (opdE env x) := store_of Pv.nfo45 rfl
@[simp] theorem st58 {H : Hand} {env : Nat → PV} {σ : Sto} {a x : Operand} : valO Tryd.prog H env σ (.store 58 a x) = stE 4 σ (opdE env a) (opdE env x) := store_of Pv.nfo58 rfl
@[simp] theorem st63 {H : Hand} {env : Nat → PV} {σ : Sto} {a x : Operand} : valO Tryd.prog H env σ (.store 63 a x) = stE 1 σ (opdE env a) (opdE env x) := store_of Pv.nfo63 rfl
@[simp] theorem st64 {H : Hand} {env : Nat → PV} {σ : Sto} {a x : Operand} : valO Tryd.prog H env σ (.store 64 a x) = stE 1 σ (opdE env a) (opdE env x) := store_of Pv.nfo64 rfl
@[simp] theorem st70 {H : Hand} {env : Nat → PV} {σ : Sto} {a x : Operand} : valO Tryd.prog H env σ (.store 70 a x) = stE 2 σ (opdE env a) (opdE env x) := store_of Pv.nfo70 rfl
@[simp] theorem st74 {H : Hand} {env : Nat → PV} {σ : Sto} {a x : Operand} : valO Tryd.prog H env σ (.store 74 a x) = stE 3 σ (opdE env a) (opdE env x) := store_of Pv.nfo74 rfl
@[simp] theorem st77 {H : Hand} {env : Nat → PV} {σ : Sto} {a x : Operand} : valO Tryd.prog H env σ (.store 77 a x) = stE 2 σ (opdE env a) (opdE env x) := store_of Pv.nfo77 rfl
@[simp] theorem st9 {H : Hand} {env : Nat → PV} {σ : Sto} {a x : Operand} : valO Tryd.prog H env σ (.store 9 a x) = stE 1 σ (opdE env a) (opdE env x) := store_of Pv.nfo9 rfl
end Go.Proofs.YtfgoedndpcblpaaDoor.Pv
end

section
/- What a lexer computes, on lists of bytes: plain facts (out of the work on layer 11). -/
namespace Go.Proofs.YtfgoedndpcblpaaDoor.Lx
open Go Go.Proofs
set_option linter.unusedVariables false
/- Plain facts on the model's decoding of UTF-8, and the plain function that the lexer's 'while' computes. -/

/-- How many bytes from pos on there are for whose runes p holds; b rounds. -/
def spanD (p : Nat → Bool) (s : ByteArray) : Nat → Nat → Nat
  | 0, _ => s.size
  | b + 1, pos => if pos < s.size then (if p (Utf8.decode s pos).1 = true then spanD p s b (pos + (Utf8.decode s pos).2) else pos) else s.size

theorem dwidth (s : ByteArray) (pos : Nat) (h : pos < s.size) : 1 ≤ (Utf8.decode s pos).2 := by
  by_cases ha : (s[pos]'h).toNat < 128
  · rw [decode_ascii s pos h ha]
    exact Nat.le_refl _
  · exact (decode_high s pos h (by omega)).2

theorem get_plus (s : ByteArray) (i : Nat) (h : i < s.size) : s.get! i = s[i]'h := by
  simp [ByteArray.get!, getElem!_pos, h]
  rfl

/-- The bytes behind the first one that a rune takes are high, and lie in the text. -/
theorem dbytes (s : ByteArray) (pos : Nat) (_h : pos < s.size) : ∀ j, 1 ≤ j → j < (Utf8.decode s pos).2 → ∃ h' : pos + j < s.size, 128 ≤ (s[pos + j]'h').toNat := by
  intro j h1 h2
  have key : ∀ k, (decide (pos + k < s.size) && (s.get! (pos + k)).toNat / 64 == 2) = true → ∃ h' : pos + k < s.size, 128 ≤ (s[pos + k]'h').toNat := by
    intro k hk
    simp only [Bool.and_eq_true, decide_eq_true_eq, beq_iff_eq] at hk
    obtain ⟨hk1, hk2⟩ := hk
    refine ⟨hk1, ?_⟩
    rw [get_plus s (pos + k) hk1] at hk2
    omega
  simp only [Utf8.decode] at h2
  split at h2
  · simp at h2; omega
  · split at h2
    · rename_i hc
      simp only [Bool.and_eq_true, beq_iff_eq] at hc
      split at h2
      · have : j = 1 := by simp at h2; omega
        subst this
        exact key 1 (by simpa using hc.2)
      · simp at h2; omega
    · split at h2
      · rename_i hc
        simp only [Bool.and_eq_true, beq_iff_eq] at hc
        split at h2
        · have : j = 1 ∨ j = 2 := by simp at h2; omega
          rcases this with rfl | rfl
          · exact key 1 (by simpa using hc.1.2)
          · exact key 2 (by simpa using hc.2)
        · simp at h2; omega
      · split at h2
        · rename_i hc
          simp only [Bool.and_eq_true, beq_iff_eq] at hc
          split at h2
          · have : j = 1 ∨ j = 2 ∨ j = 3 := by simp at h2; omega
            rcases this with rfl | rfl | rfl
            · exact key 1 (by simpa using hc.1.1.2)
            · exact key 2 (by simpa using hc.1.2)
            · exact key 3 (by simpa using hc.2)
          · simp at h2; omega
        · simp at h2; omega

/-- How many bytes there are, from the first on, for which q holds. -/
def wh (q : UInt8 → Bool) (l : List UInt8) : Nat := (l.takeWhile q).length

theorem wh_nil (q : UInt8 → Bool) : wh q [] = 0 := rfl
theorem wh_cons (q : UInt8 → Bool) (c : UInt8) (l : List UInt8) : wh q (c :: l) = if q c = true then 1 + wh q l else 0 := by
  unfold wh
  rw [List.takeWhile_cons]
  split
  · simp; omega
  · rfl
theorem wh_le (q : UInt8 → Bool) (l : List UInt8) : wh q l ≤ l.length := by
  induction l with
  | nil => simp [wh]
  | cons c l ih => rw [wh_cons]; split <;> simp <;> omega

theorem drop_cons (s : ByteArray) (pos : Nat) (h : pos < s.size) : s.data.toList.drop pos = s[pos] :: s.data.toList.drop (pos + 1) := by
  rw [List.drop_eq_getElem_cons (by simpa using h)]
  rfl

/-- High bytes for which q holds are passed. -/
theorem wh_high (q : UInt8 → Bool) (s : ByteArray) (hq : ∀ b : UInt8, 128 ≤ b.toNat → q b = true) (pos : Nat) :
    ∀ n, (∀ j, j < n → ∃ h' : pos + j < s.size, 128 ≤ (s[pos + j]'h').toNat) → wh q (s.data.toList.drop pos) = n + wh q (s.data.toList.drop (pos + n)) := by
  intro n
  induction n with
  | zero => intro _; simp
  | succ n ih =>
    intro hj
    rw [ih (fun j hj' => hj j (by omega))]
    obtain ⟨h', hh⟩ := hj n (by omega)
    rw [drop_cons s (pos + n) h', wh_cons, if_pos (hq _ hh)]
    simp only [← Nat.add_assoc]

/-- Where p says the same of all high runes, 'while' counts bytes. -/
theorem spanD_wh (p : Nat → Bool) (q : UInt8 → Bool) (c : Bool) (hl : ∀ b : UInt8, b.toNat < 128 → q b = p b.toNat) (hh : ∀ b : UInt8, 128 ≤ b.toNat → q b = c) (hr : ∀ r, 128 ≤ r → p r = c) (s : ByteArray) :
    ∀ b pos, pos ≤ s.size → s.size ≤ pos + b → spanD p s b pos = pos + wh q (s.data.toList.drop pos) := by
  intro b
  induction b with
  | zero =>
    intro pos h1 h2
    have : s.data.toList.drop pos = [] := List.drop_eq_nil_of_le (by simp; omega)
    rw [this]; simp [spanD, wh]; omega
  | succ b ih =>
    intro pos h1 h2
    unfold spanD
    by_cases hp : pos < s.size
    · rw [if_pos hp]
      have hcons := drop_cons s pos hp
      by_cases ha : (s[pos]'hp).toNat < 128
      · rw [decode_ascii s pos hp ha]
        rw [hcons, wh_cons, hl _ ha]
        by_cases hpp : p (s[pos]'hp).toNat = true
        · rw [if_pos hpp, if_pos hpp, ih (pos + 1) (by omega) (by omega)]; omega
        · rw [if_neg hpp, if_neg hpp]; rfl
      · have hd := decode_high s pos hp (by omega)
        have hpr := hr _ hd.1
        rw [hpr]
        cases c with
        | false =>
          rw [if_neg (by simp), hcons, wh_cons, hh _ (by omega), if_neg (by simp)]; rfl
        | true =>
          rw [if_pos rfl]
          have hb : ∀ j, j < (Utf8.decode s pos).2 → ∃ h' : pos + j < s.size, 128 ≤ (s[pos + j]'h').toNat := by
            intro j hj
            by_cases h0 : j = 0
            · subst h0; exact ⟨hp, by simp; omega⟩
            · exact dbytes s pos hp j (by omega) hj
          have hle : pos + (Utf8.decode s pos).2 ≤ s.size := by
            obtain ⟨h', _⟩ := hb ((Utf8.decode s pos).2 - 1) (by omega)
            omega
          rw [ih _ hle (by omega), wh_high q s hh pos _ hb]; omega
    · rw [if_neg hp]
      have : s.data.toList.drop pos = [] := List.drop_eq_nil_of_le (by simp; omega)
      rw [this, wh_nil]; omega

/- What the lexer's functions compute, on lists of bytes. -/

def letB (x : Nat) : Bool := decide (97 ≤ x) && decide (x ≤ 122) || decide (65 ≤ x) && decide (x ≤ 90)
def digB (x : Nat) : Bool := decide (48 ≤ x) && decide (x ≤ 57)
def innB (x : Nat) : Bool := letB x || digB x || decide (x = 95)
def noNl (x : Nat) : Bool := !decide (x = 10)
def byB (p : Nat → Bool) (b : UInt8) : Bool := p b.toNat

/-- How many bytes say nothing: the flag tells whether a remark is going on. -/
def skip : Bool → List UInt8 → Nat
  | _, [] => 0
  | true, c :: r => if c.toNat = 10 then 1 + skip false r else 1 + skip true r
  | false, c :: r => if c.toNat = 32 ∨ c.toNat = 9 ∨ c.toNat = 10 then 1 + skip false r else if c.toNat = 35 then 1 + skip true r else 0

theorem skip_le : ∀ (b : Bool) (l : List UInt8), skip b l ≤ l.length
  | _, [] => by simp [skip]
  | true, c :: r => by
    have h1 := skip_le false r; have h2 := skip_le true r
    simp only [skip]; split <;> simp <;> omega
  | false, c :: r => by
    have h1 := skip_le false r; have h2 := skip_le true r
    simp only [skip]; split
    · simp; omega
    · split <;> simp; omega

/-- A remark: up to the line's end, and on. -/
theorem skip_true : ∀ (l : List UInt8), skip true l = wh (byB noNl) l + skip false (l.drop (wh (byB noNl) l))
  | [] => by simp [skip, wh]
  | c :: r => by
    by_cases h : c.toNat = 10
    · have hw : wh (byB noNl) (c :: r) = 0 := by rw [wh_cons]; simp [byB, noNl, h]
      rw [hw]; simp [skip, h]
    · have hw : wh (byB noNl) (c :: r) = wh (byB noNl) r + 1 := by rw [wh_cons]; simp [byB, noNl, h]; omega
      rw [hw]
      have ih := skip_true r
      simp only [skip, h, if_false, List.drop_succ_cons]
      omega

theorem wh_spanD (p : Nat → Bool) (c : Bool) (hr : ∀ r, 128 ≤ r → p r = c) (s : ByteArray) : spanD p s s.size 0 = wh (byB p) s.data.toList := by
  have h := spanD_wh p (byB p) c (fun _ _ => rfl) (fun b hb => hr _ hb) hr s s.size 0 (Nat.zero_le _) (by omega)
  simpa using h

theorem wh_letters (s : ByteArray) : spanD innB s s.size 0 = wh (byB innB) s.data.toList :=
  wh_spanD innB false (fun r h => by unfold innB letB digB; simp; omega) s
theorem wh_digits (s : ByteArray) : spanD digB s s.size 0 = wh (byB digB) s.data.toList :=
  wh_spanD digB false (fun r h => by unfold digB; simp; omega) s
theorem wh_noNl (s : ByteArray) : spanD noNl s s.size 0 = wh (byB noNl) s.data.toList :=
  wh_spanD noNl true (fun r h => by unfold noNl; simp; omega) s

/-- A number: 'none': too great. -/
def numL : Int → List UInt8 → Option Int
  | n, [] => some n
  | n, c :: r => if n > 115292150460684697 then none else numL (10 * n + ((c.toNat : Int) - 48)) r
def numF (l : List UInt8) : Int × Int :=
  match numL 0 l with
  | none => (0, 111)
  | some n => if 40 < l.length ∨ 1152921504606846976 < n then (0, 111) else (n, 0)

/-- The signs. -/
def signBytes : List UInt8 := [123, 32, 125, 32, 40, 32, 41, 32, 91, 32, 93, 32, 59, 32, 58, 32, 44, 32, 61, 32, 61, 61, 32, 33, 61, 32, 60, 32, 60, 61, 32, 62, 32, 62, 61, 32, 43, 32, 45, 32, 42, 32, 47, 32, 33, 32, 38, 38, 32, 124, 124]
def signsL : List (List UInt8) := [[123], [125], [40], [41], [91], [93], [59], [58], [44], [61], [61, 61], [33, 61], [60], [60, 61], [62], [62, 61], [43], [45], [42], [47], [33], [38, 38], [124, 124]]
theorem fields_signs : Lib.fields signBytes = signsL := by decide
def better (l best x : List UInt8) : List UInt8 := if x.isPrefixOf l = true ∧ best.length < x.length then x else best
def signF (l : List UInt8) : List UInt8 := signsL.foldl (better l) []
/-- The token that begins a text: kind, bytes, number, error. -/
def tokF : List UInt8 → Int × List UInt8 × Int × Int
  | [] => (0, [], 0, 0)
  | c :: r =>
    if byB letB c = true then (if 16 < wh (byB innB) (c :: r) then (0, [], 0, 111) else (0, (c :: r).take (wh (byB innB) (c :: r)), 0, 0))
    else if byB digB c = true then (1, (c :: r).take (wh (byB digB) (c :: r)), (numF ((c :: r).take (wh (byB digB) (c :: r)))).1, (numF ((c :: r).take (wh (byB digB) (c :: r)))).2)
    else if signF (c :: r) = [] then (0, [], 0, 110) else (2, signF (c :: r), 0, 0)
/- Plain facts on a token. -/

theorem tokF_cons {s : ByteArray} (h0 : 0 < s.size) : tokF s.data.toList = 
    if letB s[0].toNat = true then (if 16 < wh (byB innB) s.data.toList then (0, [], 0, 111) else (0, s.data.toList.take (wh (byB innB) s.data.toList), 0, 0))
    else if digB s[0].toNat = true then (1, s.data.toList.take (wh (byB digB) s.data.toList), (numF (s.data.toList.take (wh (byB digB) s.data.toList))).1, (numF (s.data.toList.take (wh (byB digB) s.data.toList))).2)
    else if signF s.data.toList = [] then (0, [], 0, 110) else (2, signF s.data.toList, 0, 0) := by
  have hd : s.data.toList = s[0] :: s.data.toList.drop 1 := by have := drop_cons s 0 h0; simpa using this
  rw [hd]; rfl

theorem wh_le_size (q : UInt8 → Bool) (s : ByteArray) : wh q s.data.toList ≤ s.size := by
  have := wh_le q s.data.toList
  rw [Array.length_toList] at this
  exact this

/-- What the first bytes are, for which q holds. -/
theorem take_wh (q : UInt8 → Bool) : ∀ (l : List UInt8), ∀ b ∈ l.take (wh q l), q b = true
  | [], b, h => by simp at h
  | c :: l, b, h => by
    rw [wh_cons] at h
    split at h
    · rw [Nat.add_comm, List.take_succ_cons] at h
      rcases List.mem_cons.mp h with rfl | h'
      · assumption
      · exact take_wh q l b h'
    · simp at h

def strOf (l : List UInt8) : ByteArray := ⟨l.toArray⟩
theorem strOf_list (l : List UInt8) : (strOf l).data.toList = l := rfl
theorem strOf_size (l : List UInt8) : (strOf l).size = l.length := by simp [strOf, ByteArray.size]
theorem strOf_self (s : ByteArray) : strOf s.data.toList = s := by
  cases s; rfl
theorem extract_drop (s : ByteArray) (a : Nat) : s.extract a s.size = strOf (s.data.toList.drop a) := by
  apply ByteArray.ext
  apply Array.toList_inj.mp
  rw [Lib.extract_to_end]
  simp [strOf]
theorem extract_take' (s : ByteArray) (k : Nat) : s.extract 0 k = strOf (s.data.toList.take k) := by
  apply ByteArray.ext
  apply Array.toList_inj.mp
  rw [Lib.extract_data]
  simp [strOf]
theorem toList_data (s : ByteArray) : s.toList = s.data.toList := by
  have := Lib.extract_toList s 0 s.size
  have h2 := Lib.extract_data s 0 s.size
  have e : s.extract 0 s.size = s := by
    apply ByteArray.ext
    apply Array.toList_inj.mp
    rw [h2]
    simp
    exact List.take_of_length_le (by simp)
  rw [e] at this h2
  rw [this]; exact h2.symm
theorem size_list (s : ByteArray) : s.size = s.data.toList.length := (Array.length_toList).symm

theorem whole_wh (q : UInt8 → Bool) (l : List UInt8) : (l.take (wh q l)).all q = true := List.all_eq_true.mpr (take_wh q l)
/-- A token: kind, bytes, number, place. -/
abbrev Tk := Int × List UInt8 × Int × Nat
inductive LexR where
  | ok (l : List Tk)
  | no (at' : Nat) (e : Int)
def LexR.cons (t : Tk) : LexR → LexR
  | .ok l => .ok (t :: l)
  | .no a e => .no a e
/-- The tokens of what begins with one, at a place. -/
def lexS : Nat → Nat → List UInt8 → LexR
  | 0, _, _ => .ok []
  | _ + 1, _, [] => .ok []
  | f + 1, a, c :: r =>
    if (tokF (c :: r)).2.2.2 = 0 then
      (lexS f (a + (tokF (c :: r)).2.1.length + skip false ((c :: r).drop (tokF (c :: r)).2.1.length)) (((c :: r).drop (tokF (c :: r)).2.1.length).drop (skip false ((c :: r).drop (tokF (c :: r)).2.1.length)))).cons ((tokF (c :: r)).1, (tokF (c :: r)).2.1, (tokF (c :: r)).2.2.1, a)
    else .no a (tokF (c :: r)).2.2.2
def lexA (l : List UInt8) : LexR := lexS l.length (skip false l) (l.drop (skip false l))
theorem take_len {q : UInt8 → Bool} {l : List UInt8} : (l.take (wh q l)).length = wh q l := by
  rw [List.length_take]; have := wh_le q l; omega
theorem sign_len (l : List UInt8) : (signF l).length ≤ l.length := by
  have h : ∀ (xs : List (List UInt8)) (b : List UInt8), b.length ≤ l.length → (xs.foldl (better l) b).length ≤ l.length := by
    intro xs
    induction xs with
    | nil => intro b hb; exact hb
    | cons x xs ih =>
      intro b hb
      rw [List.foldl_cons]
      apply ih
      unfold better
      split
      · rename_i h
        exact List.IsPrefix.length_le (List.isPrefixOf_iff_prefix.mp h.1)
      · exact hb
  exact h _ _ (Nat.zero_le _)
/-- A token that may be has bytes of the text. -/
theorem tokF_len : ∀ (l : List UInt8), (tokF l).2.1.length ≤ l.length
  | [] => Nat.le_refl _
  | c :: r => by
    simp only [tokF]
    split
    · split
      · exact Nat.zero_le _
      · exact List.length_take_le' _ _
    · split
      · exact List.length_take_le' _ _
      · split
        · exact Nat.zero_le _
        · exact sign_len _
theorem tokF_pos (c : UInt8) (r : List UInt8) (h : (tokF (c :: r)).2.2.2 = 0) : 1 ≤ (tokF (c :: r)).2.1.length := by
  simp only [tokF] at h ⊢
  split at h
  · rename_i hl
    rw [if_pos hl]
    split at h
    · cases h
    · rename_i h2
      rw [if_neg h2]
      simp only
      rw [take_len, wh_cons, if_pos (by unfold byB at hl ⊢; unfold innB; simp [hl])]
      omega
  · rename_i hl
    rw [if_neg hl]
    split at h
    · rename_i hd
      rw [if_pos hd]
      simp only
      rw [take_len, wh_cons, if_pos hd]
      omega
    · rename_i hd
      rw [if_neg hd]
      split at h
      · cases h
      · rename_i h2
        rw [if_neg h2]
        simp only
        cases hs : signF (c :: r) with
        | nil => exact absurd hs h2
        | cons a b => simp

/- The longest sign that begins a text, by its first two bytes. -/

def twoB (a b : UInt8) : Bool := (b == 61 && (a == 61 || a == 33 || a == 60 || a == 62)) || (a == 38 && b == 38) || (a == 124 && b == 124)
def ones : List UInt8 := [123, 125, 40, 41, 91, 93, 59, 58, 44, 61, 60, 62, 43, 45, 42, 47, 33]
def oneB (a : UInt8) : Bool := ones.contains a

theorem better_no {l b x : List UInt8} (h : x.isPrefixOf l = false) : better l b x = b := by unfold better; rw [h]; simp
theorem signF_one (a : UInt8) : signF [a] = if oneB a = true then [a] else [] := by
  by_cases h : a ∈ ones
  · have : oneB a = true := by unfold oneB; simpa using h
    rw [if_pos this]
    simp only [ones, List.mem_cons, List.not_mem_nil, or_false] at h
    rcases h with rfl | rfl | rfl | rfl | rfl | rfl | rfl | rfl | rfl | rfl | rfl | rfl | rfl | rfl | rfl | rfl | rfl <;> rfl
  · have : oneB a = false := by unfold oneB; simpa using h
    rw [this]
    simp only [ones, List.mem_cons, List.not_mem_nil, or_false, not_or] at h
    have h' := h
    simp only [@eq_comm UInt8 a] at h'
    simp [signF, signsL, better, List.isPrefixOf, h']
theorem signF_two (a b : UInt8) (r : List UInt8) : signF (a :: b :: r) = if twoB a b = true then [a, b] else if oneB a = true then [a] else [] := by
  by_cases h : a ∈ ones
  · simp only [ones, List.mem_cons, List.not_mem_nil, or_false] at h
    by_cases hb : b = 61
    · subst hb
      rcases h with rfl | rfl | rfl | rfl | rfl | rfl | rfl | rfl | rfl | rfl | rfl | rfl | rfl | rfl | rfl | rfl | rfl <;> rfl
    · have hb' : ((61 : UInt8) == b) = false := by simpa using Ne.symm hb
      have hb2 : (b == (61 : UInt8)) = false := by simpa using hb
      rcases h with rfl | rfl | rfl | rfl | rfl | rfl | rfl | rfl | rfl | rfl | rfl | rfl | rfl | rfl | rfl | rfl | rfl <;> simp [signF, signsL, better, List.isPrefixOf, twoB, oneB, ones, hb, Ne.symm hb]
  · have ho : oneB a = false := by unfold oneB; simpa using h
    rw [ho]
    by_cases h1 : a = 38
    · subst h1
      by_cases hb : b = 38
      · subst hb; rfl
      · simp [signF, signsL, better, List.isPrefixOf, twoB, hb, Ne.symm hb]
    · by_cases h2 : a = 124
      · subst h2
        by_cases hb : b = 124
        · subst hb; rfl
        · simp [signF, signsL, better, List.isPrefixOf, twoB, hb, Ne.symm hb]
      · simp only [ones, List.mem_cons, List.not_mem_nil, or_false, not_or] at h
        have h' := h
        simp only [@eq_comm UInt8 a] at h'
        simp [signF, signsL, better, List.isPrefixOf, twoB, h, h', h1, h2, Ne.symm h1, Ne.symm h2]
end Go.Proofs.YtfgoedndpcblpaaDoor.Lx
end

section
/- The lexer's functions: what they come to. -/
namespace Go.Proofs.YtfgoedndpcblpaaDoor.Pv
open Go Go.Proofs Go.Proofs.YtfgoedndpcblpaaDoor.Lx
set_option linter.unusedSimpArgs false
set_option linter.unusedVariables false
variable {L : Lib} {σ : Sto}

/-- Of these functions the library says nothing. -/
def Free (L : Lib) (l : List FuncId) : Prop := ∀ f ∈ l, L f = none
theorem Free.sub {L : Lib} {l m : List FuncId} (h : Free L l) (hs : ∀ f ∈ m, f ∈ l) : Free L m := fun f hf => h f (hs f hf)
theorem leL (a x : Nat) : decide ((a : Int) ≤ (x : Int)) = decide (a ≤ x) := by simp
theorem leR (a x : Nat) : decide ((x : Int) ≤ (a : Int)) = decide (x ≤ a) := by simp
theorem spanD_any (p : Nat → Bool) (s : ByteArray) : ∀ (f g pos : Nat), s.size ≤ pos + f → s.size ≤ pos + g → spanD p s f pos = spanD p s g pos
  | 0, 0, pos, _, _ => rfl
  | 0, g + 1, pos, h, _ => by simp only [spanD]; rw [if_neg (by omega)]
  | f + 1, 0, pos, _, h => by simp only [spanD]; rw [if_neg (by omega)]
  | f + 1, g + 1, pos, h1, h2 => by
    simp only [spanD]
    split
    · rename_i h
      have := dwidth s pos h
      rw [spanD_any p s f g _ (by omega) (by omega)]
    · rfl
theorem eqR (a x : Nat) : ((x : Int) = (a : Int)) ↔ x = a := by omega
theorem digit_ok (hl : L 57 = none) (x : Nat) : callE (EV Tryd.prog L) 57 [.im (.int .i32 x)] σ = some (boo (digB x), σ) := by
  refine call_fn hl Tryd.func57 Tryd.ntmps57 Tryd.results57 (by simp) rfl rfl (ids := []) ⟨_, rfl, by kernel_rfl, ?_⟩
  simp (contextual := true) (implicitDefEqProofs := false) [-decide_eq_true_eq, -decide_eq_false_iff_not, -Bool.not_and, -Bool.not_or, -Bool.and_eq_false_imp, digB]
  by_cases h1 : 48 ≤ x <;> by_cases h2 : x ≤ 57 <;> simp [h1, h2] <;> omega
theorem letter_ok (hl : L 55 = none) (x : Nat) : callE (EV Tryd.prog L) 55 [.im (.int .i32 x)] σ = some (boo (letB x), σ) := by
  refine call_fn hl Tryd.func55 Tryd.ntmps55 Tryd.results55 (by simp) rfl rfl (ids := []) ⟨_, rfl, by kernel_rfl, ?_⟩
  simp (contextual := true) (implicitDefEqProofs := false) [-decide_eq_true_eq, -decide_eq_false_iff_not, -Bool.not_and, -Bool.not_or, -Bool.and_eq_false_imp, letB]
  rw [← leL 97, ← leR 122, ← leL 65, ← leR 90]; rfl
theorem inner_ok (hl : Free L [57, 55, 56]) (x : Nat) : callE (EV Tryd.prog L) 56 [.im (.int .i32 x)] σ = some (boo (innB x), σ) := by
  refine call_fn (hl _ (by simp)) Tryd.func56 Tryd.ntmps56 Tryd.results56 (by simp) rfl rfl (ids := []) ⟨_, rfl, by kernel_rfl, ?_⟩
  simp (contextual := true) (implicitDefEqProofs := false) [-decide_eq_true_eq, -decide_eq_false_iff_not, -Bool.not_and, -Bool.not_or, -Bool.and_eq_false_imp, innB, digit_ok (hl _ (by simp)), letter_ok (hl _ (by simp))]
  exact fun _ _ => eqR 95 x
theorem newline_ok (hl : L 54 = none) (x : Nat) : callE (EV Tryd.prog L) 54 [.im (.int .i32 x)] σ = some (boo (noNl x), σ) := by
  refine call_fn hl Tryd.func54 Tryd.ntmps54 Tryd.results54 (by simp) rfl rfl (ids := []) ⟨_, rfl, by kernel_rfl, ?_⟩
  simp (contextual := true) (implicitDefEqProofs := false) [-decide_eq_true_eq, -decide_eq_false_iff_not, -Bool.not_and, -Bool.not_or, -Bool.and_eq_false_imp, noNl]
  exact eqR 10 x
theorem while_ok (hl : L 53 = none) {g : FuncId} {p : Nat → Bool} (hb : isBody Tryd.prog g = true) (hp : ∀ (x : Nat) (σ : Sto), callE (EV Tryd.prog L) g [.im (.int .i32 x)] σ = some (boo (p x), σ)) (s : ByteArray) :
    callE (EV Tryd.prog L) 53 [str s, .im (.func (.func g) #[] #[])] σ = some (int (spanD p s s.size 0), σ) := by
  refine call_fn hl Tryd.func53 Tryd.ntmps53 Tryd.results53 (by simp) rfl rfl (ids := []) ⟨_, rfl, by kernel_rfl, ?_⟩
  simp (contextual := true) (implicitDefEqProofs := false) [-decide_eq_true_eq, -decide_eq_false_iff_not, -Bool.not_and, -Bool.not_or, -Bool.and_eq_false_imp]
  refine WP.loop (fun m s' => ∃ pos, m = s.size - pos ∧ s'.sto = ⟨[.iter s pos], []⟩ ∧ s'.env 0 = str s ∧ s'.env 1 = .im (.func (.func g) #[] #[]) ∧ s'.env 8 = .ptr 0 0 ∧ spanD p s (s.size - pos) pos = spanD p s s.size 0) s.size ⟨0, by simp⟩ ?_
  rintro m ⟨env, τ⟩ ⟨pos, rfl, h1, h2, h3, h4, h5⟩
  simp only at h1 h2 h3 h4
  subst h1
  simp (contextual := true) (implicitDefEqProofs := false) [-decide_eq_true_eq, -decide_eq_false_iff_not, -Bool.not_and, -Bool.not_or, -Bool.and_eq_false_imp, h2, h3, h4, hp, hb]
  refine ⟨fun h => ?_, fun h => ?_⟩
  · have hw := dwidth s pos h
    obtain ⟨f, hf⟩ : ∃ f, s.size - pos = f + 1 := ⟨s.size - pos - 1, by omega⟩
    rw [← h5, hf]
    simp only [spanD, h, if_true]
    refine ⟨fun hq => by simp [hq], fun hq => ⟨_, by omega, _, rfl, rfl, ?_⟩⟩
    simp only [hq, if_true]
    exact spanD_any p s _ _ _ (by omega) (by omega)
  · rw [← h5, show s.size - pos = 0 from by omega]
    rfl
end Go.Proofs.YtfgoedndpcblpaaDoor.Pv
end

section
/- The lexer's functions: what they come to (2). -/
namespace Go.Proofs.YtfgoedndpcblpaaDoor.Pv
open Go Go.Proofs Go.Proofs.YtfgoedndpcblpaaDoor.Lx
set_option linter.unusedSimpArgs false
set_option linter.unusedVariables false
variable {L : Lib} {σ : Sto}

theorem while_nl (hl : Free L [54, 53]) (s : ByteArray) : callE (EV Tryd.prog L) 53 [str s, .im (.func (.func 54) #[] #[])] σ = some (int (wh (byB noNl) s.data.toList), σ) := by
  rw [while_ok (hl _ (by simp)) (by simp) (fun x σ => newline_ok (hl _ (by simp)) x) s, wh_noNl]
theorem while_dig (hl : Free L [57, 53]) (s : ByteArray) : callE (EV Tryd.prog L) 53 [str s, .im (.func (.func 57) #[] #[])] σ = some (int (wh (byB digB) s.data.toList), σ) := by
  rw [while_ok (hl _ (by simp)) (by simp) (fun x σ => digit_ok (hl _ (by simp)) x) s, wh_digits]
theorem while_inn (hl : Free L [57, 55, 56, 53]) (s : ByteArray) : callE (EV Tryd.prog L) 53 [str s, .im (.func (.func 56) #[] #[])] σ = some (int (wh (byB innB) s.data.toList), σ) := by
  rw [while_ok (hl _ (by simp)) (by simp) (fun x σ => inner_ok (hl.sub (by simp)) x) s, wh_letters]
theorem nothing_ok (hl : Free L [54, 53, 34]) (s : ByteArray) (hs : s.size < 4611686018427387904) : callE (EV Tryd.prog L) 34 [str s] σ = some (int (skip false s.data.toList), σ) := by
  refine call_fn (hl _ (by simp)) Tryd.func34 Tryd.ntmps34 Tryd.results34 (by simp) rfl rfl (ids := []) ⟨_, rfl, by kernel_rfl, ?_⟩
  simp (contextual := true) (implicitDefEqProofs := false) [-decide_eq_true_eq, -decide_eq_false_iff_not, -Bool.not_and, -Bool.not_or, -Bool.and_eq_false_imp]
  refine WP.loop (fun m s' => ∃ pos : Nat, pos ≤ s.size ∧ m = s.size - pos ∧ s'.sto = ⟨[], []⟩ ∧ s'.env 0 = str s ∧ s'.env 3 = int pos ∧ pos + skip false (s.data.toList.drop pos) = skip false s.data.toList) s.size ⟨0, by simp⟩ ?_
  rintro m ⟨env, τ⟩ ⟨pos, hp, rfl, h1, h2, h3, h4⟩
  simp only at h1 h2 h3
  subst h1
  by_cases hlt : pos < s.size
  · rw [drop_cons s pos hlt] at h4
    have hx := strIdx_get hlt
    have hsl := slS_lo (b := s) (k := .i64) hp
    simp (contextual := true) (implicitDefEqProofs := false) [-decide_eq_true_eq, -decide_eq_false_iff_not, -Bool.not_and, -Bool.not_or, -Bool.and_eq_false_imp, h2, h3, hlt, hx, hsl, extract_drop, while_nl (hl.sub (by simp)), strOf_list]
    simp only [decide_eq_true_eq, decide_eq_false_iff_not]
    have hA : s[pos].toNat = 32 ∨ s[pos].toNat = 9 ∨ s[pos].toNat = 10 → ∃ m', m' < s.size - pos ∧ ∃ q : Nat, q ≤ s.size ∧ m' = s.size - q ∧ IntKind.wrap .i64 ((pos : Int) + 1) = (q : Int) ∧ q + skip false (s.data.toList.drop q) = skip false s.data.toList := by
      intro e
      refine ⟨_, ?_, pos + 1, hlt, rfl, wrap_succ (by omega), ?_⟩
      · omega
      · rw [← h4]; simp only [skip, if_pos e]; omega
    refine ⟨fun e => hA (by omega), fun e1 => ⟨fun e => hA (by omega), fun e2 => ⟨fun e => hA (by omega), fun e3 => ⟨fun e => ?_, fun e4 => ?_⟩⟩⟩⟩
    · have hd := drop_cons s pos hlt
      have h35 : s[pos].toNat = 35 := by omega
      have h10 : wh (byB noNl) (s.data.toList.drop pos) = wh (byB noNl) (s.data.toList.drop (pos + 1)) + 1 := by
        rw [hd, wh_cons, if_pos (by simp [byB, noNl, h35])]; omega
      have hw := wh_le (byB noNl) (s.data.toList.drop pos)
      rw [List.length_drop, ← size_list] at hw
      refine ⟨_, ?_, pos + wh (byB noNl) (s.data.toList.drop pos), by omega, rfl, wrap_add (by omega), ?_⟩
      · omega
      · rw [← h4]
        simp only [skip]
        rw [if_neg (by omega), if_pos h35, skip_true, h10, List.drop_drop]
        rw [show pos + 1 + wh (byB noNl) (s.data.toList.drop (pos + 1)) = pos + (wh (byB noNl) (s.data.toList.drop (pos + 1)) + 1) from by omega]
        omega
    · rw [← h4]
      simp only [skip]
      rw [if_neg (by omega), if_neg (by omega)]
      simp
  · have hd : decide (pos < s.size) = false := by simp; omega
    simp (contextual := true) (implicitDefEqProofs := false) [-decide_eq_true_eq, -decide_eq_false_iff_not, -Bool.not_and, -Bool.not_or, -Bool.and_eq_false_imp, h2, h3, hd]
    rw [List.drop_eq_nil_of_le (by rw [← size_list]; omega)] at h4
    simp only [skip] at h4
    omega
end Go.Proofs.YtfgoedndpcblpaaDoor.Pv
end

section
/- The lexer's functions: what they come to (3). -/
namespace Go.Proofs.YtfgoedndpcblpaaDoor.Pv
open Go Go.Proofs Go.Proofs.YtfgoedndpcblpaaDoor.Lx
set_option linter.unusedSimpArgs false
set_option linter.unusedVariables false
variable {L : Lib} {σ : Sto}

theorem call_lib {f : FuncId} {h : List PV → Sto → Option (PV × Sto)} {args : List PV} {σ1 : Sto} {r : PV} (hl : L f = some h) (ha : ptrsL args = []) (e : h (eraL args) ⟨[], []⟩ = some (r, σ1)) (hp : r.ptrs = []) : callE (EV Tryd.prog L) f args σ = some (r.era, σ) :=
  call_pure ha (EV_lib hl e) hp
/-- A row of texts. -/
def strsB (l : List (List UInt8)) : PV := .sl (l.map fun x => [.im (.string (strOf x))]) .unk
/-- What strings.Fields yields of a text of plain signs. -/
def fieldsH : List PV → Sto → Option (PV × Sto)
  | [.im (.string s)], σ => if s.size < 4294967281 ∧ (s.data.toList.all fun b => decide (b.toNat < 128)) = true then some (strsB (Lib.fields s.data.toList), σ) else none
  | _, _ => none
theorem fields_ok (hF : L 15 = some fieldsH) (s : ByteArray) (h : s.size < 4294967281 ∧ (s.data.toList.all fun b => decide (b.toNat < 128)) = true) : callE (EV Tryd.prog L) 15 [str s] σ = some (strsB (Lib.fields s.data.toList), σ) := by
  rw [call_lib hF rfl (r := strsB (Lib.fields s.data.toList)) (σ1 := ⟨[], []⟩) (by simp [fieldsH, h]) rfl]; rfl
theorem prefix2_ok (hl : L 75 = none) (s p : ByteArray) : callE (EV Tryd.prog L) 75 [str s, str p] σ = some (boo (p.data.toList.isPrefixOf s.data.toList), σ) := by
  refine call_fn hl Tryd.func75 Tryd.ntmps75 Tryd.results75 (by simp) rfl rfl (ids := []) ⟨_, rfl, by kernel_rfl, ?_⟩
  have h : decide (p.size ≤ s.size) = true → slS s none (some (int (p.size : Nat))) = some (str (s.extract 0 p.size)) := fun h => slS_hi (of_decide_eq_true h)
  have e : (decide (p.size ≤ s.size) && decide (s.extract 0 p.size = p)) = p.data.toList.isPrefixOf s.data.toList := by
    rw [extract_take']
    by_cases h1 : p.size ≤ s.size
    · by_cases h2 : p.data.toList <+: s.data.toList
      · have h3 := List.prefix_iff_eq_take.1 h2
        rw [← size_list] at h3
        simp only [h1, decide_true, Bool.true_and]
        rw [List.isPrefixOf_iff_prefix.2 h2, ← h3]; simp [strOf]
      · have h4 : p.data.toList.isPrefixOf s.data.toList = false := by
          cases h5 : p.data.toList.isPrefixOf s.data.toList with
          | false => rfl
          | true => exact absurd (List.isPrefixOf_iff_prefix.1 h5) h2
        rw [h4]
        simp only [h1, decide_true, Bool.true_and, decide_eq_false_iff_not]
        intro h5
        refine h2 (List.prefix_iff_eq_take.2 ?_)
        rw [← size_list]
        have := congrArg (fun b => b.data.toList) h5
        simpa [strOf] using this.symm
    · have h4 : p.data.toList.isPrefixOf s.data.toList = false := by
        cases h5 : p.data.toList.isPrefixOf s.data.toList with
        | false => rfl
        | true =>
          have := (List.isPrefixOf_iff_prefix.1 h5).length_le
          rw [← size_list, ← size_list] at this
          exact absurd this h1
      rw [h4]; simp [h1]
  simp (contextual := true) (implicitDefEqProofs := false) [-decide_eq_true_eq, -decide_eq_false_iff_not, -Bool.not_and, -Bool.not_or, -Bool.and_eq_false_imp, h, ← e]
theorem prefix_ok (hl : Free L [64, 75]) (s p : ByteArray) : callE (EV Tryd.prog L) 64 [str s, str p] σ = some (boo (p.data.toList.isPrefixOf s.data.toList), σ) := by
  refine call_fn (hl _ (by simp)) Tryd.func64 Tryd.ntmps64 Tryd.results64 (by simp) rfl rfl (ids := []) ⟨_, rfl, by kernel_rfl, ?_⟩
  simp (contextual := true) (implicitDefEqProofs := false) [-decide_eq_true_eq, -decide_eq_false_iff_not, -Bool.not_and, -Bool.not_or, -Bool.and_eq_false_imp, prefix2_ok (hl _ (by simp))]
/-- Bytes of the signs' text. -/
theorem signs_plain : signBytes.length = 51 ∧ (signBytes.all fun b => decide (b.toNat < 128)) = true := by decide
theorem fold_go (l : List UInt8) : ∀ (xs : List (List UInt8)) (x best : List UInt8), (x :: xs).foldl (better l) best = xs.foldl (better l) (better l best x) := fun _ _ _ => rfl
theorem sign_ok (hl : Free L [59, 64, 75]) (hF : L 15 = some fieldsH) (s : ByteArray) : callE (EV Tryd.prog L) 59 [str s] σ = some (str (strOf (signF s.data.toList)), σ) := by
  refine call_fn (hl _ (by simp)) Tryd.func59 Tryd.ntmps59 Tryd.results59 (by simp) rfl rfl (ids := []) ⟨_, rfl, by kernel_rfl, ?_⟩
  have hfl := fields_ok (L := L) (σ := ⟨[], []⟩) hF (strOf signBytes) (by simp [strOf, ByteArray.size, signs_plain])
  rw [strOf_list, fields_signs] at hfl
  simp only [strOf, signBytes] at hfl
  simp (contextual := true) (implicitDefEqProofs := false) [-decide_eq_true_eq, -decide_eq_false_iff_not, -Bool.not_and, -Bool.not_or, -Bool.and_eq_false_imp, hfl, strsB]
  refine WP.each signsL (fun rest i s' => s'.sto = ⟨[], []⟩ ∧ s'.env 0 = str s ∧ s'.env 6 = strsB signsL ∧ s'.env 7 = int signsL.length ∧ s'.env 8 = int i ∧ ∃ best, s'.env 3 = str (strOf best) ∧ rest.foldl (better s.data.toList) best = signF s.data.toList) ⟨rfl, by simp, by simp [strsB], by simp, by simp, [], by simp [strOf], rfl⟩ ?_ ?_
  · rintro x xs i ⟨env, τ⟩ hx hi hxs ⟨h1, h2, h3, h4, h5, best, h6, h7⟩
    simp only at h1 h2 h3 h4 h5 h6
    subst h1
    have hix : idx 1 (signsL.map fun x => [.im (.string (strOf x))]) i = some (.el [.im (.string (strOf x))] 0) := idx_get (by rw [List.getElem?_map, hx]; rfl) rfl
    have hlt : decide (i < signsL.length) = true := by simp [hi]
    simp (contextual := true) (implicitDefEqProofs := false) [-decide_eq_true_eq, -decide_eq_false_iff_not, -Bool.not_and, -Bool.not_or, -Bool.and_eq_false_imp, h2, h3, h4, h5, h6, hlt, strsB, hix, prefix_ok (hl.sub (by simp)), strOf_list, strOf_size]
    have hw : IntKind.wrap .i64 ((i : Int) + 1) = (i : Int) + 1 := wrap_of (by have : signsL.length = 23 := rfl; omega)
    have hb : ∀ b, better s.data.toList best x = b → b.foldl (fun a _ => a) b = b → xs.foldl (better s.data.toList) b = signF s.data.toList := fun b e _ => by rw [← h7, fold_go, e]
    have hf : ∀ (b : List UInt8), b.foldl (fun a _ => a) b = b := fun b => by
      have : ∀ (l a : List UInt8), l.foldl (fun a _ => a) a = a := fun l => by induction l with | nil => intro a; rfl | cons x l ih => intro a; exact ih a
      exact this b b
    refine ⟨fun hp => ⟨fun hd => ⟨hw, x, rfl, hb _ ?_ (hf _)⟩, fun hd => ⟨hw, best, rfl, hb _ ?_ (hf _)⟩⟩, fun hp => ⟨hw, best, rfl, hb _ ?_ (hf _)⟩⟩
    · unfold better; rw [if_pos ⟨List.isPrefixOf_iff_prefix.2 hp, of_decide_eq_true hd⟩]
    · unfold better; rw [if_neg (fun h => (of_decide_eq_false hd) h.2)]
    · unfold better; rw [if_neg (fun h => hp (List.isPrefixOf_iff_prefix.1 h.1))]
  · rintro ⟨env, τ⟩ ⟨h1, h2, h3, h4, h5, best, h6, h7⟩
    simp only at h1 h2 h3 h4 h5 h6
    subst h1
    simp only [List.foldl_nil] at h7
    simp (contextual := true) (implicitDefEqProofs := false) [-decide_eq_true_eq, -decide_eq_false_iff_not, -Bool.not_and, -Bool.not_or, -Bool.and_eq_false_imp, h2, h3, h4, h5, h6, h7]
end Go.Proofs.YtfgoedndpcblpaaDoor.Pv
end

section
/- The lexer's functions: what they come to (4). -/
namespace Go.Proofs.YtfgoedndpcblpaaDoor.Pv
open Go Go.Proofs Go.Proofs.YtfgoedndpcblpaaDoor.Lx
set_option linter.unusedSimpArgs false
set_option linter.unusedVariables false
variable {L : Lib} {σ : Sto}

theorem decode_dig (s : ByteArray) (pos : Nat) (h : pos < s.size) (hd : byB digB s[pos] = true) : Utf8.decode s pos = (s[pos].toNat, 1) := by
  have : s[pos].toNat < 128 := by unfold byB digB at hd; simp at hd; omega
  exact decode_ascii s pos h this
theorem number_ok (hl : L 58 = none) (s : ByteArray) (hd : s.data.toList.all (byB digB) = true) : callE (EV Tryd.prog L) 58 [str s] σ = some (.tup [int (numF s.data.toList).1, int (numF s.data.toList).2], σ) := by
  refine call_fn hl Tryd.func58 Tryd.ntmps58 Tryd.results58 (by simp) rfl rfl (ids := []) ⟨_, rfl, by kernel_rfl, ?_⟩
  simp (contextual := true) (implicitDefEqProofs := false) [-decide_eq_true_eq, -decide_eq_false_iff_not, -Bool.not_and, -Bool.not_or, -Bool.and_eq_false_imp]
  refine WP.loop (fun m s' => ∃ (pos : Nat) (n : Int), pos ≤ s.size ∧ m = s.size - pos ∧ s'.sto = ⟨[.iter s pos], []⟩ ∧ s'.env 0 = str s ∧ s'.env 8 = .ptr 0 0 ∧ s'.env 4 = int n ∧ 0 ≤ n ∧ n ≤ 1152921504606846976 * 2 ∧ numL n (s.data.toList.drop pos) = numL 0 s.data.toList) s.size ⟨0, 0, by simp⟩ ?_
  rintro m ⟨env, τ⟩ ⟨pos, n, hp, rfl, h1, h2, h3, h4, h5, h6, h7⟩
  simp only at h1 h2 h3 h4
  subst h1
  by_cases hlt : pos < s.size
  · have hmem : s[pos] ∈ s.data.toList := by rw [Array.mem_toList_iff]; exact Array.getElem_mem (by simpa using hlt)
    have hb := List.all_eq_true.1 hd _ hmem
    have hdec := decode_dig s pos hlt hb
    rw [drop_cons s pos hlt] at h7
    have hr : 48 ≤ s[pos].toNat ∧ s[pos].toNat ≤ 57 := by unfold byB digB at hb; simpa using hb
    have hlt' : decide (pos < s.size) = true := by simp [hlt]
    simp (contextual := true) (implicitDefEqProofs := false) [-decide_eq_true_eq, -decide_eq_false_iff_not, -Bool.not_and, -Bool.not_or, -Bool.and_eq_false_imp, h2, h3, h4, hlt, hdec]
    have hnum : numF s.data.toList = (match numL 0 s.data.toList with | none => (0, 111) | some n => if 40 < s.data.toList.length ∨ 1152921504606846976 < n then (0, 111) else (n, 0)) := rfl
    refine ⟨fun e => ?_, fun e => ?_⟩
    · have e' := of_decide_eq_true e
      simp only [numL] at h7
      rw [if_pos e'] at h7
      rw [hnum, ← h7]
      exact ⟨rfl, rfl⟩
    · have e' := of_decide_eq_false e
      have w1 : IntKind.wrap .i64 (10 * n) = 10 * n := wrap_of (by omega)
      have w2 : IntKind.wrap .i32 ((s[pos].toNat : Int) - 48) = (s[pos].toNat : Int) - 48 := wrap32_of (by omega)
      have w3 : IntKind.wrap .i64 ((s[pos].toNat : Int) - 48) = (s[pos].toNat : Int) - 48 := wrap_of (by omega)
      have w4 : IntKind.wrap .i64 (10 * n + ((s[pos].toNat : Int) - 48)) = 10 * n + ((s[pos].toNat : Int) - 48) := wrap_of (by omega)
      rw [w1, w2, w3, w4]
      simp only [numL] at h7
      rw [if_neg e'] at h7
      exact ⟨_, by omega, pos + 1, hlt, rfl, rfl, by omega, by omega, h7⟩
  · have hlt' : decide (pos < s.size) = false := by simp [hlt]
    simp (contextual := true) (implicitDefEqProofs := false) [-decide_eq_true_eq, -decide_eq_false_iff_not, -Bool.not_and, -Bool.not_or, -Bool.and_eq_false_imp, h2, h3, h4, hlt]
    have hnum : numF s.data.toList = (match numL 0 s.data.toList with | none => (0, 111) | some n => if 40 < s.data.toList.length ∨ 1152921504606846976 < n then (0, 111) else (n, 0)) := rfl
    rw [List.drop_eq_nil_of_le (by rw [← size_list]; omega)] at h7
    simp only [numL] at h7
    rw [hnum, ← h7]
    simp only [decide_eq_true_eq, decide_eq_false_iff_not, ← size_list]
    refine ⟨fun e => ?_, fun e1 e2 => ?_⟩
    · rw [if_pos (by omega)]; exact ⟨rfl, rfl⟩
    · rw [if_neg (by omega)]; exact ⟨rfl, rfl⟩
/-- A token's cells. -/
def tokC (k : Int) (t : List UInt8) (n a : Int) : List PV := [int k, str (strOf t), int n, int a]
theorem token_ok (hl : Free L [57, 55, 56, 53, 58, 59, 64, 75, 35]) (hF : L 15 = some fieldsH) (s : ByteArray) (h0 : 0 < s.size) (hs : s.size < 4611686018427387904) :
    callE (EV Tryd.prog L) 35 [str s] σ = some (.tup [.agg (tokC (tokF s.data.toList).1 (tokF s.data.toList).2.1 (tokF s.data.toList).2.2.1 0), int (tokF s.data.toList).2.2.2], σ) := by
  refine call_fn (hl _ (by simp)) Tryd.func35 Tryd.ntmps35 Tryd.results35 (by simp) rfl rfl (ids := []) ⟨_, rfl, by kernel_rfl, ?_⟩
  have hx := strIdx_get h0
  simp only [Int.natCast_zero] at hx
  have hb := s[0].toNat_lt
  have w1 : IntKind.wrap .i32 (s[0].toNat : Int) = (s[0].toNat : Int) := wrap32_of (by omega)
  have hi := wh_le_size (byB innB) s
  have hg := wh_le_size (byB digB) s
  have s1 := slS_hi (k := .i64) hi
  have s2 := slS_hi (k := .i64) hg
  rw [tokF_cons h0]
  have hnum := fun σ => number_ok (L := L) (σ := σ) (hl _ (by simp)) (strOf (s.data.toList.take (wh (byB digB) s.data.toList))) (by rw [strOf_list]; exact whole_wh _ _)
  simp only [strOf_list] at hnum
  simp (contextual := true) (implicitDefEqProofs := false) [-decide_eq_true_eq, -decide_eq_false_iff_not, -Bool.not_and, -Bool.not_or, -Bool.and_eq_false_imp, hx, w1, letter_ok (hl _ (by simp)), digit_ok (hl _ (by simp)), while_inn (hl.sub (by simp)), while_dig (hl.sub (by simp)), s1, s2, extract_take', sign_ok (hl.sub (by simp)) hF, hnum]
  refine ⟨fun _ => ⟨fun e => ?_, fun e => ?_⟩, fun _ => ⟨fun _ => rfl, fun _ => ⟨fun e => ?_, fun e => ?_⟩⟩⟩
  · have := of_decide_eq_true e; rw [if_pos (by omega)]; exact ⟨rfl, rfl⟩
  · have := of_decide_eq_false e; rw [if_neg (by omega)]; exact ⟨rfl, rfl⟩
  · have h : signF s.data.toList = [] := by simpa [strOf] using of_decide_eq_true e
    rw [if_pos h]; exact ⟨rfl, rfl⟩
  · have h : signF s.data.toList ≠ [] := by simpa [strOf] using of_decide_eq_false e
    rw [if_neg h]; exact ⟨rfl, rfl⟩
end Go.Proofs.YtfgoedndpcblpaaDoor.Pv
end

section
/- The lexer: what Lex comes to. -/
namespace Go.Proofs.YtfgoedndpcblpaaDoor.Pv
open Go Go.Proofs Go.Proofs.YtfgoedndpcblpaaDoor.Lx
set_option linter.unusedSimpArgs false
set_option linter.unusedVariables false
variable {L : Lib} {σ : Sto}

def tokR (t : Tk) : List FV := [.im (.int .i64 t.1), .im (.string (strOf t.2.1)), .im (.int .i64 t.2.2.1), .im (.int .i64 t.2.2.2)]
def lexOut (n : Nat) : LexR → PV
  | .ok l => .tup [.sl (l.map tokR) .unk, int n, int 0]
  | .no a e => .tup [.sl [] .unk, int a, int e]
def LexR.pre (p : List Tk) : LexR → LexR
  | .ok l => .ok (p ++ l)
  | .no a e => .no a e
theorem LexR.pre_cons (p : List Tk) (t : Tk) (r : LexR) : LexR.pre p (r.cons t) = LexR.pre (p ++ [t]) r := by
  cases r <;> simp [LexR.pre, LexR.cons]
theorem lexS_step (s : ByteArray) (a f : Nat) (h : a < s.size) : lexS (f + 1) a (s.data.toList.drop a) = if (tokF (s.data.toList.drop a)).2.2.2 = 0 then
    (lexS f (a + (tokF (s.data.toList.drop a)).2.1.length + skip false (s.data.toList.drop (a + (tokF (s.data.toList.drop a)).2.1.length))) (s.data.toList.drop (a + (tokF (s.data.toList.drop a)).2.1.length + skip false (s.data.toList.drop (a + (tokF (s.data.toList.drop a)).2.1.length))))).cons ((tokF (s.data.toList.drop a)).1, (tokF (s.data.toList.drop a)).2.1, (tokF (s.data.toList.drop a)).2.2.1, a)
    else .no a (tokF (s.data.toList.drop a)).2.2.2 := by
  rw [drop_cons s a h]
  simp only [lexS]
  rw [← drop_cons s a h, List.drop_drop, List.drop_drop]
theorem Lex_ok (hl : Free L [57, 55, 56, 54, 53, 34, 58, 59, 64, 75, 35, 16]) (hF : L 15 = some fieldsH) (s : ByteArray) (hs : s.size ≤ 4096) :
    callE (EV Tryd.prog L) 16 [str s] σ = some (lexOut s.size (lexA s.data.toList), σ) := by
  refine call_fn (hl _ (by simp)) Tryd.func16 Tryd.ntmps16 Tryd.results16 (by simp) rfl rfl (ids := []) ⟨_, rfl, by kernel_rfl, ?_⟩
  have hs' : decide ((4096 : Int) < (s.size : Int)) = false := by simp; omega
  have hno := fun σ (b : ByteArray) hb => nothing_ok (L := L) (σ := σ) (hl.sub (by simp)) b hb
  simp (contextual := true) (implicitDefEqProofs := false) [-decide_eq_true_eq, -decide_eq_false_iff_not, -Bool.not_and, -Bool.not_or, -Bool.and_eq_false_imp, -Int.natCast_add, hs', fun σ => hno σ s (by omega)]
  have h0 := skip_le false s.data.toList
  rw [← size_list] at h0
  refine WP.loop (fun m s' => ∃ (a f : Nat) (pre : List Tk) (tag : Tag) (bx : List Bx) (gr : List (Nat × Nat)), m = s.size - a ∧ a ≤ s.size ∧ pre.length ≤ a ∧ s.size ≤ a + f ∧ s'.sto = ⟨bx, gr⟩ ∧ s'.env 0 = str s ∧ s'.env 5 = .sl (pre.map tokR) tag ∧ s'.env 6 = int a ∧ Own 4 gr (pre.map tokR) tag ∧ lexA s.data.toList = LexR.pre pre (lexS f a (s.data.toList.drop a))) (s.size - skip false s.data.toList) ?_ ?_
  · exact ⟨skip false s.data.toList, s.data.toList.length, [], .full, [], [], rfl, h0, by simp, by rw [← size_list]; omega, rfl, by simp, by simp, by simp, .nil, by simp only [lexA, LexR.pre]; cases lexS _ _ _ <;> rfl⟩
  rintro m ⟨env, τ⟩ ⟨a, f, pre, tag, bx, gr, rfl, ha, hp, hf, h1, h2, h3, h4, h5, h6⟩
  simp only at h1 h2 h3 h4
  subst h1
  have hsz : (strOf (s.data.toList.drop a)).size = s.size - a := by rw [strOf_size, List.length_drop, ← size_list]
  by_cases hlt : a < s.size
  · obtain ⟨f, rfl⟩ : ∃ g, f = g + 1 := ⟨f - 1, by omega⟩
    rw [lexS_step s a f hlt] at h6
    have htok := fun σ => token_ok (L := L) (σ := σ) (hl.sub (by simp)) hF (strOf (s.data.toList.drop a)) (by omega) (by omega)
    simp only [strOf_list] at htok
    have hsl := slS_lo (b := s) (k := .i64) ha
    have hle := tokF_len (s.data.toList.drop a)
    rw [List.length_drop, ← size_list] at hle
    have hd := drop_cons s a hlt
    have hpos : (tokF (s.data.toList.drop a)).2.2.2 = 0 → 1 ≤ (tokF (s.data.toList.drop a)).2.1.length := fun e => by rw [hd] at e ⊢; exact tokF_pos _ _ e
    generalize tokF (s.data.toList.drop a) = t at *
    obtain ⟨tag', gr', happ, hown⟩ := app_own (b := 40) (xs := [tokR (t.1, t.2.1, t.2.2.1, a)]) h5 (sized_map fun _ => rfl) rfl (by simp; omega) (by simp)
    simp only [tokR] at happ
    have hw1 : IntKind.wrap .i64 ((a : Int) + (t.2.1.length : Int)) = ((a + t.2.1.length : Nat) : Int) := wrap_add (by omega)
    have hsl2 := slS_lo (b := s) (k := .i64) (i := a + t.2.1.length) (by omega)
    have hn2 := fun σ => hno σ (strOf (s.data.toList.drop (a + t.2.1.length))) (by rw [strOf_size, List.length_drop, ← size_list]; omega)
    simp only [strOf_list] at hn2
    have hlt' : decide (a < s.size) = true := by simp [hlt]
    simp (contextual := true) (implicitDefEqProofs := false) [-decide_eq_true_eq, -decide_eq_false_iff_not, -Bool.not_and, -Bool.not_or, -Bool.and_eq_false_imp, -Int.natCast_add, h2, h3, h4, hlt, hsl, extract_drop, htok, tokC, happ, strOf_size, hw1, hsl2, hn2]
    refine ⟨fun e => ?_, fun e => ?_⟩
    · have e' := of_decide_eq_false e
      rw [if_neg e'] at h6
      rw [h6]; rfl
    · have e' := of_decide_eq_true e
      rw [if_pos e', LexR.pre_cons] at h6
      have hp1 := hpos e'
      have hsk := skip_le false (s.data.toList.drop (a + t.2.1.length))
      rw [List.length_drop, ← size_list] at hsk
      refine ⟨_, ?_, a + t.2.1.length + skip false (s.data.toList.drop (a + t.2.1.length)), rfl, by omega, f, pre ++ [(t.1, t.2.1, t.2.2.1, a)], by simp; omega, by omega, tag', _, gr', ⟨rfl, rfl⟩, ⟨by simp [tokR], rfl⟩, wrap_add (by omega), ?_, h6⟩
      · omega
      · simpa using hown
  · have hlt' : decide (a < s.size) = false := by simp [hlt]
    simp (contextual := true) (implicitDefEqProofs := false) [-decide_eq_true_eq, -decide_eq_false_iff_not, -Bool.not_and, -Bool.not_or, -Bool.and_eq_false_imp, -Int.natCast_add, h2, h3, h4, hlt]
    rw [List.drop_eq_nil_of_le (by rw [← size_list]; omega)] at h6
    have : ∀ f a, lexS f a [] = .ok [] := fun f a => by cases f <;> rfl
    rw [this] at h6
    simp only [LexR.pre, List.append_nil] at h6
    rw [h6]; rfl
theorem Lex_long (hl : Free L [16]) (s : ByteArray) (hs : 4096 < s.size) (hs2 : s.size < 9223372036854775808) : callE (EV Tryd.prog L) 16 [str s] σ = some (.tup [.sl [] .unk, int 0, int 111], σ) := by
  refine call_fn (hl _ (by simp)) Tryd.func16 Tryd.ntmps16 Tryd.results16 (by simp) rfl rfl (ids := []) ⟨_, rfl, by kernel_rfl, ?_⟩
  have hs' : decide ((4096 : Int) < (s.size : Int)) = true := by simp; omega
  simp (contextual := true) (implicitDefEqProofs := false) [-decide_eq_true_eq, -decide_eq_false_iff_not, -Bool.not_and, -Bool.not_or, -Bool.and_eq_false_imp, -Int.natCast_add, hs']
end Go.Proofs.YtfgoedndpcblpaaDoor.Pv
end

section
/-
  DERIVED: THE SHELF's CONTRACTS AT THIS DUMP, IN PLAIN WORDS (tools/lay-plain.mjs out of 'TrydShelf.lean', which tools/lay-shelf.mjs wrote): THE SAME DECLARATIONS UNDER THE SAME NAMES: 'import', 'namespace', 'open', 'def', 'theorem' AND NOTHING ELSE: no command of the shelf's: FOR A HAND-IN. Each laying: the table of numbers ('.._ren') and one theorem, a field a fact of the dump's own or the kernel's comparison; each contract: ONE APPLICATION.
-/
namespace Go.Proofs
open Go.Shelf
def Tryd.lays156_ren : Go.Shelf.Ren := ⟨fun | 156 => 25 | 165 => 49 | 166 => 47 | 169 => 28 | 240 => 62 | 241 => 66 | 276 => 72 | 277 => 76 | n => n, fun | 31 => 45 | 9 => 9 | 3 => 3 | 4 => 4 | 0 => 0 | 20 => 20 | 72 => 66 | 76 => 96 | 70 => 63 | 37 => 64 | 75 => 95 | 127 => 103 | 164 => 139 | 5 => 5 | 80 => 79 | n => n, fun | n => n⟩
theorem Tryd.lays156 : Go.Proofs.Lays.n156 Tryd.prog Tryd.lays156_ren := {
  mixed := by kernel_rfl
  f156 := Tryd.func25.trans (congrArg some (by kernel_rfl))
  f165 := Tryd.func49.trans (congrArg some (by kernel_rfl))
  f166 := Tryd.func47.trans (congrArg some (by kernel_rfl))
  f169 := Tryd.func28.trans (congrArg some (by kernel_rfl))
  f240 := Tryd.func62.trans (congrArg some (by kernel_rfl))
  f241 := Tryd.func66.trans (congrArg some (by kernel_rfl))
  f276 := Tryd.func72.trans (congrArg some (by kernel_rfl))
  f277 := Tryd.func76.trans (congrArg some (by kernel_rfl))
  t0 := Tryd.underlying0
  a0 := Tryd.isAgg0
  z0 := Tryd.sizeOf0
  v0 := Tryd.zeroValue0
  t3 := Tryd.underlying3
  a3 := Tryd.isAgg3
  z3 := Tryd.sizeOf3
  v3 := Tryd.zeroValue3
  t4 := Tryd.underlying4
  a4 := Tryd.isAgg4
  z4 := Tryd.sizeOf4
  v4 := Tryd.zeroValue4
  t9 := Tryd.underlying9
  a9 := Tryd.isAgg9
  z9 := Tryd.sizeOf9
  v9 := Tryd.zeroValue9
  t20 := Tryd.underlying20
  a20 := Tryd.isAgg20
  z20 := Tryd.sizeOf20
  v20 := Tryd.zeroValue20
  t31 := Tryd.underlying45
  a31 := Tryd.isAgg45
  z31 := Tryd.sizeOf45
  v31 := Tryd.zeroValue45
  t37 := Tryd.underlying64
  a37 := Tryd.isAgg64
  z37 := Tryd.sizeOf64
  v37 := Tryd.zeroValue64
  t70 := Tryd.underlying63
  a70 := Tryd.isAgg63
  z70 := Tryd.sizeOf63
  v70 := Tryd.zeroValue63
  t72 := Tryd.underlying66
  a72 := Tryd.isAgg66
  z72 := Tryd.sizeOf66
  v72 := Tryd.zeroValue66
  t75 := Tryd.underlying95
  a75 := Tryd.isAgg95
  z75 := Tryd.sizeOf95
  v75 := Tryd.zeroValue95
  t76 := Tryd.underlying96
  a76 := Tryd.isAgg96
  z76 := Tryd.sizeOf96
  v76 := Tryd.zeroValue96
  t127 := Tryd.underlying103
  a127 := Tryd.isAgg103
  z127 := Tryd.sizeOf103
  v127 := Tryd.zeroValue103
  t164 := Tryd.underlying139
  a164 := Tryd.isAgg139
  z164 := Tryd.sizeOf139
  v164 := Tryd.zeroValue139 }
theorem Tryd.Builder_Extra_156 : Builder.Extra Tryd.prog Tryd.lays156_ren := {
  sizeBuilder := by kernel_rfl
  liesBuilder := by kernel_rfl
  t5 := Tryd.underlying5
  a5 := Tryd.isAgg5
  z5 := Tryd.sizeOf5
  v5 := Tryd.zeroValue5
  infoByte := by kernel_rfl
  cellsByte := by kernel_rfl
  sizeByte := by kernel_rfl
  neB5 := by decide }
open Go.RowKit in
/-- No element: the empty string; the world is as it was. (Whatever the slice's address and capacity: a nil slice too.) (LAID: no walk: one application.) -/
theorem Tryd.strings_Join_none (a : Option Addr) (c : Nat) (sep : ByteArray) (w : World) :
    Calls Tryd.prog 25 #[.slice a 0 c, .string sep] w fun e w' => e = .returned (.string ⟨#[]⟩) ∧ w' = w := Any.strings_Join_none Tryd.lays156 Tryd.Builder_Extra_156 a c sep w
open Go.RowKit in
/-- strings.Join: "Join concatenates the elements of its first argument to create a single string. The separator string sep is placed between elements in the resulting string.": HOWEVER MANY ELEMENTS. Below the heap's end the world is as it was. (LAID: no walk: one application.) -/
theorem Tryd.strings_Join (bk o c : Nat) (xs : List ByteArray) (sep : ByteArray) (w : World) (hcells : ∀ (j : Nat) x, xs[j]? = some x → w.cell? ⟨bk, o + j, none⟩ = some (.string x)) (hbk : bk < w.heap.size) (hN : xs.length ≤ 140737488355328) (hcap : xs.length ≤ c) (hlen : (Lib.join (xs.map (·.data.toList)) sep.data.toList).length ≤ 140737488355328) :
    Calls Tryd.prog 25 #[.slice (some ⟨bk, o, none⟩) xs.length c, .string sep] w fun e w' => e = .returned (.string ⟨(Lib.join (xs.map (·.data.toList)) sep.data.toList).toArray⟩) ∧ Below w.heap.size w w' := Any.strings_Join Tryd.lays156 Tryd.Builder_Extra_156 bk o c xs sep w hcells hbk hN hcap hlen
def Tryd.laysM246_ren : Go.Shelf.Ren := ⟨fun | 246 => 67 | 283 => 77 | 284 => 78 | 285 => 79 | 286 => 80 | 129 => 87 | 317 => 86 | 318 => 88 | 319 => 89 | 320 => 90 | 337 => 91 | 338 => 92 | n => n, fun | 2 => 2 | 3 => 3 | 9 => 9 | 4 => 4 | 171 => 147 | 0 => 0 | 53 => 143 | 37 => 64 | 5 => 5 | 173 => 150 | 212 => 156 | 51 => 107 | 20 => 20 | 213 => 157 | 46 => 117 | 232 => 160 | 233 => 161 | n => n, fun | 17 => 3 | 18 => 4 | 19 => 5 | n => n⟩
theorem Tryd.laysM246 : Go.Proofs.LaysM.n246 Tryd.prog Tryd.laysM246_ren := {
  mixed := by kernel_rfl
  f129 := Tryd.func87.trans (congrArg some (by kernel_rfl))
  f246 := Tryd.func67.trans (congrArg some (by kernel_rfl))
  f283 := Tryd.func77.trans (congrArg some (by kernel_rfl))
  f284 := Tryd.func78.trans (congrArg some (by kernel_rfl))
  f285 := Tryd.func79.trans (congrArg some (by kernel_rfl))
  f286 := Tryd.func80.trans (congrArg some (by kernel_rfl))
  f317 := Tryd.func86.trans (congrArg some (by kernel_rfl))
  f318 := Tryd.func88.trans (congrArg some (by kernel_rfl))
  f319 := Tryd.func89.trans (congrArg some (by kernel_rfl))
  f320 := Tryd.func90.trans (congrArg some (by kernel_rfl))
  f337 := Tryd.func91.trans (congrArg some (by kernel_rfl))
  f338 := Tryd.func92.trans (congrArg some (by kernel_rfl))
  t0 := Tryd.underlying0
  a0 := Tryd.isAgg0
  z0 := Tryd.sizeOf0
  v0 := Tryd.zeroValue0
  t2 := Tryd.underlying2
  a2 := Tryd.isAgg2
  z2 := Tryd.sizeOf2
  v2 := Tryd.zeroValue2
  t3 := Tryd.underlying3
  a3 := Tryd.isAgg3
  z3 := Tryd.sizeOf3
  v3 := Tryd.zeroValue3
  t4 := Tryd.underlying4
  a4 := Tryd.isAgg4
  z4 := Tryd.sizeOf4
  v4 := Tryd.zeroValue4
  t5 := Tryd.underlying5
  a5 := Tryd.isAgg5
  z5 := Tryd.sizeOf5
  v5 := Tryd.zeroValue5
  t9 := Tryd.underlying9
  a9 := Tryd.isAgg9
  z9 := Tryd.sizeOf9
  v9 := Tryd.zeroValue9
  t20 := Tryd.underlying20
  a20 := Tryd.isAgg20
  z20 := Tryd.sizeOf20
  v20 := Tryd.zeroValue20
  t37 := Tryd.underlying64
  a37 := Tryd.isAgg64
  z37 := Tryd.sizeOf64
  v37 := Tryd.zeroValue64
  t46 := Tryd.underlying117
  a46 := Tryd.isAgg117
  z46 := Tryd.sizeOf117
  v46 := Tryd.zeroValue117
  t51 := Tryd.underlying107
  a51 := Tryd.isAgg107
  z51 := Tryd.sizeOf107
  v51 := Tryd.zeroValue107
  t53 := Tryd.underlying143
  a53 := Tryd.isAgg143
  z53 := Tryd.sizeOf143
  v53 := Tryd.zeroValue143
  t171 := Tryd.underlying147
  a171 := Tryd.isAgg147
  z171 := Tryd.sizeOf147
  v171 := Tryd.zeroValue147
  t173 := Tryd.underlying150
  a173 := Tryd.isAgg150
  z173 := Tryd.sizeOf150
  v173 := Tryd.zeroValue150
  t212 := Tryd.underlying156
  a212 := Tryd.isAgg156
  z212 := Tryd.sizeOf156
  v212 := Tryd.zeroValue156
  t213 := Tryd.underlying157
  a213 := Tryd.isAgg157
  z213 := Tryd.sizeOf157
  t232 := Tryd.underlying160
  a232 := Tryd.isAgg160
  z232 := Tryd.sizeOf160
  v232 := Tryd.zeroValue160
  t233 := Tryd.underlying161
  a233 := Tryd.isAgg161
  z233 := Tryd.sizeOf161
  v233 := Tryd.zeroValue161
  g17 := by kernel_rfl
  g18 := by kernel_rfl
  g19 := by kernel_rfl
  i0 := by kernel_rfl
  i2 := by kernel_rfl
  i3 := by kernel_rfl
  i4 := by kernel_rfl
  i5 := by kernel_rfl
  i9 := by kernel_rfl
  i20 := by kernel_rfl
  i37 := by kernel_rfl
  i46 := by kernel_rfl
  i51 := by kernel_rfl
  i53 := by kernel_rfl
  i171 := by kernel_rfl
  i173 := by kernel_rfl
  i212 := by kernel_rfl
  i232 := by kernel_rfl
  i233 := by kernel_rfl
  m17 := by kernel_rfl
  m18 := by kernel_rfl
  m19 := by kernel_rfl }
open Go.RowKit Go.Sort Go.Lib in
/-- internal/strconv.FormatInt: "FormatInt returns the string representation of i in the given base": AT BASE 10: i's decimal numeral, for every int64. The world behind the call: the world before it, new blocks behind the heap, draws. (LAID: no walk: one application.) -/
theorem Tryd.internal_strconv_FormatInt_10 (n : Int) (h0 : -9223372036854775808 ≤ n) (h1 : n ≤ 9223372036854775807) (w : World) (htab : Lib.TabIs Tryd.prog w "internal/strconv.uint64pow10" .u64 Lib.pow10Tab) :
    Calls Tryd.prog 67 #[.int .i64 n, .int .i64 10] w fun e w' => e = .returned (.string ⟨(Lib.itoa n).toArray⟩) ∧ ∃ k os, w' = grow (w.drewN k) os := Any.internal_strconv_FormatInt_10 Tryd.laysM246 n h0 h1 w htab
def Tryd.lays157_ren : Go.Shelf.Ren := ⟨fun | 157 => 15 | 229 => 32 | 199 => 33 | 261 => 52 | 311 => 68 | 312 => 69 | n => n, fun | 9 => 9 | 31 => 45 | 3 => 3 | 5 => 5 | 4 => 4 | 119 => 82 | 0 => 0 | 40 => 84 | 152 => 104 | 21 => 21 | 154 => 106 | 51 => 107 | 141 => 109 | 196 => 125 | 193 => 122 | 198 => 128 | 49 => 126 | 194 => 123 | 201 => 131 | 226 => 152 | 46 => 117 | 227 => 153 | n => n, fun | 0 => 0 | 6 => 1 | n => n⟩
theorem Tryd.lays157 : Go.Proofs.Lays.n157 Tryd.prog Tryd.lays157_ren := {
  mixed := by kernel_rfl
  f157 := Tryd.func15.trans (congrArg some (by kernel_rfl))
  f199 := Tryd.func33.trans (congrArg some (by kernel_rfl))
  f229 := Tryd.func32.trans (congrArg some (by kernel_rfl))
  f261 := Tryd.func52.trans (congrArg some (by kernel_rfl))
  f311 := Tryd.func68.trans (congrArg some (by kernel_rfl))
  f312 := Tryd.func69.trans (congrArg some (by kernel_rfl))
  t0 := Tryd.underlying0
  a0 := Tryd.isAgg0
  z0 := Tryd.sizeOf0
  v0 := Tryd.zeroValue0
  t3 := Tryd.underlying3
  a3 := Tryd.isAgg3
  z3 := Tryd.sizeOf3
  v3 := Tryd.zeroValue3
  t4 := Tryd.underlying4
  a4 := Tryd.isAgg4
  z4 := Tryd.sizeOf4
  v4 := Tryd.zeroValue4
  t5 := Tryd.underlying5
  a5 := Tryd.isAgg5
  z5 := Tryd.sizeOf5
  v5 := Tryd.zeroValue5
  t9 := Tryd.underlying9
  a9 := Tryd.isAgg9
  z9 := Tryd.sizeOf9
  v9 := Tryd.zeroValue9
  t21 := Tryd.underlying21
  a21 := Tryd.isAgg21
  z21 := Tryd.sizeOf21
  v21 := Tryd.zeroValue21
  t31 := Tryd.underlying45
  a31 := Tryd.isAgg45
  z31 := Tryd.sizeOf45
  v31 := Tryd.zeroValue45
  t40 := Tryd.underlying84
  a40 := Tryd.isAgg84
  z40 := Tryd.sizeOf84
  v40 := Tryd.zeroValue84
  t46 := Tryd.underlying117
  a46 := Tryd.isAgg117
  z46 := Tryd.sizeOf117
  v46 := Tryd.zeroValue117
  t49 := Tryd.underlying126
  a49 := Tryd.isAgg126
  z49 := Tryd.sizeOf126
  v49 := Tryd.zeroValue126
  t51 := Tryd.underlying107
  a51 := Tryd.isAgg107
  z51 := Tryd.sizeOf107
  v51 := Tryd.zeroValue107
  t119 := Tryd.underlying82
  a119 := Tryd.isAgg82
  z119 := Tryd.sizeOf82
  t141 := Tryd.underlying109
  a141 := Tryd.isAgg109
  z141 := Tryd.sizeOf109
  v141 := Tryd.zeroValue109
  t152 := Tryd.underlying104
  a152 := Tryd.isAgg104
  z152 := Tryd.sizeOf104
  v152 := Tryd.zeroValue104
  t154 := Tryd.underlying106
  a154 := Tryd.isAgg106
  z154 := Tryd.sizeOf106
  v154 := Tryd.zeroValue106
  t193 := Tryd.underlying122
  a193 := Tryd.isAgg122
  z193 := Tryd.sizeOf122
  v193 := Tryd.zeroValue122
  t194 := Tryd.underlying123
  a194 := Tryd.isAgg123
  z194 := Tryd.sizeOf123
  v194 := Tryd.zeroValue123
  t196 := Tryd.underlying125
  a196 := Tryd.isAgg125
  z196 := Tryd.sizeOf125
  v196 := Tryd.zeroValue125
  t198 := Tryd.underlying128
  a198 := Tryd.isAgg128
  z198 := Tryd.sizeOf128
  v198 := Tryd.zeroValue128
  t201 := Tryd.underlying131
  a201 := Tryd.isAgg131
  z201 := Tryd.sizeOf131
  v201 := Tryd.zeroValue131
  t226 := Tryd.underlying152
  a226 := Tryd.isAgg152
  z226 := Tryd.sizeOf152
  v226 := Tryd.zeroValue152
  t227 := Tryd.underlying153
  a227 := Tryd.isAgg153
  z227 := Tryd.sizeOf153
  v227 := Tryd.zeroValue153
  g0 := by kernel_rfl
  g6 := by kernel_rfl }
open Go.RowKit Go.Lib in
/-- strings.Fields, the table by 'Lib.TabIs' (as strings.TrimSpace's contract). 'hg': the table's number, by its name: at a dump 'by kernel_rfl'. (LAID: no walk: one application.) -/
theorem Tryd.strings_Fields (s : ByteArray) (w : World) (hs : s.size < 4294967281) (hascii : ∀ (j : Nat) b, s.data.toList[j]? = some b → b.toNat < 128) (htab : Lib.TabIs Tryd.prog w "strings.asciiSpace" .u8 Lib.asciiSpaceTab) :
    Calls Tryd.prog 15 #[.string s] w fun e w' =>
      e = .returned (.slice (some ⟨w.heap.size, 0, none⟩) (Lib.fields s.data.toList).length (Lib.fields s.data.toList).length) ∧ w' = w.alloc (.cells ((Lib.fields s.data.toList).map fun l => Value.string ⟨l.toArray⟩).toArray 9) := Any.strings_Fields Tryd.lays157 (by kernel_rfl) (by kernel_rfl) s w hs hascii htab
def Tryd.lays105_ren : Go.Shelf.Ren := ⟨fun | 105 => 48 | 212 => 63 | 99 => 64 | 165 => 49 | 166 => 47 | 170 => 65 | 169 => 28 | 263 => 73 | 264 => 74 | 206 => 75 | 240 => 62 | 241 => 66 | 276 => 72 | 277 => 76 | n => n, fun | 9 => 9 | 3 => 3 | 4 => 4 | 20 => 20 | 0 => 0 | 46 => 117 | 109 => 118 | 5 => 5 | 72 => 66 | 76 => 96 | 51 => 107 | 146 => 141 | 53 => 143 | 148 => 144 | 70 => 63 | 37 => 64 | 75 => 95 | 127 => 103 | 164 => 139 | 80 => 79 | n => n, fun | n => n⟩
theorem Tryd.lays105 : Go.Proofs.Lays.n105 Tryd.prog Tryd.lays105_ren := {
  mixed := by kernel_rfl
  f99 := Tryd.func64.trans (congrArg some (by kernel_rfl))
  f105 := Tryd.func48.trans (congrArg some (by kernel_rfl))
  f165 := Tryd.func49.trans (congrArg some (by kernel_rfl))
  f166 := Tryd.func47.trans (congrArg some (by kernel_rfl))
  f169 := Tryd.func28.trans (congrArg some (by kernel_rfl))
  f170 := Tryd.func65.trans (congrArg some (by kernel_rfl))
  f206 := Tryd.func75.trans (congrArg some (by kernel_rfl))
  f212 := Tryd.func63.trans (congrArg some (by kernel_rfl))
  f240 := Tryd.func62.trans (congrArg some (by kernel_rfl))
  f241 := Tryd.func66.trans (congrArg some (by kernel_rfl))
  f263 := Tryd.func73.trans (congrArg some (by kernel_rfl))
  f264 := Tryd.func74.trans (congrArg some (by kernel_rfl))
  f276 := Tryd.func72.trans (congrArg some (by kernel_rfl))
  f277 := Tryd.func76.trans (congrArg some (by kernel_rfl))
  t0 := Tryd.underlying0
  a0 := Tryd.isAgg0
  z0 := Tryd.sizeOf0
  v0 := Tryd.zeroValue0
  t3 := Tryd.underlying3
  a3 := Tryd.isAgg3
  z3 := Tryd.sizeOf3
  v3 := Tryd.zeroValue3
  t4 := Tryd.underlying4
  a4 := Tryd.isAgg4
  z4 := Tryd.sizeOf4
  v4 := Tryd.zeroValue4
  t5 := Tryd.underlying5
  a5 := Tryd.isAgg5
  z5 := Tryd.sizeOf5
  v5 := Tryd.zeroValue5
  t9 := Tryd.underlying9
  a9 := Tryd.isAgg9
  z9 := Tryd.sizeOf9
  v9 := Tryd.zeroValue9
  t20 := Tryd.underlying20
  a20 := Tryd.isAgg20
  z20 := Tryd.sizeOf20
  v20 := Tryd.zeroValue20
  t37 := Tryd.underlying64
  a37 := Tryd.isAgg64
  z37 := Tryd.sizeOf64
  v37 := Tryd.zeroValue64
  t46 := Tryd.underlying117
  a46 := Tryd.isAgg117
  z46 := Tryd.sizeOf117
  v46 := Tryd.zeroValue117
  t51 := Tryd.underlying107
  a51 := Tryd.isAgg107
  z51 := Tryd.sizeOf107
  v51 := Tryd.zeroValue107
  t53 := Tryd.underlying143
  a53 := Tryd.isAgg143
  z53 := Tryd.sizeOf143
  v53 := Tryd.zeroValue143
  t70 := Tryd.underlying63
  a70 := Tryd.isAgg63
  z70 := Tryd.sizeOf63
  v70 := Tryd.zeroValue63
  t72 := Tryd.underlying66
  a72 := Tryd.isAgg66
  z72 := Tryd.sizeOf66
  v72 := Tryd.zeroValue66
  t75 := Tryd.underlying95
  a75 := Tryd.isAgg95
  z75 := Tryd.sizeOf95
  v75 := Tryd.zeroValue95
  t76 := Tryd.underlying96
  a76 := Tryd.isAgg96
  z76 := Tryd.sizeOf96
  v76 := Tryd.zeroValue96
  t109 := Tryd.underlying118
  a109 := Tryd.isAgg118
  z109 := Tryd.sizeOf118
  v109 := Tryd.zeroValue118
  t127 := Tryd.underlying103
  a127 := Tryd.isAgg103
  z127 := Tryd.sizeOf103
  v127 := Tryd.zeroValue103
  t146 := Tryd.underlying141
  a146 := Tryd.isAgg141
  z146 := Tryd.sizeOf141
  v146 := Tryd.zeroValue141
  t148 := Tryd.underlying144
  a148 := Tryd.isAgg144
  z148 := Tryd.sizeOf144
  v148 := Tryd.zeroValue144
  t164 := Tryd.underlying139
  a164 := Tryd.isAgg139
  z164 := Tryd.sizeOf139
  v164 := Tryd.zeroValue139 }
theorem Tryd.Builder_Extra_105 : Builder.Extra Tryd.prog Tryd.lays105_ren := {
  sizeBuilder := by kernel_rfl
  liesBuilder := by kernel_rfl
  t5 := Tryd.underlying5
  a5 := Tryd.isAgg5
  z5 := Tryd.sizeOf5
  v5 := Tryd.zeroValue5
  infoByte := by kernel_rfl
  cellsByte := by kernel_rfl
  sizeByte := by kernel_rfl
  neB5 := by decide }
open Go.RowKit Go.Lib in
/-- **strings.Repeat: count ≥ 0, the result within one allocation: count copies of s.** (LAID: no walk: one application.) -/
theorem Tryd.strings_Repeat (s : ByteArray) (c : Nat) (w : World) (hc : c ≤ 9223372036854775807) (hlen : s.size * c ≤ 140737488355328) :
    Calls Tryd.prog 48 #[.string s, .int .i64 c] w fun e w' => e = .returned (.string ⟨(Lib.repeatL s.data.toList c).toArray⟩) ∧ Below w.heap.size w w' := Any.strings_Repeat Tryd.lays105 Tryd.Builder_Extra_105 s c w hc hlen
end Go.Proofs
end

section
/- Functions of Go's library, as they are told. -/
namespace Go.Proofs.YtfgoedndpcblpaaDoor.Pv
open Go Go.Proofs Go.RowKit
set_option linter.unusedSimpArgs false
set_option linter.unusedVariables false

theorem Inv.below {G : Gh} {σ : Sto} {w w' : World} (h : Inv G σ w) (hb : Below w.heap.size w w') : Inv G σ w' ∧ Later G w G w' := by
  have hk : ∀ b, b < w.heap.size → w'.heap[b]? = w.heap[b]? := hb.block
  refine ⟨⟨?_, h.bxl, ?_, h.bxf, h.bxn, h.grl, ?_, h.grn, h.grb⟩, ⟨.refl G, hb.size, fun b hlt _ => hk b hlt, fun _ e => .inl e, fun _ _ _ e => .inl e, hb.os, hb.tape, hb.output⟩⟩
  · intro b o v e
    have := h.fz b o v e
    have hlt := h.fz_lt e
    unfold World.cell? at this ⊢
    rw [show (⟨b, o, none⟩ : Addr).block = b from rfl] at this ⊢
    rw [hk b hlt]; exact this
  · intro i blk x e1 e2
    obtain ⟨o, h2, h3⟩ := h.bxc i blk x e1 e2
    exact ⟨o, (hk blk (h.bx_lt e1)).trans h2, h3⟩
  · intro g r e
    obtain ⟨cs, fr, h2, h3⟩ := h.grc g r e
    exact ⟨cs, fr, (hk _ (h.gr_lt e)).trans h2, h3⟩
/-- A function that yields a string, and leaves what there is. -/
theorem funOk_str {T : Base} {f : FuncId} {h : List PV → Sto → Option (PV × Sto)} (hh : ∀ args σ r σ', h args σ = some (r, σ') → σ' = σ ∧ ∃ b, r = .im (.string b) ∧ ∀ (G : Gh) (w : World) (vals : Array Value), Tab T G w → Inv G σ w → args.length = vals.size → (∀ i (h : i < args.length), Rep G args[i] (vals.getD i undef)) → Calls Tryd.prog f vals w fun e w' => e = .returned (.string b) ∧ Below w.heap.size w w') : FunOk Tryd.prog T f h := by
  intro args σ r σ' he G w vals hT hI hl ha
  obtain ⟨rfl, b, rfl, hc⟩ := hh args σ r σ' he
  refine (hc G w vals hT hI hl ha).mono ?_
  rintro e w' ⟨rfl, hb⟩
  obtain ⟨h1, h2⟩ := hI.below hb
  exact ⟨_, G, rfl, h1, .im _, h2⟩
theorem vals1 {a : PV} {vals : Array Value} {G : Gh} (hl : [a].length = vals.size) (ha : ∀ i (h : i < [a].length), Rep G [a][i] (vals.getD i undef)) : ∃ v, vals = #[v] ∧ Rep G a v := by
  obtain ⟨l⟩ := vals
  rcases l with _ | ⟨v, _ | ⟨u, l⟩⟩
  · cases hl
  · exact ⟨v, rfl, ha 0 (by simp)⟩
  · simp at hl
theorem vals2 {a b : PV} {vals : Array Value} {G : Gh} (hl : [a, b].length = vals.size) (ha : ∀ i (h : i < [a, b].length), Rep G [a, b][i] (vals.getD i undef)) : ∃ v u, vals = #[v, u] ∧ Rep G a v ∧ Rep G b u := by
  obtain ⟨l⟩ := vals
  rcases l with _ | ⟨v, _ | ⟨u, _ | ⟨x, l⟩⟩⟩
  · cases hl
  · simp at hl
  · exact ⟨v, u, rfl, ha 0 (by simp), ha 1 (by simp)⟩
  · simp at hl
theorem rep_im {G : Gh} {v u : Value} (h : Rep G (.im v) u) : u = v := by cases h; rfl

/-! ### strings.Fields -/
def asciiB : Nat → Obj → Prop := fun b o => Tryd.prog.globalNamed "strings.asciiSpace" = some b ∧ ∃ t fr, o = .cells (Lib.asciiSpaceTab.map fun z => Value.int .u8 z).toArray t fr
theorem strs_rep {G : Gh} {w : World} (l : List (List UInt8)) (t : TypeId) : Rep (G.freeze w.heap.size (l.map fun x => Value.string ⟨x.toArray⟩).toArray) (strsB l) (.slice (some ⟨w.heap.size, 0, none⟩) l.length l.length) := by
  have e : l.length = (l.map fun x => ([.im (.string (Lx.strOf x))] : List FV)).length := by simp
  have := Rep.sl (G := G.freeze w.heap.size (l.map fun x => Value.string ⟨x.toArray⟩).toArray) (rows := l.map fun x => [.im (.string (Lx.strOf x))]) (tag := .unk) (a := some ⟨w.heap.size, 0, none⟩) (cap := l.length) (RepF.sl 1 (fun i _ => (l[i]?.map fun x => Value.string ⟨x.toArray⟩).getD undef) (by simp) (by simp) (fun i hi j hj => ⟨w.heap.size, 0, rfl, by
      have hj0 : j = 0 := by omega
      subst hj0
      have hi' : i < l.length := by simpa using hi
      show (if w.heap.size = w.heap.size then _ else _) = _
      rw [if_pos rfl, Nat.zero_add, Nat.mul_one, Nat.add_zero, List.getElem?_toArray, List.getElem?_map, List.getElem?_eq_getElem hi']
      rfl⟩) (fun i hi j hj => by
      have hi' : i < l.length := by simpa using hi
      simp only [List.getElem_map, List.length_singleton] at hj ⊢
      have hj0 : j = 0 := by omega
      subst hj0
      rw [List.getElem?_eq_getElem hi']
      exact .im _ rfl)) trivial
  rw [← e] at this
  exact this
theorem fields_fun {T : Base} {b : Nat} {o : Obj} (hb : asciiB b o) (hT0 : T b = some o) : FunOk Tryd.prog T 15 fieldsH := by
  intro args σ r σ' he G w vals hT hI hl ha
  unfold fieldsH at he
  split at he
  · rename_i σ0 s
    split at he
    · rename_i hs
      cases he
      obtain ⟨v, rfl, hv⟩ := vals1 hl ha
      obtain rfl := rep_im hv
      obtain ⟨h1, t, fr, rfl⟩ := hb
      have htab : Lib.TabIs Tryd.prog w "strings.asciiSpace" .u8 Lib.asciiSpaceTab := by
        unfold Lib.TabIs World.var?
        rw [h1]
        simp only [Option.bind_some]
        rw [(hT b _ hT0).1]
      refine (Tryd.strings_Fields s w hs.1 (fun j x hj => of_decide_eq_true (List.all_eq_true.1 hs.2 x (List.mem_of_getElem? hj))) htab).mono ?_
      rintro e w' ⟨rfl, rfl⟩
      obtain ⟨h2, h3⟩ := hI.newRow ((Lib.fields s.data.toList).map fun l => Value.string ⟨l.toArray⟩).toArray 9
      exact ⟨_, _, rfl, h2, strs_rep _ 9, h3⟩
    · cases he
  · cases he

/-! ### strings.Join, Repeat; numbers -/
def rowStr : List FV → Option ByteArray
  | [.im (.string b)] => some b
  | _ => none
def rowsStr : List (List FV) → Option (List ByteArray)
  | [] => some []
  | x :: xs => match rowStr x, rowsStr xs with
    | some b, some bs => some (b :: bs)
    | _, _ => none
def joinF (l : List ByteArray) (s : ByteArray) : List UInt8 := Lib.join (l.map (·.data.toList)) s.data.toList
def joinH : List PV → Sto → Option (PV × Sto)
  | [.sl rows _, .im (.string s)], σ => match rowsStr rows with
    | some l => if (joinF l s).length ≤ 140737488355328 ∧ l.length ≤ 140737488355328 then some (.im (.string (Lx.strOf (joinF l s))), σ) else none
    | none => none
  | _, _ => none
theorem rowsStr_spec : ∀ {rows : List (List FV)} {l : List ByteArray}, rowsStr rows = some l → rows = l.map fun b => [.im (.string b)]
  | [], l, h => by cases h; rfl
  | x :: xs, l, h => by
    simp only [rowsStr] at h
    split at h
    · rename_i b bs h1 h2
      cases h
      rw [rowsStr_spec h2]
      unfold rowStr at h1
      split at h1
      · cases h1; rfl
      · cases h1
    · cases h
theorem join_fun {T : Base} : FunOk Tryd.prog T 25 joinH := by
  refine funOk_str fun args σ r σ' he => ?_
  unfold joinH at he
  split at he
  · rename_i σ0 rows tag s
    split at he
    · rename_i l hr
      split at he
      · rename_i hlen
        cases he
        refine ⟨rfl, _, rfl, fun G w vals hT hI hl ha => ?_⟩
        obtain ⟨v, u, rfl, hv, hu⟩ := vals2 hl ha
        obtain rfl := rep_im hu
        have hrows := rowsStr_spec hr
        subst hrows
        cases hv with
        | sl hF ht =>
          rename_i a cap
          cases l with
          | nil => exact (Tryd.strings_Join_none a cap s w).mono fun e w' ⟨h1, h2⟩ => ⟨h1, h2 ▸ Below.refl _ _⟩
          | cons x xs =>
            have hsz : sized 1 ((x :: xs).map fun b => ([.im (.string b)] : List FV)) = true := by simp [sized]
            obtain ⟨_, hcap, f, hFl⟩ := hF.flat hsz (by decide)
            have hlen1 : ((x :: xs).map fun b => ([.im (.string b)] : List FV)).length = (x :: xs).length := by simp
            obtain ⟨b, o, rfl, _⟩ := hFl.at_ 0 (by simp)
            rw [hlen1] at hcap ⊢
            refine Tryd.strings_Join b o cap (x :: xs) s w (fun j y hj => ?_) ?_ hlen.2 hcap hlen.1
            · have hjl : j < (x :: xs).length := (List.getElem?_eq_some_iff.1 hj).1
              obtain ⟨b', o', e', k'⟩ := hFl.at_ j (by rw [hlen1]; omega)
              cases e'
              have hjm : j < ((x :: xs).map fun b => ([.im (.string b)] : List FV)).length := by rw [hlen1]; exact hjl
              have hrow : ((x :: xs).map fun b => ([.im (.string b)] : List FV))[j]'hjm = [.im (.string y)] := by
                rw [List.getElem_map, (List.getElem?_eq_some_iff.1 hj).2]
              have h0 : 0 < (((x :: xs).map fun b => ([.im (.string b)] : List FV))[j]'hjm).length := by rw [hrow]; exact Nat.one_pos
              have hrp := hFl.rep j hjm 0 h0
              rw [Nat.mul_one, Nat.add_zero, List.getElem_of_eq hrow] at hrp
              have hrp : RepF G.fz (.im (.string y)) (f j) := hrp
              have hf : f j = .string y := by
                generalize hq : f j = q at hrp
                cases hrp; rfl
              rw [← hf]
              exact hI.fz _ _ _ k'
            · obtain ⟨b', o', e', k'⟩ := hFl.at_ 0 (by simp)
              cases e'
              exact hI.fz_lt k'
      · cases he
    · cases he
  · cases he
def repeatH : List PV → Sto → Option (PV × Sto)
  | [.im (.string s), .im (.int .i64 n)], σ => if 0 ≤ n ∧ n ≤ 9223372036854775807 ∧ s.size * n.toNat ≤ 140737488355328 then some (.im (.string (Lx.strOf (Lib.repeatL s.data.toList n.toNat))), σ) else none
  | _, _ => none
theorem repeat_fun {T : Base} : FunOk Tryd.prog T 48 repeatH := by
  refine funOk_str fun args σ r σ' he => ?_
  unfold repeatH at he
  split at he
  · rename_i σ0 s n
    split at he
    · rename_i hc
      cases he
      refine ⟨rfl, _, rfl, fun G w vals hT hI hl ha => ?_⟩
      obtain ⟨v, u, rfl, hv, hu⟩ := vals2 hl ha
      obtain rfl := rep_im hu
      obtain rfl := rep_im hv
      have := Tryd.strings_Repeat s n.toNat w (by omega) hc.2.2
      rw [show ((n.toNat : Nat) : Int) = n by omega] at this
      exact this
    · cases he
  · cases he
def powB : Nat → Obj → Prop := fun b o => Tryd.prog.globalNamed "internal/strconv.uint64pow10" = some b ∧ ∃ t fr, o = .cells (Lib.pow10Tab.map fun z => Value.int .u64 z).toArray t fr
def formatH : List PV → Sto → Option (PV × Sto)
  | [.im (.int .i64 n), .im (.int .i64 b)], σ => if b = 10 ∧ -9223372036854775808 ≤ n ∧ n ≤ 9223372036854775807 then some (.im (.string (Lx.strOf (Lib.itoa n))), σ) else none
  | _, _ => none
theorem format_fun {T : Base} {b : Nat} {o : Obj} (hb : powB b o) (hT0 : T b = some o) : FunOk Tryd.prog T 67 formatH := by
  refine funOk_str fun args σ r σ' he => ?_
  unfold formatH at he
  split at he
  · rename_i σ0 n b0
    split at he
    · rename_i hc
      cases he
      refine ⟨rfl, _, rfl, fun G w vals hT hI hl ha => ?_⟩
      obtain ⟨v, u, rfl, hv, hu⟩ := vals2 hl ha
      obtain rfl := rep_im hu
      obtain rfl := rep_im hv
      obtain ⟨h1, t, fr, rfl⟩ := hb
      have htab : Lib.TabIs Tryd.prog w "internal/strconv.uint64pow10" .u64 Lib.pow10Tab := by
        unfold Lib.TabIs World.var?
        rw [h1]
        simp only [Option.bind_some]
        rw [(hT b _ hT0).1]
      obtain ⟨rfl, h2, h3⟩ := hc
      exact (Tryd.internal_strconv_FormatInt_10 n h2 h3 w htab).mono fun e w' ⟨he, k, os, hw⟩ => ⟨he, hw ▸ Go.Lib.below_grow _ w (Nat.le_refl _) k os⟩
    · cases he
  · cases he
end Go.Proofs.YtfgoedndpcblpaaDoor.Pv
end

section
/- strings.Builder's own: copyCheck, String. -/
namespace Go.Proofs.YtfgoedndpcblpaaDoor.Pv
open Go Go.Proofs Go.RowKit
set_option linter.unusedSimpArgs false
set_option linter.unusedVariables false

theorem sizeBuilder : (Tryd.prog.info? 66).map (·.size) = some 2 := by kernel_rfl
theorem cellsByte : Tryd.prog.cellsOf 5 = 1 := by kernel_rfl
set_option maxHeartbeats 1000000 in
set_option maxRecDepth 100000 in
theorem copyCheck_used (b : Nat) (w : World) (h0 : w.cell? ⟨b, 0, none⟩ = some (.pointer (some ⟨b, 0, none⟩))) :
    Calls Tryd.prog 62 #[.pointer (some ⟨b, 0, none⟩)] w fun e w' => e = .returned (.tuple #[]) ∧ w' = w := by
  obtain ⟨j, hj, _⟩ := Option.map_eq_some_iff.1 sizeBuilder
  go_enter Tryd.func62, Tryd.ntmps62
  go_wp2
  rw [Go.Lib.run_neq_ptr_same w _ Tryd.underlying63 hj]
  go_wp2
  go_end0
  exact ⟨rfl, rfl⟩
set_option maxHeartbeats 1000000 in
set_option maxRecDepth 100000 in
theorem copyCheck_fresh (b : Nat) (w : World) (e : TypeId) (n : Nat) (h0 : w.cell? ⟨b, 0, none⟩ = some (.pointer none)) (hsh : w.shape? b = some (e, n)) (hn : 0 < n) (hlies : liesAt Tryd.prog Tryd.prog.depth e (n / Tryd.prog.cellsOf e) 0 66 1 = true) (hfz : w.frozen? ⟨b, 0, none⟩ = false) :
    Calls Tryd.prog 62 #[.pointer (some ⟨b, 0, none⟩)] w fun e w' => e = .returned (.tuple #[]) ∧ w' = w.setCell ⟨b, 0, none⟩ (.pointer (some ⟨b, 0, none⟩)) := by
  obtain ⟨j, hj, hjs⟩ := Option.map_eq_some_iff.1 sizeBuilder
  go_enter Tryd.func62, Tryd.ntmps62
  go_wp2
  rw [Go.Lib.run_to_unsafe w ⟨b, 0, none⟩ Tryd.underlying63 Tryd.underlying139 hj (by rw [hjs]; decide) hsh hn]
  simp only [Result.andThen]
  rw [Oper.upon_value]
  go_wp2
  rw [run_callFunc_extern Tryd.func72 (by kernel_rfl) (by kernel_rfl) (by kernel_rfl) (e := Extern.AbiNoEscape.same) (by kernel_rfl)]
  rw [Go.Lib.run_noEscape]
  simp only [Result.andThen]
  rw [Oper.upon_value]
  go_wp2
  rw [Go.Lib.run_from_unsafe w ⟨b, 0, none⟩ Tryd.underlying139 Tryd.underlying63 hj hsh hlies]
  simp only [Result.andThen]
  rw [Oper.upon_value]
  go_wp2
  go_end0
  exact ⟨rfl, rfl⟩
def copyH : List PV → Sto → Option (PV × Sto)
  | [.ptr b 0], σ => match σ.bx[b]? with
    | some (.cells (x :: .sl rows tag :: rest)) => match x with
      | .im (.pointer none) => some (.tup [], { σ with bx := σ.bx.set b (.cells (.ptr b 0 :: .sl rows tag :: rest)) })
      | .ptr c 0 => if c = b then some (.tup [], σ) else none
      | _ => none
    | _ => none
  | _, _ => none
theorem copy_fun {T : Base} : FunOk Tryd.prog T 62 copyH := by
  intro args σ r σ' he G w vals hT hI hl ha
  unfold copyH at he
  split at he
  · rename_i σ0 b
    obtain ⟨v, rfl, hv⟩ := vals1 hl ha
    cases hv with
    | ptr hb =>
    rename_i blk
    split at he
    · rename_i x rows tag rest hc
      obtain ⟨ob, h1, hx⟩ := hI.bxc b blk _ hb hc
      cases hx with
      | @cells _ cs t h2 h3 h4 =>
      have hz : 0 < cs.size := by rw [h2]; simp
      have hx0 : Rep G x (cs.getD 0 undef) := h3 0 (by simp)
      have hcell : ∀ v, cs.getD 0 undef = v → w.cell? ⟨blk, 0, none⟩ = some v := by
        intro v e
        unfold World.cell?
        rw [h1]
        show cs[0]? = some v
        rw [← e, Array.getD_eq_getD_getElem?, Array.getElem?_eq_getElem hz]; rfl
      split at he
      · cases he
        have hv0 := rep_im hx0
        have hlies : liesB t cs.size = true := by
          have := h4 rfl
          rw [h2]; exact this
        unfold liesB at hlies
        rw [Bool.and_eq_true] at hlies
        refine (copyCheck_fresh blk w t cs.size (hcell _ hv0) (by unfold World.shape?; rw [h1]) hz hlies.2 (by unfold World.frozen?; rw [h1]; simp)).mono ?_
        rintro e w' ⟨rfl, rfl⟩
        rw [setCell_row h1]
        have hne : ∀ j (h : j < (PV.ptr b 0 :: .sl rows tag :: rest).length), Rep G (PV.ptr b 0 :: .sl rows tag :: rest)[j] ((cs.setIfInBounds 0 (.pointer (some ⟨blk, 0, none⟩))).getD j undef) := by
          intro j hj
          cases j with
          | zero =>
            rw [Array.getD_eq_getD_getElem?, Array.getElem?_setIfInBounds_self_of_lt hz]
            exact .ptr hb
          | succ j =>
            have := h3 (j + 1) hj
            rw [Array.getD_eq_getD_getElem?, Array.getElem?_setIfInBounds_ne (by omega), ← Array.getD_eq_getD_getElem?]
            exact this
        obtain ⟨h5, h6⟩ := hI.setBox (cells' := .ptr b 0 :: .sl rows tag :: rest) hb hc (by simp) (fun hf => by cases hf) (by rw [Array.size_setIfInBounds, h2]; simp) hne
        exact ⟨_, G, rfl, h5, .tup rfl (fun i h => by cases h), h6⟩
      · rename_i c
        split at he
        · rename_i hcb
          subst hcb
          cases he
          have hv0 : cs.getD 0 undef = .pointer (some ⟨blk, 0, none⟩) := by
            generalize hq : cs.getD 0 undef = q at hx0
            cases hx0 with
            | ptr hb' => rw [hb] at hb'; cases hb'; rfl
          refine (copyCheck_used blk w (hcell _ hv0)).mono ?_
          rintro e w' ⟨rfl, rfl⟩
          exact ⟨_, G, rfl, hI, .tup rfl (fun i h => by cases h), .refl _ _⟩
        · cases he
      · cases he
    · cases he
  · cases he

/-! ### String -/
theorem Inv.share {G : Gh} {σ : Sto} {w : World} (h : Inv G σ w) {g n : Nat} {r : Grow} (hr : G.gr[g]? = some r) (hn : n ≤ r.len * r.sz) : Inv G σ (w.freeze ⟨r.blk, 0, none⟩ n) ∧ Later G w G (w.freeze ⟨r.blk, 0, none⟩ n) := by
  obtain ⟨cs, fr, k1, k2, k3, k4, k5⟩ := h.grc g r hr
  have hoth : ∀ k, k ≠ r.blk → (w.freeze ⟨r.blk, 0, none⟩ n).heap[k]? = w.heap[k]? := by
    intro k hk
    unfold World.freeze
    split
    · rfl
    · simp only [Array.getElem?_modify]
      rw [if_neg (Ne.symm hk)]
  have hself : ∃ fr', (w.freeze ⟨r.blk, 0, none⟩ n).heap[r.blk]? = some (.cells cs r.elem fr') ∧ fr'.2 ≤ r.len * r.sz := by
    unfold World.freeze
    split
    · exact ⟨fr, k1, k2⟩
    · simp only [Array.getElem?_modify, if_true, k1, Option.map_some]
      obtain ⟨lo, hi⟩ := fr
      refine ⟨_, rfl, ?_⟩
      split
      · simp only; omega
      · simp only at k2 ⊢; omega
  obtain ⟨fr', e1, e2⟩ := hself
  have hsz : (w.freeze ⟨r.blk, 0, none⟩ n).heap.size = w.heap.size := by
    unfold World.freeze
    split
    · rfl
    · simp
  have hio : (w.freeze ⟨r.blk, 0, none⟩ n).os = w.os ∧ (w.freeze ⟨r.blk, 0, none⟩ n).tape = w.tape ∧ (w.freeze ⟨r.blk, 0, none⟩ n).output = w.output := by
    unfold World.freeze
    split <;> exact ⟨rfl, rfl, rfl⟩
  have hcell : ∀ b o, (w.freeze ⟨r.blk, 0, none⟩ n).cell? ⟨b, o, none⟩ = w.cell? ⟨b, o, none⟩ := by
    intro b o
    unfold World.cell?
    rw [show (⟨b, o, none⟩ : Addr).block = b from rfl]
    by_cases hb : b = r.blk
    · subst hb; rw [e1, k1]
    · rw [hoth b hb]
  refine ⟨⟨fun b o v e => by rw [hcell]; exact h.fz b o v e, h.bxl, fun i blk x e3 e4 => ?_, h.bxf, h.bxn, h.grl, fun g' s e3 => ?_, h.grn, h.grb⟩, ⟨.refl G, by omega, fun b _ hb => hoth b (fun e => hb (.inr ⟨g, r, hr, e.symm⟩)), fun _ e => .inl e, fun _ _ _ e => .inl e, hio⟩⟩
  · obtain ⟨o, h2, h3⟩ := h.bxc i blk x e3 e4
    exact ⟨o, (hoth blk (fun e => h.grb g i blk r hr e3 e.symm)).trans h2, h3⟩
  · by_cases hg : g' = g
    · subst hg
      rw [hr] at e3; cases e3
      exact ⟨cs, fr', e1, e2, k3, k4, k5⟩
    · obtain ⟨cs2, fr2, h2, h3⟩ := h.grc g' s e3
      exact ⟨cs2, fr2, (hoth _ (fun e => hg (h.grn g' g s r e3 hr e))).trans h2, h3⟩
def rowByte : List FV → Option UInt8
  | [.im (.int .u8 n)] => if 0 ≤ n ∧ n < 256 then some (UInt8.ofNat n.toNat) else none
  | _ => none
def rowsByte : List (List FV) → Option (List UInt8)
  | [] => some []
  | x :: xs => match rowByte x, rowsByte xs with
    | some b, some bs => some (b :: bs)
    | _, _ => none
theorem rowsByte_spec : ∀ {rows : List (List FV)} {l : List UInt8}, rowsByte rows = some l → rows = l.map fun b => [.im (.int .u8 b.toNat)]
  | [], l, h => by cases h; rfl
  | x :: xs, l, h => by
    simp only [rowsByte] at h
    split at h
    · rename_i b bs h1 h2
      cases h
      rw [rowsByte_spec h2]
      unfold rowByte at h1
      split at h1
      · rename_i n
        split at h1
        · rename_i hn
          cases h1
          have e : ((UInt8.ofNat n.toNat).toNat : Int) = n := by
            rw [UInt8.toNat_ofNat']
            omega
          simp only [List.map_cons, e]
        · cases h1
      · cases h1
    · cases h
theorem rowsByte_str (s : ByteArray) : rowsByte (strRows s) = some s.data.toList := by
  unfold strRows
  induction s.data.toList with
  | nil => rfl
  | cons b l ih =>
    have hb : rowByte [.im (.int .u8 b.toNat)] = some b := by
      have := b.toNat_lt
      simp only [rowByte]
      rw [if_pos (by omega)]
      congr 1
      apply UInt8.toNat_inj.1
      rw [UInt8.toNat_ofNat']
      have : ((b.toNat : Int)).toNat = b.toNat := by omega
      rw [this]; omega
    simp only [List.map_cons, rowsByte, hb, ih]
set_option maxHeartbeats 2000000 in
set_option maxRecDepth 100000 in
theorem string_calls (b g cap cells : Nat) (l : List UInt8) (w : World) (h0 : l ≠ []) (c0 : w.cell? ⟨b, 1, none⟩ = some (.slice (some ⟨g, 0, none⟩) l.length cap)) (hc : cap ≠ 0) (hsh : w.shape? g = some (5, cells)) (hle : l.length ≤ cells) (h63 : l.length ≤ 9223372036854775807)
    (hcell : ∀ j x, l[j]? = some x → w.cell? ((⟨g, 0, none⟩ : Addr).add j) = some (.int .u8 x.toNat)) :
    Calls Tryd.prog 28 #[.pointer (some ⟨b, 0, none⟩)] w fun e w' => e = .returned (.string ⟨l.toArray⟩) ∧ w' = w.drew.freeze ⟨g, 0, none⟩ l.length := by
  have c1 : w.drew.cell? ⟨b, 1, none⟩ = some (.slice (some ⟨g, 0, none⟩) l.length cap) := c0
  have hSD : (Builtin.unsafeSliceData_ #[64] 103 #[.slice (some ⟨g, 0, none⟩) l.length cap]).run Tryd.prog w.drew = .ok (.pointer (some ⟨g, 0, none⟩)) w.drew :=
    Go.Lib.run_unsafeSliceData_row _ _ _ _ _ _ hc
  have hUS : (Builtin.unsafeString_ #[103, 3] 9 #[.pointer (some ⟨g, 0, none⟩), .int .i64 l.length]).run Tryd.prog w.drew = .ok (.string ⟨l.toArray⟩) (w.drew.freeze ⟨g, 0, none⟩ l.length) :=
    Go.Lib.run_unsafeString_row w.drew 103 3 9 5 Tryd.underlying103 cellsByte g cells hsh l h0 hle h63 hcell
  clear hcell hsh c0
  go_enter Tryd.func28, Tryd.ntmps28
  go_wp2
  go_region
  all_goals (go_wp2; go_ret; exact ⟨rfl, rfl⟩)
def stringH : List PV → Sto → Option (PV × Sto)
  | [.ptr b 0], σ => match σ.bx[b]? with
    | some (.cells (_ :: .sl rows (.grow g) :: _)) => match rowsByte rows with
      | some l => if l ≠ [] ∧ l.length ≤ 9223372036854775807 ∧ σ.gr[g]? = some (l.length, 0) then some (.im (.string (Lx.strOf l)), σ) else none
      | none => none
    | _ => none
  | _, _ => none
theorem string_fun {T : Base} : FunOk Tryd.prog T 28 stringH := by
  intro args σ r σ' he G w vals hT hI hl ha
  unfold stringH at he
  split at he
  · rename_i σ0 b
    obtain ⟨v, rfl, hv⟩ := vals1 hl ha
    cases hv with
    | ptr hb =>
    rename_i blk
    split at he
    · rename_i x rows g rest hc
      split at he
      · rename_i l hrw
        split at he
        · rename_i hcond
          cases he
          obtain ⟨h0, h63, hgr⟩ := hcond
          have hrows := rowsByte_spec hrw
          subst hrows
          obtain ⟨ob, h1, hx⟩ := hI.bxc b blk _ hb hc
          cases hx with
          | @cells _ cs t h2 h3 h4 =>
          have hz : 1 < cs.size := by rw [h2]; simp
          have hx1 : Rep G (.sl (l.map fun b => ([.im (.int .u8 b.toNat)] : List FV)) (.grow g)) (cs.getD 1 undef) := h3 1 (by simp)
          generalize hq : cs.getD 1 undef = q at hx1
          cases hx1 with
          | @sl _ _ a cap hF ht =>
          have hlen : (l.map fun b => ([.im (.int .u8 b.toNat)] : List FV)).length = l.length := by simp
          obtain ⟨rr, hr, hrl, hrc⟩ := ht
          have hcode : (rr.len, rr.code) = (l.length, 0) := by
            have : σ.gr[g]? = some (rr.len, rr.code) := by rw [← hI.grl, List.getElem?_map, hr]; rfl
            rw [hgr] at this; exact (Option.some.inj this).symm
          have hln : rr.len = l.length := congrArg Prod.fst hcode
          have hel : rr.elem = byteT := by
            have h5 : rr.code = 0 := congrArg Prod.snd hcode
            unfold Grow.code at h5
            split at h5
            · assumption
            · exact absurd h5 rr.ok.1
          have hs1 : rr.sz = 1 := rr.ok.2 hel
          obtain ⟨rfl, hcp⟩ := hrc (by rw [hlen, hln])
          obtain ⟨ds, fr, k1, k2, k3, k4, k5⟩ := hI.grc g rr hr
          have hl0 : l.length ≠ 0 := by simpa using h0
          rw [hlen] at hq
          refine (string_calls blk rr.blk cap ds.size l w h0 ?_ (by omega) (by unfold World.shape?; rw [k1, hel]; rfl) (by rw [k3, hs1]; omega) h63 (fun j y hj => ?_)).mono ?_
          · unfold World.cell?
            rw [h1]
            show cs[1]? = _
            rw [← hq, Array.getD_eq_getD_getElem?, Array.getElem?_eq_getElem hz]; rfl
          · have hsz : sized 1 (l.map fun b => ([.im (.int .u8 b.toNat)] : List FV)) = true := by simp [sized]
            obtain ⟨_, _, f, hFl⟩ := hF.flat hsz (by decide)
            have hjl : j < l.length := (List.getElem?_eq_some_iff.1 hj).1
            obtain ⟨b', o', e', k'⟩ := hFl.at_ j (by rw [hlen]; omega)
            cases e'
            have hjm : j < (l.map fun b => ([.im (.int .u8 b.toNat)] : List FV)).length := by rw [hlen]; exact hjl
            have hrow : (l.map fun b => ([.im (.int .u8 b.toNat)] : List FV))[j]'hjm = [.im (.int .u8 y.toNat)] := by
              rw [List.getElem_map, (List.getElem?_eq_some_iff.1 hj).2]
            have hj0 : 0 < ((l.map fun b => ([.im (.int .u8 b.toNat)] : List FV))[j]'hjm).length := by rw [hrow]; exact Nat.one_pos
            have hrp := hFl.rep j hjm 0 hj0
            rw [Nat.mul_one, Nat.add_zero, List.getElem_of_eq hrow] at hrp
            have hrp : RepF G.fz (.im (.int .u8 y.toNat)) (f j) := hrp
            have hf : f j = .int .u8 y.toNat := by
              generalize hq : f j = q at hrp
              cases hrp; rfl
            have := hI.fz _ _ _ k'
            rw [hf] at this
            rw [Addr.add_mid]
            exact this
          · rintro e w' ⟨rfl, rfl⟩
            have hI2 : Inv G σ w.drew := hI.heap rfl
            obtain ⟨h5, h6⟩ := hI2.share hr (n := l.length) (by rw [hs1, hln]; omega)
            exact ⟨_, G, rfl, h5, .im _, (Later.heap (w := w) (w' := w.drew) G rfl ⟨rfl, rfl, rfl⟩).trans h6⟩
        · cases he
      · cases he
    · cases he
  · cases he
end Go.Proofs.YtfgoedndpcblpaaDoor.Pv
end
