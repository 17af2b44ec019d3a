/- InlineLong (second form): procedures that call the next one twice have twice as many statements each; those that are too many are told. Condition: what the arguments read as is together of bulk at most 1048576. -/
import Derived.Test.YtfgoedndpcblpaaGreatDoorCInlineLongUpto4
import Derived.Shelf.Small.Bits
import Derived.Test.YtfgoedndpcblpaaGreatDoorProg
import Derived.Test.YtfgoedndpcblpaaGreatDoorCInlineLongUpto3
import Derived.Test.YtfgoedndpcblpaaGreatDoorCInlineLongUpto2
import Derived.Test.YtfgoedndpcblpaaGreatDoorRows
import Derived.Deep.Slices
import Derived.DataReads
import Derived.ChangeArms
import Derived.Test.YtfgoedndpcblpaaGreatDoorCInlineLongUptoK
import Derived.Test.YtfgoedndpcblpaaGreatDoorCards
import Derived.Test.YtfgoedndpcblpaaGreatDoorTie
import Derived.Test.YtfgoedndpcblpaaGreatDoorCInlineLongUpto1
import Derived.WalkKit
import Derived.ProofKit
import Derived.OpenShut
import Derived.ShutString
import Derived.ChangeOld
import Derived.Below
import Derived.SizedLaws
section
namespace Go.Proofs.YtfgoedndpcblpaaGreatDoor.Pv
open Go Go.Proofs Go.Proofs.YtfgoedndpcblpaaGreatDoor.Lx Go.Proofs.YtfgoedndpcblpaaGreatDoor.Ps
set_option linter.unusedSimpArgs false
set_option linter.unusedVariables false
variable {L : Lib} {σ : Sto}
mutual
theorem callS_len : ∀ s : Ps.St, (callS s).length ≤ stN s + 1
  | .mk op nm e a b i => by
    simp only [callS, stN, List.length_append]
    have h1 := callsL_len a
    have h2 := callsL_len b
    split <;> simp <;> omega
theorem callsL_len : ∀ l : List Ps.St, (callsL l).length ≤ stsN l
  | [] => Nat.le_refl _
  | s :: l => by
    simp only [callsL, stsN, List.length_append]
    have h1 := callS_len s
    have h2 := callsL_len l
    omega
end
theorem callS_l (s : Ps.St) : callS s = (if s.opB = (⟨#[99, 97, 108, 108]⟩ : ByteArray) then [s.nm] else []) ++ (callsL s.a ++ callsL s.b) := by cases s; simp only [callS]; rfl
@[simp] def callsFs : List FuncId := [150, 106]
theorem calls_ok (hl : Free L callsFs) (hg : L 168 = some (growH 1)) : ∀ (n : Nat) (l : List Ps.St), stsN l < n → n ≤ 300000 → ∀ σ, callE (EV Tryz.prog L) 150 [.sl (l.map stR) .unk] σ = some (.sl ((callsL l).map strR) .unk, σ) := by
  intro n
  induction n with
  | zero => intro l h; omega
  | succ n ih =>
    intro l h hn σ
    have hlen := sts_len l
    have hcat := concatStr_ok (L := L) (hl _ (by simp)) hg
    refine call_fn (ids := []) (hl _ (by simp)) Tryz.func150 Tryz.ntmps150 Tryz.results150 (by simp) rfl rfl ⟨_, rfl, by kernel_rfl, ?_⟩
    simp (maxSteps := 1000000) (contextual := true) (implicitDefEqProofs := false) [-decide_eq_true_eq, -decide_eq_false_iff_not, -Bool.not_and, -Bool.not_or, -Bool.and_eq_false_imp, -Int.natCast_add, -setAt, -List.map_take, setAt_eq]
    refine WP.each l (fun rest i s' => ∃ (cs : List ByteArray) (tag : Tag) (gr : List (Nat × Nat)) (junk : List Bx), s'.sto = ⟨junk, gr⟩ ∧ Own 1 gr (cs.map strR) tag ∧ callsL l = cs ++ callsL rest ∧ s'.env 3 = .sl (cs.map strR) tag ∧ s'.env 6 = .sl (l.map stR) .unk ∧ s'.env 7 = int l.length ∧ s'.env 8 = int i) ⟨[], .full, [], [], by simp, .nil, rfl, by simp, by simp, by simp, by simp⟩ ?_ ?_
    · rintro x xs i ⟨env, τ⟩ hx hi hxs ⟨cs, tag, gr, junk, h1, ho, hcs, h2, h3, h4, h5⟩
      simp only at h1 h2 h3 h4 h5
      subst h1
      have hix := row_idx (R := stR) hx (stR_len x)
      have hlt : decide (i < l.length) = true := by simp [hi]
      have hm := sts_mem l x (List.mem_of_getElem? hx)
      have hm' := stN_l x
      have hw : IntKind.wrap .i64 ((i : Int) + 1) = ((i + 1 : Nat) : Int) := wrap_succ (by omega)
      have hA := fun σ => ih x.a (by omega) (by omega) σ
      have hB := fun σ => ih x.b (by omega) (by omega) σ
      have hcl := callsL_len l
      simp only [callsL, callS_l] at hcs
      have hcsl : cs.length + (callsL x.a).length + (callsL x.b).length ≤ stsN l := by
        have := congrArg List.length hcs
        simp only [List.length_append] at this
        omega
      by_cases hop : x.opB = (⟨#[99, 97, 108, 108]⟩ : ByteArray)
      · rw [if_pos hop] at hcs
        obtain ⟨tag1, gr1, ha, ho1, _⟩ := str_snoc (x := x.nm) ho (by omega)
        have hsum : lenS [cs ++ [x.nm], callsL x.a, callsL x.b] ≤ 1000000 := by simp [lenS]; omega
        obtain ⟨bx1, hbx1⟩ : ∃ bx1, bx1 = junk ++ [Bx.cells [str x.opB, str x.nm, .sl (x.e.map exR) .unk, .sl (x.a.map stR) .unk, .sl (x.b.map stR) .unk, int x.pos]] := ⟨_, rfl⟩
        obtain ⟨tag2, more, hc, ho2, _⟩ := hcat [cs ++ [x.nm], callsL x.a, callsL x.b] .full ⟨bx1, gr1⟩ hsum (by simp)
        simp only [strR] at ha
        simp only [hbx1, hop, slR, List.map_append, List.map_cons, List.map_nil, List.flatten_cons, List.flatten_nil, List.append_nil] at hc
        simp (maxSteps := 1000000) (contextual := true) (implicitDefEqProofs := false) [-decide_eq_true_eq, -decide_eq_false_iff_not, -Bool.not_and, -Bool.not_or, -Bool.and_eq_false_imp, -Int.natCast_add, -setAt, -List.map_take, setAt_eq, -List.map_flatten, h2, h3, h4, h5, hlt, hix, hw, stR_l x, hA, hB, hop, ha, hc]
        exact ⟨cs ++ [x.nm] ++ (callsL x.a ++ callsL x.b), tag2, by simpa using ho2, by rw [hcs]; simp [List.append_assoc], by simp, rfl⟩
      · rw [if_neg hop] at hcs
        have hsum : lenS [cs, callsL x.a, callsL x.b] ≤ 1000000 := by simp [lenS]; omega
        obtain ⟨bx1, hbx1⟩ : ∃ bx1, bx1 = junk ++ [Bx.cells [str x.opB, str x.nm, .sl (x.e.map exR) .unk, .sl (x.a.map stR) .unk, .sl (x.b.map stR) .unk, int x.pos]] := ⟨_, rfl⟩
        obtain ⟨tag2, more, hc, ho2, _⟩ := hcat [cs, callsL x.a, callsL x.b] .full ⟨bx1, gr⟩ hsum (by simp)
        simp only [hbx1, slR, List.map_append, List.map_cons, List.map_nil, List.flatten_cons, List.flatten_nil, List.append_nil] at hc
        simp (maxSteps := 1000000) (contextual := true) (implicitDefEqProofs := false) [-decide_eq_true_eq, -decide_eq_false_iff_not, -Bool.not_and, -Bool.not_or, -Bool.and_eq_false_imp, -Int.natCast_add, -setAt, -List.map_take, setAt_eq, -List.map_flatten, h2, h3, h4, h5, hlt, hix, hw, stR_l x, hA, hB, hop, hc]
        exact ⟨cs ++ (callsL x.a ++ callsL x.b), tag2, by simpa using ho2, by rw [hcs]; simp [List.append_assoc], by simp, rfl⟩
    · rintro ⟨env, τ⟩ ⟨cs, tag, gr, junk, h1, ho, hcs, h2, h3, h4, h5⟩
      simp only at h1 h2 h3 h4 h5
      subst h1
      simp only [callsL, List.append_nil] at hcs
      simp (maxSteps := 1000000) (contextual := true) (implicitDefEqProofs := false) [-decide_eq_true_eq, -decide_eq_false_iff_not, -Bool.not_and, -Bool.not_or, -Bool.and_eq_false_imp, -Int.natCast_add, -setAt, -List.map_take, setAt_eq, h2, h3, h4, h5, hcs]
end Go.Proofs.YtfgoedndpcblpaaGreatDoor.Pv
end
section
namespace Go.Proofs.YtfgoedndpcblpaaGreatDoor.Pv
open Go Go.Proofs Go.Proofs.YtfgoedndpcblpaaGreatDoor.Lx Go.Proofs.YtfgoedndpcblpaaGreatDoor.Ps
set_option linter.unusedSimpArgs false
set_option linter.unusedVariables false
variable {L : Lib} {σ : Sto}
def enumFew (e : En) : Bool := decide (1 ≤ e.l.length) && decide (e.l.length ≤ 8)
def varFew (v : Vr) : Bool := decide (0 ≤ v.len) && decide (v.len ≤ 16)
theorem max_le16 (a b c : Nat) : ∃ m : Nat, max2E (int a) (int b) = some (int ((max a b : Nat) : Int)) ∧ max2E (int ((max a b : Nat) : Int)) (int c) = some (int (m : Int)) ∧ decide (m ≤ 16) = (decide (a ≤ 16) && decide (b ≤ 16) && decide (c ≤ 16)) := by
  refine ⟨max (max a b) c, max_nat a b, max_nat _ c, ?_⟩
  rw [Bool.eq_iff_iff]
  simp only [Bool.and_eq_true, decide_eq_true_eq]
  omega
theorem or_and {a b r k : Bool} (h : ((a && b) && r) = k) : ((a && b) = false ∧ k = false) ∨ ((a = true ∧ b = true) ∧ r = k) := by
  subst h
  cases a <;> cases b <;> simp
theorem many_ok (hl : Free L [68]) (p : Pg) (hp : smallP p) : ∀ σ, callE (EV Tryz.prog L) 68 [.agg (pgC p)] σ = some (int (manyF p), σ) := by
  intro σ
  obtain ⟨hle, hlv, hlp⟩ := hp.lens
  obtain ⟨m, hm1, hm2, hm3⟩ := max_le16 p.enums.length p.vars.length p.procs.length
  have hmf : manyF p = if (decide (m ≤ 16) && p.enums.all enumFew && p.vars.all varFew) = true then 0 else 142 := by
    rw [hm3]; rfl
  refine call_fn (ids := []) (hl _ (by simp)) Tryz.func68 Tryz.ntmps68 Tryz.results68 (by simp) rfl rfl ⟨_, rfl, by kernel_rfl, ?_⟩
  simp (maxSteps := 1000000) (contextual := true) (implicitDefEqProofs := false) [-decide_eq_true_eq, -decide_eq_false_iff_not, -Bool.not_and, -Bool.not_or, -Bool.and_eq_false_imp, -Int.natCast_add, -setAt, -List.map_take, setAt_eq, pgC, hm1, hm2]
  refine WP.each p.enums (fun rest i s' => ∃ (junk : List Bx) (bb : Bool), s'.sto = ⟨.cells (pgC p) :: junk, []⟩ ∧ s'.env 1 = .ptr 0 0 ∧ s'.env 3 = boo bb ∧ (bb && rest.all enumFew) = (decide (m ≤ 16) && p.enums.all enumFew) ∧ s'.env 20 = .sl (p.enums.map enR) .unk ∧ s'.env 21 = int p.enums.length ∧ s'.env 22 = int i) ⟨[], decide (m ≤ 16), by simp [pgC], by simp, (by simp; omega), rfl, by simp, by simp, by simp⟩ ?_ ?_
  · rintro x xs i ⟨env, τ⟩ hx hi hxs ⟨junk, bb, h1, h2, h3, h4, h5, h6, h7⟩
    simp only at h1 h2 h3 h5 h6 h7
    subst h1
    have hix := row_idx (R := enR) hx (m := 2) rfl
    have hlt : decide (i < p.enums.length) = true := by simp [hi]
    have hw : IntKind.wrap .i64 ((i : Int) + 1) = ((i + 1 : Nat) : Int) := wrap_succ (by omega)
    simp only [List.all_cons] at h4
    cases bb with
    | false =>
      simp (maxSteps := 1000000) (contextual := true) (implicitDefEqProofs := false) [-decide_eq_true_eq, -decide_eq_false_iff_not, -Bool.not_and, -Bool.not_or, -Bool.and_eq_false_imp, -Int.natCast_add, -setAt, -List.map_take, setAt_eq, pgC, h2, h3, h5, h6, h7, hlt, hix, hw, enR]
      rw [← h4]; rfl
    | true =>
      have hE : enumFew x = (decide (1 ≤ (x.l.length : Int)) && decide ((x.l.length : Int) ≤ 8)) := by
        unfold enumFew; congr 1 <;> (rw [decide_eq_decide]; omega)
      rw [hE] at h4
      simp (maxSteps := 1000000) (contextual := true) (implicitDefEqProofs := false) [-decide_eq_true_eq, -decide_eq_false_iff_not, -Bool.not_and, -Bool.not_or, -Bool.and_eq_false_imp, -Int.natCast_add, -setAt, -List.map_take, setAt_eq, pgC, h2, h3, h5, h6, h7, hlt, hix, hw, enR]
      exact or_and (by rw [Bool.true_and] at h4; exact h4)
  · rintro ⟨env, τ⟩ ⟨junk, bb, h1, h2, h3, h4, h5, h6, h7⟩
    simp only at h1 h2 h3 h5 h6 h7
    subst h1
    simp only [List.all_nil, Bool.and_true] at h4
    subst h4
    simp (maxSteps := 1000000) (contextual := true) (implicitDefEqProofs := false) [-decide_eq_true_eq, -decide_eq_false_iff_not, -Bool.not_and, -Bool.not_or, -Bool.and_eq_false_imp, -Int.natCast_add, -setAt, -List.map_take, setAt_eq, pgC, h2, h3, h5, h6, h7]
    refine WP.each p.vars (fun rest i s' => ∃ (junk : List Bx) (bb : Bool), s'.sto = ⟨.cells (pgC p) :: junk, []⟩ ∧ s'.env 1 = .ptr 0 0 ∧ s'.env 3 = boo bb ∧ (bb && rest.all varFew) = ((decide (m ≤ 16) && p.enums.all enumFew) && p.vars.all varFew) ∧ s'.env 41 = .sl (p.vars.map vrR) .unk ∧ s'.env 42 = int p.vars.length ∧ s'.env 43 = int i) ⟨junk, decide (m ≤ 16) && p.enums.all enumFew, by simp [pgC], by simp [h2], by simp [h3], rfl, by simp, by simp, by simp⟩ ?_ ?_
    · rintro x xs i ⟨env2, τ2⟩ hx hi hxs ⟨junk2, bb, h1, h2, h3, h4, h5, h6, h7⟩
      simp only at h1 h2 h3 h5 h6 h7
      subst h1
      have hix := row_idx (R := vrR) hx (m := 3) rfl
      have hlt : decide (i < p.vars.length) = true := by simp [hi]
      have hw : IntKind.wrap .i64 ((i : Int) + 1) = ((i + 1 : Nat) : Int) := wrap_succ (by omega)
      simp only [List.all_cons] at h4
      cases bb with
      | false =>
        simp (maxSteps := 1000000) (contextual := true) (implicitDefEqProofs := false) [-decide_eq_true_eq, -decide_eq_false_iff_not, -Bool.not_and, -Bool.not_or, -Bool.and_eq_false_imp, -Int.natCast_add, -setAt, -List.map_take, setAt_eq, pgC, h2, h3, h5, h6, h7, hlt, hix, hw, vrR]
        rw [← h4]; rfl
      | true =>
        have hE : varFew x = (decide (0 ≤ x.len) && decide (x.len ≤ 16)) := rfl
        rw [hE] at h4
        simp (maxSteps := 1000000) (contextual := true) (implicitDefEqProofs := false) [-decide_eq_true_eq, -decide_eq_false_iff_not, -Bool.not_and, -Bool.not_or, -Bool.and_eq_false_imp, -Int.natCast_add, -setAt, -List.map_take, setAt_eq, pgC, h2, h3, h5, h6, h7, hlt, hix, hw, vrR]
        exact or_and (by rw [Bool.true_and] at h4; exact h4)
    · rintro ⟨env2, τ2⟩ ⟨junk2, bb, h1, h2, h3, h4, h5, h6, h7⟩
      simp only at h1 h2 h3 h5 h6 h7
      subst h1
      simp only [List.all_nil, Bool.and_true] at h4
      rw [← h4] at hmf
      rw [hmf]
      cases bb with
      | false => simp (maxSteps := 1000000) (contextual := true) (implicitDefEqProofs := false) [-decide_eq_true_eq, -decide_eq_false_iff_not, -Bool.not_and, -Bool.not_or, -Bool.and_eq_false_imp, -Int.natCast_add, -setAt, -List.map_take, setAt_eq, pgC, h2, h3, h5, h6, h7]
      | true => simp (maxSteps := 1000000) (contextual := true) (implicitDefEqProofs := false) [-decide_eq_true_eq, -decide_eq_false_iff_not, -Bool.not_and, -Bool.not_or, -Bool.and_eq_false_imp, -Int.natCast_add, -setAt, -List.map_take, setAt_eq, pgC, h2, h3, h5, h6, h7]
theorem types_ok (hl : Free L [72, 144, 143]) (p : Pg) (hp : smallP p) : ∀ σ, callE (EV Tryz.prog L) 72 [.agg (pgC p)] σ = some (int (varTypesF p), σ) := by
  intro σ
  obtain ⟨hle, hlv, hlp⟩ := hp.lens
  have hc : ∀ (v : Vr) (x : En), callE (EV Tryz.prog L) 144 [.agg ((enR x).map FV.up), .ptr 0 0] ⟨[.cells [str v.name, str v.type, int v.len]], []⟩ = some (boo (decide (x.name = v.type)), ⟨[.cells [str v.name, str v.type, int v.len]], []⟩) := fun v x => by
    refine call_keep (more := [.cells [str x.name, .sl (x.l.map strR) .unk]]) (gr := []) (args' := [.agg [str x.name, .sl (x.l.map strR) .unk], .ptr 0 0]) rfl ⟨rfl, rfl, fun _ _ _ _ => rfl⟩ ⟨[], rfl, fun c h => absurd h (by simp)⟩ rfl rfl rfl ?_
    refine EV_fn (ids := []) (hl _ (by simp)) Tryz.func144 rfl (by kernel_rfl) (by rw [Tryz.ntmps144]; simp) ?_
    rw [Tryz.ntmps144, Tryz.results144]
    simp (maxSteps := 1000000) (contextual := true) (implicitDefEqProofs := false) [-decide_eq_true_eq, -decide_eq_false_iff_not, -Bool.not_and, -Bool.not_or, -Bool.and_eq_false_imp, -Int.natCast_add, -setAt, -List.map_take, setAt_eq]
  have hi := fun (v : Vr) (σ : Sto) (b : Nat) (hb : σ.bx[b]? = some (.cells [str v.name, str v.type, int v.len])) => ixEn_at1 (L := L) (R := enR) (σ := σ) (fun _ => rfl) (hl _ (by simp)) p.enums (by omega) (tag := .unk) (h := fun e => decide (e.name = v.type)) (C := 144) (b := b) hb ⟨rfl, rfl, fun _ _ _ _ => rfl⟩ (by kernel_rfl) (fun x _ => hc v x)
  have hmf : varTypesF p = if p.vars.any (typeBad p) = true then 141 else 0 := rfl
  refine call_fn (ids := []) (hl _ (by simp)) Tryz.func72 Tryz.ntmps72 Tryz.results72 (by simp) rfl rfl ⟨_, rfl, by kernel_rfl, ?_⟩
  simp (maxSteps := 1000000) (contextual := true) (implicitDefEqProofs := false) [-decide_eq_true_eq, -decide_eq_false_iff_not, -Bool.not_and, -Bool.not_or, -Bool.and_eq_false_imp, -Int.natCast_add, -setAt, -List.map_take, setAt_eq, pgC]
  refine WP.each p.vars (fun rest i s' => ∃ (junk : List Bx), s'.sto = ⟨.cells (pgC p) :: junk, []⟩ ∧ s'.env 1 = .ptr 0 0 ∧ rest.any (typeBad p) = p.vars.any (typeBad p) ∧ s'.env 7 = .sl (p.vars.map vrR) .unk ∧ s'.env 8 = int p.vars.length ∧ s'.env 9 = int i) ⟨[], by simp [pgC], by simp, rfl, by simp, by simp, by simp⟩ ?_ ?_
  · rintro x xs i ⟨env, τ⟩ hx hii hxs ⟨junk, h1, h2, h4, h5, h6, h7⟩
    simp only at h1 h2 h5 h6 h7
    subst h1
    have hix := row_idx (R := vrR) hx (m := 3) rfl
    have hlt : decide (i < p.vars.length) = true := by simp [hii]
    have hw : IntKind.wrap .i64 ((i : Int) + 1) = ((i + 1 : Nat) : Int) := wrap_succ (by omega)
    simp only [List.any_cons] at h4
    have hi1 := hi x
    have hen : isEnum p x.type = decide (0 ≤ idxP (fun e : En => decide (e.name = x.type)) p.enums 0) := by
      unfold isEnum
      rw [Bool.eq_iff_iff, decide_eq_true_eq]
      exact (idxP_any (fun e : En => decide (e.name = x.type)) p.enums 0).symm
    generalize idxP (fun e : En => decide (e.name = x.type)) p.enums 0 = k at hi1 hen
    by_cases t1 : x.type = (⟨#[105, 110, 116]⟩ : ByteArray)
    · have hb : typeBad p x = false := by unfold typeBad; simp [t1]
      rw [hb, Bool.false_or] at h4
      simp (maxSteps := 1000000) (contextual := true) (implicitDefEqProofs := false) [-decide_eq_true_eq, -decide_eq_false_iff_not, -Bool.not_and, -Bool.not_or, -Bool.and_eq_false_imp, -Int.natCast_add, -setAt, -List.map_take, setAt_eq, pgC, h2, h5, h6, h7, hlt, hix, hw, vrR, hi1, t1]
      exact h4
    · by_cases t2 : 0 < x.len
      · have hb : typeBad p x = true := by unfold typeBad; simp [t1, t2]
        rw [hb, Bool.true_or] at h4
        have hr : varTypesF p = 141 := by rw [hmf, ← h4]; rfl
        rw [hr]
        simp (maxSteps := 1000000) (contextual := true) (implicitDefEqProofs := false) [-decide_eq_true_eq, -decide_eq_false_iff_not, -Bool.not_and, -Bool.not_or, -Bool.and_eq_false_imp, -Int.natCast_add, -setAt, -List.map_take, setAt_eq, pgC, h2, h5, h6, h7, hlt, hix, hw, vrR, hi1, t1, t2]
      · by_cases t3 : x.type = (⟨#[98, 111, 111, 108]⟩ : ByteArray)
        · have hb : typeBad p x = false := by unfold typeBad; simp [t1, t2, t3]
          rw [hb, Bool.false_or] at h4
          simp (maxSteps := 1000000) (contextual := true) (implicitDefEqProofs := false) [-decide_eq_true_eq, -decide_eq_false_iff_not, -Bool.not_and, -Bool.not_or, -Bool.and_eq_false_imp, -Int.natCast_add, -setAt, -List.map_take, setAt_eq, pgC, h2, h5, h6, h7, hlt, hix, hw, vrR, hi1, t1, t2, t3]
          exact h4
        · by_cases t4 : k < 0
          · have hb : typeBad p x = true := by unfold typeBad; rw [hen]; simp [t1, t2, t3]; omega
            rw [hb, Bool.true_or] at h4
            have hr : varTypesF p = 141 := by rw [hmf, ← h4]; rfl
            rw [hr]
            simp (maxSteps := 1000000) (contextual := true) (implicitDefEqProofs := false) [-decide_eq_true_eq, -decide_eq_false_iff_not, -Bool.not_and, -Bool.not_or, -Bool.and_eq_false_imp, -Int.natCast_add, -setAt, -List.map_take, setAt_eq, pgC, h2, h5, h6, h7, hlt, hix, hw, vrR, hi1, t1, t2, t3, t4]
          · have hb : typeBad p x = false := by unfold typeBad; rw [hen]; simp [t1, t2, t3]; omega
            rw [hb, Bool.false_or] at h4
            simp (maxSteps := 1000000) (contextual := true) (implicitDefEqProofs := false) [-decide_eq_true_eq, -decide_eq_false_iff_not, -Bool.not_and, -Bool.not_or, -Bool.and_eq_false_imp, -Int.natCast_add, -setAt, -List.map_take, setAt_eq, pgC, h2, h5, h6, h7, hlt, hix, hw, vrR, hi1, t1, t2, t3, t4]
            exact h4
  · rintro ⟨env, τ⟩ ⟨junk, h1, h2, h4, h5, h6, h7⟩
    simp only at h1 h2 h5 h6 h7
    subst h1
    simp only [List.any_nil] at h4
    have hr : varTypesF p = 0 := by rw [hmf, ← h4]; rfl
    rw [hr]
    simp (maxSteps := 1000000) (contextual := true) (implicitDefEqProofs := false) [-decide_eq_true_eq, -decide_eq_false_iff_not, -Bool.not_and, -Bool.not_or, -Bool.and_eq_false_imp, -Int.natCast_add, -setAt, -List.map_take, setAt_eq, pgC, h2, h5, h6, h7]
end Go.Proofs.YtfgoedndpcblpaaGreatDoor.Pv
end
section
namespace Go.Proofs.YtfgoedndpcblpaaGreatDoor.Pv
open Go Go.Proofs Go.Proofs.YtfgoedndpcblpaaGreatDoor.Lx Go.Proofs.YtfgoedndpcblpaaGreatDoor.Ps
set_option linter.unusedSimpArgs false
set_option linter.unusedVariables false
variable {L : Lib} {σ : Sto}
theorem bodies_ok (hl : Free L [78]) (p : Pg) (hp : smallP p) : ∀ σ, callE (EV Tryz.prog L) 78 [.agg (pgC p)] σ = some (.sl ((bodiesF p).map (slR stR)) .unk, σ) := by
  intro σ
  obtain ⟨hle, hlv, hlp⟩ := hp.lens
  refine call_fn (ids := []) (hl _ (by simp)) Tryz.func78 Tryz.ntmps78 Tryz.results78 (by simp) rfl rfl ⟨_, rfl, by kernel_rfl, ?_⟩
  simp (maxSteps := 1000000) (contextual := true) (implicitDefEqProofs := false) [-decide_eq_true_eq, -decide_eq_false_iff_not, -Bool.not_and, -Bool.not_or, -Bool.and_eq_false_imp, -Int.natCast_add, -setAt, -List.map_take, setAt_eq, pgC]
  refine WP.each p.procs (fun rest i s' => ∃ (tag : Tag) (gr : List (Nat × Nat)) (junk : List Bx), s'.sto = ⟨.cells (pgC p) :: junk, gr⟩ ∧ Own 1 gr ((p.procs.take i).map fun x => slR stR x.body) tag ∧ s'.env 1 = .ptr 0 0 ∧ s'.env 3 = .sl ((p.procs.take i).map fun x => slR stR x.body) tag ∧ s'.env 7 = .sl (p.procs.map pcR) .unk ∧ s'.env 8 = int p.procs.length ∧ s'.env 9 = int i) ⟨.full, [], [], by simp [pgC], .nil, by simp, by simp, by simp, by simp, by simp⟩ ?_ ?_
  · rintro x xs i ⟨env, τ⟩ hx hi hxs ⟨tag, gr, junk, h1, ho, h2, h3, h4, h5, h6⟩
    simp only at h1 h2 h3 h4 h5 h6
    subst h1
    have hix := row_idx (R := pcR) hx (m := 2) rfl
    have hlt : decide (i < p.procs.length) = true := by simp [hi]
    have hw : IntKind.wrap .i64 ((i : Int) + 1) = ((i + 1 : Nat) : Int) := wrap_succ (by omega)
    obtain ⟨tag', gr', ha, ho', _⟩ := own_snoc (R := fun x : Pc => slR stR x.body) (m := 1) (b := 24) hx hi (fun _ => rfl) ho (by omega)
    simp only [slR] at ha
    simp (maxSteps := 1000000) (contextual := true) (implicitDefEqProofs := false) [-decide_eq_true_eq, -decide_eq_false_iff_not, -Bool.not_and, -Bool.not_or, -Bool.and_eq_false_imp, -Int.natCast_add, -setAt, -List.map_take, setAt_eq, pgC, h2, h3, h4, h5, h6, hlt, hix, hw, pcR, stRs_map, slR, ha]
    exact ho'
  · rintro ⟨env, τ⟩ ⟨tag, gr, junk, h1, ho, h2, h3, h4, h5, h6⟩
    simp only at h1 h2 h3 h4 h5 h6
    subst h1
    rw [List.take_length] at ho h3
    obtain ⟨tag', gr', ha, _, _⟩ := app_own2 (b := 24) (xs := [slR stR p.main]) ho (sized_map (fun _ => rfl)) rfl (by simp; omega) (by simp)
    simp only [slR] at ha
    simp (maxSteps := 1000000) (contextual := true) (implicitDefEqProofs := false) [-decide_eq_true_eq, -decide_eq_false_iff_not, -Bool.not_and, -Bool.not_or, -Bool.and_eq_false_imp, -Int.natCast_add, -setAt, -List.map_take, setAt_eq, pgC, h2, h3, h4, h5, h6, stRs_map, slR, ha]
    unfold bodiesF
    rw [List.map_append, List.map_map]
    rfl
end Go.Proofs.YtfgoedndpcblpaaGreatDoor.Pv
end
section
namespace Go.Proofs
open Go.Shelf
def Tryz.lays125_ren : Go.Shelf.Ren := ⟨fun | 125 => 87 | 128 => 153 | 129 => 154 | n => n, fun | 46 => 136 | 3 => 3 | 51 => 204 | 53 => 206 | 4 => 4 | 5 => 5 | 9 => 9 | n => n, fun | n => n⟩
theorem Tryz.lays125 : Go.Proofs.Lays.n125 Tryz.prog Tryz.lays125_ren := {
  mixed := by kernel_rfl
  f125 := Tryz.func87.trans (congrArg some (by kernel_rfl))
  f128 := Tryz.func153.trans (congrArg some (by kernel_rfl))
  f129 := Tryz.func154.trans (congrArg some (by kernel_rfl))
  t3 := Tryz.underlying3
  a3 := Tryz.isAgg3
  z3 := Tryz.sizeOf3
  v3 := Tryz.zeroValue3
  t4 := Tryz.underlying4
  a4 := Tryz.isAgg4
  z4 := Tryz.sizeOf4
  v4 := Tryz.zeroValue4
  t5 := Tryz.underlying5
  a5 := Tryz.isAgg5
  z5 := Tryz.sizeOf5
  v5 := Tryz.zeroValue5
  t9 := Tryz.underlying9
  a9 := Tryz.isAgg9
  z9 := Tryz.sizeOf9
  v9 := Tryz.zeroValue9
  t46 := Tryz.underlying136
  a46 := Tryz.isAgg136
  z46 := Tryz.sizeOf136
  v46 := Tryz.zeroValue136
  t51 := Tryz.underlying204
  a51 := Tryz.isAgg204
  z51 := Tryz.sizeOf204
  v51 := Tryz.zeroValue204
  t53 := Tryz.underlying206
  a53 := Tryz.isAgg206
  z53 := Tryz.sizeOf206
  v53 := Tryz.zeroValue206 }
theorem Tryz.bits_Len (x : Int) (w : World) (h0 : 0 ≤ x) (h1 : x ≤ 18446744073709551615) :
    Calls Tryz.prog 87 #[.int .u64 x] w fun e w' => e = .returned (.int .i64 (Lib.bitLen x.toNat)) ∧ w' = w := Any.bits_Len Tryz.lays125 x w h0 h1
end Go.Proofs
end
section
namespace Go.Proofs.YtfgoedndpcblpaaGreatDoor.Pv
open Go Go.Proofs Go.Proofs.YtfgoedndpcblpaaGreatDoor.Lx Go.Proofs.YtfgoedndpcblpaaGreatDoor.Ps
set_option linter.unusedSimpArgs false
set_option linter.unusedVariables false
variable {L : Lib} {σ : Sto}
def bitLenH : List PV → Sto → Option (PV × Sto)
  | [.im (.int .u64 x)], σ => if 0 ≤ x ∧ x ≤ 18446744073709551615 then some (int (Go.Lib.bitLen x.toNat), σ) else none
  | _, _ => none
theorem bitLen_fun {T : Base} : FunOk Tryz.prog T 87 bitLenH := by
  intro args σ r σ' he G w vals hT hI hl ha
  unfold bitLenH at he
  split at he
  · rename_i x
    obtain ⟨v, rfl, hv⟩ := vals1 hl ha
    cases hv
    split at he
    · rename_i hx
      cases he
      refine (Tryz.bits_Len x w hx.1 hx.2).mono ?_
      rintro e w' ⟨rfl, rfl⟩
      exact ⟨_, G, rfl, hI, .im _, .refl _ _⟩
    · cases he
  · cases he
theorem bitLenAux_log : ∀ (f x : Nat), x < 2 ^ f → Go.Lib.bitLenAux f x = bitsN x
  | 0, x, h => by
    have : x = 0 := by simpa using h
    subst this; rfl
  | f + 1, x, h => by
    simp only [Go.Lib.bitLenAux]
    by_cases h0 : x = 0
    · rw [if_pos h0, h0]; rfl
    · rw [if_neg h0, bitLenAux_log f (x / 2) (by rw [Nat.pow_succ] at h; omega)]
      unfold bitsN
      rw [if_neg h0]
      by_cases h1 : x / 2 = 0
      · have : x = 1 := by omega
        subst this; rfl
      · rw [if_neg h1, Nat.log2_def x, if_pos (by omega)]; omega
theorem bitLen_log (x : Nat) (h : x ≤ 18446744073709551615) : Go.Lib.bitLen x = bitsN x := bitLenAux_log 64 x (by omega)
theorem Wide_ok (hl : Free L [31]) (hb : L 87 = some bitLenH) (n : Int) (h1 : -9223372036854775808 ≤ n) (h2 : n ≤ 9223372036854775807) : ∀ σ, callE (EV Tryz.prog L) 31 [int n] σ = some (int (wideF n : Nat), σ) := by
  intro σ
  obtain ⟨k, hk, hk2⟩ : ∃ k : Nat, max n 1 - 1 = k ∧ k ≤ 9223372036854775806 := ⟨(max n 1 - 1).toNat, by omega, by omega⟩
  have hc : ∀ σ, callE (EV Tryz.prog L) 87 [.im (.int .u64 k)] σ = some (int (bitsN k : Nat), σ) := fun σ => by
    refine call_lib hb rfl (r := int (bitsN k : Nat)) (σ1 := ⟨[], []⟩) ?_ rfl
    show (if (0 : Int) ≤ (k : Int) ∧ (k : Int) ≤ 18446744073709551615 then some (int (Go.Lib.bitLen (k : Int).toNat), (⟨[], []⟩ : Sto)) else none) = _
    rw [if_pos ⟨by omega, by omega⟩, Int.toNat_natCast, bitLen_log k (by omega)]
  have hm : max2E (int n) (int 1) = some (int (max n 1)) := by
    show some (int (if n < 1 then (1 : Int) else n)) = _
    by_cases h : n < 1
    · rw [if_pos h]; congr 2; omega
    · rw [if_neg h]; congr 2; omega
  have hw : IntKind.wrap .i64 (max n 1 - 1) = (k : Int) := by rw [hk, wrap_of (by omega)]
  have hwu : IntKind.wrap .u64 (k : Int) = (k : Int) := by
    simp only [IntKind.wrap, IntKind.signed, IntKind.bits, Bool.false_and]
    simp
    omega
  have hwf : wideF n = bitsN k := by unfold wideF; rw [hk, Int.toNat_natCast]
  rw [hwf]
  refine call_fn (ids := []) (hl _ (by simp)) Tryz.func31 Tryz.ntmps31 Tryz.results31 (by simp) rfl rfl ⟨_, rfl, by kernel_rfl, ?_⟩
  simp (maxSteps := 1000000) (contextual := true) (implicitDefEqProofs := false) [-decide_eq_true_eq, -decide_eq_false_iff_not, -Bool.not_and, -Bool.not_or, -Bool.and_eq_false_imp, -Int.natCast_add, -setAt, -List.map_take, setAt_eq, hm, hw, hwu, hc]
end Go.Proofs.YtfgoedndpcblpaaGreatDoor.Pv
end
section
namespace Go.Proofs.YtfgoedndpcblpaaGreatDoor.Pv
open Go Go.Proofs Go.Proofs.YtfgoedndpcblpaaGreatDoor.Lx Go.Proofs.YtfgoedndpcblpaaGreatDoor.Ps
set_option linter.unusedSimpArgs false
set_option linter.unusedVariables false
variable {L : Lib} {σ : Sto}
def cvR (v : CV) : List FV := [.im (.string v.name), .im (.int .i64 v.kind), .im (.int .i64 v.pos), .im (.int .i64 v.wide), .im (.int .i64 v.many), .im (.string v.of)]
def ciC (i : CI) : List PV := [.sl (i.vars.map cvR) .unk, int i.bits, int i.ints, int i.arrays]
theorem log2_lt {n k : Nat} (h : n < 2 ^ k) (hk : 0 < k) : bitsN n ≤ k := by
  unfold bitsN
  split
  · omega
  · rename_i h0
    exact (Nat.log2_lt h0).2 h
def TypesOk (p : Pg) : Prop := ∀ v ∈ p.vars, typeBad p v = false
theorem typesOk_of {p : Pg} (h : varTypesF p = 0) : TypesOk p := by
  intro v hv
  unfold varTypesF at h
  cases hq : typeBad p v with
  | false => rfl
  | true => rw [if_pos (List.any_eq_true.2 ⟨v, hv, hq⟩)] at h; cases h
@[simp] def laidFs : List FuncId := [83, 152, 31, 143]
set_option maxHeartbeats 4000000 in
theorem laid_ok (hl : Free L laidFs) (hb : L 87 = some bitLenH) (p : Pg) (hp : smallP p) (ht : TypesOk p) : ∀ σ, callE (EV Tryz.prog L) 83 [.agg (pgC p)] σ = some (.agg (ciC (laidF p)), σ) := by
  intro σ
  obtain ⟨hle, hlv, hlp⟩ := hp.lens
  have hse : ∀ e ∈ p.enums, e.l.length < 274877906944 := fun e h => by
    have := sum_mem (fun e : En => e.l.length) p.enums e h
    unfold smallP bulkP at hp; omega
  have hc : ∀ (v : Vr) (x : En), callE (EV Tryz.prog L) 152 [.agg ((enR x).map FV.up), .ptr 0 0] ⟨[.cells [str v.name, str v.type, int v.len]], []⟩ = some (boo (decide (x.name = v.type)), ⟨[.cells [str v.name, str v.type, int v.len]], []⟩) := fun v x => by
    refine call_keep (more := [.cells [str x.name, .sl (x.l.map strR) .unk]]) (gr := []) (args' := [.agg [str x.name, .sl (x.l.map strR) .unk], .ptr 0 0]) rfl ⟨rfl, rfl, fun _ _ _ _ => rfl⟩ ⟨[], rfl, fun c h => absurd h (by simp)⟩ rfl rfl rfl ?_
    refine EV_fn (ids := []) (hl _ (by simp)) Tryz.func152 rfl (by kernel_rfl) (by rw [Tryz.ntmps152]; simp) ?_
    rw [Tryz.ntmps152, Tryz.results152]
    simp (maxSteps := 1000000) (contextual := true) (implicitDefEqProofs := false) [-decide_eq_true_eq, -decide_eq_false_iff_not, -Bool.not_and, -Bool.not_or, -Bool.and_eq_false_imp, -Int.natCast_add, -setAt, -List.map_take, setAt_eq]
  have hi := fun (v : Vr) (σ : Sto) (b : Nat) (hb : σ.bx[b]? = some (.cells [str v.name, str v.type, int v.len])) => ixEn_at1 (L := L) (R := enR) (σ := σ) (fun _ => rfl) (hl _ (by simp)) p.enums (by omega) (tag := .unk) (h := fun e => decide (e.name = v.type)) (C := 152) (b := b) hb ⟨rfl, rfl, fun _ _ _ _ => rfl⟩ (by kernel_rfl) (fun x _ => hc v x)
  refine call_fn (ids := [7, 10, 14, 16]) (hl _ (by simp)) Tryz.func83 Tryz.ntmps83 Tryz.results83 (by simp) rfl rfl ⟨_, rfl, by kernel_rfl, ?_⟩
  simp (maxSteps := 1000000) (contextual := true) (implicitDefEqProofs := false) [-decide_eq_true_eq, -decide_eq_false_iff_not, -Bool.not_and, -Bool.not_or, -Bool.and_eq_false_imp, -Int.natCast_add, -setAt, -List.map_take, setAt_eq, pgC]
  refine WP.each p.vars (fun rest j s' => ∃ (c : CI) (tag : Tag) (gr : List (Nat × Nat)) (junk : List Bx), s'.sto = ⟨.cells (pgC p) :: .cells [.sl [] .full, int 0, int 0, int 0] :: .cells [.sl (c.vars.map cvR) tag, int c.bits, int c.ints, int c.arrays] :: junk, gr⟩ ∧ Own 6 gr (c.vars.map cvR) tag ∧ laidS p rest c = laidF p ∧ c.vars.length = j ∧ (0 ≤ c.bits ∧ c.bits ≤ 64 * j) ∧ (0 ≤ c.ints ∧ c.ints ≤ j) ∧ (0 ≤ c.arrays ∧ c.arrays ≤ j) ∧ s'.env 1 = .ptr 0 0 ∧ s'.env 2 = .ptr 1 0 ∧ s'.env 3 = .ptr 2 0 ∧ s'.env 9 = .sl (p.vars.map vrR) .unk ∧ s'.env 10 = int p.vars.length ∧ s'.env 11 = int j) ⟨zCI, .full, [], [], by simp [pgC, zCI], .nil, rfl, rfl, by simp [zCI], by simp [zCI], by simp [zCI], by simp, by simp, by simp, by simp, by simp, by simp⟩ ?_ ?_
  · rintro x xs i ⟨env, τ⟩ hx hii hxs ⟨⟨cv, cb, ci, ca⟩, tag, gr, junk, h1, ho, hld, hcl, ⟨hb0, hb1⟩, ⟨hi0, hi1⟩, ⟨ha0, ha1⟩, h2, h3, h4, h5, h6, h7⟩
    simp only at h1 h2 h3 h4 h5 h6 h7 ho hcl hb0 hb1 hi0 hi1 ha0 ha1
    subst h1
    have hix := row_idx (R := vrR) hx (m := 3) rfl
    have hlt : decide (i < p.vars.length) = true := by simp [hii]
    have hw : IntKind.wrap .i64 ((i : Int) + 1) = ((i + 1 : Nat) : Int) := wrap_succ (by omega)
    have hw1 : IntKind.wrap .i64 (ca + 1) = ca + 1 := wrap_of (by omega)
    have hw2 : IntKind.wrap .i64 (ci + 1) = ci + 1 := wrap_of (by omega)
    have hw3 : IntKind.wrap .i64 cb = cb := wrap_of (by omega)
    have hw4 : IntKind.wrap .i64 (cb + 1) = cb + 1 := wrap_of (by omega)
    have hi1' := hi x
    have htb := ht x (List.mem_of_getElem? hx)
    simp only [laidS] at hld
    have hown : ∀ y : CV, ∃ tag' gr', (∀ bx, appL 6 64 ⟨bx, gr⟩ (cv.map cvR) tag [cvR y] = some (.sl ((cv ++ [y]).map cvR) tag', ⟨bx, gr'⟩)) ∧ Own 6 gr' ((cv ++ [y]).map cvR) tag' := fun y => by
      obtain ⟨tag', gr', k2, k3, _⟩ := app_own2 (b := 64) (xs := [cvR y]) ho (sized_map (fun _ => rfl)) rfl (by simp; omega) (by simp)
      rw [List.map_append]
      exact ⟨tag', gr', k2, k3⟩
    have q1 : ((2 : Nat) = junk.length + 1 + 1 + 1 + 1) = False := by simp
    have q2 : (junk.length + 1 + 1 + 1 = junk.length + 1 + 1 + 1 + 1) = False := by simp
    have q3 : ((0 : Nat) = junk.length + 1 + 1 + 1 + 1) = False := by simp
    by_cases t0 : 0 < x.len
    · have e1 : laidV p ⟨cv, cb, ci, ca⟩ x = (⟨cv, cb, ci, ca + 1⟩, ⟨x.name, 3, ca, 0, x.len, x.type⟩) := by unfold laidV; rw [if_pos t0]
      rw [e1] at hld
      obtain ⟨tag', gr', ha, ho'⟩ := hown ⟨x.name, 3, ca, 0, x.len, x.type⟩
      simp only [cvR] at ha
      simp (maxSteps := 1000000) (contextual := true) (implicitDefEqProofs := false) [-decide_eq_true_eq, -decide_eq_false_iff_not, -Bool.not_and, -Bool.not_or, -Bool.and_eq_false_imp, -Int.natCast_add, -setAt, -List.map_take, setAt_eq, pgC, h2, h3, h4, h5, h6, h7, hlt, hix, hw, vrR, hi1', t0, hw1, hw3, ha]
      refine ⟨orderOk_ren (fun n => if n = junk.length + 1 + 1 + 1 + 1 then 1 else 0) ?_, ?_⟩
      · simp only [List.map_cons, List.map_nil, Cls.ren, q1, q2, q3, if_true, if_false]
        decide
      exact ⟨⟨cv ++ [⟨x.name, 3, ca, 0, x.len, x.type⟩], cb, ci, ca + 1⟩, tag', gr', ⟨⟨⟨by rw [List.map_append]; rfl, rfl⟩, rfl, rfl, rfl⟩, rfl⟩, ho', hld, by simp [hcl], ⟨by dsimp only; omega, by dsimp only; omega⟩, ⟨by dsimp only; omega, by dsimp only; omega⟩, by dsimp only; omega, by dsimp only; omega⟩
    · by_cases t1 : x.type = (⟨#[105, 110, 116]⟩ : ByteArray)
      · have e1 : laidV p ⟨cv, cb, ci, ca⟩ x = (⟨cv, cb, ci + 1, ca⟩, ⟨x.name, 2, ci + 1, 0, 0, x.type⟩) := by unfold laidV; rw [if_neg t0, if_pos t1]
        rw [e1] at hld
        obtain ⟨tag', gr', ha, ho'⟩ := hown ⟨x.name, 2, ci + 1, 0, 0, x.type⟩
        simp only [cvR, t1] at ha
        simp (maxSteps := 1000000) (contextual := true) (implicitDefEqProofs := false) [-decide_eq_true_eq, -decide_eq_false_iff_not, -Bool.not_and, -Bool.not_or, -Bool.and_eq_false_imp, -Int.natCast_add, -setAt, -List.map_take, setAt_eq, pgC, h2, h3, h4, h5, h6, h7, hlt, hix, hw, vrR, hi1', t0, t1, hw2, hw3, ha]
        refine ⟨orderOk_ren (fun n => if n = junk.length + 1 + 1 + 1 + 1 then 1 else 0) ?_, ?_⟩
        · simp only [List.map_cons, List.map_nil, Cls.ren, q1, q2, q3, if_true, if_false]
          decide
        exact ⟨⟨cv ++ [⟨x.name, 2, ci + 1, 0, 0, x.type⟩], cb, ci + 1, ca⟩, tag', gr', ⟨⟨⟨by rw [List.map_append]; simp [cvR, t1], rfl⟩, rfl, rfl, rfl⟩, rfl⟩, ho', hld, by simp [hcl], ⟨by dsimp only; omega, by dsimp only; omega⟩, ⟨by dsimp only; omega, by dsimp only; omega⟩, by dsimp only; omega, by dsimp only; omega⟩
      · by_cases t2 : x.type = (⟨#[98, 111, 111, 108]⟩ : ByteArray)
        · have e1 : laidV p ⟨cv, cb, ci, ca⟩ x = (⟨cv, cb + 1, ci, ca⟩, ⟨x.name, 0, cb, 1, 2, x.type⟩) := by unfold laidV; rw [if_neg t0, if_neg t1, if_pos t2]
          rw [e1] at hld
          obtain ⟨tag', gr', ha, ho'⟩ := hown ⟨x.name, 0, cb, 1, 2, x.type⟩
          simp only [cvR, t2] at ha
          simp (maxSteps := 1000000) (contextual := true) (implicitDefEqProofs := false) [-decide_eq_true_eq, -decide_eq_false_iff_not, -Bool.not_and, -Bool.not_or, -Bool.and_eq_false_imp, -Int.natCast_add, -setAt, -List.map_take, setAt_eq, pgC, h2, h3, h4, h5, h6, h7, hlt, hix, hw, vrR, hi1', t0, t1, t2, hw4, ha]
          refine ⟨orderOk_ren (fun n => if n = junk.length + 1 + 1 + 1 + 1 then 1 else 0) ?_, ?_⟩
          · simp only [List.map_cons, List.map_nil, Cls.ren, q1, q2, q3, if_true, if_false]
            decide
          exact ⟨⟨cv ++ [⟨x.name, 0, cb, 1, 2, x.type⟩], cb + 1, ci, ca⟩, tag', gr', ⟨⟨⟨by rw [List.map_append]; simp [cvR, t2], rfl⟩, rfl, rfl, rfl⟩, rfl⟩, ho', hld, by simp [hcl], ⟨by dsimp only; omega, by dsimp only; omega⟩, ⟨by dsimp only; omega, by dsimp only; omega⟩, by dsimp only; omega, by dsimp only; omega⟩
        · rcases idxP_find (fun e : En => decide (e.name = x.type)) p.enums 0 with ⟨k, e, k1, k2, k3⟩ | ⟨k1, k2⟩
          · rw [Nat.zero_add] at k1
            rw [k1] at hi1'
            have hel := hse e (List.mem_of_getElem? k2)
            have e1 : laidV p ⟨cv, cb, ci, ca⟩ x = (⟨cv, cb + wideF e.l.length, ci, ca⟩, ⟨x.name, 1, cb, wideF e.l.length, e.l.length, x.type⟩) := by unfold laidV; rw [if_neg t0, if_neg t1, if_neg t2, k3]
            rw [e1] at hld
            have hwd := fun σ => Wide_ok (L := L) (hl.sub (by simp)) hb e.l.length (by omega) (by omega) σ
            have hwl : wideF e.l.length ≤ 64 := by
              unfold wideF
              exact log2_lt (by have : (max (e.l.length : Int) 1 - 1).toNat ≤ e.l.length := by omega
                                omega) (by omega)
            have hie := row_idx (R := enR) k2 (m := 2) rfl
            have hw5 : IntKind.wrap .i64 (cb + (wideF e.l.length : Nat)) = cb + (wideF e.l.length : Nat) := wrap_of (by omega)
            obtain ⟨tag', gr', ha, ho'⟩ := hown ⟨x.name, 1, cb, wideF e.l.length, e.l.length, x.type⟩
            simp only [cvR] at ha
            simp (maxSteps := 1000000) (contextual := true) (implicitDefEqProofs := false) [-decide_eq_true_eq, -decide_eq_false_iff_not, -Bool.not_and, -Bool.not_or, -Bool.and_eq_false_imp, -Int.natCast_add, -setAt, -List.map_take, setAt_eq, pgC, h2, h3, h4, h5, h6, h7, hlt, hix, hw, vrR, hi1', t0, t1, t2, hie, enR, hwd, hw5, ha]
            refine ⟨orderOk_ren (fun n => if n = junk.length + 1 + 1 + 1 + 1 then 1 else 0) ?_, ?_⟩
            · simp only [List.map_cons, List.map_nil, Cls.ren, q1, q2, q3, if_true, if_false]
              decide
            exact ⟨⟨cv ++ [⟨x.name, 1, cb, wideF e.l.length, e.l.length, x.type⟩], cb + wideF e.l.length, ci, ca⟩, tag', gr', ⟨⟨⟨by rw [List.map_append]; rfl, rfl⟩, rfl, rfl, rfl⟩, rfl⟩, ho', hld, by simp [hcl], ⟨by dsimp only; omega, by dsimp only; omega⟩, ⟨by dsimp only; omega, by dsimp only; omega⟩, by dsimp only; omega, by dsimp only; omega⟩
          · exfalso
            unfold typeBad isEnum at htb
            have hany : (p.enums.any fun e => decide (e.name = x.type)) = false := by
              cases hq : p.enums.any fun e => decide (e.name = x.type) with
              | false => rfl
              | true =>
                have := (idxP_any (fun e : En => decide (e.name = x.type)) p.enums 0).2 hq
                omega
            rw [hany] at htb
            simp [t1, t2] at htb
  · rintro ⟨env, τ⟩ ⟨c, tag, gr, junk, h1, ho, hld, hcl, hcb, hci, hca, h2, h3, h4, h5, h6, h7⟩
    simp only at h1 h2 h3 h4 h5 h6 h7
    subst h1
    simp only [laidS] at hld
    rw [← hld]
    simp (maxSteps := 1000000) (contextual := true) (implicitDefEqProofs := false) [-decide_eq_true_eq, -decide_eq_false_iff_not, -Bool.not_and, -Bool.not_or, -Bool.and_eq_false_imp, -Int.natCast_add, -setAt, -List.map_take, setAt_eq, pgC, h2, h3, h4, h5, h6, h7, ciC]
end Go.Proofs.YtfgoedndpcblpaaGreatDoor.Pv
end
section
namespace Go.Proofs.YtfgoedndpcblpaaGreatDoor.Pv
open Go Go.Proofs Go.Proofs.YtfgoedndpcblpaaGreatDoor.Lx Go.Proofs.YtfgoedndpcblpaaGreatDoor.Ps
set_option linter.unusedSimpArgs false
set_option linter.unusedVariables false
variable {L : Lib} {σ : Sto}
theorem deepS_l (x : Ps.St) : deepS x = (x.e.all (fun x => decide (deepE x ≤ 16)) && deepL x.a && deepL x.b) := by cases x; simp only [deepS]; rfl
theorem deepL_all (l : List Ps.St) : deepL l = l.all deepS := by
  induction l with
  | nil => rfl
  | cons x xs ih => simp only [deepL, List.all_cons, ih]
theorem any_all {α : Type} (f : α → Bool) (l : List α) : (l.any fun x => !f x) = !(l.all f) := by
  induction l with
  | nil => rfl
  | cons x xs ih => simp only [List.any_cons, List.all_cons, ih, Bool.not_and]
@[simp] def deepFs : List FuncId := [190, 146, 187, 189, 186, 227, 188, 228]
theorem deep_ok (hl : Free L deepFs) : ∀ (n : Nat) (l : List Ps.St), stsN l < n → n < 274877906944 → ∀ σ, callE (EV Tryz.prog L) 146 [.sl (l.map stR) .unk] σ = some (boo (deepL l), σ) := by
  intro n
  induction n with
  | zero => intro l h; omega
  | succ n ih =>
    intro l h hn σ
    have hlen := sts_len l
    have hf : ∀ x ∈ l, callE (EV Tryz.prog L) 187 [.agg ((stR x).map FV.up)] ⟨[], []⟩ = some (boo (!deepS x), ⟨[], []⟩) := by
      intro x hx
      have hm := sts_mem l x hx
      have hm' := stN_l x
      have hA := fun σ => ih x.a (by omega) (by omega) σ
      have hB := fun σ => ih x.b (by omega) (by omega) σ
      have hel := exs_len x.e
      have he : ∀ e ∈ x.e, callE (EV Tryz.prog L) 189 [.agg ((exR e).map FV.up)] ⟨[], []⟩ = some (boo (!decide (deepE e ≤ 16)), ⟨[], []⟩) := by
        intro e hee
        have hme := exs_mem x.e e hee
        have hd := fun σ => Deep_ok (L := L) (hl.sub (by simp)) (exN e + 1) e (by omega) (by omega) σ
        simp only [exC_l] at hd
        have hdd : decide (((deepE e : Nat) : Int) > 16) = !decide (deepE e ≤ 16) := by
          rw [Bool.eq_iff_iff]; simp; omega
        rw [exR_l]
        simp only [List.map_cons, List.map_nil, FV.up]
        refine call_fn (ids := []) (hl _ (by simp)) Tryz.func189 Tryz.ntmps189 Tryz.results189 (by simp) rfl rfl ⟨_, rfl, by kernel_rfl, ?_⟩
        simp (maxSteps := 1000000) (contextual := true) (implicitDefEqProofs := false) [-decide_eq_true_eq, -decide_eq_false_iff_not, -Bool.not_and, -Bool.not_or, -Bool.and_eq_false_imp, -Int.natCast_add, -setAt, -List.map_take, setAt_eq, hd, hdd]
      have hce := fun σ => cfEx_at0 (L := L) (R := exR) (σ := σ) exR_len (hl.sub (by simp)) x.e (by omega) (tag := .unk) (h := fun e => !decide (deepE e ≤ 16)) (C := 189) (by kernel_rfl) he
      simp only [any_all] at hce
      rw [deepS_l, stR_l]
      simp only [List.map_cons, List.map_nil, FV.up]
      generalize (x.e.all fun e => decide (deepE e ≤ 16)) = q at *
      cases q with
      | false =>
        refine call_fn (ids := []) (hl _ (by simp)) Tryz.func187 Tryz.ntmps187 Tryz.results187 (by simp) rfl rfl ⟨_, rfl, by kernel_rfl, ?_⟩
        simp (maxSteps := 1000000) (contextual := true) (implicitDefEqProofs := false) [-decide_eq_true_eq, -decide_eq_false_iff_not, -Bool.not_and, -Bool.not_or, -Bool.and_eq_false_imp, -Int.natCast_add, -setAt, -List.map_take, setAt_eq, hce]
      | true =>
        cases ha : deepL x.a with
        | false =>
          rw [ha] at hA
          refine call_fn (ids := []) (hl _ (by simp)) Tryz.func187 Tryz.ntmps187 Tryz.results187 (by simp) rfl rfl ⟨_, rfl, by kernel_rfl, ?_⟩
          simp (maxSteps := 1000000) (contextual := true) (implicitDefEqProofs := false) [-decide_eq_true_eq, -decide_eq_false_iff_not, -Bool.not_and, -Bool.not_or, -Bool.and_eq_false_imp, -Int.natCast_add, -setAt, -List.map_take, setAt_eq, hce, hA]
        | true =>
          rw [ha] at hA
          cases hb : deepL x.b with
          | false =>
            rw [hb] at hB
            refine call_fn (ids := []) (hl _ (by simp)) Tryz.func187 Tryz.ntmps187 Tryz.results187 (by simp) rfl rfl ⟨_, rfl, by kernel_rfl, ?_⟩
            simp (maxSteps := 1000000) (contextual := true) (implicitDefEqProofs := false) [-decide_eq_true_eq, -decide_eq_false_iff_not, -Bool.not_and, -Bool.not_or, -Bool.and_eq_false_imp, -Int.natCast_add, -setAt, -List.map_take, setAt_eq, hce, hA, hB]
          | true =>
            rw [hb] at hB
            refine call_fn (ids := []) (hl _ (by simp)) Tryz.func187 Tryz.ntmps187 Tryz.results187 (by simp) rfl rfl ⟨_, rfl, by kernel_rfl, ?_⟩
            simp (maxSteps := 1000000) (contextual := true) (implicitDefEqProofs := false) [-decide_eq_true_eq, -decide_eq_false_iff_not, -Bool.not_and, -Bool.not_or, -Bool.and_eq_false_imp, -Int.natCast_add, -setAt, -List.map_take, setAt_eq, hce, hA, hB]
    have hcs := fun σ => cfSt_at0 (L := L) (R := stR) (σ := σ) stR_len (hl.sub (by simp)) l (by omega) (tag := .unk) (h := fun x => !deepS x) (C := 187) (by kernel_rfl) hf
    simp only [any_all] at hcs
    rw [deepL_all]
    refine call_fn (ids := []) (hl _ (by simp)) Tryz.func146 Tryz.ntmps146 Tryz.results146 (by simp) rfl rfl ⟨_, rfl, by kernel_rfl, ?_⟩
    simp (maxSteps := 1000000) (contextual := true) (implicitDefEqProofs := false) [-decide_eq_true_eq, -decide_eq_false_iff_not, -Bool.not_and, -Bool.not_or, -Bool.and_eq_false_imp, -Int.natCast_add, -setAt, -List.map_take, setAt_eq, hcs]
def bodyFew (l : List Ps.St) : Bool := decide (depL l < 16) && deepL l
theorem bodies_small {p : Pg} (hp : smallP p) : (bodiesF p).length < 274877906944 ∧ ∀ l ∈ bodiesF p, stsN l < 274877906944 - 1 := by
  unfold smallP bulkP at hp
  unfold pgN at hp
  refine ⟨by unfold bodiesF; simp; omega, fun l hl => ?_⟩
  unfold bodiesF at hl
  rcases List.mem_append.1 hl with h | h
  · obtain ⟨x, hx, rfl⟩ := List.mem_map.1 h
    have := sum_mem (fun x : Pc => stsN x.body) p.procs x hx
    omega
  · simp at h; subst h; omega
@[simp] def greatFs : List FuncId := laidFs ++ deepFs ++ [145, 78, 74]
theorem great_ok (hl : Free L greatFs) (hb : L 87 = some bitLenH) (p : Pg) (hp : smallP p) (ht : TypesOk p) : ∀ σ, callE (EV Tryz.prog L) 74 [.agg (pgC p)] σ = some (int (greatF p), σ) := by
  intro σ
  obtain ⟨hbl, hbs⟩ := bodies_small hp
  have hla := fun σ => laid_ok (L := L) (hl.sub (by simp)) hb p hp ht σ
  have hbo := fun σ => bodies_ok (L := L) (hl.sub (by simp)) p hp σ
  have hmf : greatF p = if (decide ((laidF p).bits ≤ 12) && decide ((laidF p).ints ≤ 6) && (bodiesF p).all bodyFew) = true then 0 else 142 := rfl
  simp only [pgC, ciC] at hla hbo
  generalize laidF p = c at *
  generalize bodiesF p = bs at *
  refine call_fn (ids := []) (hl _ (by simp)) Tryz.func74 Tryz.ntmps74 Tryz.results74 (by simp) rfl rfl ⟨_, rfl, by kernel_rfl, ?_⟩
  simp (maxSteps := 1000000) (contextual := true) (implicitDefEqProofs := false) [-decide_eq_true_eq, -decide_eq_false_iff_not, -Bool.not_and, -Bool.not_or, -Bool.and_eq_false_imp, -Int.natCast_add, -setAt, -List.map_take, setAt_eq, pgC, hla, hbo]
  refine WP.each bs (fun rest i s' => ∃ (gr : List (Nat × Nat)) (junk : List Bx) (bb : Bool), s'.sto = ⟨.cells (pgC p) :: junk, gr⟩ ∧ s'.env 4 = boo bb ∧ (bb && rest.all bodyFew) = (decide (c.bits ≤ 12) && decide (c.ints ≤ 6) && bs.all bodyFew) ∧ s'.env 18 = .sl (bs.map (slR stR)) .unk ∧ s'.env 19 = int bs.length ∧ s'.env 20 = int i) ⟨[], [.cells [.sl (c.vars.map cvR) .unk, int c.bits, int c.ints, int c.arrays]], decide (c.bits ≤ 12) && decide (c.ints ≤ 6), by simp [pgC], by simp, rfl, by simp, by simp, by simp⟩ ?_ ?_
  · rintro x xs i ⟨env, τ⟩ hx hi hxs ⟨gr, junk, bb, h1, h2, h4, h5, h6, h7⟩
    simp only at h1 h2 h5 h6 h7
    subst h1
    have hix := row_idx (R := slR stR) hx (m := 1) rfl
    have hlt : decide (i < bs.length) = true := by simp [hi]
    have hw : IntKind.wrap .i64 ((i : Int) + 1) = ((i + 1 : Nat) : Int) := wrap_succ (by omega)
    have hsm := hbs x (List.mem_of_getElem? hx)
    have hdp := fun σ => Depth_ok (L := L) (hl.sub (by simp)) (stsN x + 1) x (by omega) (by omega) σ
    have hde := fun σ => deep_ok (L := L) (hl.sub (by simp)) (stsN x + 1) x (by omega) (by omega) σ
    simp only [List.all_cons] at h4
    cases bb with
    | false =>
      simp (maxSteps := 1000000) (contextual := true) (implicitDefEqProofs := false) [-decide_eq_true_eq, -decide_eq_false_iff_not, -Bool.not_and, -Bool.not_or, -Bool.and_eq_false_imp, -Int.natCast_add, -setAt, -List.map_take, setAt_eq, pgC, h2, h5, h6, h7, hlt, hix, hw, slR]
      rw [← h4]; rfl
    | true =>
      have hE : bodyFew x = (decide (((depL x : Nat) : Int) < 16) && deepL x) := by
        unfold bodyFew; congr 1; rw [decide_eq_decide]; omega
      rw [hE] at h4
      simp (maxSteps := 1000000) (contextual := true) (implicitDefEqProofs := false) [-decide_eq_true_eq, -decide_eq_false_iff_not, -Bool.not_and, -Bool.not_or, -Bool.and_eq_false_imp, -Int.natCast_add, -setAt, -List.map_take, setAt_eq, pgC, h2, h5, h6, h7, hlt, hix, hw, slR, hdp, hde]
      exact or_and (by rw [Bool.true_and] at h4; exact h4)
  · rintro ⟨env, τ⟩ ⟨gr, junk, bb, h1, h2, h4, h5, h6, h7⟩
    simp only at h1 h2 h5 h6 h7
    subst h1
    simp only [List.all_nil, Bool.and_true] at h4
    rw [← h4] at hmf
    rw [hmf]
    cases bb with
    | false => simp (maxSteps := 1000000) (contextual := true) (implicitDefEqProofs := false) [-decide_eq_true_eq, -decide_eq_false_iff_not, -Bool.not_and, -Bool.not_or, -Bool.and_eq_false_imp, -Int.natCast_add, -setAt, -List.map_take, setAt_eq, pgC, h2, h5, h6, h7]
    | true => simp (maxSteps := 1000000) (contextual := true) (implicitDefEqProofs := false) [-decide_eq_true_eq, -decide_eq_false_iff_not, -Bool.not_and, -Bool.not_or, -Bool.and_eq_false_imp, -Int.natCast_add, -setAt, -List.map_take, setAt_eq, pgC, h2, h5, h6, h7]
end Go.Proofs.YtfgoedndpcblpaaGreatDoor.Pv
end
section
namespace Go.Proofs.YtfgoedndpcblpaaGreatDoor.Pv
open Go Go.Proofs Go.Proofs.YtfgoedndpcblpaaGreatDoor.Lx Go.Proofs.YtfgoedndpcblpaaGreatDoor.Ps
set_option linter.unusedSimpArgs false
set_option linter.unusedVariables false
variable {L : Lib} {σ : Sto}
structure MapLone (es : List (Value × PV)) : Prop where
  ptrs : (Bx.map es).ptrs = []
  tags : (Bx.map es).tags = []
  ren : ∀ (ρ : Nat → Option Nat) (τ : Tag → Tag), τ .unk = .unk → τ .full = .full → (Bx.map es).ren ρ τ = some (.map es)
theorem call_keep2 {H : Hand} {f : FuncId} {b m : Nat} {args args' : List PV} {r : PV} {es : List (Value × PV)} {more : List Bx} {gr : List (Nat × Nat)} (hb : σ.bx[b]? = some (.cells [.mp m])) (hm : σ.bx[m]? = some (.map es)) (hne : b ≠ m) (h1 : MapLone es) (hp : ptrsL args = [b]) (hren : renL (find [b, m]) (fun _ => .unk) args = some args')
    (hr : r.ptrs = []) (he : r.era = r) (h : H f args' ⟨[.cells [.mp 1], .map es], []⟩ = some (r, ⟨.cells [.mp 1] :: .map es :: more, gr⟩)) : callE H f args σ = some (r, σ) := by
  have e0 : gather σ.bx 64 (ptrsL args) [] = [b, m] := by
    rw [hp]
    show gather σ.bx 63 (ptrsAt σ.bx b ++ []) [b] = [b, m]
    have : ptrsAt σ.bx b = [m] := by unfold ptrsAt; rw [hb]; rfl
    rw [this]
    have hpm : ptrsAt σ.bx m = [] := by unfold ptrsAt; rw [hm]; exact h1.ptrs
    have : gather σ.bx 63 [m] [b] = gather σ.bx 62 (ptrsAt σ.bx m ++ []) [b, m] := by
      show (if m ∈ [b] then gather σ.bx 62 [] [b] else gather σ.bx 62 (ptrsAt σ.bx m ++ []) ([b] ++ [m])) = _
      rw [if_neg (by simp; exact fun e => hne e.symm)]
      rfl
    rw [List.append_nil, this, hpm]; rfl
  have e1 : tagsB σ.bx [b, m] = [] := by
    have k1 : tagsAt σ.bx b = [] := by unfold tagsAt; rw [hb]; rfl
    have k2 : tagsAt σ.bx m = [] := by unfold tagsAt; rw [hm]; exact h1.tags
    simp [tagsB, k1, k2]
  have hf0 : find [b, m] m = some 1 := by simp [find, hne]
  unfold callE
  rw [e0, e1]
  simp only [dd]
  have hsel : selE σ [b, m] [] = some ⟨[.cells [.mp 1], .map es], []⟩ := by
    simp only [selE, pickL, hb, hm]
    simp only [renBs, h1.ren _ (Tag.sel []) rfl rfl]
    simp [Bx.ren, renL, PV.ren, hf0]
  unfold callIn
  rw [hren, hsel]
  simp only [h]
  have p0 : ptrsUpto (Bx.cells [.mp 1] :: Bx.map es :: more) 2 = [1] := by
    have k0 : ptrsAt (Bx.cells [.mp 1] :: Bx.map es :: more) 0 = [1] := rfl
    have k1 : ptrsAt (Bx.cells [.mp 1] :: Bx.map es :: more) 1 = [] := h1.ptrs
    simp [ptrsUpto, k0, k1]
  have g0 : gather (.cells [.mp 1] :: .map es :: more) 64 (r.ptrs ++ ptrsUpto (.cells [.mp 1] :: .map es :: more) [b, m].length) (iota [b, m].length) = [0, 1] := by
    show gather (.cells [.mp 1] :: .map es :: more) 64 (r.ptrs ++ ptrsUpto (.cells [.mp 1] :: .map es :: more) 2) [0, 1] = [0, 1]
    rw [hr, p0]; rfl
  rw [g0]
  have g1 : tagsB (Bx.cells [.mp 1] :: Bx.map es :: more) [0, 1] = [] := by
    have k0 : tagsAt (Bx.cells [.mp 1] :: Bx.map es :: more) 0 = [] := rfl
    have k1 : tagsAt (Bx.cells [.mp 1] :: Bx.map es :: more) 1 = [] := h1.tags
    simp [tagsB, k0, k1]
  simp only [g1, dd, iota, List.length_nil]
  unfold callBack
  obtain ⟨k1, k2, k3⟩ := ren_era (ρ := find [0, 1]) hr
  have hsel2 : selE ⟨.cells [.mp 1] :: .map es :: more, gr⟩ [0, 1] [] = some ⟨[.cells [.mp 1], .map es], []⟩ := by
    simp only [selE, pickL, List.getElem?_cons_zero, List.getElem?_cons_succ]
    simp only [renBs, h1.ren _ (Tag.sel []) rfl rfl]
    simp [Bx.ren, renL, PV.ren, find]
  rw [k1, hsel2]
  simp only
  obtain ⟨k4, _, _⟩ := ren_era (ρ := backB [b, m] σ.bx.length [Bx.cells [.mp 1], Bx.map es].length) k2
  rw [k4, k3, he]
  have hd := h1.ren (backB [b, m] σ.bx.length [Bx.cells [.mp 1], Bx.map es].length) (Tag.back [] σ.gr.length ([] : List (Nat × Nat)).length) rfl rfl
  have hbk : backB [b, m] σ.bx.length [Bx.cells [.mp 1], Bx.map es].length 1 = some m := rfl
  simp only [renBs, hd]
  simp only [Bx.ren, renL, PV.ren, hbk, Option.map_some]
  simp only [backL, putMany, List.drop_nil, List.append_nil, List.length_cons, List.length_nil, List.drop_succ_cons, List.drop_zero]
  rw [set_same hb, set_same hm]
theorem cfStr_map (hl : Free L [105, 167]) (l : List ByteArray) (hn : l.length < 4611686018427387904) {h : ByteArray → Bool} {tag : Tag} {C : FuncId} {b m : Nat} {es : List (Value × PV)} (hb : σ.bx[b]? = some (.cells [.mp m])) (hm : σ.bx[m]? = some (.map es)) (hne : b ≠ m) (h1 : MapLone es) (hbd : isBody Tryz.prog C = true)
    (hf : ∀ x ∈ l, callE (EV Tryz.prog L) C [str x, .ptr 0 0] ⟨[.cells [.mp 1], .map es], []⟩ = some (boo (h x), ⟨[.cells [.mp 1], .map es], []⟩)) : callE (EV Tryz.prog L) 105 [.sl (l.map strR) tag, .fn (.func C) [.ptr b 0]] σ = some (boo (l.any h), σ) := by
  refine call_keep2 (more := []) (gr := []) (args' := [.sl (l.map strR) .unk, .fn (.func C) [.ptr 0 0]]) hb hm hne h1 rfl (by simp [renL, PV.ren, find]) rfl rfl ?_
  have hi : ∀ gr, callE (EV Tryz.prog L) 167 [.sl (l.map strR) .unk, .fn (.func C) [.ptr 0 0]] ⟨[.cells [.mp 1], .map es], gr⟩ = some (int (idxP h l 0), ⟨[.cells [.mp 1], .map es], gr⟩) := fun gr =>
    call_keep2 (σ := ⟨[.cells [.mp 1], .map es], gr⟩) (b := 0) (m := 1) (more := []) (gr := []) (args' := [.sl (l.map strR) .unk, .fn (.func C) [.ptr 0 0]]) rfl rfl (by decide) h1 rfl (by simp [renL, PV.ren, find]) rfl rfl
      (ixStr_ok (σ := ⟨[.cells [.mp 1], .map es], []⟩) (S := fun x => x) strR_len (fun _ => rfl) (hl _ (by simp)) l hn (fun x hx => by rw [funP_fn, if_pos hbd]; exact hf x hx))
  have ha : decide (0 ≤ idxP h l 0) = l.any h := by
    rw [Bool.eq_iff_iff, decide_eq_true_eq]; exact idxP_any h l 0
  refine EV_fn (ids := []) (hl _ (by simp)) Tryz.func105 rfl (by kernel_rfl) (by rw [Tryz.ntmps105]; simp) ?_
  rw [Tryz.ntmps105, Tryz.results105]
  simp (maxSteps := 1000000) (contextual := true) (implicitDefEqProofs := false) [-decide_eq_true_eq, -decide_eq_false_iff_not, -Bool.not_and, -Bool.not_or, -Bool.and_eq_false_imp, -Int.natCast_add, -setAt, -List.map_take, setAt_eq, hi, ha]
def rowM (l : List (ByteArray × List ByteArray)) : List (ByteArray × PV) := l.map fun e => (e.1, .sl (e.2.map strR) .unk)
theorem rowM_lone (l : List (ByteArray × List ByteArray)) : MapLone (strM (rowM l)) := by
  have e1 : (strM (rowM l)).map (·.2) = l.map fun e => PV.sl (e.2.map strR) .unk := by simp [strM, rowM]
  have e0 : (strM (rowM l)).map (·.1) = l.map fun e => Value.string e.1 := by simp [strM, rowM]
  have hren : ∀ (ρ : Nat → Option Nat) (τ : Tag → Tag), τ .unk = .unk → ∀ l : List (ByteArray × List ByteArray), renL ρ τ (l.map fun e => PV.sl (e.2.map strR) .unk) = some (l.map fun e => PV.sl (e.2.map strR) .unk) := by
    intro ρ τ h l
    induction l with
    | nil => rfl
    | cons x xs ih => simp only [List.map_cons, renL, PV.ren, h, ih]
  refine ⟨?_, ?_, fun ρ τ h1 h2 => ?_⟩
  · simp only [Bx.ptrs, e1]
    clear e0 e1
    induction l with
    | nil => rfl
    | cons x xs ih => simp_all [ptrsL, PV.ptrs]
  · simp only [Bx.tags, e1]
    clear e0 e1
    induction l with
    | nil => rfl
    | cons x xs ih => simp_all [tagsL, PV.tags]
  · simp only [Bx.ren, e1, hren ρ τ h1 l, Option.map_some]
    congr 2
    rw [e0]
    clear e0 e1
    induction l with
    | nil => rfl
    | cons x xs ih => simp_all [strM, rowM]
def insM (s : ByteArray) (v : List ByteArray) : List (ByteArray × List ByteArray) → List (ByteArray × List ByteArray)
  | [] => [(s, v)]
  | e :: es => if s = e.1 then (s, v) :: es else e :: insM s v es
def delM (s : ByteArray) : List (ByteArray × List ByteArray) → List (ByteArray × List ByteArray)
  | [] => []
  | e :: es => if s = e.1 then es else e :: delM s es
def hasM (s : ByteArray) (l : List (ByteArray × List ByteArray)) : Bool := l.any fun e => decide (s = e.1)
def getM (s : ByteArray) : List (ByteArray × List ByteArray) → List ByteArray
  | [] => []
  | e :: es => if s = e.1 then e.2 else getM s es
def rowV (v : List ByteArray) : PV := .sl (v.map strR) .unk
theorem mfind_ins (s : ByteArray) (v : List ByteArray) : ∀ (l : List (ByteArray × List ByteArray)) (i : Nat), match mfind (strM (rowM l)) (.string s) i with
    | some (j, _) => i ≤ j ∧ (strM (rowM l)).set (j - i) (.string s, rowV v) = strM (rowM (insM s v l)) ∧ (strM (rowM l)).eraseIdx (j - i) = strM (rowM (delM s l)) ∧ hasM s l = true
    | none => strM (rowM l) ++ [(.string s, rowV v)] = strM (rowM (insM s v l)) ∧ strM (rowM l) = strM (rowM (delM s l)) ∧ hasM s l = false
  | [], i => ⟨rfl, rfl, rfl⟩
  | e :: es, i => by
    simp only [strM, rowM, List.map_cons, mfind, keyEq_str, decide_eq_true_eq]
    by_cases he : s = e.1
    · rw [if_pos he]
      simp only [insM, delM, if_pos he, hasM, List.any_cons, he, decide_true, Bool.true_or, Nat.sub_self, List.set_cons_zero, List.eraseIdx_zero, List.tail_cons, List.map_cons]
      exact ⟨Nat.le_refl _, rfl, rfl, trivial⟩
    · rw [if_neg he]
      have ih := mfind_ins s v es (i + 1)
      simp only [strM, rowM] at ih
      simp only [insM, delM, hasM, List.any_cons, he, if_false, decide_false, Bool.false_or, List.map_cons]
      cases hq : mfind (List.map (fun e => (Value.string e.1, e.2)) (List.map (fun e => (e.1, PV.sl (e.2.map strR) .unk)) es)) (.string s) (i + 1) with
      | none =>
        rw [hq] at ih
        simp only at ih ⊢
        exact ⟨by rw [List.cons_append, ih.1], by rw [← ih.2.1], ih.2.2⟩
      | some r =>
        obtain ⟨j, x⟩ := r
        rw [hq] at ih
        simp only at ih ⊢
        obtain ⟨h1, h2, h3, h4⟩ := ih
        have hj : j - i = (j - (i + 1)) + 1 := by omega
        rw [hj, List.set_cons_succ, List.eraseIdx_cons_succ, h2, h3]
        exact ⟨by omega, rfl, rfl, h4⟩
theorem rowM_keys (l : List (ByteArray × List ByteArray)) (s : ByteArray) : keyOk .string (.string s) = true ∧ ((strM (rowM l)).all fun e => keyOk .string e.1) = true := ⟨rfl, by simp [strM, keyOk]⟩
theorem ins_row {P : Program} {t k e : TypeId} {b : Nat} {l : List (ByteArray × List ByteArray)} {s : ByteArray} {v : List ByteArray} (u1 : P.underlying t = some (.map k e)) (u2 : P.underlying k = some .string) (h : σ.bx[b]? = some (.map (strM (rowM l)))) :
    insertE P σ t (.mp b) (str s) (rowV v) = some { σ with bx := σ.bx.set b (.map (strM (rowM (insM s v l)))) } := by
  unfold insertE
  rw [u1]
  simp only [u2, h]
  rw [if_pos (rowM_keys l s)]
  have h1 := mfind_ins s v l 0
  cases hm : mfind (strM (rowM l)) (.string s) 0 with
  | none => rw [hm] at h1; simp only; rw [h1.1]
  | some x => obtain ⟨j, y⟩ := x; rw [hm] at h1; simp only at h1 ⊢; rw [Nat.sub_zero] at h1; rw [h1.2.1]
theorem del_row {P : Program} {t k e : TypeId} {b : Nat} {l : List (ByteArray × List ByteArray)} {s : ByteArray} (u1 : P.underlying t = some (.map k e)) (u2 : P.underlying k = some .string) (h : σ.bx[b]? = some (.map (strM (rowM l)))) :
    deleteE P σ t (.mp b) (str s) = some { σ with bx := σ.bx.set b (.map (strM (rowM (delM s l)))) } := by
  unfold deleteE
  rw [u1]
  simp only [u2, h]
  rw [if_pos (rowM_keys l s)]
  have h1 := mfind_ins s [] l 0
  cases hm : mfind (strM (rowM l)) (.string s) 0 with
  | none => rw [hm] at h1; simp only; rw [← h1.2.1]
  | some x => obtain ⟨j, y⟩ := x; rw [hm] at h1; simp only at h1 ⊢; rw [Nat.sub_zero] at h1; rw [h1.2.2.1]
theorem lookS_row (s : ByteArray) : ∀ l : List (ByteArray × List ByteArray), lookS s (rowM l) = if hasM s l = true then some (rowV (getM s l)) else none
  | [] => rfl
  | e :: es => by
    show (if s = e.1 then some (rowV e.2) else lookS s (rowM es)) = if hasM s (e :: es) = true then some (rowV (if s = e.1 then e.2 else getM s es)) else none
    by_cases he : s = e.1
    · have h1 : hasM s (e :: es) = true := by simp [hasM, he]
      rw [if_pos he, if_pos he, h1]; rfl
    · have h1 : hasM s (e :: es) = hasM s es := by simp [hasM, he]
      rw [if_neg he, if_neg he, h1]; exact lookS_row s es
theorem getM_none (s : ByteArray) : ∀ l : List (ByteArray × List ByteArray), hasM s l = false → getM s l = []
  | [], _ => rfl
  | e :: es, h => by
    simp only [hasM, List.any_cons, Bool.or_eq_false_iff, decide_eq_false_iff_not] at h
    simp only [getM, if_neg h.1]
    exact getM_none s es h.2
end Go.Proofs.YtfgoedndpcblpaaGreatDoor.Pv
end
section
namespace Go.Proofs.YtfgoedndpcblpaaGreatDoor.Pv
open Go Go.Proofs Go.Proofs.YtfgoedndpcblpaaGreatDoor.Lx Go.Proofs.YtfgoedndpcblpaaGreatDoor.Ps
set_option linter.unusedSimpArgs false
set_option linter.unusedVariables false
variable {L : Lib} {σ : Sto}
abbrev RM := List (ByteArray × List ByteArray)
def stepM (m : RM) (x : Pc) : RM := if ((getM x.name m).any fun s => hasM s m) = true then m else delM x.name m
def roundsM (ps : List Pc) : Nat → RM → RM
  | 0, m => m
  | n + 1, m => roundsM ps n (ps.foldl stepM m)
def left0 (p : Pg) : RM := p.procs.foldl (fun m x => insM x.name (callsL x.body) m) []
def cycleF (p : Pg) : Int := if (roundsM p.procs p.procs.length (left0 p)).length = 0 then 0 else 143
def SmallM (m : RM) : Prop := ∀ e ∈ m, e.2.length < 274877906944
theorem small_ins {s : ByteArray} {v : List ByteArray} (hv : v.length < 274877906944) : ∀ {m : RM}, SmallM m → SmallM (insM s v m)
  | [], h => fun e he => by simp [insM] at he; subst he; exact hv
  | e :: es, h => by
    simp only [insM]
    split
    · intro x hx
      rcases List.mem_cons.1 hx with rfl | hx
      · exact hv
      · exact h x (List.mem_cons_of_mem _ hx)
    · intro x hx
      rcases List.mem_cons.1 hx with rfl | hx
      · exact h _ (List.mem_cons_self ..)
      · exact small_ins hv (fun y hy => h y (List.mem_cons_of_mem _ hy)) x hx
theorem small_del {s : ByteArray} : ∀ {m : RM}, SmallM m → SmallM (delM s m)
  | [], h => h
  | e :: es, h => by
    simp only [delM]
    split
    · exact fun x hx => h x (List.mem_cons_of_mem _ hx)
    · intro x hx
      rcases List.mem_cons.1 hx with rfl | hx
      · exact h _ (List.mem_cons_self ..)
      · exact small_del (fun y hy => h y (List.mem_cons_of_mem _ hy)) x hx
theorem small_get {s : ByteArray} : ∀ {m : RM}, SmallM m → (getM s m).length < 274877906944
  | [], h => by simp [getM]
  | e :: es, h => by
    simp only [getM]
    split
    · exact h _ (List.mem_cons_self ..)
    · exact small_get (fun y hy => h y (List.mem_cons_of_mem _ hy))
@[simp] def cycleFs : List FuncId := callsFs ++ [80, 151, 105, 167]
theorem cycle1_ok (hl : Free L [151]) (m : RM) (x : ByteArray) : callE (EV Tryz.prog L) 151 [str x, .ptr 0 0] ⟨[.cells [.mp 1], .map (strM (rowM m))], []⟩ = some (boo (hasM x m), ⟨[.cells [.mp 1], .map (strM (rowM m))], []⟩) := by
  have u1 : Tryz.prog.underlying 201 = some (.map 9 74) := by kernel_rfl
  have u2 : Tryz.prog.underlying 9 = some .string := by kernel_rfl
  have u3 : zeroV Tryz.prog 74 = some (.sl [] .full) := by kernel_rfl
  have hk : ∀ gr, lookupE Tryz.prog ⟨[.cells [.mp 1], .map (strM (rowM m))], gr⟩ 201 (.mp 1) (str x) true = some (match lookS x (rowM m) with | some v => .tup [v, boo true] | none => .tup [.sl [] .full, boo false]) := fun gr => look_str (σ := ⟨[.cells [.mp 1], .map (strM (rowM m))], gr⟩) (b := 1) (ok := true) u1 u2 u3 rfl
  refine call_keep2 (σ := ⟨[.cells [.mp 1], .map (strM (rowM m))], []⟩) (b := 0) (m := 1) (more := []) (gr := []) (args' := [str x, .ptr 0 0]) rfl rfl (by decide) (rowM_lone m) rfl rfl rfl rfl ?_
  rw [lookS_row] at hk
  cases hq : hasM x m with
  | true =>
    rw [hq] at hk
    refine EV_fn (ids := []) (hl _ (by simp)) Tryz.func151 rfl (by kernel_rfl) (by rw [Tryz.ntmps151]; simp) ?_
    rw [Tryz.ntmps151, Tryz.results151]
    simp (maxSteps := 1000000) (contextual := true) (implicitDefEqProofs := false) [-decide_eq_true_eq, -decide_eq_false_iff_not, -Bool.not_and, -Bool.not_or, -Bool.and_eq_false_imp, -Int.natCast_add, -setAt, -List.map_take, setAt_eq, hk, rowV]
  | false =>
    rw [hq] at hk
    refine EV_fn (ids := []) (hl _ (by simp)) Tryz.func151 rfl (by kernel_rfl) (by rw [Tryz.ntmps151]; simp) ?_
    rw [Tryz.ntmps151, Tryz.results151]
    simp (maxSteps := 1000000) (contextual := true) (implicitDefEqProofs := false) [-decide_eq_true_eq, -decide_eq_false_iff_not, -Bool.not_and, -Bool.not_or, -Bool.and_eq_false_imp, -Int.natCast_add, -setAt, -List.map_take, setAt_eq, hk]
theorem cycle_ok (hl : Free L cycleFs) (hg : L 168 = some (growH 1)) (p : Pg) (hp : smallP p) (hf : pgN p < 299999) : ∀ σ, callE (EV Tryz.prog L) 80 [.agg (pgC p)] σ = some (int (cycleF p), σ) := by
  intro σ
  obtain ⟨hle, hlv, hlp⟩ := hp.lens
  have u1 : Tryz.prog.underlying 201 = some (.map 9 74) := by kernel_rfl
  have u2 : Tryz.prog.underlying 9 = some .string := by kernel_rfl
  have u3 : zeroV Tryz.prog 74 = some (.sl [] .full) := by kernel_rfl
  have hbody : ∀ x ∈ p.procs, stsN x.body < 299999 := fun x hx => by
    have := sum_mem (fun x : Pc => stsN x.body) p.procs x hx
    unfold pgN at hf; omega
  have hmk : ∀ {H : Hand} {env : Nat → PV} {σ : Sto} {t : TypeId}, valO Tryz.prog H env σ (.makeMap t none) = some (.mp σ.bx.length, { σ with bx := σ.bx ++ [.map (strM (rowM []))] }) := rfl
  refine call_fn (ids := []) (hl _ (by simp)) Tryz.func80 Tryz.ntmps80 Tryz.results80 (by simp) rfl rfl ⟨_, rfl, by kernel_rfl, ?_⟩
  simp (maxSteps := 1000000) (contextual := true) (implicitDefEqProofs := false) [-decide_eq_true_eq, -decide_eq_false_iff_not, -Bool.not_and, -Bool.not_or, -Bool.and_eq_false_imp, -Int.natCast_add, -setAt, -List.map_take, setAt_eq, pgC, hmk]
  refine WP.each p.procs (fun rest i s' => ∃ (m : RM) (gr : List (Nat × Nat)) (junk : List Bx), s'.sto = ⟨.cells (pgC p) :: .map (strM (rowM m)) :: .cells [.mp 1] :: junk, gr⟩ ∧ SmallM m ∧ rest.foldl (fun m x => insM x.name (callsL x.body) m) m = left0 p ∧ s'.env 1 = .ptr 0 0 ∧ s'.env 3 = .ptr 2 0 ∧ s'.env 10 = .sl (p.procs.map pcR) .unk ∧ s'.env 11 = int p.procs.length ∧ s'.env 12 = int i) ⟨[], [], [], by simp [pgC], (fun e he => by cases he), rfl, by simp, by simp, by simp, by simp, by simp⟩ ?_ ?_
  · rintro x xs i ⟨env, τ⟩ hx hii hxs ⟨m, gr, junk, h1, hsm, hld, h2, h3, h5, h6, h7⟩
    simp only at h1 h2 h3 h5 h6 h7
    subst h1
    have hix := row_idx (R := pcR) hx (m := 2) rfl
    have hlt : decide (i < p.procs.length) = true := by simp [hii]
    have hw : IntKind.wrap .i64 ((i : Int) + 1) = ((i + 1 : Nat) : Int) := wrap_succ (by omega)
    have hbx := hbody x (List.mem_of_getElem? hx)
    have hc := fun σ => calls_ok (L := L) (hl.sub (by simp)) hg (stsN x.body + 1) x.body (by omega) (by omega) σ
    have hins := fun (x0 x2 : Bx) (more : List Bx) (gr : List (Nat × Nat)) => ins_row (σ := ⟨x0 :: .map (strM (rowM m)) :: x2 :: more, gr⟩) (b := 1) (l := m) (s := x.name) (v := callsL x.body) (P := Tryz.prog) u1 u2 rfl
    simp only [rowV] at hins
    simp (maxSteps := 1000000) (contextual := true) (implicitDefEqProofs := false) [-decide_eq_true_eq, -decide_eq_false_iff_not, -Bool.not_and, -Bool.not_or, -Bool.and_eq_false_imp, -Int.natCast_add, -setAt, -List.map_take, setAt_eq, pgC, h2, h3, h5, h6, h7, hlt, hix, hw, pcR, stRs_map, hc, hins]
    exact ⟨insM x.name (callsL x.body) m, rfl, small_ins (by have := callsL_len x.body; omega) hsm, hld⟩
  · rintro ⟨env, τ⟩ ⟨m, gr, junk, h1, hsm, hld, h2, h3, h5, h6, h7⟩
    simp only at h1 h2 h3 h5 h6 h7
    subst h1
    simp only [List.foldl_nil] at hld
    subst hld
    simp (maxSteps := 1000000) (contextual := true) (implicitDefEqProofs := false) [-decide_eq_true_eq, -decide_eq_false_iff_not, -Bool.not_and, -Bool.not_or, -Bool.and_eq_false_imp, -Int.natCast_add, -setAt, -List.map_take, setAt_eq, pgC, h2, h3, h5, h6, h7]
    refine WP.each p.procs (fun rest i s' => ∃ (m : RM) (gr : List (Nat × Nat)) (junk : List Bx), s'.sto = ⟨.cells (pgC p) :: .map (strM (rowM m)) :: .cells [.mp 1] :: junk, gr⟩ ∧ SmallM m ∧ roundsM p.procs rest.length m = roundsM p.procs p.procs.length (left0 p) ∧ s'.env 1 = .ptr 0 0 ∧ s'.env 3 = .ptr 2 0 ∧ s'.env 25 = int p.procs.length ∧ s'.env 26 = int i) ⟨left0 p, gr, junk, by simp [pgC], hsm, rfl, by simp [h2], by simp [h3], by simp, by simp⟩ ?_ ?_
    · rintro x xs i ⟨env2, τ2⟩ hx hii hxs ⟨m, gr2, junk2, h1, hsm2, hld, h2, h3, h6, h7⟩
      simp only at h1 h2 h3 h6 h7
      subst h1
      have hlt : decide (i < p.procs.length) = true := by simp [hii]
      have hw : IntKind.wrap .i64 ((i : Int) + 1) = ((i + 1 : Nat) : Int) := wrap_succ (by omega)
      simp only [List.length_cons, roundsM] at hld
      simp (maxSteps := 1000000) (contextual := true) (implicitDefEqProofs := false) [-decide_eq_true_eq, -decide_eq_false_iff_not, -Bool.not_and, -Bool.not_or, -Bool.and_eq_false_imp, -Int.natCast_add, -setAt, -List.map_take, setAt_eq, pgC, h2, h3, h6, h7, hlt, hw]
      refine WP.each p.procs (fun rest j s' => ∃ (m : RM) (gr : List (Nat × Nat)) (junk : List Bx), s'.sto = ⟨.cells (pgC p) :: .map (strM (rowM m)) :: .cells [.mp 1] :: junk, gr⟩ ∧ SmallM m ∧ roundsM p.procs xs.length (rest.foldl stepM m) = roundsM p.procs p.procs.length (left0 p) ∧ s'.env 1 = .ptr 0 0 ∧ s'.env 3 = .ptr 2 0 ∧ s'.env 25 = int p.procs.length ∧ s'.env 26 = int i ∧ s'.env 29 = .sl (p.procs.map pcR) .unk ∧ s'.env 30 = int p.procs.length ∧ s'.env 31 = int j) ⟨m, gr2, junk2, by simp [pgC], hsm2, hld, by simp [h2], by simp [h3], by simp [h6], by simp [h7], by simp, by simp, by simp⟩ ?_ ?_
      · rintro y ys j ⟨env3, τ3⟩ hy hjj hys ⟨m3, gr3, junk3, h1, hsm3, hld3, h2, h3, h6, h7, h8, h9, h10⟩
        simp only at h1 h2 h3 h6 h7 h8 h9 h10
        subst h1
        have hiy := row_idx (R := pcR) hy (m := 2) rfl
        have hlj : decide (j < p.procs.length) = true := by simp [hjj]
        have hwj : IntKind.wrap .i64 ((j : Int) + 1) = ((j + 1 : Nat) : Int) := wrap_succ (by omega)
        simp only [List.foldl_cons] at hld3
        obtain ⟨tq, hlk⟩ : ∃ tq, ∀ (x0 x2 : Bx) (more : List Bx) (gr : List (Nat × Nat)), lookupE Tryz.prog ⟨x0 :: .map (strM (rowM m3)) :: x2 :: more, gr⟩ 201 (.mp 1) (str y.name) false = some (.sl ((getM y.name m3).map strR) tq) := by
          cases hq : hasM y.name m3 with
          | true =>
            refine ⟨.unk, fun x0 x2 more gr => ?_⟩
            rw [look_str (σ := ⟨x0 :: .map (strM (rowM m3)) :: x2 :: more, gr⟩) (b := 1) (l := rowM m3) (ok := false) u1 u2 u3 rfl, lookS_row, hq]; rfl
          | false =>
            refine ⟨.full, fun x0 x2 more gr => ?_⟩
            rw [look_str (σ := ⟨x0 :: .map (strM (rowM m3)) :: x2 :: more, gr⟩) (b := 1) (l := rowM m3) (ok := false) u1 u2 u3 rfl, lookS_row, hq, getM_none _ _ hq]; rfl
        have hcf := fun (x0 : Bx) (more : List Bx) (gr : List (Nat × Nat)) => cfStr_map (L := L) (σ := ⟨x0 :: .map (strM (rowM m3)) :: .cells [.mp 1] :: more, gr⟩) (hl.sub (by simp)) (getM y.name m3) (by have := small_get (s := y.name) hsm3; omega) (tag := tq) (h := fun s => hasM s m3) (C := 151) (b := 2) (m := 1) rfl rfl (by decide) (rowM_lone m3) (by kernel_rfl) (fun x _ => cycle1_ok (hl.sub (by simp)) m3 x)
        have hdel := fun (x0 x2 : Bx) (more : List Bx) (gr : List (Nat × Nat)) => del_row (σ := ⟨x0 :: .map (strM (rowM m3)) :: x2 :: more, gr⟩) (b := 1) (l := m3) (s := y.name) (P := Tryz.prog) u1 u2 rfl
        by_cases hany : ((getM y.name m3).any fun s => hasM s m3) = true
        · have hst : stepM m3 y = m3 := if_pos hany
          rw [hst] at hld3
          rw [hany] at hcf
          simp (maxSteps := 1000000) (contextual := true) (implicitDefEqProofs := false) [-decide_eq_true_eq, -decide_eq_false_iff_not, -Bool.not_and, -Bool.not_or, -Bool.and_eq_false_imp, -Int.natCast_add, -setAt, -List.map_take, setAt_eq, pgC, h2, h3, h6, h7, h8, h9, h10, hlj, hiy, hwj, pcR, stRs_map, hlk, hcf]
          exact ⟨m3, rfl, hsm3, hld3⟩
        · have hst : stepM m3 y = delM y.name m3 := if_neg hany
          rw [hst] at hld3
          rw [Bool.not_eq_true] at hany
          rw [hany] at hcf
          simp (maxSteps := 1000000) (contextual := true) (implicitDefEqProofs := false) [-decide_eq_true_eq, -decide_eq_false_iff_not, -Bool.not_and, -Bool.not_or, -Bool.and_eq_false_imp, -Int.natCast_add, -setAt, -List.map_take, setAt_eq, pgC, h2, h3, h6, h7, h8, h9, h10, hlj, hiy, hwj, pcR, stRs_map, hlk, hcf, hdel]
          exact ⟨delM y.name m3, rfl, small_del hsm3, hld3⟩
      · rintro ⟨env3, τ3⟩ ⟨m3, gr3, junk3, h1, hsm3, hld3, h2, h3, h6, h7, h8, h9, h10⟩
        simp only at h1 h2 h3 h6 h7 h8 h9 h10
        subst h1
        simp only [List.foldl_nil] at hld3
        simp (maxSteps := 1000000) (contextual := true) (implicitDefEqProofs := false) [-decide_eq_true_eq, -decide_eq_false_iff_not, -Bool.not_and, -Bool.not_or, -Bool.and_eq_false_imp, -Int.natCast_add, -setAt, -List.map_take, setAt_eq, pgC, h2, h3, h6, h7, h8, h9, h10, hw]
        exact ⟨m3, rfl, hsm3, hld3⟩
    · rintro ⟨env2, τ2⟩ ⟨m, gr2, junk2, h1, hsm2, hld, h2, h3, h6, h7⟩
      simp only at h1 h2 h3 h6 h7
      subst h1
      simp only [List.length_nil, roundsM] at hld
      have hL : ∀ (x0 x2 : Bx) (more : List Bx) (gr : List (Nat × Nat)), lenP Tryz.prog ⟨x0 :: .map (strM (rowM m)) :: x2 :: more, gr⟩ 201 (.mp 1) = some (int (m.length : Nat)) := by
        intro x0 x2 more gr
        unfold lenP
        simp [u1, strM, rowM]
      by_cases hz : m.length = 0
      · have hcy : cycleF p = 0 := by unfold cycleF; rw [← hld, if_pos hz]
        have hd : decide (((m.length : Nat) : Int) > 0) = false := by simp [hz]
        rw [hcy]
        simp (maxSteps := 1000000) (contextual := true) (implicitDefEqProofs := false) [-decide_eq_true_eq, -decide_eq_false_iff_not, -Bool.not_and, -Bool.not_or, -Bool.and_eq_false_imp, -Int.natCast_add, -setAt, -List.map_take, setAt_eq, pgC, h2, h3, h6, h7, hL, hz]
      · have hcy : cycleF p = 143 := by unfold cycleF; rw [← hld, if_neg hz]
        have hd : decide (((m.length : Nat) : Int) > 0) = true := by simp; omega
        rw [hcy]
        simp (maxSteps := 1000000) (contextual := true) (implicitDefEqProofs := false) [-decide_eq_true_eq, -decide_eq_false_iff_not, -Bool.not_and, -Bool.not_or, -Bool.and_eq_false_imp, -Int.natCast_add, -setAt, -List.map_take, setAt_eq, pgC, h2, h3, h6, h7, hL]
        simp; omega
end Go.Proofs.YtfgoedndpcblpaaGreatDoor.Pv
end
section
namespace Go.Proofs.YtfgoedndpcblpaaGreatDoor.Pv
open Go Go.Proofs Go.Proofs.YtfgoedndpcblpaaGreatDoor.Lx Go.Proofs.YtfgoedndpcblpaaGreatDoor.Ps
set_option linter.unusedSimpArgs false
set_option linter.unusedVariables false
variable {L : Lib} {σ : Sto}
theorem str_app {l xs : List ByteArray} {tag : Tag} {gr : List (Nat × Nat)} (ho : Own 1 gr (l.map strR) tag) (hb : l.length + xs.length < 274877906944 * 4) :
    ∃ tag' gr', (∀ bx, appL 1 16 ⟨bx, gr⟩ (l.map strR) tag (xs.map strR) = some (.sl ((l ++ xs).map strR) tag', ⟨bx, gr'⟩)) ∧ Own 1 gr' ((l ++ xs).map strR) tag' := by
  obtain ⟨tag', gr', h1, h2, _⟩ := app_own3 (b := 16) (g0 := []) (more := gr) (xs := xs.map strR) (by simpa using ho) (fun g _ => Nat.zero_le g) (sized_map strR_len) (sized_map strR_len) (by simp; omega)
  rw [← List.map_append] at h1 h2
  exact ⟨tag', gr', by simpa using h1, by simpa using h2⟩
def metM (l : List ByteArray) : List (ByteArray × PV) := l.map fun s => (s, int 1)
theorem lookS_met (s : ByteArray) : ∀ l : List ByteArray, lookS s (metM l) = if memB s l = true then some (int 1) else none
  | [] => rfl
  | e :: es => by
    show (if s = e then some (int 1) else lookS s (metM es)) = if memB s (e :: es) = true then some (int 1) else none
    by_cases he : s = e
    · have h1 : memB s (e :: es) = true := by simp [memB, he]
      rw [if_pos he, h1]; rfl
    · have h1 : memB s (e :: es) = memB s es := by
        have hd : decide (e = s) = false := by simp; exact fun h => he h.symm
        show (decide (e = s) || memB s es) = memB s es
        rw [hd, Bool.false_or]
      rw [if_neg he, h1]; exact lookS_met s es
theorem metM_snoc (l : List ByteArray) (s : ByteArray) : metM (l ++ [s]) = metM l ++ [(s, int 1)] := by simp [metM]
@[simp] def namesFs : List FuncId := readFs ++ [70]
theorem names_sum (p : Pg) : (allNames p).length = p.enums.length + sumN (fun e : En => e.l.length) p.enums + p.vars.length + p.procs.length := by
  unfold allNames
  simp only [List.length_append, List.length_map]
  have : ∀ l : List En, ((l.map fun e => e.name :: e.l).flatten).length = l.length + sumN (fun e : En => e.l.length) l := by
    intro l
    induction l with
    | nil => rfl
    | cons x xs ih => simp only [List.map_cons, List.flatten_cons, List.length_append, List.length_cons, sumN, ih]; omega
  rw [this]
set_option maxHeartbeats 4000000 in
theorem names_ok (hl : Free L namesFs) (hF : L 116 = some fieldsH) (p : Pg) (hp : smallP p) (hs : ∀ s ∈ allNames p, s.size < 9223372036854775808) : ∀ σ, callE (EV Tryz.prog L) 70 [.agg (pgC p)] σ = some (int (namesF p), σ) := by
  intro σ
  obtain ⟨hle, hlv, hlp⟩ := hp.lens
  have hsum := names_sum p
  have hbk : (allNames p).length < 274877906944 := by unfold smallP bulkP at hp; omega
  refine call_fn (ids := [5]) (hl _ (by simp)) Tryz.func70 Tryz.ntmps70 Tryz.results70 (by simp) rfl rfl ⟨_, rfl, by kernel_rfl, ?_⟩
  simp (maxSteps := 1000000) (contextual := true) (implicitDefEqProofs := false) [-decide_eq_true_eq, -decide_eq_false_iff_not, -Bool.not_and, -Bool.not_or, -Bool.and_eq_false_imp, -Int.natCast_add, -setAt, -List.map_take, setAt_eq, pgC]
  refine WP.each p.enums (fun rest i s' => ∃ (l : List ByteArray) (tag : Tag) (gr : List (Nat × Nat)) (junk : List Bx), s'.sto = ⟨.cells (pgC p) :: junk, gr⟩ ∧ Own 1 gr (l.map strR) tag ∧ l ++ (rest.map fun e => e.name :: e.l).flatten = (p.enums.map fun e => e.name :: e.l).flatten ∧ s'.env 1 = .ptr 0 0 ∧ s'.env 3 = .sl (l.map strR) tag ∧ s'.env 17 = .sl (p.enums.map enR) .unk ∧ s'.env 18 = int p.enums.length ∧ s'.env 19 = int i) ⟨[], .full, [], [], by simp [pgC], .nil, rfl, by simp, by simp, by simp, by simp, by simp⟩ ?_ ?_
  · rintro x xs i ⟨env, τ⟩ hx hii hxs ⟨l, tag, gr, junk, h1, ho, hld, h2, h3, h5, h6, h7⟩
    simp only at h1 h2 h3 h5 h6 h7
    subst h1
    have hix := row_idx (R := enR) hx (m := 2) rfl
    have hlt : decide (i < p.enums.length) = true := by simp [hii]
    have hw : IntKind.wrap .i64 ((i : Int) + 1) = ((i + 1 : Nat) : Int) := wrap_succ (by omega)
    simp only [List.map_cons, List.flatten_cons] at hld
    have hln : l.length + 1 + x.l.length < 274877906944 := by
      have h8 := congrArg List.length hld
      have h9 : ((p.enums.map fun e => e.name :: e.l).flatten).length ≤ (allNames p).length := by unfold allNames; simp only [List.length_append]; omega
      simp only [List.length_append, List.length_cons] at h8
      omega
    obtain ⟨tag1, gr1, ha1, ho1, _⟩ := str_snoc (x := x.name) ho (by omega)
    obtain ⟨tag2, gr2, ha2, ho2⟩ := str_app (l := l ++ [x.name]) (xs := x.l) ho1 (by simp; omega)
    simp only [strR] at ha1
    simp (maxSteps := 1000000) (contextual := true) (implicitDefEqProofs := false) [-decide_eq_true_eq, -decide_eq_false_iff_not, -Bool.not_and, -Bool.not_or, -Bool.and_eq_false_imp, -Int.natCast_add, -setAt, -List.map_take, setAt_eq, -List.map_append, pgC, h2, h3, h5, h6, h7, hlt, hix, hw, enR, ha1, ha2]
    refine ⟨orderOk_ren (fun _ => 0) ?_, l ++ x.name :: x.l, tag2, by simpa using ho2, by rw [← hld]; simp, by simp, rfl⟩
    simp only [List.map_cons, List.map_nil, Cls.ren]
    decide
  · rintro ⟨env, τ⟩ ⟨l, tag, gr, junk, h1, ho, hld, h2, h3, h5, h6, h7⟩
    simp only at h1 h2 h3 h5 h6 h7
    subst h1
    simp only [List.map_nil, List.flatten_nil, List.append_nil] at hld
    have hA : l.length + p.vars.length + p.procs.length = (allNames p).length := by unfold allNames; rw [hld]; simp only [List.length_append, List.length_map]
    have hall : allNames p = l ++ p.vars.map (·.name) ++ p.procs.map (·.name) := by unfold allNames; rw [hld]
    simp (maxSteps := 1000000) (contextual := true) (implicitDefEqProofs := false) [-decide_eq_true_eq, -decide_eq_false_iff_not, -Bool.not_and, -Bool.not_or, -Bool.and_eq_false_imp, -Int.natCast_add, -setAt, -List.map_take, setAt_eq, pgC, h2, h3, h5, h6, h7]
    refine WP.each p.vars (fun rest i s' => ∃ (l2 : List ByteArray) (tag : Tag) (gr : List (Nat × Nat)) (junk : List Bx), s'.sto = ⟨.cells (pgC p) :: junk, gr⟩ ∧ Own 1 gr (l2.map strR) tag ∧ l2 ++ rest.map (·.name) = l ++ p.vars.map (·.name) ∧ s'.env 1 = .ptr 0 0 ∧ s'.env 3 = .sl (l2.map strR) tag ∧ s'.env 33 = .sl (p.vars.map vrR) .unk ∧ s'.env 34 = int p.vars.length ∧ s'.env 35 = int i) ⟨l, tag, gr, junk, by simp [pgC], ho, rfl, by simp [h2], by simp [h3], by simp, by simp, by simp⟩ ?_ ?_
    · rintro x xs i ⟨env2, τ2⟩ hx hii hxs ⟨l2, tag2, gr2, junk2, h1, ho2, hld2, h2, h3, h5, h6, h7⟩
      simp only at h1 h2 h3 h5 h6 h7
      subst h1
      have hix := row_idx (R := vrR) hx (m := 3) rfl
      have hlt : decide (i < p.vars.length) = true := by simp [hii]
      have hw : IntKind.wrap .i64 ((i : Int) + 1) = ((i + 1 : Nat) : Int) := wrap_succ (by omega)
      simp only [List.map_cons] at hld2
      have hln : l2.length < 274877906944 := by
        have h8 := congrArg List.length hld2
        simp only [List.length_append, List.length_cons, List.length_map] at h8
        omega
      obtain ⟨tag3, gr3, ha1, ho3, _⟩ := str_snoc (x := x.name) ho2 hln
      simp only [strR] at ha1
      simp (maxSteps := 1000000) (contextual := true) (implicitDefEqProofs := false) [-decide_eq_true_eq, -decide_eq_false_iff_not, -Bool.not_and, -Bool.not_or, -Bool.and_eq_false_imp, -Int.natCast_add, -setAt, -List.map_take, setAt_eq, -List.map_append, pgC, h2, h3, h5, h6, h7, hlt, hix, hw, vrR, ha1]
      exact ⟨l2 ++ [x.name], tag3, ho3, by rw [← hld2]; simp, rfl, rfl⟩
    · rintro ⟨env2, τ2⟩ ⟨l2, tag2, gr2, junk2, h1, ho2, hld2, h2, h3, h5, h6, h7⟩
      simp only at h1 h2 h3 h5 h6 h7
      subst h1
      simp only [List.map_nil, List.append_nil] at hld2
      rw [← hld2] at hall
      have hA2 : l2.length + p.procs.length = (allNames p).length := by rw [hall]; simp only [List.length_append, List.length_map]
      simp (maxSteps := 1000000) (contextual := true) (implicitDefEqProofs := false) [-decide_eq_true_eq, -decide_eq_false_iff_not, -Bool.not_and, -Bool.not_or, -Bool.and_eq_false_imp, -Int.natCast_add, -setAt, -List.map_take, setAt_eq, pgC, h2, h3, h5, h6, h7]
      refine WP.each p.procs (fun rest i s' => ∃ (l3 : List ByteArray) (tag : Tag) (gr : List (Nat × Nat)) (junk : List Bx), s'.sto = ⟨.cells (pgC p) :: junk, gr⟩ ∧ Own 1 gr (l3.map strR) tag ∧ l3 ++ rest.map (·.name) = allNames p ∧ s'.env 1 = .ptr 0 0 ∧ s'.env 3 = .sl (l3.map strR) tag ∧ s'.env 46 = .sl (p.procs.map pcR) .unk ∧ s'.env 47 = int p.procs.length ∧ s'.env 48 = int i) ⟨l2, tag2, gr2, junk2, by simp [pgC], ho2, hall.symm, by simp [h2], by simp [h3], by simp, by simp, by simp⟩ ?_ ?_
      · rintro x xs i ⟨env3, τ3⟩ hx hii hxs ⟨l3, tag3, gr3, junk3, h1, ho3, hld3, h2, h3, h5, h6, h7⟩
        simp only at h1 h2 h3 h5 h6 h7
        subst h1
        have hix := row_idx (R := pcR) hx (m := 2) rfl
        have hlt : decide (i < p.procs.length) = true := by simp [hii]
        have hw : IntKind.wrap .i64 ((i : Int) + 1) = ((i + 1 : Nat) : Int) := wrap_succ (by omega)
        simp only [List.map_cons] at hld3
        have hln : l3.length < 274877906944 := by
          have h8 := congrArg List.length hld3
          simp only [List.length_append, List.length_cons, List.length_map] at h8
          omega
        obtain ⟨tag4, gr4, ha1, ho4, _⟩ := str_snoc (x := x.name) ho3 hln
        simp only [strR] at ha1
        simp (maxSteps := 1000000) (contextual := true) (implicitDefEqProofs := false) [-decide_eq_true_eq, -decide_eq_false_iff_not, -Bool.not_and, -Bool.not_or, -Bool.and_eq_false_imp, -Int.natCast_add, -setAt, -List.map_take, setAt_eq, -List.map_append, pgC, h2, h3, h5, h6, h7, hlt, hix, hw, pcR, ha1]
        exact ⟨l3 ++ [x.name], tag4, ho4, by rw [← hld3]; simp, rfl, rfl⟩
      · rintro ⟨env3, τ3⟩ ⟨l3, tag3, gr3, junk3, h1, ho3, hld3, h2, h3, h5, h6, h7⟩
        simp only at h1 h2 h3 h5 h6 h7
        subst h1
        simp only [List.map_nil, List.append_nil] at hld3
        subst hld3
        have u1 : Tryz.prog.underlying 155 = some (.map 9 3) := by kernel_rfl
        have u2 : Tryz.prog.underlying 9 = some .string := by kernel_rfl
        have u3 : zeroV Tryz.prog 3 = some (int 0) := by kernel_rfl
        have hmk : ∀ {H : Hand} {env : Nat → PV} {σ : Sto} {t : TypeId}, valO Tryz.prog H env σ (.makeMap t none) = some (.mp σ.bx.length, { σ with bx := σ.bx ++ [.map (strM (metM []))] }) := rfl
        have hnf : namesF p = if namesS (allNames p) [] = true then 0 else 140 := rfl
        simp (maxSteps := 1000000) (contextual := true) (implicitDefEqProofs := false) [-decide_eq_true_eq, -decide_eq_false_iff_not, -Bool.not_and, -Bool.not_or, -Bool.and_eq_false_imp, -Int.natCast_add, -setAt, -List.map_take, setAt_eq, pgC, h2, h3, h5, h6, h7, hmk]
        refine WP.each (allNames p) (fun rest i s' => ∃ (met : List ByteArray) (junk4 : List Bx), s'.sto = ⟨.cells (pgC p) :: (junk3 ++ .map (strM (metM met)) :: junk4), gr3⟩ ∧ namesS rest met = namesS (allNames p) [] ∧ s'.env 10 = .mp (junk3.length + 1) ∧ s'.env 59 = .sl ((allNames p).map strR) tag3 ∧ s'.env 60 = int (allNames p).length ∧ s'.env 61 = int i) ⟨[], [], by simp [pgC], rfl, by simp, by simp [h3], by simp, by simp⟩ ?_ ?_
        · rintro x xs i ⟨env4, τ4⟩ hx hii hxs ⟨met, junk4, h1, hnm, h2, h5, h6, h7⟩
          simp only at h1 h2 h5 h6 h7
          subst h1
          have hix := row_idx (R := strR) hx (m := 1) rfl
          have hlt : decide (i < (allNames p).length) = true := by simp [hii]
          have hw : IntKind.wrap .i64 ((i : Int) + 1) = ((i + 1 : Nat) : Int) := wrap_succ (by omega)
          have hex := fun σ => Expr_ok (L := L) (σ := σ) (hl.sub (by simp)) hF x (hs x (List.mem_of_getElem? hx))
          have hget : ∀ (x0 : Bx) (more : List Bx), (x0 :: (junk3 ++ Bx.map (strM (metM met)) :: more))[junk3.length + 1]? = some (.map (strM (metM met))) := fun x0 more => by simp
          have hlk := fun (x0 : Bx) (more : List Bx) (gr : List (Nat × Nat)) => look_str (σ := ⟨x0 :: (junk3 ++ .map (strM (metM met)) :: more), gr⟩) (b := junk3.length + 1) (l := metM met) (s := x) (ok := false) (P := Tryz.prog) u1 u2 u3 (hget x0 more)
          rw [lookS_met] at hlk
          simp only [namesS, nameOk] at hnm
          simp only [exC_l] at hex
          generalize exprOut x = r at hex hnm
          obtain ⟨re, rp, rn⟩ := r
          have hins : ∀ (x0 : Bx) (more : List Bx) (gr : List (Nat × Nat)), memB x met = false → insertE Tryz.prog ⟨x0 :: (junk3 ++ .map (strM (metM met)) :: more), gr⟩ 155 (.mp (junk3.length + 1)) (str x) (int 1) = some ⟨x0 :: (junk3 ++ .map (strM (metM (met ++ [x]))) :: more), gr⟩ := fun x0 more gr hm => by
            rw [ins_str (σ := ⟨x0 :: (junk3 ++ .map (strM (metM met)) :: more), gr⟩) (b := junk3.length + 1) (l := metM met) u1 u2 (hget x0 more) (by
              unfold metM
              rw [List.any_map, List.any_eq_false]
              intro y hy hq
              have : x = y := by simpa using hq
              subst this
              rw [memB_iff.2 hy] at hm; cases hm), metM_snoc]
            simp
          by_cases c1 : rn = 0
          · by_cases c2 : re.opB = (⟨#[110, 97, 109, 101]⟩ : ByteArray)
            · by_cases c3 : re.nm = x
              · cases c4 : memB x met with
                | true =>
                  rw [c4] at hlk
                  have hz : namesS (allNames p) [] = false := by rw [← hnm]; simp [c4]
                  have hn0 : namesF p = 140 := by rw [hnf, hz]; rfl
                  rw [hn0]
                  simp (maxSteps := 1000000) (contextual := true) (implicitDefEqProofs := false) [-decide_eq_true_eq, -decide_eq_false_iff_not, -Bool.not_and, -Bool.not_or, -Bool.and_eq_false_imp, -Int.natCast_add, -setAt, -List.map_take, setAt_eq, pgC, h2, h5, h6, h7, hlt, hix, hw, strR, hex, hlk, c1, c2, c3]
                | false =>
                  rw [c4] at hlk
                  have hnm2 : namesS xs (met ++ [x]) = namesS (allNames p) [] := by rw [← hnm]; simp [c1, c2, c3, c4]
                  simp (maxSteps := 1000000) (contextual := true) (implicitDefEqProofs := false) [-decide_eq_true_eq, -decide_eq_false_iff_not, -Bool.not_and, -Bool.not_or, -Bool.and_eq_false_imp, -Int.natCast_add, -setAt, -List.map_take, setAt_eq, pgC, h2, h5, h6, h7, hlt, hix, hw, strR, hex, hlk, c1, c2, c3, hins _ _ _ c4]
                  exact ⟨met ++ [x], rfl, hnm2⟩
              · have hz : namesS (allNames p) [] = false := by rw [← hnm]; simp [c3]
                have hn0 : namesF p = 140 := by rw [hnf, hz]; rfl
                rw [hn0]
                simp (maxSteps := 1000000) (contextual := true) (implicitDefEqProofs := false) [-decide_eq_true_eq, -decide_eq_false_iff_not, -Bool.not_and, -Bool.not_or, -Bool.and_eq_false_imp, -Int.natCast_add, -setAt, -List.map_take, setAt_eq, pgC, h2, h5, h6, h7, hlt, hix, hw, strR, hex, hlk, c1, c2, c3]
            · have hz : namesS (allNames p) [] = false := by rw [← hnm]; simp [c2]
              have hn0 : namesF p = 140 := by rw [hnf, hz]; rfl
              rw [hn0]
              simp (maxSteps := 1000000) (contextual := true) (implicitDefEqProofs := false) [-decide_eq_true_eq, -decide_eq_false_iff_not, -Bool.not_and, -Bool.not_or, -Bool.and_eq_false_imp, -Int.natCast_add, -setAt, -List.map_take, setAt_eq, pgC, h2, h5, h6, h7, hlt, hix, hw, strR, hex, hlk, c1, c2]
          · have hz : namesS (allNames p) [] = false := by rw [← hnm]; simp [c1]
            have hn0 : namesF p = 140 := by rw [hnf, hz]; rfl
            rw [hn0]
            simp (maxSteps := 1000000) (contextual := true) (implicitDefEqProofs := false) [-decide_eq_true_eq, -decide_eq_false_iff_not, -Bool.not_and, -Bool.not_or, -Bool.and_eq_false_imp, -Int.natCast_add, -setAt, -List.map_take, setAt_eq, pgC, h2, h5, h6, h7, hlt, hix, hw, strR, hex, hlk, c1]
        · rintro ⟨env4, τ4⟩ ⟨met, junk4, h1, hnm, h2, h5, h6, h7⟩
          simp only at h1 h2 h5 h6 h7
          subst h1
          simp only [namesS] at hnm
          rw [← hnm] at hnf
          rw [hnf]
          simp (maxSteps := 1000000) (contextual := true) (implicitDefEqProofs := false) [-decide_eq_true_eq, -decide_eq_false_iff_not, -Bool.not_and, -Bool.not_or, -Bool.and_eq_false_imp, -Int.natCast_add, -setAt, -List.map_take, setAt_eq, pgC, h2, h5, h6, h7]
end Go.Proofs.YtfgoedndpcblpaaGreatDoor.Pv
end
section
namespace Go.Proofs.YtfgoedndpcblpaaGreatDoor.Pv
open Go Go.Proofs Go.Proofs.YtfgoedndpcblpaaGreatDoor.Lx Go.Proofs.YtfgoedndpcblpaaGreatDoor.Ps
set_option linter.unusedSimpArgs false
set_option linter.unusedVariables false
variable {L : Lib} {σ : Sto}
def printedF (p : Pg) : Int := if 4096 < (printB p).length then 142 else 0
theorem printed_ok (hl : Free L (printFs ++ [82])) (hT : PrnT L) (p : Pg) (hp : PrSm p) : ∀ σ, callE (EV Tryz.prog L) 82 [.agg (pgC p)] σ = some (int (printedF p), σ) := by
  intro σ
  have h := Print_ok (L := L) (hl.sub (by simp +contextual)) hT p hp
  have hs : (strOf (printB p)).size = (printB p).length := strOf_size _
  have hlen := hp.len
  unfold printedF
  generalize printB p = t at *
  simp only [pgC] at h
  generalize strOf t = b at *
  refine call_fn (ids := []) (hl _ (by simp)) Tryz.func82 Tryz.ntmps82 Tryz.results82 (by simp) rfl rfl ⟨_, rfl, by kernel_rfl, ?_⟩
  by_cases h1 : 4096 < t.length
  · rw [if_pos h1]
    have hd : decide ((4096 : Int) < (b.size : Int)) = true := by rw [hs]; exact decide_eq_true (by omega)
    simp (maxSteps := 1000000) (contextual := true) (implicitDefEqProofs := false) [-decide_eq_true_eq, -decide_eq_false_iff_not, -Bool.not_and, -Bool.not_or, -Bool.and_eq_false_imp, -Int.natCast_add, -setAt, -List.map_take, setAt_eq, pgC, h, hd]
  · rw [if_neg h1]
    have hd : decide ((4096 : Int) < (b.size : Int)) = false := by rw [hs]; exact decide_eq_false (by omega)
    simp (maxSteps := 1000000) (contextual := true) (implicitDefEqProofs := false) [-decide_eq_true_eq, -decide_eq_false_iff_not, -Bool.not_and, -Bool.not_or, -Bool.and_eq_false_imp, -Int.natCast_add, -setAt, -List.map_take, setAt_eq, pgC, h, hd]
structure CkSm (p : Pg) : Prop where
  pr : PrSm p
  sm : smallP p
  nm : ∀ s ∈ allNames p, s.size < 9223372036854775808
  pg : pgN p < 299999
  pc : p.procs.length < 999999
structure CkT (L : Lib) : Prop where
  pr : PrnT L
  fields : L 116 = some fieldsH
  bits : L 87 = some bitLenH
  growS : L 168 = some (growH 1)
  growT : L 149 = some (growH 6)
@[simp] def checkFs : List FuncId := printFs ++ (namesFs ++ (cycleFs ++ (greatFs ++ (stmtsFs ++ [82, 68, 72, 144, 77, 67, 69, 71, 73, 75, 79, 81]))))
abbrev cloSto (p : Pg) : Sto := ⟨[.cells (pgC p)], []⟩
def CloOk (L : Lib) (C : FuncId) (p : Pg) (x y : Int) : Prop := ∃ more gr, EV Tryz.prog L C [.ptr 0 0] (cloSto p) = some (.tup [int x, int y], ⟨.cells (pgC p) :: more, gr⟩)
theorem CloOk.call {C : FuncId} {p : Pg} {x y : Int} (h : CloOk L C p x y) (bx : List Bx) (gr : List (Nat × Nat)) : callE (EV Tryz.prog L) C [.ptr 0 0] ⟨.cells (pgC p) :: bx, gr⟩ = some (.tup [int x, int y], ⟨.cells (pgC p) :: bx, gr⟩) := by
  obtain ⟨more, g, h⟩ := h
  exact call_keep (σ := ⟨.cells (pgC p) :: bx, gr⟩) (b := 0) (args' := [.ptr 0 0]) rfl (pgC_lone p) ⟨[], rfl, fun c h => absurd h (by simp)⟩ rfl rfl rfl h
theorem sub_app1 {a b : List FuncId} : ∀ f ∈ a, f ∈ a ++ b := fun f h => List.mem_append_left _ h
theorem sub_app2 {a b : List FuncId} : ∀ f ∈ b, f ∈ a ++ b := fun f h => List.mem_append_right _ h
theorem Free.left {a b : List FuncId} (h : Free L (a ++ b)) : Free L a := h.sub sub_app1
theorem Free.right {a b : List FuncId} (h : Free L (a ++ b)) : Free L b := h.sub sub_app2
theorem clo1 (hl0 : Free L checkFs) (hT : CkT L) (p : Pg) (hp : CkSm p) : CloOk L 67 p 0 (manyF p) := by
  have hl := hl0.right.right.right.right.right
  have h := many_ok (L := L) (hl.sub (by simp)) p hp.sm
  simp only [pgC] at h
  refine ⟨[], [], ?_⟩
  refine EV_fn (ids := []) (hl _ (by simp)) Tryz.func67 rfl (by kernel_rfl) (by rw [Tryz.ntmps67]; simp) ?_
  rw [Tryz.ntmps67, Tryz.results67]
  simp (maxSteps := 1000000) (contextual := true) (implicitDefEqProofs := false) [-decide_eq_true_eq, -decide_eq_false_iff_not, -Bool.not_and, -Bool.not_or, -Bool.and_eq_false_imp, -Int.natCast_add, -setAt, -List.map_take, setAt_eq, cloSto, pgC, h]
theorem clo2 (hl0 : Free L checkFs) (hT : CkT L) (p : Pg) (hp : CkSm p) : CloOk L 69 p 0 (namesF p) := by
  have hl := hl0.right.right.right.right.right
  have h := names_ok (L := L) hl0.right.left hT.fields p hp.sm hp.nm
  simp only [pgC] at h
  refine ⟨[], [], ?_⟩
  refine EV_fn (ids := []) (hl _ (by simp)) Tryz.func69 rfl (by kernel_rfl) (by rw [Tryz.ntmps69]; simp) ?_
  rw [Tryz.ntmps69, Tryz.results69]
  simp (maxSteps := 1000000) (contextual := true) (implicitDefEqProofs := false) [-decide_eq_true_eq, -decide_eq_false_iff_not, -Bool.not_and, -Bool.not_or, -Bool.and_eq_false_imp, -Int.natCast_add, -setAt, -List.map_take, setAt_eq, cloSto, pgC, h]
theorem clo3 (hl0 : Free L checkFs) (hT : CkT L) (p : Pg) (hp : CkSm p) : CloOk L 71 p 0 (varTypesF p) := by
  have hl := hl0.right.right.right.right.right
  have h := types_ok (L := L) (fun f hf => hl0 f (by simp only [List.mem_cons, List.not_mem_nil, or_false] at hf; rcases hf with rfl | rfl | rfl <;> simp)) p hp.sm
  simp only [pgC] at h
  refine ⟨[], [], ?_⟩
  refine EV_fn (ids := []) (hl _ (by simp)) Tryz.func71 rfl (by kernel_rfl) (by rw [Tryz.ntmps71]; simp) ?_
  rw [Tryz.ntmps71, Tryz.results71]
  simp (maxSteps := 1000000) (contextual := true) (implicitDefEqProofs := false) [-decide_eq_true_eq, -decide_eq_false_iff_not, -Bool.not_and, -Bool.not_or, -Bool.and_eq_false_imp, -Int.natCast_add, -setAt, -List.map_take, setAt_eq, cloSto, pgC, h]
theorem clo4 (hl0 : Free L checkFs) (hT : CkT L) (p : Pg) (hp : CkSm p) (ht : TypesOk p) : CloOk L 73 p 0 (greatF p) := by
  have hl := hl0.right.right.right.right.right
  have h := great_ok (L := L) hl0.right.right.right.left hT.bits p hp.sm ht
  simp only [pgC] at h
  refine ⟨[], [], ?_⟩
  refine EV_fn (ids := []) (hl _ (by simp)) Tryz.func73 rfl (by kernel_rfl) (by rw [Tryz.ntmps73]; simp) ?_
  rw [Tryz.ntmps73, Tryz.results73]
  simp (maxSteps := 1000000) (contextual := true) (implicitDefEqProofs := false) [-decide_eq_true_eq, -decide_eq_false_iff_not, -Bool.not_and, -Bool.not_or, -Bool.and_eq_false_imp, -Int.natCast_add, -setAt, -List.map_take, setAt_eq, cloSto, pgC, h]
theorem clo6 (hl0 : Free L checkFs) (hT : CkT L) (p : Pg) (hp : CkSm p) : CloOk L 79 p 0 (cycleF p) := by
  have hl := hl0.right.right.right.right.right
  have h := cycle_ok (L := L) hl0.right.right.left hT.growS p hp.sm hp.pg
  simp only [pgC] at h
  refine ⟨[], [], ?_⟩
  refine EV_fn (ids := []) (hl _ (by simp)) Tryz.func79 rfl (by kernel_rfl) (by rw [Tryz.ntmps79]; simp) ?_
  rw [Tryz.ntmps79, Tryz.results79]
  simp (maxSteps := 1000000) (contextual := true) (implicitDefEqProofs := false) [-decide_eq_true_eq, -decide_eq_false_iff_not, -Bool.not_and, -Bool.not_or, -Bool.and_eq_false_imp, -Int.natCast_add, -setAt, -List.map_take, setAt_eq, cloSto, pgC, h]
theorem clo7 (hl0 : Free L checkFs) (hT : CkT L) (p : Pg) (hp : CkSm p) : CloOk L 81 p 0 (printedF p) := by
  have hl := hl0.right.right.right.right.right
  have h := printed_ok (L := L) (fun f hf => by rcases List.mem_append.1 hf with h | h; exact hl0.left f h; exact hl f (by simp only [List.mem_cons, List.not_mem_nil, or_false] at h; subst h; simp)) hT.pr p hp.pr
  simp only [pgC] at h
  refine ⟨[], [], ?_⟩
  refine EV_fn (ids := []) (hl _ (by simp)) Tryz.func81 rfl (by kernel_rfl) (by rw [Tryz.ntmps81]; simp) ?_
  rw [Tryz.ntmps81, Tryz.results81]
  simp (maxSteps := 1000000) (contextual := true) (implicitDefEqProofs := false) [-decide_eq_true_eq, -decide_eq_false_iff_not, -Bool.not_and, -Bool.not_or, -Bool.and_eq_false_imp, -Int.natCast_add, -setAt, -List.map_take, setAt_eq, cloSto, pgC, h]
theorem stsN_app (a b : List Ps.St) : stsN (a ++ b) = stsN a + stsN b := by
  induction a with
  | nil => simp [stsN]
  | cons x xs ih => simp only [List.cons_append, stsN, ih]; omega
theorem stsN_flat : ∀ ls : List (List Ps.St), stsN ls.flatten = sumN stsN ls
  | [] => rfl
  | x :: xs => by rw [List.flatten_cons, stsN_app, sumN, stsN_flat xs]
theorem sumN_app {α : Type} (f : α → Nat) (a b : List α) : sumN f (a ++ b) = sumN f a + sumN f b := by
  induction a with
  | nil => simp [sumN]
  | cons x xs ih => simp only [List.cons_append, sumN, ih]; omega
theorem sumN_map {α β : Type} (g : α → β) (f : β → Nat) (l : List α) : sumN f (l.map g) = sumN (fun x => f (g x)) l := by
  induction l with
  | nil => rfl
  | cons x xs ih => simp only [List.map_cons, sumN, ih]
theorem lenS_sum : ∀ ls : List (List Ps.St), lenS ls ≤ sumN stsN ls
  | [] => Nat.le_refl _
  | x :: xs => by rw [lenS, sumN]; have := lenS_sum xs; have := sts_len x; omega
theorem bodies_sum (p : Pg) : stsN (bodiesF p).flatten = pgN p ∧ lenS (bodiesF p) ≤ pgN p := by
  have : sumN stsN (bodiesF p) = pgN p := by
    unfold bodiesF pgN
    rw [sumN_app, sumN_map]
    simp only [sumN]; omega
  exact ⟨by rw [stsN_flat, this], by rw [← this]; exact lenS_sum _⟩
def allStmts (p : Pg) : List Ps.St := (bodiesF p).flatten
theorem clo5 (hl0 : Free L checkFs) (hT : CkT L) (p : Pg) (hp : CkSm p) : CloOk L 75 p (stmtsF p (allStmts p)).1 (stmtsF p (allStmts p)).2 := by
  have hl := hl0.right.right.right.right.right
  have hb := bodies_ok (L := L) (fun f hf => hl0.right.right.right.left f (by simp only [List.mem_cons, List.not_mem_nil, or_false] at hf; subst hf; simp)) p hp.sm
  obtain ⟨hbl, hbs⟩ := bodies_small hp.sm
  have hpg := hp.pg
  have hsums := bodies_sum p
  have hst : stsN (allStmts p) < 299999 := by unfold allStmts; rw [hsums.1]; exact hpg
  have hsum : lenS (bodiesF p) ≤ 1000000 := by have := hsums.2; omega
  have hpl := hp.sm.lens
  have hlen : (bodiesF p).length ≤ 1000000 := by have := hp.pc; unfold bodiesF; simp; omega
  have hc : ∀ σ, callE (EV Tryz.prog L) 77 [.sl ((bodiesF p).map (slR stR)) .unk] σ = some (.sl ((allStmts p).map stR) .unk, σ) := fun σ => by
    obtain ⟨tag, more, hc, _, _⟩ := concatSt_ok (L := L) (hl _ (by simp)) hT.growT (bodiesF p) .unk ⟨[], []⟩ hsum hlen
    exact call_pure (σ := σ) (args := [.sl ((bodiesF p).map (slR stR)) .unk]) rfl hc rfl
  have hs := stmts_ok (L := L) hl0.right.right.right.right.left p hp.sm (stsN (allStmts p) + 1) (allStmts p) (by omega) (by omega)
  simp only [pgC] at hb hs
  generalize allStmts p = l at *
  refine ⟨[], [], ?_⟩
  refine EV_fn (ids := []) (hl _ (by simp)) Tryz.func75 rfl (by kernel_rfl) (by rw [Tryz.ntmps75]; simp) ?_
  rw [Tryz.ntmps75, Tryz.results75]
  simp (maxSteps := 1000000) (contextual := true) (implicitDefEqProofs := false) [-decide_eq_true_eq, -decide_eq_false_iff_not, -Bool.not_and, -Bool.not_or, -Bool.and_eq_false_imp, -Int.natCast_add, -setAt, -List.map_take, setAt_eq, -List.map_flatten, cloSto, pgC, hb, hc, hs]
end Go.Proofs.YtfgoedndpcblpaaGreatDoor.Pv
end
section
namespace Go.Proofs.YtfgoedndpcblpaaGreatDoor.Pv
noncomputable section
open Go
set_option linter.unusedSimpArgs false
set_option linter.unusedVariables false
variable {P : Program} {L : Lib} {T : Base}
structure Grd (P : Program) (L : Lib) (T : Base) : Prop where
  mix : P.follows .mixedOrders = true
  ro : LibRo P L
  ok : ∀ f h, L f = some h → FunOk P T f h
theorem Grd.hand (g : Grd P L T) (k : Nat) : HandOk P T (evF P L k) := ev_sound g.mix g.ro g.ok k
theorem Grd.roH (g : Grd P L T) (k : Nat) : RoOk (roF P 6) (evF P L k) := ev_ro g.ro 6 k
theorem WP.sound (g : Grd P L T) {n : Nat} {ids : List Nat} {c : Code} {s : St} {Q : Ctl → St → Prop} (h : WP P L n ids c s Q) (hst : statOk P ids c = true) {G : Gh} {a : Act} {w : World} (hO : Ok T G n s a w) {K : Exit → Act → World → Prop}
    (hK : ∀ ctl s' G' a' w', Q ctl s' → Ok T G' n s' a' w' → Later G w G' w' → K ctl.toExit a' w') : c.wp P K a w := by
  obtain ⟨k, ctl, s', h1, h2⟩ := h
  exact code_sound g.mix (g.roH k) (g.hand k) c (codeU_E hst h1) hO (fun G' a' w' hO' hL => hK ctl s' G' a' w' h2 hO' hL)
theorem Ok.re {n : Nat} {G : Gh} {s : St} {a : Act} {w : World} (h : Ok T G n s a w) {env : Nat → PV} (he : EnvRep G env a) : Ok T G n ⟨env, s.sto⟩ a w := ⟨h.inv, he, h.size, h.defers, h.tab⟩
theorem opers_then {H : Hand} (hH : HandOk P T H) {n : Nat} {ops : Array Oper} {Q : Exit → Act → World → Prop} {l2 : List Oper} : ∀ {l : List Oper} {s s' : St}, opersE P H n ops l s = some s' → ∀ {G : Gh} {a : Act} {w : World}, Ok T G n s a w →
    (∀ G' a' w', Ok T G' n s' a' w' → Later G w G' w' → wpList P ops Q l2 a' w') → wpList P ops Q (l ++ l2) a w
  | [], s, s', h, G, a, w, hO, hQ => by
    cases h
    exact hQ G a w hO (.refl _ _)
  | o :: rest, s, s', h, G, a, w, hO, hQ => by
    obtain ⟨s1, h1, h2⟩ := Option.bind_eq_some_iff.1 h
    have := oper_sound (Q := Q) (K := wpList P ops Q (rest ++ l2)) hH h1 hO (fun G' a' w' hO' hL => opers_then hH h2 hO' (fun G'' a'' w'' hO'' hL' => hQ G'' a'' w'' hO'' (hL.trans hL')))
    show wpList P ops Q (o :: (rest ++ l2)) a w
    unfold wpList
    split
    · rename_i hw; rw [if_pos hw] at this; exact .inl this
    · rename_i hw; rw [if_neg hw] at this; exact this
theorem wpl_of (g : Grd P L T) {n : Nat} {ops : Array Oper} {l l2 : List Oper} {s : St} {G : Gh} {a : Act} {w : World} (hO : Ok T G n s a w) {K : Exit → Act → World → Prop}
    {Q : St → Prop} (h : Run (opersE P (EV P L) n ops l s) Q) (hK : ∀ s1 G' a' w', Q s1 → Ok T G' n s1 a' w' → Later G w G' w' → wpList P ops K l2 a' w') : wpList P ops K (l ++ l2) a w := by
  obtain ⟨s1, h1, h2⟩ := h
  obtain ⟨k, h3⟩ := EV_opers h1
  exact opers_then (g.hand k) h3 hO (fun G' a' w' hO' hL => hK s1 G' a' w' h2 hO' hL)
def FinK (P : Program) (T : Base) (fn : Func) (G : Gh) (w : World) (r : PV) (σ' : Sto) : Exit → Act → World → Prop := fun e a' w' => (e = .normal ∨ e = .ret) ∧ ∃ G' s, Ok T G' fn.ntmps s a' w' ∧ Later G w G' w' ∧ outE P s.env s.sto fn.results.toList = some r ∧ s.sto = σ'
theorem fn_world {f : FuncId} {fn : Func} {c : Code} {args : List PV} {σ σ' : Sto} {r : PV} (hf : P.funcs[f]? = some fn) (hb : fn.body = some c) (hle : args.length ≤ fn.ntmps) {G : Gh} {w : World} {vals : Array Value} (hT : Tab T G w) (hI : Inv G σ w) (hl : args.length = vals.size) (ha : ∀ i (h : i < args.length), Rep G args[i] (vals.getD i undef))
    (h : ∀ a, Ok T G fn.ntmps ⟨initE args, σ⟩ a w → c.wp P (FinK P T fn G w r σ') a w) :
    Calls P f vals w fun e w' => ∃ v G', e = .returned v ∧ Inv G' σ' w' ∧ Rep G' r v ∧ Later G w G' w' := by
  have hO : Ok T G fn.ntmps ⟨initE args, σ⟩ { tmps := vals ++ Array.replicate (fn.ntmps - vals.size) undef, defers := [] } w := by
    refine ⟨hI, fun t => ?_, by simp; omega, rfl, hT⟩
    show Rep G (args.getD t (.im undef)) _
    by_cases ht : t < args.length
    · rw [List.getD_eq_getElem?_getD, List.getElem?_eq_getElem ht, Option.getD_some, Array.getD_eq_getD_getElem?, Array.getElem?_append_left (by omega), ← Array.getD_eq_getD_getElem?]
      exact ha t ht
    · rw [List.getD_eq_getElem?_getD, List.getElem?_eq_none (by omega), Option.getD_none, Array.getD_eq_getD_getElem?, Array.getElem?_append_right (by omega)]
      rw [show ((Array.replicate (fn.ntmps - vals.size) undef)[t - vals.size]?).getD undef = undef by
        rw [Array.getElem?_replicate]; split <;> rfl]
      exact .im _
  refine calls_of_wp hf hb (wp_mono (h _ hO) ?_)
  rintro e a' w' ⟨hctl, G', s, hO', hL, ho, rfl⟩
  have hres : ∃ v, (results fn a'.tmps).run P w' = .ok v w' ∧ Rep G' r v := by
    unfold outE at ho
    cases he : resultsE P s.env s.sto fn.results.toList with
    | none => rw [he] at ho; cases ho
    | some ps =>
      obtain ⟨v, h1, h2⟩ := results_run hO'.inv hO'.env he
      rw [he] at ho
      match ps, ho, h2 with
      | [], hm, h2 => cases hm; exact ⟨v, h1, h2⟩
      | [p], hm, h2 => cases hm; exact ⟨v, h1, h2⟩
      | p :: q :: ps, hm, h2 => cases hm; exact ⟨v, h1, h2⟩
  obtain ⟨v, h1, h2⟩ := hres
  rcases hctl with rfl | rfl
  · exact ⟨hO'.defers, v, h1, v, G', rfl, hO'.inv, h2, hL⟩
  · exact ⟨hO'.defers, v, h1, v, G', rfl, hO'.inv, h2, hL⟩
end
end Go.Proofs.YtfgoedndpcblpaaGreatDoor.Pv
end
section
namespace Go.Proofs.YtfgoedndpcblpaaGreatDoor.Pv
open Go Go.Proofs Go.Proofs.YtfgoedndpcblpaaGreatDoor.Lx Go.Proofs.YtfgoedndpcblpaaGreatDoor.Ps
set_option linter.unusedSimpArgs false
set_option linter.unusedVariables false
variable {L : Lib} {σ : Sto} {T : Base}
def cloF (p : Pg) : Nat → Int × Int
  | 0 => (0, manyF p)
  | 1 => (0, namesF p)
  | 2 => (0, varTypesF p)
  | 3 => (0, greatF p)
  | 4 => stmtsF p (allStmts p)
  | 5 => (0, cycleF p)
  | _ => (0, printedF p)
def cloC : Nat → FuncId
  | 0 => 67
  | 1 => 69
  | 2 => 71
  | 3 => 73
  | 4 => 75
  | 5 => 79
  | _ => 81
def ciT (c : CI) (t : Tag) : List PV := [.sl (c.vars.map cvR) t, int c.bits, int c.ints, int c.arrays]
def fromF (p : Pg) : Nat → Nat → CI × Tag × Int × Int
  | 0, _ => (laidF p, .unk, 0, 0)
  | m + 1, i => if (cloF p i).2 = 0 then fromF p m (i + 1) else (zCI, .full, (cloF p i).1, (cloF p i).2)
def checkF (p : Pg) : CI × Int × Int := ((fromF p 7 0).1, (fromF p 7 0).2.2)
theorem clo_all (hl : Free L checkFs) (hT : CkT L) (p : Pg) (hp : CkSm p) (i : Nat) (ht : 3 ≤ i → TypesOk p) : CloOk L (cloC i) p (cloF p i).1 (cloF p i).2 := by
  match i with
  | 0 => exact clo1 hl hT p hp
  | 1 => exact clo2 hl hT p hp
  | 2 => exact clo3 hl hT p hp
  | 3 => exact clo4 hl hT p hp (ht (Nat.le_refl _))
  | 4 => exact clo5 hl hT p hp
  | 5 => exact clo6 hl hT p hp
  | 6 => exact clo7 hl hT p hp
  | n + 7 => exact clo7 hl hT p hp
theorem cloC_body (i : Nat) : isBody Tryz.prog (cloC i) = true := by
  match i with
  | 0 => simp [cloC]
  | 1 => simp [cloC]
  | 2 => simp [cloC]
  | 3 => simp [cloC]
  | 4 => simp [cloC]
  | 5 => simp [cloC]
  | 6 => simp [cloC]
  | n + 7 => simp [cloC]
noncomputable def checkRaw : List PV → Sto → Option (PV × Sto) := fun args σ =>
  open Classical in if h : ∃ p, CkSm p ∧ args = [.agg (pgC p)] ∧ σ = ⟨[], []⟩ then
    some (.tup [.agg (ciT (fromF h.choose 7 0).1 (fromF h.choose 7 0).2.1), int (fromF h.choose 7 0).2.2.1, int (fromF h.choose 7 0).2.2.2], ⟨[.cells (pgC h.choose), .cells (ciT (fromF h.choose 7 0).1 (fromF h.choose 7 0).2.1)], []⟩)
  else none
abbrev sto2 (p : Pg) : Sto := ⟨[.cells (pgC p), .cells [.sl [] .full, int 0, int 0, int 0]], []⟩
def rowF (F : Nat → Value) : List (List FV) := [[.im (F 0)], [.im (F 1)], [.im (F 2)], [.im (F 3)], [.im (F 4)], [.im (F 5)], [.im (F 6)]]
theorem rowF_get (F : Nat → Value) {i : Nat} (h : i < 7) : (rowF F)[i]? = some [.im (F i)] := by
  match i, h with
  | 0, _ => rfl
  | 1, _ => rfl
  | 2, _ => rfl
  | 3, _ => rfl
  | 4, _ => rfl
  | 5, _ => rfl
  | 6, _ => rfl
def ChkI (p : Pg) (F : Nat → Value) (i : Nat) (s : St) : Prop := s.sto = sto2 p ∧ s.env 1 = .ptr 0 0 ∧ s.env 2 = .ptr 1 0 ∧ s.env 16 = .sl (rowF F) .full ∧ s.env 17 = int 7 ∧ s.env 18 = int i
theorem im_cells {v : Value} (h : v.oneCell' = true) : (PV.im v).cells? = some [.im v] := by
  cases v <;> first | rfl | (simp [Value.oneCell'] at h)
theorem im_toF {v : Value} (h : v.oneCell' = true) : (PV.im v).toF = some (.im v) := if_pos h
theorem fn_one {G : Gh} {C : FuncId} {x : PV} {v : Value} (h : Rep G (.fn (.func C) [x]) v) : v.oneCell' = true := by
  cases h; rfl
set_option maxHeartbeats 4000000 in
theorem check_raw (g : Grd Tryz.prog L T) (hl : Free L checkFs) (hT : CkT L) : FunOk Tryz.prog T 25 checkRaw := by
  intro args σ r σ' he G w vals hTab hI hlen ha
  unfold checkRaw at he
  split at he
  case isFalse => cases he
  rename_i h
  have hsp := h.choose_spec
  generalize h.choose = p at *
  obtain ⟨hp, e1, e2⟩ := hsp
  subst e1
  subst e2
  cases he
  refine fn_world (fn := _) (c := _) Tryz.func25 rfl (by rw [Tryz.ntmps25]; simp) hTab hI hlen ha ?_
  intro a hO
  rw [Tryz.ntmps25] at hO
  refine wp_seq ?_
  refine WP.sound g (ids := []) (Q := fun ctl s => ctl = .next ∧ s.sto = sto2 p ∧ s.env 1 = .ptr 0 0 ∧ s.env 2 = .ptr 1 0) ?_ (by kernel_rfl) hO ?_
  · simp (maxSteps := 1000000) (contextual := true) (implicitDefEqProofs := false) [-decide_eq_true_eq, -decide_eq_false_iff_not, -Bool.not_and, -Bool.not_or, -Bool.and_eq_false_imp, -Int.natCast_add, -setAt, -List.map_take, setAt_eq, sto2, pgC]
  rintro ctl ⟨env, τ⟩ G1 a1 w1 ⟨rfl, h0, h1, h2⟩ hO1 hL1
  simp only at h0 h1 h2
  subst h0
  show Code.wp _ _ _ _ _
  refine wp_seq (wp_seq ?_)
  refine wp_region_list ?_
  rw [← List.take_append_drop 7 (Array.toList _)]
  refine wpl_of g hO1 (Q := fun s => s.sto = sto2 p ∧ s.env 1 = .ptr 0 0 ∧ s.env 2 = .ptr 1 0 ∧ s.env 9 = .fn (.func (cloC 0)) [.ptr 0 0] ∧ s.env 10 = .fn (.func (cloC 1)) [.ptr 0 0] ∧ s.env 11 = .fn (.func (cloC 2)) [.ptr 0 0] ∧ s.env 12 = .fn (.func (cloC 3)) [.ptr 0 0] ∧ s.env 13 = .fn (.func (cloC 4)) [.ptr 0 0] ∧ s.env 14 = .fn (.func (cloC 5)) [.ptr 0 0] ∧ s.env 15 = .fn (.func (cloC 6)) [.ptr 0 0]) ?_ ?_
  · simp only [List.take_succ_cons, List.take_zero]
    simp (maxSteps := 1000000) (contextual := true) (implicitDefEqProofs := false) [-decide_eq_true_eq, -decide_eq_false_iff_not, -Bool.not_and, -Bool.not_or, -Bool.and_eq_false_imp, -Int.natCast_add, -setAt, -List.map_take, setAt_eq, h1, h2, cloC]
  rintro ⟨env2, τ⟩ G2 a2 w2 ⟨h3, h4, h5, k0, k1, k2, k3, k4, k5, k6⟩ hO2 hL2
  simp only at h3 h4 h5 k0 k1 k2 k3 k4 k5 k6
  subst h3
  clear h1 h2 hO hO1
  let F : Nat → Value := fun i => a2.tmps.getD (9 + i) undef
  have hF : ∀ i, i < 7 → Rep G2 (.fn (.func (cloC i)) [.ptr 0 0]) (F i) := by
    intro i hi
    have h : Rep G2 (env2 (9 + i)) (F i) := hO2.env (9 + i)
    match i, hi with
    | 0, _ => rw [k0] at h; exact h
    | 1, _ => rw [k1] at h; exact h
    | 2, _ => rw [k2] at h; exact h
    | 3, _ => rw [k3] at h; exact h
    | 4, _ => rw [k4] at h; exact h
    | 5, _ => rw [k5] at h; exact h
    | 6, _ => rw [k6] at h; exact h
  have hF1 : ∀ i, i < 7 → (F i).oneCell' = true := fun i hi => fn_one (hF i hi)
  have hO3 := hO2.re (env := fun t => if 9 ≤ t ∧ t ≤ 15 then .im (F (t - 9)) else env2 t) (fun t => by
    show Rep G2 (if 9 ≤ t ∧ t ≤ 15 then .im (F (t - 9)) else env2 t) _
    split
    · rename_i ht
      have : F (t - 9) = a2.tmps.getD t undef := by show a2.tmps.getD (9 + (t - 9)) undef = _; rw [show 9 + (t - 9) = t by omega]
      rw [this]; exact .im _
    · exact hO2.env t)
  clear hO2
  generalize hF0 : F = F0 at *
  clear hF0
  refine (List.append_nil (List.drop 7 (Array.toList _))) ▸ wpl_of (l2 := []) g hO3 (Q := ChkI p F0 0) ?_ ?_
  · have f0 := im_cells (hF1 0 (by omega))
    have t0 := im_toF (hF1 0 (by omega))
    have f1 := im_cells (hF1 1 (by omega))
    have t1 := im_toF (hF1 1 (by omega))
    have f2 := im_cells (hF1 2 (by omega))
    have t2 := im_toF (hF1 2 (by omega))
    have f3 := im_cells (hF1 3 (by omega))
    have t3 := im_toF (hF1 3 (by omega))
    have f4 := im_cells (hF1 4 (by omega))
    have t4 := im_toF (hF1 4 (by omega))
    have f5 := im_cells (hF1 5 (by omega))
    have t5 := im_toF (hF1 5 (by omega))
    have f6 := im_cells (hF1 6 (by omega))
    have t6 := im_toF (hF1 6 (by omega))
    simp only [List.drop_succ_cons, List.drop_zero]
    simp (maxSteps := 1000000) (contextual := true) (implicitDefEqProofs := false) [-decide_eq_true_eq, -decide_eq_false_iff_not, -Bool.not_and, -Bool.not_or, -Bool.and_eq_false_imp, -Int.natCast_add, -setAt, -List.map_take, setAt_eq, ChkI, rowF, h4, h5, f0, f1, f2, f3, f4, f5, f6, t0, t1, t2, t3, t4, t5, t6]
  intro s3 G3 a3 w3 hc3 hO4 hL3
  show Code.wp _ _ _ _ _
  refine wp_block ?_
  have hL : Later G w G3 w3 := (hL1.trans hL2).trans hL3
  have hR3 : ∀ j, j < 7 → Rep G3 (.fn (.func (cloC j)) [.ptr 0 0]) (F0 j) := fun j hj => (hF j hj).mono hL3.le
  clear hF hO3 hL1 hL2 hL3
  refine wp_loop_ghost (fun m a' w' => ∃ i G' s, m = 7 - i ∧ i ≤ 7 ∧ Ok T G' 35 s a' w' ∧ Later G w G' w' ∧ ChkI p F0 i s ∧ (∀ j, j < 7 → Rep G' (.fn (.func (cloC j)) [.ptr 0 0]) (F0 j)) ∧ (3 ≤ i → TypesOk p) ∧ fromF p (7 - i) i = fromF p 7 0) 7 ⟨0, G3, s3, rfl, by omega, hO4, hL, hc3, hR3, fun h => by omega, rfl⟩ ?_
  clear hO4 hL hc3 hR3
  rintro m a4 w4 ⟨i, G4, ⟨env4, τ4⟩, rfl, hi, hO4, hL4, hI4, hR4, hty, hfr⟩
  obtain ⟨c0, c1, c2, c3, c4, c5⟩ := hI4
  simp only at c0 c1 c2 c3 c4 c5
  subst c0
  by_cases h7 : i = 7
  · subst h7
    refine WP.sound g (ids := []) (Q := fun ctl s => ctl = .exit 0 ∧ s.sto = sto2 p ∧ s.env 1 = .ptr 0 0 ∧ s.env 2 = .ptr 1 0) ?_ (by kernel_rfl) hO4 ?_
    · simp (maxSteps := 1000000) (contextual := true) (implicitDefEqProofs := false) [-decide_eq_true_eq, -decide_eq_false_iff_not, -Bool.not_and, -Bool.not_or, -Bool.and_eq_false_imp, -Int.natCast_add, -setAt, -List.map_take, setAt_eq, c1, c2, c3, c4, c5]
    rintro ctl ⟨env5, τ5⟩ G5 a5 w5 ⟨rfl, d0, d1, d2⟩ hO5 hL5
    simp only at d0 d1 d2
    subst d0
    simp only [Ctl.toExit, Exit.then, Exit.inBlock, if_true]
    have hla := laid_ok (L := L) (hl.right.right.right.left.left.left) hT.bits p hp.sm (hty (by omega))
    have hfr : (laidF p, Tag.unk, (0 : Int), (0 : Int)) = fromF p 7 0 := hfr
    rw [← hfr]
    simp only [ciT]
    simp only [pgC, ciC] at hla
    generalize laidF p = c at *
    refine WP.sound g (ids := []) (Q := fun ctl s => ctl = .ret ∧ outE Tryz.prog s.env s.sto Tryz.f25.results.toList = some (.tup [.agg [.sl (c.vars.map cvR) .unk, int c.bits, int c.ints, int c.arrays], int 0, int 0]) ∧ s.sto = ⟨[.cells (pgC p), .cells [.sl (c.vars.map cvR) .unk, int c.bits, int c.ints, int c.arrays]], []⟩) ?_ (by kernel_rfl) hO5 ?_
    · rw [Tryz.results25]
      simp (maxSteps := 1000000) (contextual := true) (implicitDefEqProofs := false) [-decide_eq_true_eq, -decide_eq_false_iff_not, -Bool.not_and, -Bool.not_or, -Bool.and_eq_false_imp, -Int.natCast_add, -setAt, -List.map_take, setAt_eq, d1, d2, pgC, sto2, hla]
    rintro ctl s6 G6 a6 w6 ⟨rfl, o1, o2⟩ hO6 hL6
    exact ⟨.inr rfl, G6, s6, by rw [Tryz.ntmps25]; exact hO6, (hL4.trans hL5).trans hL6, o1, o2⟩
  · have hi7 : i < 7 := by omega
    refine wp_seq (WP.sound g (ids := []) (Q := fun ctl s => ctl = .next ∧ ChkI p F0 i s ∧ s.env 19 = boo true) ?_ (by kernel_rfl) hO4 ?_)
    · have hd : decide ((i : Int) < 7) = true := decide_eq_true (by omega)
      simp (maxSteps := 1000000) (contextual := true) (implicitDefEqProofs := false) [-decide_eq_true_eq, -decide_eq_false_iff_not, -Bool.not_and, -Bool.not_or, -Bool.and_eq_false_imp, -Int.natCast_add, -setAt, -List.map_take, setAt_eq, ChkI, c1, c2, c3, c4, c5, hd]
    rintro ctl ⟨env5, τ5⟩ G5 a5 w5 ⟨rfl, ⟨d0, d1, d2, d3, d4, d5⟩, d6⟩ hO5 hL5
    simp only at d0 d1 d2 d3 d4 d5 d6
    subst d0
    show Code.wp _ _ _ _ _
    refine wp_seq (WP.sound g (ids := []) (Q := fun ctl s => ctl = .next ∧ s = ⟨env5, sto2 p⟩) ?_ (by kernel_rfl) hO5 ?_)
    · simp (maxSteps := 1000000) (contextual := true) (implicitDefEqProofs := false) [-decide_eq_true_eq, -decide_eq_false_iff_not, -Bool.not_and, -Bool.not_or, -Bool.and_eq_false_imp, -Int.natCast_add, -setAt, -List.map_take, setAt_eq, d6]
    rintro ctl s6 G6 a6 w6 ⟨rfl, rfl⟩ hO6 hL6
    show Code.wp _ _ _ _ _
    refine wp_seq (wp_block (wp_seq (WP.sound g (ids := []) (Q := fun ctl s => ctl = .next ∧ ChkI p F0 i s ∧ s.env 6 = .im (F0 i)) ?_ (by kernel_rfl) hO6 ?_)))
    · have hix : idx 1 (rowF F0) (i : Int) = some (.el [.im (F0 i)] 0) := idx_get (rowF_get F0 hi7) rfl
      simp (maxSteps := 1000000) (contextual := true) (implicitDefEqProofs := false) [-decide_eq_true_eq, -decide_eq_false_iff_not, -Bool.not_and, -Bool.not_or, -Bool.and_eq_false_imp, -Int.natCast_add, -setAt, -List.map_take, setAt_eq, ChkI, d1, d2, d3, d4, d5, hix]
    rintro ctl ⟨env7, τ7⟩ G7 a7 w7 ⟨rfl, ⟨e0, e1, e2, e3, e4, e5⟩, e6⟩ hO7 hL7
    simp only at e0 e1 e2 e3 e4 e5 e6
    subst e0
    show Code.wp _ _ _ _ _
    have hL47 := (hL5.trans hL6).trans hL7
    have hfn := (hR4 i hi7).mono hL47.le
    have hO8 := hO7.re (env := fun t => if t = 6 then .fn (.func (cloC i)) [.ptr 0 0] else env7 t) (fun t => by
      show Rep G7 (if t = 6 then .fn (.func (cloC i)) [.ptr 0 0] else env7 t) _
      split
      · rename_i ht
        subst ht
        have h6 : Rep G7 (env7 6) (a7.tmps.getD 6 undef) := hO7.env 6
        rw [e6] at h6
        generalize a7.tmps.getD 6 undef = v at h6
        cases h6
        exact hfn
      · exact hO7.env t)
    have hcl := (clo_all hl hT p hp i hty).call [.cells [.sl [] .full, int 0, int 0, int 0]] []
    have hib := cloC_body i
    have hfr' : fromF p (7 - i) i = if (cloF p i).2 = 0 then fromF p (7 - (i + 1)) (i + 1) else (zCI, .full, (cloF p i).1, (cloF p i).2) := by
      rw [show 7 - i = (7 - (i + 1)) + 1 by omega]; rfl
    have hty' : (cloF p i).2 = 0 → 3 ≤ i + 1 → TypesOk p := fun h0 h3 => by
      by_cases h2 : i = 2
      · subst h2; exact typesOk_of h0
      · exact hty (by omega)
    rw [hfr'] at hfr
    clear hfr'
    generalize cloC i = C at *
    generalize cloF p i = xy at *
    obtain ⟨x, y⟩ := xy
    simp only at hcl hfr hty'
    by_cases hy : y = 0
    · subst hy
      rw [if_pos rfl] at hfr
      refine WP.sound g (ids := []) (Q := fun ctl s => ctl = .next ∧ ChkI p F0 i s) ?_ (by kernel_rfl) hO8 ?_
      · simp (maxSteps := 1000000) (contextual := true) (implicitDefEqProofs := false) [-decide_eq_true_eq, -decide_eq_false_iff_not, -Bool.not_and, -Bool.not_or, -Bool.and_eq_false_imp, -Int.natCast_add, -setAt, -List.map_take, setAt_eq, ChkI, e1, e2, e3, e4, e5, hcl, hib, funOf]
      rintro ctl ⟨env9, τ9⟩ G9 a9 w9 ⟨rfl, k0, k1, k2, k3, k4, k5⟩ hO9 hL9
      simp only at k0 k1 k2 k3 k4 k5
      subst k0
      show Code.wp _ _ _ _ _
      refine WP.sound g (ids := []) (Q := fun ctl s => ctl = .next ∧ ChkI p F0 (i + 1) s) ?_ (by kernel_rfl) hO9 ?_
      · have hw : IntKind.wrap .i64 ((i : Int) + 1) = ((i + 1 : Nat) : Int) := wrap_succ (by omega)
        simp (maxSteps := 1000000) (contextual := true) (implicitDefEqProofs := false) [-decide_eq_true_eq, -decide_eq_false_iff_not, -Bool.not_and, -Bool.not_or, -Bool.and_eq_false_imp, -Int.natCast_add, -setAt, -List.map_take, setAt_eq, ChkI, k1, k2, k3, k4, k5, hw]
      rintro ctl s10 G10 a10 w10 ⟨rfl, hI10⟩ hO10 hL10
      have hLL := (hL47.trans hL9).trans hL10
      exact ⟨7 - (i + 1), by omega, i + 1, G10, s10, rfl, by omega, hO10, hL4.trans hLL, hI10, fun j hj => (hR4 j hj).mono hLL.le, hty' rfl, hfr⟩
    · rw [if_neg hy] at hfr
      rw [← hfr]
      simp only [ciT, zCI, List.map_nil]
      refine WP.sound g (ids := []) (Q := fun ctl s => ctl = .ret ∧ outE Tryz.prog s.env s.sto Tryz.f25.results.toList = some (.tup [.agg [.sl [] .full, int 0, int 0, int 0], int x, int y]) ∧ s.sto = sto2 p) ?_ (by kernel_rfl) hO8 ?_
      · rw [Tryz.results25]
        have hd : decide (y = 0) = false := decide_eq_false hy
        simp (maxSteps := 1000000) (contextual := true) (implicitDefEqProofs := false) [-decide_eq_true_eq, -decide_eq_false_iff_not, -Bool.not_and, -Bool.not_or, -Bool.and_eq_false_imp, -Int.natCast_add, -setAt, -List.map_take, setAt_eq, e1, e2, e3, e4, e5, hcl, hib, funOf, hd]
      rintro ctl s9 G9 a9 w9 ⟨rfl, o1, o2⟩ hO9 hL9
      exact ⟨.inr rfl, G9, s9, by rw [Tryz.ntmps25]; exact hO9, (hL4.trans hL47).trans hL9, o1, o2⟩
end Go.Proofs.YtfgoedndpcblpaaGreatDoor.Pv
end
section
namespace Go.Proofs.YtfgoedndpcblpaaGreatDoor.Pv
open Go Go.Proofs Go.Proofs.YtfgoedndpcblpaaGreatDoor.Lx Go.Proofs.YtfgoedndpcblpaaGreatDoor.Ps
set_option linter.unusedSimpArgs false
set_option linter.unusedVariables false
variable {L : Lib} {σ : Sto} {T : Base}
mutual
theorem exR_inj : ∀ {a b : Ex}, exR a = exR b → a = b
  | .mk op nm n l i, .mk op' nm' n' l' i', h => by
    simp only [exR, List.cons.injEq, FV.im.injEq, FV.sl.injEq, Value.string.injEq, Value.int.injEq, true_and, and_true] at h
    obtain ⟨rfl, rfl, rfl, h1, rfl⟩ := h
    rw [exRs_inj h1]
theorem exRs_inj : ∀ {a b : List Ex}, exRs a = exRs b → a = b
  | [], [], _ => rfl
  | [], _ :: _, h => by simp [exRs] at h
  | _ :: _, [], h => by simp [exRs] at h
  | x :: xs, y :: ys, h => by
    simp only [exRs, List.cons.injEq] at h
    rw [exR_inj h.1, exRs_inj h.2]
end
mutual
theorem stR_inj : ∀ {a b : Ps.St}, stR a = stR b → a = b
  | .mk op nm e a b i, .mk op' nm' e' a' b' i', h => by
    simp only [stR, List.cons.injEq, FV.im.injEq, FV.sl.injEq, Value.string.injEq, Value.int.injEq, true_and, and_true] at h
    obtain ⟨rfl, rfl, h1, h2, h3, rfl⟩ := h
    rw [exRs_inj h1, stRs_inj h2, stRs_inj h3]
theorem stRs_inj : ∀ {a b : List Ps.St}, stRs a = stRs b → a = b
  | [], [], _ => rfl
  | [], _ :: _, h => by simp [stRs] at h
  | _ :: _, [], h => by simp [stRs] at h
  | x :: xs, y :: ys, h => by
    simp only [stRs, List.cons.injEq] at h
    rw [stR_inj h.1, stRs_inj h.2]
end
theorem map_inj {α β : Type} {f : α → β} (hf : ∀ {a b}, f a = f b → a = b) : ∀ {l m : List α}, l.map f = m.map f → l = m
  | [], [], _ => rfl
  | [], _ :: _, h => by simp at h
  | _ :: _, [], h => by simp at h
  | x :: xs, y :: ys, h => by
    simp only [List.map_cons, List.cons.injEq] at h
    rw [hf h.1, map_inj hf h.2]
theorem strR_inj {a b : ByteArray} (h : strR a = strR b) : a = b := by
  simpa [strR] using h
theorem enR_inj {a b : En} (h : enR a = enR b) : a = b := by
  cases a; cases b
  simp only [enR, List.cons.injEq, FV.im.injEq, FV.sl.injEq, Value.string.injEq, true_and, and_true] at h
  obtain ⟨rfl, h1⟩ := h
  rw [map_inj strR_inj h1]
theorem vrR_inj {a b : Vr} (h : vrR a = vrR b) : a = b := by
  cases a; cases b
  simp only [vrR, List.cons.injEq, FV.im.injEq, Value.string.injEq, Value.int.injEq, true_and, and_true] at h
  obtain ⟨rfl, rfl, rfl⟩ := h
  rfl
theorem pcR_inj {a b : Pc} (h : pcR a = pcR b) : a = b := by
  cases a; cases b
  simp only [pcR, List.cons.injEq, FV.im.injEq, FV.sl.injEq, Value.string.injEq, true_and, and_true] at h
  obtain ⟨rfl, h1⟩ := h
  rw [stRs_inj h1]
theorem pgC_inj {a b : Pg} (h : pgC a = pgC b) : a = b := by
  cases a; cases b
  simp only [pgC, List.cons.injEq, PV.sl.injEq, and_true] at h
  obtain ⟨h1, h2, h3, h4⟩ := h
  rw [map_inj enR_inj h1, map_inj vrR_inj h2, map_inj pcR_inj h3, stRs_inj h4]
theorem agg_pg {p q : Pg} (h : [PV.agg (pgC p)] = [.agg (pgC q)]) : q = p := by
  simp only [List.cons.injEq, PV.agg.injEq, and_true] at h
  exact (pgC_inj h).symm
def checkOut (p : Pg) : PV := .tup [.agg (ciC (checkF p).1), int (checkF p).2.1, int (checkF p).2.2]
theorem ckOut_row (p : Pg) : (PV.tup [.agg (ciT (fromF p 7 0).1 (fromF p 7 0).2.1), int (fromF p 7 0).2.2.1, int (fromF p 7 0).2.2.2]).ptrs = [] ∧ (PV.tup [.agg (ciT (fromF p 7 0).1 (fromF p 7 0).2.1), int (fromF p 7 0).2.2.1, int (fromF p 7 0).2.2.2]).era = checkOut p := ⟨rfl, rfl⟩
noncomputable def checkH : List PV → Sto → Option (PV × Sto) := fun args σ =>
  open Classical in if h : ∃ p, CkSm p ∧ args = [.agg (pgC p)] then some (checkOut h.choose, σ) else none
theorem checkH_at (p : Pg) (hp : CkSm p) (σ : Sto) : checkH [.agg (pgC p)] σ = some (checkOut p, σ) := by
  have h : ∃ q, CkSm q ∧ [PV.agg (pgC p)] = [.agg (pgC q)] := ⟨p, hp, rfl⟩
  unfold checkH
  rw [dif_pos h]
  have e : h.choose = p := agg_pg h.choose_spec.2
  rw [e]
theorem ro_check : ∀ d, roF Tryz.prog d 25 = false
  | 0 | 1 | 2 | 3 | 4 | 5 | 6 | 7 => by kernel_rfl
  | k + 8 => by kernel_rfl
theorem look_grd {l : List (FuncId × Hd)} (g : Grd Tryz.prog L T) (h : ∀ x ∈ l, FunOk Tryz.prog T x.1 x.2 ∧ ((∀ args σ r σ1, x.2 args σ = some (r, σ1) → σ1 = σ) ∨ ∀ d, roF Tryz.prog d x.1 = false)) : Grd Tryz.prog (look l L) T :=
  ⟨g.mix, look_all (Q := fun f h => ∀ d, roF Tryz.prog d f = true → ∀ args σ r σ1, h args σ = some (r, σ1) → σ1 = σ) (fun x hx d hd args σ r σ1 he => by
    rcases (h x hx).2 with k | k
    · exact k args σ r σ1 he
    · rw [k d] at hd; cases hd) g.ro, look_all (fun x hx => (h x hx).1) g.ok⟩
theorem Grd.handEV (g : Grd Tryz.prog L T) : HandOk Tryz.prog T (EV Tryz.prog L) := EV_hand (ev_sound g.mix g.ro g.ok)
theorem check_fun (g : Grd Tryz.prog L T) (hl : Free L checkFs) (hT : CkT L) : FunOk Tryz.prog T 25 checkH := by
  have g1 : Grd Tryz.prog (look [(25, checkRaw)] L) T := look_grd g (fun x hx => by
    simp only [List.mem_cons, List.not_mem_nil, or_false] at hx
    subst hx
    exact ⟨check_raw g hl hT, .inr ro_check⟩)
  refine told_fun g1.handEV fun args σ r σ' he => ?_
  unfold checkH at he
  split at he
  case isFalse => cases he
  rename_i h
  have hsp := h.choose_spec
  generalize h.choose = p at *
  obtain ⟨hp, rfl⟩ := hsp
  cases he
  have h2 : ∃ q, CkSm q ∧ [PV.agg (pgC p)] = [.agg (pgC q)] ∧ (⟨[], []⟩ : Sto) = ⟨[], []⟩ := ⟨p, hp, rfl, rfl⟩
  have e : h2.choose = p := agg_pg h2.choose_spec.2.1
  have hraw : checkRaw [.agg (pgC p)] ⟨[], []⟩ = some (.tup [.agg (ciT (fromF p 7 0).1 (fromF p 7 0).2.1), int (fromF p 7 0).2.2.1, int (fromF p 7 0).2.2.2], ⟨[.cells (pgC p), .cells (ciT (fromF p 7 0).1 (fromF p 7 0).2.1)], []⟩) := by
    unfold checkRaw
    rw [dif_pos h2, e]
  have hlk : look [(25, checkRaw)] L 25 = some checkRaw := by simp [look]
  rw [← (ckOut_row p).2]
  exact call_pure (args := [.agg (pgC p)]) rfl (EV_lib hlk hraw) (ckOut_row p).1
noncomputable def libB : Lib := look [(87, bitLenH), (168, growH 1), (149, growH 6)] libL
theorem ro_grow1 : ∀ d, roF Tryz.prog d 168 = false
  | 0 | 1 | 2 | 3 | 4 | 5 | 6 | 7 => by kernel_rfl
  | k + 8 => by kernel_rfl
theorem ro_grow6 : ∀ d, roF Tryz.prog d 149 = false
  | 0 | 1 | 2 | 3 | 4 | 5 | 6 | 7 => by kernel_rfl
  | k + 8 => by kernel_rfl
theorem grd_L (h0 : ∀ f h, libL f = some h → FunOk Tryz.prog T f h) : Grd Tryz.prog libL T := ⟨mixed, libL_ro, h0⟩
theorem grd_B (h0 : ∀ f h, libL f = some h → FunOk Tryz.prog T f h) : Grd Tryz.prog libB T := look_grd (grd_L h0) (fun x hx => by
  simp only [List.mem_cons, List.not_mem_nil, or_false] at hx
  rcases hx with rfl | rfl | rfl
  · refine ⟨bitLen_fun, .inl fun args σ r σ1 he => ?_⟩
    dsimp only at he; unfold bitLenH at he; split at he
    · split at he <;> cases he; rfl
    · cases he
  · exact ⟨growStr_fun, .inr ro_grow1⟩
  · exact ⟨growSt_fun, .inr ro_grow6⟩)
theorem free_of {l : List FuncId} (h : (l.all fun f => (L f).isNone) = true) : Free L l := fun f hf => by
  have := List.all_eq_true.1 h f hf
  simpa using this
theorem free_B : Free libB checkFs := free_of (by kernel_rfl)
theorem ckt_B : CkT libB := ⟨⟨rfl, rfl, rfl, rfl, rfl⟩, rfl, rfl, rfl, rfl⟩
theorem check_B (h0 : ∀ f h, libL f = some h → FunOk Tryz.prog T f h) : FunOk Tryz.prog T 25 checkH := check_fun (grd_B h0) free_B ckt_B
end Go.Proofs.YtfgoedndpcblpaaGreatDoor.Pv
end
section
namespace Go.Proofs.YtfgoedndpcblpaaGreatDoor.Pv
open Go Go.RowKit Go.Proofs Go.Proofs.YtfgoedndpcblpaaGreatDoor.Lx Go.Proofs.YtfgoedndpcblpaaGreatDoor.Ps
open Go.Proofs.YtfgoedndpcblpaaGreatDoor.Rows (uptoBulk uptoBulkAll)
set_option linter.unusedVariables false
set_option linter.unusedSimpArgs false
def memF (w : World) : Nat → Nat → Option Value := fun b o => w.cell? ⟨b, o, none⟩
def RepFs (fz : Nat → Nat → Option Value) (l : List FV) (cs : List Value) : Prop := l.length = cs.length ∧ ∀ i (h : i < l.length), RepF fz l[i] (cs.getD i undef)
theorem RepFs.nil {fz : Nat → Nat → Option Value} : RepFs fz [] [] := ⟨rfl, fun i h => absurd h (Nat.not_lt_zero _)⟩
theorem RepFs.cons {fz : Nat → Nat → Option Value} {x : FV} {l : List FV} {v : Value} {cs : List Value} (h : RepF fz x v) (hl : RepFs fz l cs) : RepFs fz (x :: l) (v :: cs) :=
  ⟨by simp [hl.1], fun i hi => by
    cases i with
    | zero => exact h
    | succ i => exact hl.2 i (by simpa using hi)⟩
mutual
def bkE : Ex → Nat
  | .mk op nm _ l _ => 6 + op.size + nm.size + bkEs l
def bkEs : List Ex → Nat
  | [] => 0
  | x :: xs => bkE x + bkEs xs
end
mutual
def bkT : Ps.St → Nat
  | .mk op nm e a b _ => 7 + op.size + nm.size + bkEs e + bkTs a + bkTs b
def bkTs : List Ps.St → Nat
  | [] => 0
  | x :: xs => bkT x + bkTs xs
end
def bkStr (x : ByteArray) : Nat := x.size + 1
def bkEn (e : En) : Nat := 2 + e.name.size + sumN bkStr e.l
def bkV (v : Vr) : Nat := 4 + v.name.size + v.type.size
def bkX (x : Pc) : Nat := 2 + x.name.size + bkTs x.body
def bkG (p : Pg) : Nat := sumN bkEn p.enums + sumN bkV p.vars + sumN bkX p.procs + bkTs p.main + 4
end Go.Proofs.YtfgoedndpcblpaaGreatDoor.Pv
end
section
namespace Go.Proofs.YtfgoedndpcblpaaGreatDoor.Pv
open Go Go.Proofs Go.RowKit Go.Proofs.YtfgoedndpcblpaaGreatDoor.Ps
set_option linter.unusedVariables false
def memG (w : World) : Gh := ⟨memF w, [], []⟩
theorem walk_mem {W : World} (hA : Go.Lib.TabIs Tryz.prog W "strings.asciiSpace" .u8 Go.Lib.asciiSpaceTab) (hP : Go.Lib.TabIs Tryz.prog W "internal/strconv.uint64pow10" .u64 Go.Lib.pow10Tab) {L : Lib} (hL : ∀ T : Base, (∀ f h, libL f = some h → FunOk Tryz.prog T f h) → Grd Tryz.prog L T)
    {f : FuncId} {args : List PV} {b : Bool} {vals : Array Value} (hl : args.length = vals.size) (ha : ∀ i (h : i < args.length), Rep (memG W) args[i] (vals.getD i undef)) (h : callE (EV Tryz.prog L) f args ⟨[], []⟩ = some (boo b, ⟨[], []⟩)) :
    Calls Tryz.prog f vals W fun e W' => e = .returned (.bool b) ∧ Below W.heap.size W W' := by
  have key : ∀ {name : String} {k : IntKind} {zs : List Int}, Go.Lib.TabIs Tryz.prog W name k zs → ∃ g t fr, Tryz.prog.globalNamed name = some g ∧ W.heap[g]? = some (.cells (zs.map fun z => Value.int k z).toArray t fr) := by
    intro name k zs h
    unfold Go.Lib.TabIs World.var? at h
    obtain ⟨g, h1, h2⟩ := Option.bind_eq_some_iff.1 h
    split at h2
    · rename_i cs t fr he
      cases h2
      exact ⟨g, t, fr, h1, he⟩
    · cases h2
  obtain ⟨g1, t1, fr1, a1, a2⟩ := key hA
  obtain ⟨g2, t2, fr2, b1, b2⟩ := key hP
  let T : Base := fun b => if b = g1 then W.heap[g1]? else if b = g2 then W.heap[g2]? else none
  have hT1 : T g1 = some (.cells (Go.Lib.asciiSpaceTab.map fun z => Value.int .u8 z).toArray t1 fr1) := by
    show (if g1 = g1 then _ else _) = _
    rw [if_pos rfl, a2]
  have hne : g2 ≠ g1 := by
    intro e
    subst e
    have : Tryz.prog.globalNamed "strings.asciiSpace" ≠ Tryz.prog.globalNamed "internal/strconv.uint64pow10" := by
      rw [show Tryz.prog.globalNamed "strings.asciiSpace" = some 0 by kernel_rfl, show Tryz.prog.globalNamed "internal/strconv.uint64pow10" = some 3 by kernel_rfl]
      decide
    exact this (a1.trans b1.symm)
  have hT2 : T g2 = some (.cells (Go.Lib.pow10Tab.map fun z => Value.int .u64 z).toArray t2 fr2) := by
    show (if g2 = g1 then _ else if g2 = g2 then _ else _) = _
    rw [if_neg hne, if_pos rfl, b2]
  have hH : HandOk Tryz.prog T (EV Tryz.prog L) := (hL T (lib_ok ⟨a1, t1, fr1, rfl⟩ hT1 ⟨b1, t2, fr2, rfl⟩ hT2)).handEV
  have hM : ∀ b, ¬ (memG W).M b := by
    rintro b (⟨i, e⟩ | ⟨g, r, e, _⟩)
    · cases e
    · cases e
  have hT : Tab T (memG W) W := fun b o e => by
    refine ⟨?_, hM b⟩
    have e' : (if b = g1 then W.heap[g1]? else if b = g2 then W.heap[g2]? else none) = some o := e
    split at e'
    · rename_i hb; rw [hb]; exact e'
    · split at e'
      · rename_i hb; rw [hb]; exact e'
      · cases e'
  have hI : Inv (memG W) ⟨[], []⟩ W := ⟨(fun b o v e => e), rfl, (fun i blk x e => by cases e), (fun i blk o e => by cases e), (fun i j blk e => by cases e), rfl, (fun g r e => by cases e), (fun g k r s e => by cases e), (fun g i blk r e => by cases e)⟩
  refine (call_sound hH h hT hI hl ha).mono ?_
  rintro e w' ⟨v, G', rfl, hI', hr, hL'⟩
  rw [rep_im hr]
  exact ⟨rfl, ⟨hL'.io.1, hL'.io.2.1, hL'.io.2.2, hL'.size, fun k hk => hL'.same k hk (hM k)⟩⟩
theorem reps_two {w : World} {x y : PV} {v u : Value} (h : Rep (memG w) x v) (k : Rep (memG w) y u) : ∀ i (h : i < [x, y].length), Rep (memG w) [x, y][i] ((#[v, u] : Array Value).getD i undef)
  | 0, _ => h
  | 1, _ => k
end Go.Proofs.YtfgoedndpcblpaaGreatDoor.Pv
end
section
namespace Go.Proofs.YtfgoedndpcblpaaGreatDoor.Pv
open Go Go.Proofs Go.Proofs.YtfgoedndpcblpaaGreatDoor.Lx Go.Proofs.YtfgoedndpcblpaaGreatDoor.Ps
set_option linter.unusedSimpArgs false
set_option linter.unusedVariables false
mutual
theorem lnE_bk : ∀ e : Ex, lnE e + 2 ≤ 8 * bkE e
  | .mk op nm n l i => by rw [lnE, bkE]; have := lnEs_bk l; omega
theorem lnEs_bk : ∀ l : List Ex, lnEs l ≤ 8 * bkEs l
  | [] => Nat.zero_le _
  | x :: xs => by rw [lnEs, bkEs]; have := lnE_bk x; have := lnEs_bk xs; omega
end
mutual
theorem lnT_bk : ∀ e : Ps.St, lnT e ≤ 8 * bkT e
  | .mk op nm e a b i => by rw [lnT, bkT]; have := lnEs_bk e; have := lnTs_bk a; have := lnTs_bk b; omega
theorem lnTs_bk : ∀ l : List Ps.St, lnTs l ≤ 8 * bkTs l
  | [] => Nat.zero_le _
  | x :: xs => by rw [lnTs, bkTs]; have := lnT_bk x; have := lnTs_bk xs; omega
end
theorem cat_len : ∀ ws : List ByteArray, (catB ws).length = sumN (fun w => w.size) ws
  | [] => rfl
  | x :: xs => by rw [cat_cons, List.length_append, size_toList, sumN, cat_len xs]
theorem line_len (d : Nat) (ws : List ByteArray) : (lineB d ws).length = 2 * d + sumN (fun w => w.size) ws + 1 := by
  unfold lineB; simp only [List.length_append, rep_len, List.length_cons, List.length_nil, cat_len]
theorem part_bk {e : List Ex} (ho : okXs e) (k : Nat) : (partB e k).size ≤ 8 * bkEs e := by
  have h1 := (part_len (k := k) (l := e) fun x hx => text_len x (okXs_mem ho x hx)).1
  have h2 := lnEs_bk e
  unfold partB
  rw [strOf_size]; omega
theorem ite_len {c : Prop} [Decidable c] {a b : List UInt8} {N : Nat} (h1 : a.length ≤ N) (h2 : b.length ≤ N) : (if c then a else b).length ≤ N := by split <;> assumption
mutual
theorem stmt_len (M : Nat) : ∀ (s : Ps.St) (d : Nat), okT s → 2 * (d + 1 + stN s) + 40 ≤ M → (stmtB d s).length ≤ 24 * bkT s + 3 * (M * (1 + stN s))
  | .mk op nm e a b i, d, ho, hM => by
    rw [okT] at ho
    rw [stN] at hM ⊢
    have hA := stmts_len M a (d + 1) ho.2.1 (by omega)
    have hB := stmts_len M b (d + 1) ho.2.2 (by omega)
    have hp0 := part_bk ho.1 0
    have hp1 := part_bk ho.1 1
    have hMA : M * (stsN a + stsN b) ≤ M * (exsN e + stsN a + stsN b) := Nat.mul_le_mul_left _ (by omega)
    rw [Nat.mul_add] at hMA
    have hM1 : M * (1 + (exsN e + stsN a + stsN b)) = M + M * (exsN e + stsN a + stsN b) := by rw [Nat.mul_add, Nat.mul_one]
    rw [hM1, bkT, stmtB]
    have y0 : (⟨#[32, 61, 32]⟩ : ByteArray).size = 3 := rfl
    have y1 : (⟨#[59]⟩ : ByteArray).size = 1 := rfl
    have y2 : (⟨#[91]⟩ : ByteArray).size = 1 := rfl
    have y3 : (⟨#[93, 32, 61, 32]⟩ : ByteArray).size = 4 := rfl
    have y4 : (⟨#[32, 61, 32, 105, 110, 112, 117, 116, 59]⟩ : ByteArray).size = 9 := rfl
    have y5 : (⟨#[32, 61, 32, 105, 110, 112, 117, 116, 40]⟩ : ByteArray).size = 9 := rfl
    have y6 : (⟨#[44, 32]⟩ : ByteArray).size = 2 := rfl
    have y7 : (⟨#[41, 59]⟩ : ByteArray).size = 2 := rfl
    have y8 : (⟨#[32]⟩ : ByteArray).size = 1 := rfl
    have y9 : (⟨#[32, 123]⟩ : ByteArray).size = 2 := rfl
    have y10 : (⟨#[125, 32, 101, 108, 115, 101, 32, 123]⟩ : ByteArray).size = 8 := rfl
    have y11 : (⟨#[125]⟩ : ByteArray).size = 1 := rfl
    have y12 : (⟨#[99, 97, 108, 108, 32]⟩ : ByteArray).size = 5 := rfl
    have z1 := size_toList op
    have z2 := size_toList nm
    have z3 := size_toList (partB e 0)
    have z4 := size_toList (partB e 1)
    have hif : (if 0 < b.length then lineB d [⟨#[125, 32, 101, 108, 115, 101, 32, 123]⟩] ++ stmtsB (d + 1) b else []).length ≤ 2 * d + 9 + (stmtsB (d + 1) b).length := by
      refine ite_len ?_ (Nat.zero_le _)
      simp only [List.length_append, line_len, sumN, y0, y1, y2, y3, y4, y5, y6, y7, y8, y9, y10, y11, y12, List.length_cons, List.length_nil]; omega
    generalize (if 0 < b.length then lineB d [⟨#[125, 32, 101, 108, 115, 101, 32, 123]⟩] ++ stmtsB (d + 1) b else []) = xb at *
    refine ite_len ?_ (ite_len ?_ (ite_len (ite_len ?_ ?_) (ite_len ?_ (ite_len ?_ (ite_len ?_ (ite_len ?_ ?_))))))
    all_goals (simp only [List.length_append, line_len, sumN, y0, y1, y2, y3, y4, y5, y6, y7, y8, y9, y10, y11, y12, List.length_cons, List.length_nil]; omega)
theorem stmts_len (M : Nat) : ∀ (l : List Ps.St) (d : Nat), okTs l → 2 * (d + stsN l) + 40 ≤ M → (stmtsB d l).length ≤ 24 * bkTs l + 3 * (M * stsN l)
  | [], d, _, _ => Nat.zero_le _
  | x :: xs, d, ho, hM => by
    rw [okTs] at ho
    rw [stsN] at hM
    have h1 := stmt_len M x d ho.1 (by omega)
    have h2 := stmts_len M xs d ho.2 (by omega)
    rw [stmtsB, List.length_append, bkTs, stsN]
    have : M * (1 + stN x + stsN xs) = M * (1 + stN x) + M * stsN xs := Nat.mul_add _ _ _
    rw [this]; omega
end
theorem flat_len {α : Type} (f : α → List UInt8) (g : α → Nat) : ∀ l : List α, (∀ x ∈ l, (f x).length ≤ g x) → (flatB f l).length ≤ sumN g l
  | [], _ => Nat.le_refl _
  | x :: xs, h => by
    rw [flatB, List.length_append, sumN]
    have h1 := h x (List.mem_cons_self ..)
    have h2 := flat_len f g xs (fun y hy => h y (List.mem_cons_of_mem _ hy))
    omega
theorem sum_le {α : Type} {f g : α → Nat} : ∀ {l : List α}, (∀ x ∈ l, f x ≤ g x) → sumN f l ≤ sumN g l
  | [], _ => Nat.le_refl _
  | x :: xs, h => by
    rw [sumN, sumN]
    have h1 := h x (List.mem_cons_self ..)
    have h2 := sum_le (l := xs) (fun y hy => h y (List.mem_cons_of_mem _ hy))
    omega
theorem sum_mul {α : Type} (c : Nat) (f : α → Nat) : ∀ l : List α, sumN (fun x => c * f x) l = c * sumN f l
  | [] => rfl
  | x :: xs => by rw [sumN, sumN, sum_mul c f xs, Nat.mul_add]
theorem sum_add {α : Type} (f g : α → Nat) : ∀ l : List α, sumN (fun x => f x + g x) l = sumN f l + sumN g l
  | [] => rfl
  | x :: xs => by rw [sumN, sumN, sumN, sum_add f g xs]; omega
theorem sum_one {α : Type} {f : α → Nat} : ∀ {l : List α}, (∀ x ∈ l, 1 ≤ f x) → l.length ≤ sumN f l
  | [], _ => Nat.le_refl _
  | x :: xs, h => by
    rw [sumN, List.length_cons]
    have h1 := h x (List.mem_cons_self ..)
    have h2 := sum_one (l := xs) (fun y hy => h y (List.mem_cons_of_mem _ hy))
    omega
theorem sum_c {α : Type} (c : Nat) {f : α → Nat} : ∀ {l : List α}, (∀ x ∈ l, c ≤ f x) → c * l.length ≤ sumN f l
  | [], _ => Nat.le_refl _
  | x :: xs, h => by
    rw [sumN, List.length_cons]
    have h1 := h x (List.mem_cons_self ..)
    have h2 := sum_c c (l := xs) (fun y hy => h y (List.mem_cons_of_mem _ hy))
    rw [Nat.mul_add]; omega
theorem join_len : ∀ l : List ByteArray, (listB l).size ≤ 2 * sumN bkStr l := by
  intro l
  unfold listB
  rw [strOf_size]
  unfold Lib.join
  induction l with
  | nil => exact Nat.zero_le _
  | cons x xs ih =>
    have hx := size_toList x
    cases xs with
    | nil => simp [List.intercalate, sumN, bkStr]; omega
    | cons y ys =>
      have e : [44, 32].intercalate ((x :: y :: ys).map (·.data.toList)) = x.data.toList ++ ([44, 32] ++ [44, 32].intercalate ((y :: ys).map (·.data.toList))) := by simp [List.intercalate]
      rw [e, List.length_append, List.length_append, sumN]
      simp only [List.length_cons, List.length_nil]
      unfold bkStr at ih ⊢; omega
structure Few (p : Pg) : Prop where
  bk : bkG p ≤ 1048576
  pg : pgN p ≤ 300
  ok : okG p
theorem Few.parts {p : Pg} (h : Few p) : p.enums.length ≤ 1048576 ∧ p.vars.length ≤ 1048576 ∧ p.procs.length ≤ 524288 ∧ sumN (fun e => e.l.length) p.enums ≤ 1048576 := by
  have hb := h.bk
  unfold bkG at hb
  have h1 : p.enums.length ≤ sumN bkEn p.enums := sum_one (fun x _ => by unfold bkEn; omega)
  have h2 : p.vars.length ≤ sumN bkV p.vars := sum_one (fun x _ => by unfold bkV; omega)
  have h3 : 2 * p.procs.length ≤ sumN bkX p.procs := sum_c 2 (fun x _ => by unfold bkX; omega)
  have h4 : sumN (fun e => e.l.length) p.enums ≤ sumN bkEn p.enums := sum_le (fun x _ => by
    unfold bkEn
    have : x.l.length ≤ sumN bkStr x.l := sum_one (fun y _ => by unfold bkStr; omega)
    omega)
  omega
theorem Few.printed {p : Pg} (h : Few p) : (printB p).length ≤ 274877906944 := by
  have hb := h.bk
  have hp := h.pg
  have ho := h.ok
  unfold bkG at hb
  unfold pgN at hp
  have hM : 2 * (1 + stsN p.main) + 40 ≤ 1000 := by omega
  have h1 := stmts_len 1000 p.main 1 ho.1 hM
  have h2 : ∀ x ∈ p.procs, (procB x).length ≤ 32 * bkX x + 3000 * stsN x.body := fun x hx => by
    have hs := sum_mem (fun x : Pc => stsN x.body) p.procs x hx
    have := stmts_len 1000 x.body 1 (ho.2.1 x hx) (by omega)
    unfold procB bkX
    simp only [List.length_append, line_len, sumN]
    have e1 : (⟨#[32, 123]⟩ : ByteArray).size = 2 := rfl
    have e2 : (⟨#[125]⟩ : ByteArray).size = 1 := rfl
    have e3 : (⟨#[112, 114, 111, 99, 32]⟩ : ByteArray).size = 5 := rfl
    rw [e1, e2, e3]
    omega
  have h3 := flat_len procB (fun x => 32 * bkX x + 3000 * stsN x.body) p.procs h2
  rw [sum_add (fun x => 32 * bkX x) (fun x => 3000 * stsN x.body), sum_mul, sum_mul] at h3
  have h4 := flat_len varB (fun x => 32 * bkV x) p.vars (fun x hx => by
    have hi := Lib.itoa_length_le x.len (ho.2.2 x hx).1 (ho.2.2 x hx).2
    have hm : (manyB x.len).size ≤ 23 := by
      unfold manyB
      split
      · rw [strOf_size]; simp only [List.length_append, List.length_cons, List.length_nil]; omega
      · exact Nat.zero_le _
    unfold varB bkV
    simp only [line_len, sumN]
    have e1 : (⟨#[118, 97, 114, 32]⟩ : ByteArray).size = 4 := rfl
    have e2 : (⟨#[58, 32]⟩ : ByteArray).size = 2 := rfl
    have e3 : (⟨#[59]⟩ : ByteArray).size = 1 := rfl
    rw [e1, e2, e3]
    omega)
  rw [sum_mul] at h4
  have h5 := flat_len enumB (fun x => 32 * bkEn x) p.enums (fun x hx => by
    have hj := join_len x.l
    unfold enumB bkEn
    simp only [line_len, sumN]
    have e1 : (⟨#[101, 110, 117, 109, 32]⟩ : ByteArray).size = 5 := rfl
    have e2 : (⟨#[32, 123, 32]⟩ : ByteArray).size = 3 := rfl
    have e3 : (⟨#[32, 125]⟩ : ByteArray).size = 2 := rfl
    rw [e1, e2, e3]
    omega)
  rw [sum_mul] at h5
  unfold printB
  simp only [List.length_append, line_len, sumN]
  have e1 : (⟨#[109, 97, 105, 110, 32, 123]⟩ : ByteArray).size = 6 := rfl
  have e2 : (⟨#[125]⟩ : ByteArray).size = 1 := rfl
  rw [e1, e2]
  omega
theorem Few.ck {p : Pg} (h : Few p) : CkSm p := by
  obtain ⟨h1, h2, h3, h4⟩ := h.parts
  have hb := h.bk
  have hp := h.pg
  have hl := lnTs_bk p.main
  have hsm : bulkP p < 274877906944 - 1 := by unfold bulkP; omega
  unfold bkG at hb
  refine ⟨⟨h.ok, h.printed, by omega, by omega, by omega, fun e he => ?_, by omega, fun x hx => ?_⟩, hsm, fun s hs => ?_, by omega, by omega⟩
  · have := sum_mem (fun e : En => e.l.length) p.enums e he
    omega
  · have h5 := sum_mem bkX p.procs x hx
    have h6 := lnTs_bk x.body
    have e5 : bkX x = 2 + x.name.size + bkTs x.body := rfl
    rw [e5] at h5; omega
  · unfold allNames at hs
    rcases List.mem_append.1 hs with hs | hs
    · rcases List.mem_append.1 hs with hs | hs
      · obtain ⟨l, hl, hs⟩ := List.mem_flatten.1 hs
        obtain ⟨e, he, rfl⟩ := List.mem_map.1 hl
        have h5 := sum_mem bkEn p.enums e he
        have e5 : bkEn e = 2 + e.name.size + sumN bkStr e.l := rfl
        rw [e5] at h5
        rcases List.mem_cons.1 hs with rfl | hs
        · omega
        · have h6 := sum_mem bkStr e.l s hs
          have e6 : bkStr s = s.size + 1 := rfl
          rw [e6] at h6; omega
      · obtain ⟨e, he, rfl⟩ := List.mem_map.1 hs
        have h5 := sum_mem bkV p.vars e he
        have e5 : bkV e = 4 + e.name.size + e.type.size := rfl
        rw [e5] at h5; omega
    · obtain ⟨e, he, rfl⟩ := List.mem_map.1 hs
      have h5 := sum_mem bkX p.procs e he
      have e5 : bkX e = 2 + e.name.size + bkTs e.body := rfl
      rw [e5] at h5; omega
end Go.Proofs.YtfgoedndpcblpaaGreatDoor.Pv
end
section
namespace Go.Proofs.YtfgoedndpcblpaaGreatDoor.Pv
open Go Go.Proofs Go.Proofs.YtfgoedndpcblpaaGreatDoor.Lx Go.Proofs.YtfgoedndpcblpaaGreatDoor.Ps
set_option linter.unusedSimpArgs false
set_option linter.unusedVariables false
variable {L : Lib} {σ : Sto} {T : Base}
noncomputable def atH : List (List PV × PV) → List PV → Sto → Option (PV × Sto)
  | [], _, _ => none
  | (a, v) :: l, args, σ => open Classical in if args = a then some (v, σ) else atH l args σ
theorem atH_call {f : FuncId} : ∀ {l : List (List PV × PV)}, (∀ x ∈ l, ∀ σ, callE (EV Tryz.prog L) f x.1 σ = some (x.2, σ)) → ∀ args σ r σ', atH l args σ = some (r, σ') → callE (EV Tryz.prog L) f args σ = some (r, σ')
  | [], _, args, σ, r, σ', he => by cases he
  | (a, v) :: l, h, args, σ, r, σ', he => by
    rw [atH] at he
    split at he
    · rename_i e
      subst e
      cases he
      exact h (args, v) (List.mem_cons_self ..) σ
    · exact atH_call (fun x hx => h x (List.mem_cons_of_mem _ hx)) args σ r σ' he
theorem atH_fun (hH : HandOk Tryz.prog T (EV Tryz.prog L)) {f : FuncId} {l : List (List PV × PV)} (h : ∀ x ∈ l, ∀ σ, callE (EV Tryz.prog L) f x.1 σ = some (x.2, σ)) : FunOk Tryz.prog T f (atH l) := told_fun hH (atH_call h)
theorem atH_at {a : List PV} {v : PV} : ∀ {l : List (List PV × PV)}, (∀ x ∈ l, x.1 = a → x.2 = v) → (∃ x ∈ l, x.1 = a) → ∀ σ, atH l a σ = some (v, σ)
  | [], _, h, σ => by obtain ⟨x, hx, _⟩ := h; cases hx
  | (b, u) :: l, h1, h2, σ => by
    rw [atH]
    split
    · rename_i e; rw [show u = v from h1 (b, u) (List.mem_cons_self ..) e.symm]
    · rename_i e
      refine atH_at (fun x hx => h1 x (List.mem_cons_of_mem _ hx)) ?_ σ
      obtain ⟨x, hx, hxa⟩ := h2
      rcases List.mem_cons.1 hx with rfl | hx
      · exact absurd hxa.symm e
      · exact ⟨x, hx, hxa⟩
theorem atH_still : ∀ {l : List (List PV × PV)} {args : List PV} {σ σ1 : Sto} {r : PV}, atH l args σ = some (r, σ1) → σ1 = σ
  | [], _, _, _, _, h => by cases h
  | (a, v) :: l, args, σ, σ1, r, h => by
    rw [atH] at h
    split at h
    · cases h; rfl
    · exact atH_still h
theorem call_seen {f : FuncId} {args : List PV} {r : PV} {k : Nat} (ha : ptrsL args = []) (he : eraL args = args) (h : ((evF Tryz.prog L k f args ⟨[], []⟩).map fun x => (x.1.ptrs, x.1.era)) = some ([], r)) : ∀ σ, callE (EV Tryz.prog L) f args σ = some (r, σ) := fun σ => by
  obtain ⟨x, h1, h2⟩ := Option.map_eq_some_iff.1 h
  simp only [Prod.mk.injEq] at h2
  have h3 : EV Tryz.prog L f args ⟨[], []⟩ = some (x.1, x.2) := EV_iff.2 ⟨k, h1⟩
  rw [← h2.2]
  exact call_pure ha (by rw [he]; exact h3) h2.1
theorem grd_X (h0 : ∀ f h, libL f = some h → FunOk Tryz.prog T f h) : Grd Tryz.prog libX T := ⟨mixed, libX_ro, libX_ok h0⟩
theorem checkH_still {args : List PV} {σ σ1 : Sto} {r : PV} (h : checkH args σ = some (r, σ1)) : σ1 = σ := by
  unfold checkH at h
  split at h <;> cases h
  rfl
theorem call_told {f : FuncId} {h : List PV → Sto → Option (PV × Sto)} {args : List PV} {r : PV} (hl : L f = some h) (ha : ptrsL args = []) (he : eraL args = args) (hr : r.ptrs = []) (hre : r.era = r) (hh : ∀ σ, h args σ = some (r, σ)) : ∀ σ, callE (EV Tryz.prog L) f args σ = some (r, σ) := fun σ => by
  have := call_pure (σ := σ) (H := EV Tryz.prog L) ha (EV_lib (P := Tryz.prog) hl (by rw [he]; exact hh ⟨[], []⟩)) hr
  rwa [hre] at this
theorem ck_told (hl : L 25 = some checkH) (p : Pg) (hp : CkSm p) : ∀ σ, callE (EV Tryz.prog L) 25 [.agg (pgC p)] σ = some (checkOut p, σ) := call_told hl rfl rfl rfl rfl (checkH_at p hp)
end Go.Proofs.YtfgoedndpcblpaaGreatDoor.Pv
end
section
namespace Go.Proofs.YtfgoedndpcblpaaGreatDoor.Pv
open Go Go.Proofs Go.Proofs.YtfgoedndpcblpaaGreatDoor.Lx Go.Proofs.YtfgoedndpcblpaaGreatDoor.Ps
set_option linter.unusedSimpArgs false
set_option linter.unusedVariables false
theorem from_cases (p : Pg) : ∀ (m i : Nat), ((fromF p m i).2.2.2 = 0 ∧ (fromF p m i).1 = laidF p ∧ ∀ j, i ≤ j → j < i + m → (cloF p j).2 = 0) ∨ ((fromF p m i).2.2.2 ≠ 0 ∧ (fromF p m i).1 = zCI)
  | 0, i => .inl ⟨rfl, rfl, fun j h1 h2 => by omega⟩
  | m + 1, i => by
    rw [fromF]
    split
    · rename_i h0
      rcases from_cases p m (i + 1) with ⟨h1, h2, h3⟩ | h
      · refine .inl ⟨h1, h2, fun j hj1 hj2 => ?_⟩
        by_cases e : j = i
        · subst e; exact h0
        · exact h3 j (by omega) (by omega)
      · exact .inr h
    · rename_i h0
      exact .inr ⟨h0, rfl⟩
structure Good (p : Pg) : Prop where
  many : manyF p = 0
  names : namesF p = 0
  types : TypesOk p
  great : greatF p = 0
  stmts : (stmtsF p (allStmts p)).2 = 0
  cycle : cycleF p = 0
  printed : printedF p = 0
  info : (checkF p).1 = laidF p
theorem check_cases (p : Pg) : ((checkF p).2.2 = 0 ∧ Good p) ∨ ((checkF p).2.2 ≠ 0 ∧ (checkF p).1 = zCI) := by
  rcases from_cases p 7 0 with ⟨h1, h2, h3⟩ | h
  · exact .inl ⟨h1, ⟨h3 0 (by omega) (by omega), h3 1 (by omega) (by omega), typesOk_of (h3 2 (by omega) (by omega)), h3 3 (by omega) (by omega), h3 4 (by omega) (by omega), h3 5 (by omega) (by omega), h3 6 (by omega) (by omega), h2⟩⟩
  · exact .inr h
theorem namesS_nodup : ∀ {l met : List ByteArray}, namesS l met = true → l.Nodup ∧ ∀ s ∈ l, s ∉ met
  | [], met, _ => ⟨List.nodup_nil, fun s h => by cases h⟩
  | s :: l, met, h => by
    simp only [namesS, Bool.and_eq_true, Bool.not_eq_true'] at h
    obtain ⟨⟨_, h1⟩, h2⟩ := h
    obtain ⟨h3, h4⟩ := namesS_nodup h2
    have hs : s ∉ met := fun hm => by rw [memB_iff.2 hm] at h1; cases h1
    refine ⟨List.nodup_cons.2 ⟨fun hm => h4 s hm (List.mem_append_right _ (List.mem_singleton.2 rfl)), h3⟩, fun t ht => ?_⟩
    rcases List.mem_cons.1 ht with rfl | ht
    · exact hs
    · exact fun hm => h4 t ht (List.mem_append_left _ hm)
theorem names_nodup {p : Pg} (h : namesF p = 0) : (allNames p).Nodup := by
  unfold namesF at h
  split at h
  · rename_i hc; exact (namesS_nodup hc).1
  · cases h
end Go.Proofs.YtfgoedndpcblpaaGreatDoor.Pv
end
section
namespace Go.Proofs.YtfgoedndpcblpaaGreatDoor.Pv
open Go Go.Proofs Go.Proofs.YtfgoedndpcblpaaGreatDoor.Lx Go.Proofs.YtfgoedndpcblpaaGreatDoor.Ps
set_option linter.unusedSimpArgs false
set_option linter.unusedVariables false
variable {L : Lib} {σ : Sto} {T : Base}
theorem alive_told {f : FuncId} (hl : L f = some aliveH) : ∀ σ, callE (EV Tryz.prog L) f [] σ = some (boo true, σ) := call_told hl rfl rfl rfl rfl (fun σ => rfl)
end Go.Proofs.YtfgoedndpcblpaaGreatDoor.Pv
end
section
namespace Go.Proofs.YtfgoedndpcblpaaGreatDoor.Pv
open Go Go.Proofs Go.Proofs.YtfgoedndpcblpaaGreatDoor.Lx Go.Proofs.YtfgoedndpcblpaaGreatDoor.Ps
set_option linter.unusedSimpArgs false
set_option linter.unusedVariables false
variable {L : Lib} {σ : Sto}
@[simp] def calls15Fs : List FuncId := [40, 106]
theorem calls15_ok (hl : Free L calls15Fs) (hg : L 168 = some (growH 1)) : ∀ (n : Nat) (l : List Ps.St), stsN l < n → n ≤ 300000 → ∀ σ, callE (EV Tryz.prog L) 40 [.sl (l.map stR) .unk] σ = some (.sl ((callsL l).map strR) .unk, σ) := by
  intro n
  induction n with
  | zero => intro l h; omega
  | succ n ih =>
    intro l h hn σ
    have hlen := sts_len l
    have hcat := concatStr_ok (L := L) (hl _ (by simp)) hg
    refine call_fn (ids := []) (hl _ (by simp)) Tryz.func40 Tryz.ntmps40 Tryz.results40 (by simp) rfl rfl ⟨_, rfl, by kernel_rfl, ?_⟩
    simp (maxSteps := 1000000) (contextual := true) (implicitDefEqProofs := false) [-decide_eq_true_eq, -decide_eq_false_iff_not, -Bool.not_and, -Bool.not_or, -Bool.and_eq_false_imp, -Int.natCast_add, -setAt, -List.map_take, setAt_eq]
    refine WP.each l (fun rest i s' => ∃ (cs : List ByteArray) (tag : Tag) (gr : List (Nat × Nat)) (junk : List Bx), s'.sto = ⟨junk, gr⟩ ∧ Own 1 gr (cs.map strR) tag ∧ callsL l = cs ++ callsL rest ∧ s'.env 3 = .sl (cs.map strR) tag ∧ s'.env 6 = .sl (l.map stR) .unk ∧ s'.env 7 = int l.length ∧ s'.env 8 = int i) ⟨[], .full, [], [], by simp, .nil, rfl, by simp, by simp, by simp, by simp⟩ ?_ ?_
    · rintro x xs i ⟨env, τ⟩ hx hi hxs ⟨cs, tag, gr, junk, h1, ho, hcs, h2, h3, h4, h5⟩
      simp only at h1 h2 h3 h4 h5
      subst h1
      have hix := row_idx (R := stR) hx (stR_len x)
      have hlt : decide (i < l.length) = true := by simp [hi]
      have hm := sts_mem l x (List.mem_of_getElem? hx)
      have hm' := stN_l x
      have hw : IntKind.wrap .i64 ((i : Int) + 1) = ((i + 1 : Nat) : Int) := wrap_succ (by omega)
      have hA := fun σ => ih x.a (by omega) (by omega) σ
      have hB := fun σ => ih x.b (by omega) (by omega) σ
      have hcl := callsL_len l
      simp only [callsL, callS_l] at hcs
      have hcsl : cs.length + (callsL x.a).length + (callsL x.b).length ≤ stsN l := by
        have := congrArg List.length hcs
        simp only [List.length_append] at this
        omega
      by_cases hop : x.opB = (⟨#[99, 97, 108, 108]⟩ : ByteArray)
      · rw [if_pos hop] at hcs
        obtain ⟨tag1, gr1, ha, ho1, _⟩ := str_snoc (x := x.nm) ho (by omega)
        have hsum : lenS [cs ++ [x.nm], callsL x.a, callsL x.b] ≤ 1000000 := by simp [lenS]; omega
        obtain ⟨bx1, hbx1⟩ : ∃ bx1, bx1 = junk ++ [Bx.cells [str x.opB, str x.nm, .sl (x.e.map exR) .unk, .sl (x.a.map stR) .unk, .sl (x.b.map stR) .unk, int x.pos]] := ⟨_, rfl⟩
        obtain ⟨tag2, more, hc, ho2, _⟩ := hcat [cs ++ [x.nm], callsL x.a, callsL x.b] .full ⟨bx1, gr1⟩ hsum (by simp)
        simp only [strR] at ha
        simp only [hbx1, hop, slR, List.map_append, List.map_cons, List.map_nil, List.flatten_cons, List.flatten_nil, List.append_nil] at hc
        simp (maxSteps := 1000000) (contextual := true) (implicitDefEqProofs := false) [-decide_eq_true_eq, -decide_eq_false_iff_not, -Bool.not_and, -Bool.not_or, -Bool.and_eq_false_imp, -Int.natCast_add, -setAt, -List.map_take, setAt_eq, -List.map_flatten, h2, h3, h4, h5, hlt, hix, hw, stR_l x, hA, hB, hop, ha, hc]
        exact ⟨cs ++ [x.nm] ++ (callsL x.a ++ callsL x.b), tag2, by simpa using ho2, by rw [hcs]; simp [List.append_assoc], by simp, rfl⟩
      · rw [if_neg hop] at hcs
        have hsum : lenS [cs, callsL x.a, callsL x.b] ≤ 1000000 := by simp [lenS]; omega
        obtain ⟨bx1, hbx1⟩ : ∃ bx1, bx1 = junk ++ [Bx.cells [str x.opB, str x.nm, .sl (x.e.map exR) .unk, .sl (x.a.map stR) .unk, .sl (x.b.map stR) .unk, int x.pos]] := ⟨_, rfl⟩
        obtain ⟨tag2, more, hc, ho2, _⟩ := hcat [cs, callsL x.a, callsL x.b] .full ⟨bx1, gr⟩ hsum (by simp)
        simp only [hbx1, slR, List.map_append, List.map_cons, List.map_nil, List.flatten_cons, List.flatten_nil, List.append_nil] at hc
        simp (maxSteps := 1000000) (contextual := true) (implicitDefEqProofs := false) [-decide_eq_true_eq, -decide_eq_false_iff_not, -Bool.not_and, -Bool.not_or, -Bool.and_eq_false_imp, -Int.natCast_add, -setAt, -List.map_take, setAt_eq, -List.map_flatten, h2, h3, h4, h5, hlt, hix, hw, stR_l x, hA, hB, hop, hc]
        exact ⟨cs ++ (callsL x.a ++ callsL x.b), tag2, by simpa using ho2, by rw [hcs]; simp [List.append_assoc], by simp, rfl⟩
    · rintro ⟨env, τ⟩ ⟨cs, tag, gr, junk, h1, ho, hcs, h2, h3, h4, h5⟩
      simp only at h1 h2 h3 h4 h5
      subst h1
      simp only [callsL, List.append_nil] at hcs
      simp (maxSteps := 1000000) (contextual := true) (implicitDefEqProofs := false) [-decide_eq_true_eq, -decide_eq_false_iff_not, -Bool.not_and, -Bool.not_or, -Bool.and_eq_false_imp, -Int.natCast_add, -setAt, -List.map_take, setAt_eq, h2, h3, h4, h5, hcs]
theorem may_ok (hl : Free L [100]) (hc : L 25 = some checkH) (p : Pg) (hp : CkSm p) : ∀ σ, callE (EV Tryz.prog L) 100 [.agg (pgC p)] σ = some (boo (decide ((checkF p).2.2 = 0)), σ) := by
  intro σ
  have h := ck_told hc p hp
  unfold checkOut at h
  generalize (checkF p).1 = c at *
  generalize (checkF p).2.1 = x at *
  generalize (checkF p).2.2 = y at *
  simp only [pgC, ciC] at h
  refine call_fn (ids := []) (hl _ (by simp)) Tryz.func100 Tryz.ntmps100 Tryz.results100 (by simp) rfl rfl ⟨_, rfl, by kernel_rfl, ?_⟩
  simp (maxSteps := 1000000) (contextual := true) (implicitDefEqProofs := false) [-decide_eq_true_eq, -decide_eq_false_iff_not, -Bool.not_and, -Bool.not_or, -Bool.and_eq_false_imp, -Int.natCast_add, -setAt, -List.map_take, setAt_eq, pgC, h]
end Go.Proofs.YtfgoedndpcblpaaGreatDoor.Pv
end
section
namespace Go.Proofs.YtfgoedndpcblpaaGreatDoor.Pv
open Go Go.Proofs Go.Proofs.YtfgoedndpcblpaaGreatDoor.Lx Go.Proofs.YtfgoedndpcblpaaGreatDoor.Ps
set_option linter.unusedSimpArgs false
set_option linter.unusedVariables false
variable {L : Lib} {σ : Sto}
def CanR (rows : List (List FV)) (t : Tag) (g : List (Nat × Nat)) : Prop := (t = .full ∧ g = []) ∨ (t = .grow 0 ∧ g = [(rows.length, 1)])
def KeepR (H : Hand) (f : FuncId) (args : List PV) (rows : List (List FV)) (v : PV) : Prop := ∀ t g, CanR rows t g → ∃ more g1, H f args ⟨[.cells [.sl rows t]], g⟩ = some (v, ⟨.cells [.sl rows t] :: more, g1⟩) ∧ (t = .grow 0 → g1[0]? = some (rows.length, 1))
theorem call_keepR {H : Hand} {f : FuncId} {args args' : List PV} {rows : List (List FV)} {tag : Tag} {b : Nat} {v : PV} (hb : σ.bx[b]? = some (.cells [.sl rows tag])) (ho : Own 1 σ.gr rows tag) (hp : ∃ l, ptrsL args = b :: l ∧ ∀ c ∈ l, c = b) (hren : renL (find [b]) (fun _ => .unk) args = some args') (hr : v.ptrs = []) (he : v.era = v) (h : KeepR H f args' rows v) : callE H f args σ = some (v, σ) := by
  rcases ho with rfl | ⟨g, rfl, hg⟩
  · obtain ⟨more, g1, h1, _⟩ := h .full [] (.inl ⟨rfl, rfl⟩)
    exact call_keep hb ⟨rfl, rfl, fun ρ τ _ h2 => by simp [renL, PV.ren, h2]⟩ hp hren hr he h1
  · obtain ⟨more, g1, h1, h2⟩ := h (.grow 0) [(rows.length, 1)] (.inr ⟨rfl, rfl⟩)
    have h2 := h2 rfl
    obtain ⟨l, hp1, hp2⟩ := hp
    have a1 : ptrsAt σ.bx b = [] := by unfold ptrsAt; rw [hb]; rfl
    have e0 : gather σ.bx 64 (ptrsL args) [] = [b] := by
      rw [hp1]; exact gather_one (by rw [a1]; simp) hp2
    have e1 : tagsB σ.bx [b] = [g] := by
      simp [tagsB, tagsAt, hb, Bx.tags, tagsL, PV.tags, Tag.rows]
    have ed : dd [g] [] = [g] := by simp [dd]
    unfold callE
    rw [e0, e1, ed]
    have e3 : selE σ [b] [g] = some ⟨[.cells [.sl rows (.grow 0)]], [(rows.length, 1)]⟩ := by
      unfold selE
      simp only [show pickL σ.bx [b] = some [.cells [.sl rows (.grow g)]] from by simp [pickL, hb], show pickL σ.gr [g] = some [(rows.length, 1)] from by simp [pickL, hg]]
      simp [renBs, Bx.ren, renL, PV.ren, Tag.sel, find]
    unfold callIn
    rw [hren, e3]
    simp only [h1]
    have e4 : gather (.cells [.sl rows (.grow 0)] :: more) 64 (v.ptrs ++ ptrsUpto (.cells [.sl rows (.grow 0)] :: more) [b].length) (iota [b].length) = [0] := by
      rw [hr]; rfl
    rw [e4]
    have e7 : tagsB (.cells [.sl rows (.grow 0)] :: more) [0] = [0] := by
      simp [tagsB, tagsAt, Bx.tags, tagsL, PV.tags, Tag.rows]
    rw [e7]
    have e9 : dd [0] (iota [g].length) = [0] := by simp [dd, iota]
    rw [e9]
    unfold callBack
    have e5 : ∀ ρ, (v.ren ρ fun _ => .unk) = some v := fun ρ => by
      have := (ren_era (ρ := ρ) hr).1
      rwa [he] at this
    have e8 : selE ⟨.cells [.sl rows (.grow 0)] :: more, g1⟩ [0] [0] = some ⟨[.cells [.sl rows (.grow 0)]], [(rows.length, 1)]⟩ := by
      unfold selE
      simp only [show pickL (Bx.cells [.sl rows (.grow 0)] :: more) [0] = some [.cells [.sl rows (.grow 0)]] from rfl, show pickL g1 [0] = some [(rows.length, 1)] from by simp [pickL, h2]]
      simp [renBs, Bx.ren, renL, PV.ren, Tag.sel, find]
    rw [e5, e8]
    simp only [e5]
    have hlb : b < σ.bx.length := (List.getElem?_eq_some_iff.1 hb).1
    have hlg : g < σ.gr.length := (List.getElem?_eq_some_iff.1 hg).1
    simp only [renBs, Bx.ren, renL, PV.ren, Tag.back, backB, List.length_cons, List.length_nil, Nat.zero_add, Nat.lt_one_iff, if_true, List.getElem?_cons_zero]
    simp [backL, putMany, set_same hb, set_same hg]
theorem own_can {rows : List (List FV)} {t : Tag} {g : List (Nat × Nat)} (hc : CanR rows t g) : Own 1 g rows t := by
  rcases hc with ⟨rfl, _⟩ | ⟨rfl, rfl⟩
  · exact .inl rfl
  · exact .inr ⟨0, rfl, rfl⟩
theorem can_at {rows : List (List FV)} {t : Tag} {g : List (Nat × Nat)} (hc : CanR rows t g) : t = .grow 0 → g[0]? = some (rows.length, 1) := fun e => by
  rcases hc with ⟨rfl, _⟩ | ⟨_, rfl⟩
  · cases e
  · rfl
theorem waits_ok (hl : Free L [103, 104, 86]) (out : List ByteArray) (ho : out.length < 274877906944) (s : ByteArray) : KeepR (EV Tryz.prog L) 103 [str s, .ptr 0 0] (out.map strR) (boo (!memB s out)) := by
  intro t g hc
  have h := contains_okV (L := L) (hl.sub (by simp)) out s (by omega) t
  refine ⟨[], g, ?_, can_at hc⟩
  refine EV_fn (ids := []) (hl _ (by simp)) Tryz.func103 rfl (by kernel_rfl) (by rw [Tryz.ntmps103]; simp) ?_
  rw [Tryz.ntmps103, Tryz.results103]
  simp (maxSteps := 1000000) (contextual := true) (implicitDefEqProofs := false) [-decide_eq_true_eq, -decide_eq_false_iff_not, -Bool.not_and, -Bool.not_or, -Bool.and_eq_false_imp, -Int.natCast_add, -setAt, -List.map_take, setAt_eq, h]
theorem ixStrK (hl : L 167 = none) (l : List ByteArray) (hn : l.length < 274877906944) {rows : List (List FV)} {C : FuncId} {h : ByteArray → Bool} (hb : isBody Tryz.prog C = true) (hC : ∀ s ∈ l, KeepR (EV Tryz.prog L) C [str s, .ptr 0 0] rows (boo (h s))) : KeepR (EV Tryz.prog L) 167 [.sl (l.map strR) .unk, .fn (.func C) [.ptr 0 0]] rows (int (idxP h l 0)) := by
  intro t g hc
  have hw : Own 1 g rows t := by
    rcases hc with ⟨rfl, _⟩ | ⟨rfl, rfl⟩
    · exact .inl rfl
    · exact .inr ⟨0, rfl, rfl⟩
  refine ⟨[], g, ixStr_ok (σ := ⟨[.cells [.sl rows t]], g⟩) (tag := .unk) (fv := .fn (.func C) [.ptr 0 0]) (R := strR) (fun _ => rfl) (S := fun x => x) (fun _ => rfl) hl l (by omega) (fun x hx => ?_), fun e => ?_⟩
  · rw [funP_fn, if_pos hb]
    exact call_keepR (b := 0) (args' := [str x, .ptr 0 0]) rfl hw ⟨[], rfl, fun c h => absurd h (by simp)⟩ rfl rfl rfl (hC x hx)
  · rcases hc with ⟨rfl, _⟩ | ⟨_, rfl⟩
    · cases e
    · rfl
theorem cfStrK (hl : Free L [105, 167]) (l : List ByteArray) (hn : l.length < 274877906944) {rows : List (List FV)} {C : FuncId} {h : ByteArray → Bool} (hb : isBody Tryz.prog C = true) (hC : ∀ s ∈ l, KeepR (EV Tryz.prog L) C [str s, .ptr 0 0] rows (boo (h s))) : KeepR (EV Tryz.prog L) 105 [.sl (l.map strR) .unk, .fn (.func C) [.ptr 0 0]] rows (boo (l.any h)) := by
  intro t g hc
  have hi := call_keepR (σ := ⟨[.cells [.sl rows t]], g⟩) (b := 0) (args := [.sl (l.map strR) .unk, .fn (.func C) [.ptr 0 0]]) (args' := [.sl (l.map strR) .unk, .fn (.func C) [.ptr 0 0]]) rfl (own_can hc) ⟨[], rfl, fun c h => absurd h (by simp)⟩ rfl rfl rfl (ixStrK (hl _ (by simp)) l hn hb hC)
  have ha : decide (0 ≤ idxP h l 0) = l.any h := by
    rw [Bool.eq_iff_iff, decide_eq_true_eq]; exact idxP_any h l 0
  refine ⟨[], g, ?_, can_at hc⟩
  refine EV_fn (ids := []) (hl _ (by simp)) Tryz.func105 rfl (by kernel_rfl) (by rw [Tryz.ntmps105]; simp) ?_
  rw [Tryz.ntmps105, Tryz.results105]
  simp (maxSteps := 1000000) (contextual := true) (implicitDefEqProofs := false) [-decide_eq_true_eq, -decide_eq_false_iff_not, -Bool.not_and, -Bool.not_or, -Bool.and_eq_false_imp, -Int.natCast_add, -setAt, -List.map_take, setAt_eq, hi, ha]
def readyF (out : List ByteArray) (x : Pc) : Bool := !memB x.name out && !((callsL x.body).any fun s => !memB s out)
@[simp] def ordFs : List FuncId := calls15Fs ++ [102, 103, 104, 86, 105, 167]
theorem ord1_ok (hl : Free L ordFs) (hg : L 168 = some (growH 1)) (out : List ByteArray) (ho : out.length < 274877906944) (x : Pc) (hx : stsN x.body < 299999) : KeepR (EV Tryz.prog L) 102 [.agg ((pcR x).map FV.up), .ptr 0 0] (out.map strR) (boo (readyF out x)) := by
  intro t g hc
  have hw := fun s => call_keepR (σ := ⟨[.cells [.sl (out.map strR) t], .cells ((pcR x).map FV.up)], g⟩) (b := 0) (args := [str s, .ptr 0 0]) (args' := [str s, .ptr 0 0]) rfl (own_can hc) ⟨[], rfl, fun c h => absurd h (by simp)⟩ rfl rfl rfl (waits_ok (L := L) (hl.sub (by simp)) out ho s)
  have hcl := callsL_len x.body
  have hq := calls15_ok (L := L) (hl.sub (by simp)) hg (stsN x.body + 1) x.body (by omega) (by omega)
  have hcf := call_keepR (σ := ⟨[.cells [.sl (out.map strR) t], .cells ((pcR x).map FV.up)], g⟩) (b := 0) (args := [.sl ((callsL x.body).map strR) .unk, .fn (.func 103) [.ptr 0 0]]) (args' := [.sl ((callsL x.body).map strR) .unk, .fn (.func 103) [.ptr 0 0]]) rfl (own_can hc) ⟨[], rfl, fun c h => absurd h (by simp)⟩ rfl rfl rfl (cfStrK (L := L) (hl.sub (by simp)) (callsL x.body) (by omega) (h := fun s => !memB s out) (by kernel_rfl) (fun s _ => waits_ok (L := L) (hl.sub (by simp)) out ho s))
  refine ⟨[.cells ((pcR x).map FV.up)], g, ?_, can_at hc⟩
  unfold readyF
  simp only [pcR, List.map_cons, List.map_nil, up_im, up_sl] at hw hcf ⊢
  rw [stRs_map] at hw hcf ⊢
  generalize (callsL x.body).any (fun s => !memB s out) = z at *
  generalize hmz : memB x.name out = y at *
  have hwx := hw x.name
  rw [hmz] at hwx
  refine EV_fn (ids := []) (hl _ (by simp)) Tryz.func102 rfl (by kernel_rfl) (by rw [Tryz.ntmps102]; simp) ?_
  rw [Tryz.ntmps102, Tryz.results102]
  cases y <;> (simp (maxSteps := 1000000) (contextual := true) (implicitDefEqProofs := false) [-decide_eq_true_eq, -decide_eq_false_iff_not, -Bool.not_and, -Bool.not_or, -Bool.and_eq_false_imp, -Int.natCast_add, -setAt, -List.map_take, setAt_eq, hwx, hq, hcf])
end Go.Proofs.YtfgoedndpcblpaaGreatDoor.Pv
end
section
namespace Go.Proofs.YtfgoedndpcblpaaGreatDoor.Pv
open Go Go.Proofs Go.Proofs.YtfgoedndpcblpaaGreatDoor.Lx Go.Proofs.YtfgoedndpcblpaaGreatDoor.Ps
set_option linter.unusedSimpArgs false
set_option linter.unusedVariables false
variable {L : Lib} {σ : Sto} {T : Base}
theorem find_idx {α : Type} (h : α → Bool) : ∀ (l : List α) (i : Nat), (l.find? h = none ∧ idxP h l i = -1) ∨ ∃ j v, l[j]? = some v ∧ l.find? h = some v ∧ idxP h l i = ((i + j : Nat) : Int)
  | [], i => .inl ⟨rfl, rfl⟩
  | x :: xs, i => by
    simp only [idxP]
    by_cases hx : h x = true
    · exact .inr ⟨0, x, rfl, by rw [List.find?_cons_of_pos hx], by rw [if_pos hx]; rfl⟩
    · rw [if_neg hx, List.find?_cons_of_neg hx]
      rcases find_idx h xs (i + 1) with h1 | ⟨j, v, h1, h2, h3⟩
      · exact .inl h1
      · exact .inr ⟨j + 1, v, h1, h2, by rw [h3]; congr 1; omega⟩
end Go.Proofs.YtfgoedndpcblpaaGreatDoor.Pv
end
section
namespace Go.Proofs.YtfgoedndpcblpaaGreatDoor.Pv
open Go Go.Proofs Go.Proofs.YtfgoedndpcblpaaGreatDoor.Lx Go.Proofs.YtfgoedndpcblpaaGreatDoor.Ps
set_option linter.unusedSimpArgs false
set_option linter.unusedVariables false
variable {L : Lib} {σ : Sto}
def nextF (p : Pg) (out : List ByteArray) : List ByteArray := match p.procs.find? (readyF out) with
  | some x => out ++ [x.name]
  | none => out
def ordF (p : Pg) : Nat → List ByteArray → List ByteArray
  | 0, out => out
  | m + 1, out => ordF p m (nextF p out)
def orderF (p : Pg) : List ByteArray := ordF p p.procs.length []
def orderO (p : Pg) : List ByteArray := if (checkF p).2.2 = 0 then orderF p else []
def Goes (p : Pg) : Prop := ∀ m, m < p.procs.length → ∃ x, p.procs.find? (readyF (ordF p m [])) = some x
theorem ordF_len {p : Pg} (hg : Goes p) : ∀ m, m ≤ p.procs.length → (ordF p m []).length = m := by
  have key : ∀ m out, ordF p (m + 1) out = nextF p (ordF p m out) := by
    intro m
    induction m with
    | zero => intro out; rfl
    | succ m ih => intro out; rw [ordF, ih]; rfl
  intro m
  induction m with
  | zero => intro _; rfl
  | succ m ih =>
    intro h
    obtain ⟨x, hx⟩ := hg m (by omega)
    rw [key, nextF, hx]
    simp [ih (by omega)]
theorem ordF_succ (p : Pg) : ∀ m out, ordF p (m + 1) out = nextF p (ordF p m out) := by
  intro m
  induction m with
  | zero => intro out; rfl
  | succ m ih => intro out; rw [ordF, ih]; rfl
theorem ixPcK (hl : L 101 = none) (l : List Pc) (hn : l.length < 274877906944) {rows : List (List FV)} {C : FuncId} {h : Pc → Bool} (hb : isBody Tryz.prog C = true) (hC : ∀ s ∈ l, KeepR (EV Tryz.prog L) C [.agg ((pcR s).map FV.up), .ptr 0 0] rows (boo (h s))) : KeepR (EV Tryz.prog L) 101 [.sl (l.map pcR) .unk, .fn (.func C) [.ptr 0 0]] rows (int (idxP h l 0)) := by
  intro t g hc
  refine ⟨[], g, ixPc_ok (σ := ⟨[.cells [.sl rows t]], g⟩) (tag := .unk) (fv := .fn (.func C) [.ptr 0 0]) (R := pcR) (fun _ => rfl) hl l (by omega) (fun x hx => ?_), can_at hc⟩
  rw [funP_fn, if_pos hb]
  exact call_keepR (b := 0) (args' := [.agg ((pcR x).map FV.up), .ptr 0 0]) rfl (own_can hc) ⟨[], rfl, fun c h => absurd h (by simp)⟩ rfl rfl rfl (hC x hx)
@[simp] def orderFs : List FuncId := ordFs ++ [38, 100, 101]
set_option maxHeartbeats 1000000 in
theorem Order_ok (hl : Free L orderFs) (hg : L 168 = some (growH 1)) (hc : L 25 = some checkH) (p : Pg) (hp : CkSm p) (hgo : (checkF p).2.2 = 0 → Goes p) : ∀ σ, callE (EV Tryz.prog L) 38 [.agg (pgC p)] σ = some (.sl ((orderO p).map strR) .unk, σ) := by
  intro σ
  have hm := may_ok (L := L) (hl.sub (by simp)) hc p hp
  unfold orderO
  by_cases h0 : (checkF p).2.2 = 0
  · rw [if_pos h0]
    have hgo := hgo h0
    rw [decide_eq_true h0] at hm
    simp only [pgC] at hm
    have hlp := hp.pc
    refine call_fn (ids := []) (hl _ (by simp)) Tryz.func38 Tryz.ntmps38 Tryz.results38 (by simp) rfl rfl ⟨_, rfl, by kernel_rfl, ?_⟩
    simp (maxSteps := 1000000) (contextual := true) (implicitDefEqProofs := false) [-decide_eq_true_eq, -decide_eq_false_iff_not, -Bool.not_and, -Bool.not_or, -Bool.and_eq_false_imp, -Int.natCast_add, -setAt, -List.map_take, setAt_eq, pgC, hm]
    refine WP.loop (fun m s => ∃ (j : Nat) (tag : Tag) (gr : List (Nat × Nat)) (junk : List Bx), j ≤ p.procs.length ∧ m = p.procs.length - j ∧ s.sto = ⟨.cells (pgC p) :: .cells [.sl ((ordF p j []).map strR) tag] :: junk, gr⟩ ∧ Own 1 gr ((ordF p j []).map strR) tag ∧ s.env 1 = .ptr 0 0 ∧ s.env 3 = .ptr 1 0) p.procs.length ⟨0, .full, [], [], by omega, rfl, by simp [pgC, ordF], .nil, by simp, by simp⟩ ?_
    rintro m ⟨env, τ⟩ ⟨j, tag, gr, junk, hj, rfl, j1, ho, j2, j3⟩
    simp only at j1 j2 j3
    subst j1
    have hln := ordF_len hgo j hj
    by_cases hlt : j < p.procs.length
    · obtain ⟨x, hx⟩ := hgo j hlt
      have hsucc := ordF_succ p j []
      rw [nextF, hx] at hsucc
      have hmem : ∀ x ∈ p.procs, stsN x.body < 299999 := fun x hx => by
        have := sum_mem (fun x : Pc => stsN x.body) p.procs x hx
        have := hp.pg
        unfold pgN at this; omega
      have hk := call_keepR (σ := ⟨.cells (pgC p) :: .cells [.sl ((ordF p j []).map strR) tag] :: junk, gr⟩) (b := 1) (args := [.sl (p.procs.map pcR) .unk, .fn (.func 102) [.ptr 1 0]]) (args' := [.sl (p.procs.map pcR) .unk, .fn (.func 102) [.ptr 0 0]]) rfl ho ⟨[], rfl, fun c h => absurd h (by simp)⟩ rfl rfl rfl (ixPcK (L := L) (hl _ (by simp)) p.procs (by omega) (h := readyF (ordF p j [])) (by kernel_rfl) (fun x hx => ord1_ok (L := L) (hl.sub (by simp +contextual)) hg (ordF p j []) (by omega) x (hmem x hx)))
      rcases find_idx (readyF (ordF p j [])) p.procs 0 with ⟨q1, _⟩ | ⟨k, y, q0, q1, q2⟩
      · rw [hx] at q1; cases q1
      rw [hx] at q1
      obtain rfl := Option.some.inj q1
      rw [q2, Nat.zero_add] at hk
      have hix : idx 2 (p.procs.map pcR) (k : Int) = some (.el (pcR x) 0) := row_idx (R := pcR) q0 rfl
      obtain ⟨tag1, gr1, ha, ho1, _⟩ := str_snoc (x := x.name) ho (by omega)
      have hd : decide (j < p.procs.length) = true := decide_eq_true hlt
      generalize ordF p j [] = out at *
      simp only [pgC] at hk
      simp only [strR] at ha
      simp (maxSteps := 1000000) (contextual := true) (implicitDefEqProofs := false) [-decide_eq_true_eq, -decide_eq_false_iff_not, -Bool.not_and, -Bool.not_or, -Bool.and_eq_false_imp, -Int.natCast_add, -setAt, -List.map_take, setAt_eq, pgC, j2, j3, hln, hd, hk, hix, pcR, ha]
      refine ⟨p.procs.length - (j + 1), by omega, j + 1, by omega, rfl, tag1, gr1, ⟨⟨by rw [hsucc]; simp [strR], rfl⟩, rfl⟩, ?_⟩
      rw [hsucc]
      simpa [strR] using ho1
    · have hd : decide (j < p.procs.length) = false := decide_eq_false hlt
      have hje : j = p.procs.length := by omega
      simp (maxSteps := 1000000) (contextual := true) (implicitDefEqProofs := false) [-decide_eq_true_eq, -decide_eq_false_iff_not, -Bool.not_and, -Bool.not_or, -Bool.and_eq_false_imp, -Int.natCast_add, -setAt, -List.map_take, setAt_eq, pgC, j2, j3, hln, hd]
      subst hje
      rfl
  · rw [if_neg h0]
    rw [decide_eq_false h0] at hm
    simp only [pgC] at hm
    refine call_fn (ids := []) (hl _ (by simp)) Tryz.func38 Tryz.ntmps38 Tryz.results38 (by simp) rfl rfl ⟨_, rfl, by kernel_rfl, ?_⟩
    simp (maxSteps := 1000000) (contextual := true) (implicitDefEqProofs := false) [-decide_eq_true_eq, -decide_eq_false_iff_not, -Bool.not_and, -Bool.not_or, -Bool.and_eq_false_imp, -Int.natCast_add, -setAt, -List.map_take, setAt_eq, pgC, hm]
end Go.Proofs.YtfgoedndpcblpaaGreatDoor.Pv
end
section
namespace Go.Proofs.YtfgoedndpcblpaaGreatDoor.Pv
open Go Go.Proofs Go.Proofs.YtfgoedndpcblpaaGreatDoor.Lx Go.Proofs.YtfgoedndpcblpaaGreatDoor.Ps
set_option linter.unusedSimpArgs false
set_option linter.unusedVariables false
variable {L : Lib} {σ : Sto}
def Keeps (H : Hand) (f : FuncId) (args : List PV) (bs : List Bx) (v : PV) : Prop := ∃ more gr, H f args ⟨bs, []⟩ = some (v, ⟨bs ++ more, gr⟩)
theorem keeps_fn {f : FuncId} {fn : Func} {n : Nat} {ids : List Nat} {rs : Array ResultVar} {args : List PV} {bs : List Bx} {r : PV} (hl : L f = none) (hf : Tryz.prog.funcs[f]? = some fn) (hn : fn.ntmps = n) (hrs : fn.results = rs) (hlen : args.length ≤ n)
    (h : ∃ c, fn.body = some c ∧ statOk Tryz.prog ids c = true ∧ WP Tryz.prog L n ids c ⟨initE args, ⟨bs, []⟩⟩ fun ctl s => (ctl = .next ∨ ctl = .ret) ∧ Run (outE Tryz.prog s.env s.sto rs.toList) fun r' => r' = r ∧ ∃ more, s.sto.bx = bs ++ more) : Keeps (EV Tryz.prog L) f args bs r := by
  obtain ⟨c, hb, hst, k, ctl, s', h1, h2, r', h3, rfl, more, h5⟩ := h
  subst hn; subst hrs
  refine ⟨more, s'.sto.gr, EV_fn hl hf hb hst hlen ⟨k, ctl, s', h1, h2, h3, ?_⟩⟩
  rw [← h5]
theorem pick_len {α : Type} : ∀ (B : List Nat) (l obs : List α), pickL l B = some obs → obs.length = B.length
  | [], l, obs, h => by cases h; rfl
  | b :: B, l, obs, h => by
    simp only [pickL] at h
    split at h
    · rename_i c cs h1 h2
      cases h
      simp [pick_len B l cs h2]
    · cases h
theorem call_keeps {H : Hand} {f : FuncId} {args args' : List PV} {B : List Nat} {bs obs : List Bx} {v : PV} (hB : gather σ.bx 64 (ptrsL args) [] = B) (ht : tagsB σ.bx B = []) (hren : renL (find B) (fun _ => .unk) args = some args') (ho : pickL σ.bx B = some obs) (hs : renBs (find B) (Tag.sel []) obs = some bs) (hl : bs.length = B.length)
    (hg2 : ∀ more, gather (bs ++ more) 64 (ptrsUpto (bs ++ more) B.length) (iota B.length) = iota B.length) (ht2 : ∀ more, tagsB (bs ++ more) (iota B.length) = []) (hs2 : ∀ more, pickL (bs ++ more) (iota B.length) = some bs) (hren2 : renBs (find (iota B.length)) (Tag.sel []) bs = some bs) (hback : renBs (backB B σ.bx.length bs.length) (Tag.back [] σ.gr.length 0) bs = some obs)
    (hr : v.ptrs = []) (h : Keeps H f args' bs v) : callE H f args σ = some (v.era, σ) := by
  obtain ⟨more, gr, h⟩ := h
  unfold callE
  rw [hB, ht]
  simp only [dd]
  unfold callIn
  rw [hren]
  have hsel : selE σ B [] = some ⟨bs, []⟩ := by
    simp only [selE, pickL, ho, hs, Option.map_some]
  rw [hsel]
  simp only [h, hr, List.nil_append]
  rw [hg2, ht2]
  simp only [dd, iota, List.length_nil]
  have hsel2 : selE ⟨bs ++ more, gr⟩ (iota B.length) [] = some ⟨bs, []⟩ := by
    simp only [selE, pickL, hs2, hren2, Option.map_some]
  unfold callBack
  obtain ⟨k1, k2, k3⟩ := ren_era (ρ := find (iota B.length)) hr
  rw [k1, hsel2]
  simp only
  obtain ⟨k4, _, _⟩ := ren_era (ρ := backB B σ.bx.length bs.length) k2
  rw [k4, k3]
  simp only [List.length_nil, hback]
  have h6 := pick_len B _ _ ho
  simp [backL, putMany_pick ho, putMany, ← h6]
def szAt (s : ByteArray) : List (ByteArray × Nat) → Nat
  | [] => 0
  | e :: es => if s = e.1 then e.2 else szAt s es
mutual
def sizeS (m : List (ByteArray × Nat)) : Ps.St → Nat
  | .mk op nm _ a b _ => if op = (⟨#[99, 97, 108, 108]⟩ : ByteArray) then szAt nm m else 1 + sizeB m a 0 + sizeB m b 0
def sizeB (m : List (ByteArray × Nat)) : List Ps.St → Nat → Nat
  | [], n => n
  | s :: l, n => sizeB m l (min (n + sizeS m s) 401)
end
theorem sizeS_l (m : List (ByteArray × Nat)) (s : Ps.St) : sizeS m s = if s.opB = (⟨#[99, 97, 108, 108]⟩ : ByteArray) then szAt s.nm m else 1 + sizeB m s.a 0 + sizeB m s.b 0 := by cases s; simp only [sizeS]; rfl
theorem sizeB_le (m : List (ByteArray × Nat)) : ∀ (l : List Ps.St) (n : Nat), n ≤ 401 → sizeB m l n ≤ 401
  | [], n, h => h
  | s :: l, n, h => by simp only [sizeB]; exact sizeB_le m l _ (by omega)
def szM (m : List (ByteArray × Nat)) : List (ByteArray × PV) := m.map fun e => (e.1, int e.2)
def szBx (m : List (ByteArray × Nat)) : Bx := .map (strM (szM m))
theorem lookS_sz (s : ByteArray) : ∀ m : List (ByteArray × Nat), (match lookS s (szM m) with | some v => v | none => int 0) = int (szAt s m)
  | [] => rfl
  | e :: es => by
    show (match (if s = e.1 then some (int e.2) else lookS s (szM es)) with | some v => v | none => int 0) = int ((if s = e.1 then e.2 else szAt s es : Nat))
    by_cases h : s = e.1
    · rw [if_pos h, if_pos h]
    · rw [if_neg h, if_neg h]; exact lookS_sz s es
theorem min_sz (a : Nat) : min2E (int (a : Nat)) (int 401) = some (int ((min a 401 : Nat) : Int)) := by
  show some (int (if (401 : Int) < (a : Int) then (401 : Int) else (a : Int))) = _
  split
  · rw [Nat.min_eq_right (by omega)]; rfl
  · rw [Nat.min_eq_left (by omega)]
theorem look_sz {P : Program} {t k e : TypeId} {b : Nat} {m : List (ByteArray × Nat)} {s : ByteArray} (u1 : P.underlying t = some (.map k e)) (u2 : P.underlying k = some .string) (u3 : zeroV P e = some (int 0)) (h : σ.bx[b]? = some (szBx m)) : lookupE P σ t (.mp b) (str s) false = some (int (szAt s m : Nat)) := by
  rw [look_str u1 u2 u3 h, ← lookS_sz s m]
  cases lookS s (szM m) <;> rfl
theorem szM_ren {ρ : Nat → Option Nat} {τ : Tag → Tag} (m : List (ByteArray × Nat)) : (szBx m).ren ρ τ = some (szBx m) := by
  have h : ∀ l : List (ByteArray × Nat), renL ρ τ ((strM (szM l)).map (·.2)) = some ((strM (szM l)).map (·.2)) := by
    intro l
    induction l with
    | nil => rfl
    | cons x xs ih => simp only [strM, szM, List.map_cons, renL, PV.ren] at ih ⊢; rw [ih]
  simp only [szBx, Bx.ren, h, Option.map_some]
  congr 2
  exact (List.zip_of_prod rfl rfl).symm
theorem szM_ptrs (m : List (ByteArray × Nat)) : (szBx m).ptrs = [] ∧ (szBx m).tags = [] := by
  unfold szBx
  simp only [Bx.ptrs, Bx.tags]
  constructor
  · induction m with
    | nil => rfl
    | cons x xs ih => simp only [strM, szM, List.map_cons, ptrsL, PV.ptrs] at ih ⊢; simpa using ih
  · induction m with
    | nil => rfl
    | cons x xs ih => simp only [strM, szM, List.map_cons, tagsL, PV.tags] at ih ⊢; simpa using ih
theorem call_sz {H : Hand} {f : FuncId} {args args' : List PV} {b : Nat} {m : List (ByteArray × Nat)} {v : PV} (hb : σ.bx[b]? = some (szBx m)) (hp : ptrsL args = [b]) (hren : renL (find [b]) (fun _ => .unk) args = some args') (hr : v.ptrs = []) (he : v.era = v) (h : Keeps H f args' [szBx m] v) : callE H f args σ = some (v, σ) := by
  obtain ⟨s1, s2⟩ := szM_ptrs m
  have a1 : ptrsAt σ.bx b = [] := by unfold ptrsAt; rw [hb]; exact s1
  have hq : callE H f args σ = some (v.era, σ) := by
    refine call_keeps (B := [b]) (bs := [szBx m]) (obs := [szBx m]) ?_ ?_ hren ?_ ?_ rfl ?_ ?_ ?_ ?_ ?_ hr h
    · rw [hp]; exact gather_one (by rw [a1]; simp) (by simp)
    · simp [tagsB, tagsAt, hb, s2]
    · simp [pickL, hb]
    · simp [renBs, szM_ren]
    · intro more
      have : ptrsUpto ([szBx m] ++ more) [b].length = [] := by simp [ptrsUpto, ptrsAt, s1]
      rw [this]; rfl
    · intro more; simp [tagsB, tagsAt, iota, s2]
    · intro more; simp [pickL, iota]
    · simp [renBs, szM_ren]
    · simp [renBs, szM_ren]
  rw [hq, he]
theorem gather_sz (m : List (ByteArray × Nat)) (rest : List Bx) : gather (szBx m :: rest) 64 [0] [] = [0] := gather_one (by simp [ptrsAt, (szM_ptrs m).1]) (by simp)
theorem inSize_ok (hl : Free L [110]) (m : List (ByteArray × Nat)) (hm : ∀ s, szAt s m ≤ 401) : ∀ (n : Nat) (l : List Ps.St), stsN l < n → n ≤ 300000 → ∀ (σ : Sto) (b : Nat), σ.bx[b]? = some (szBx m) → callE (EV Tryz.prog L) 110 [.sl (l.map stR) .unk, .mp b] σ = some (int (sizeB m l 0), σ) := by
  intro n
  induction n with
  | zero => intro l h; omega
  | succ n ih =>
    intro l h hn σ b hb
    have hlen := sts_len l
    refine call_sz (args' := [.sl (l.map stR) .unk, .mp 0]) hb rfl (by simp [renL, PV.ren, find]) rfl rfl ?_
    refine keeps_fn (ids := [7]) (hl _ (by simp)) Tryz.func110 Tryz.ntmps110 Tryz.results110 (by simp) ⟨_, rfl, by kernel_rfl, ?_⟩
    simp (maxSteps := 1000000) (contextual := true) (implicitDefEqProofs := false) [-decide_eq_true_eq, -decide_eq_false_iff_not, -Bool.not_and, -Bool.not_or, -Bool.and_eq_false_imp, -Int.natCast_add, -setAt, -List.map_take, setAt_eq]
    refine WP.each l (fun rest i s' => ∃ (v : Nat) (junk : List Bx), s'.sto = ⟨szBx m :: junk, []⟩ ∧ v ≤ 401 ∧ sizeB m rest v = sizeB m l 0 ∧ s'.env 1 = .mp 0 ∧ s'.env 5 = int v ∧ s'.env 8 = .sl (l.map stR) .unk ∧ s'.env 9 = int l.length ∧ s'.env 10 = int i) ⟨0, [], by simp, by omega, rfl, by simp, by simp, by simp, by simp, by simp⟩ ?_ ?_
    · rintro x xs i ⟨env, τ⟩ hx hi hxs ⟨v, junk, h1, hv, hcs, h2, h3, h4, h5, h6⟩
      simp only at h1 h2 h3 h4 h5 h6
      subst h1
      have hix := row_idx (R := stR) hx (stR_len x)
      have hlt : decide (i < l.length) = true := by simp [hi]
      have hms := sts_mem l x (List.mem_of_getElem? hx)
      have hm' := stN_l x
      have hw : IntKind.wrap .i64 ((i : Int) + 1) = ((i + 1 : Nat) : Int) := wrap_succ (by omega)
      have hA := fun junk gr => ih x.a (by omega) (by omega) ⟨szBx m :: junk, gr⟩ 0 rfl
      have hB := fun junk gr => ih x.b (by omega) (by omega) ⟨szBx m :: junk, gr⟩ 0 rfl
      simp only [sizeB, sizeS_l] at hcs
      have u1 : Tryz.prog.underlying 155 = some (.map 9 3) := by kernel_rfl
      have u2 : Tryz.prog.underlying 9 = some .string := by kernel_rfl
      have u3 : zeroV Tryz.prog 3 = some (int 0) := by kernel_rfl
      have hlk := fun (junk : List Bx) (gr : List (Nat × Nat)) => look_sz (σ := ⟨szBx m :: junk, gr⟩) (b := 0) (m := m) (s := x.nm) (P := Tryz.prog) u1 u2 u3 rfl
      by_cases hop : x.opB = (⟨#[99, 97, 108, 108]⟩ : ByteArray)
      · rw [if_pos hop] at hcs
        have hz := hm x.nm
        have hw2 : IntKind.wrap .i64 ((v : Int) + (szAt x.nm m : Nat)) = ((v + szAt x.nm m : Nat) : Int) := wrap_n (by omega)
        simp (maxSteps := 1000000) (contextual := true) (implicitDefEqProofs := false) [-decide_eq_true_eq, -decide_eq_false_iff_not, -Bool.not_and, -Bool.not_or, -Bool.and_eq_false_imp, -Int.natCast_add, -setAt, -List.map_take, setAt_eq, h2, h3, h4, h5, h6, hlt, hix, hw, stR_l x, hop, hlk, hw2, min_sz]
        exact ⟨_, by omega, hcs, rfl⟩
      · rw [if_neg hop] at hcs
        have z1 := sizeB_le m x.a 0 (by omega)
        have z2 := sizeB_le m x.b 0 (by omega)
        generalize sizeB m x.a 0 = a at *
        generalize sizeB m x.b 0 = b at *
        have hw2 : IntKind.wrap .i64 (1 + (a : Int)) = ((1 + a : Nat) : Int) := by rw [show (1 + (a : Int)) = ((1 + a : Nat) : Int) by omega]; exact wrap_nat (by omega)
        have hw3 : IntKind.wrap .i64 (((1 + a : Nat) : Int) + (b : Int)) = ((1 + a + b : Nat) : Int) := wrap_n (by omega)
        have hw4 : IntKind.wrap .i64 ((v : Int) + ((1 + a + b : Nat) : Int)) = ((v + (1 + a + b) : Nat) : Int) := wrap_n (by omega)
        simp (maxSteps := 1000000) (contextual := true) (implicitDefEqProofs := false) [-decide_eq_true_eq, -decide_eq_false_iff_not, -Bool.not_and, -Bool.not_or, -Bool.and_eq_false_imp, -Int.natCast_add, -setAt, -List.map_take, setAt_eq, h2, h3, h4, h5, h6, hlt, hix, hw, stR_l x, hA, hB, hop, hw2, hw3, hw4, min_sz]
        refine ⟨orderOk_ren (fun n => if n = junk.length + 1 then 1 else 0) ?_, _, by omega, hcs, rfl⟩
        have q1 : ((0 : Nat) = junk.length + 1) = False := by simp
        simp only [List.map_cons, List.map_nil, Cls.ren, gather_sz, Option.map_some, q1, if_true, if_false]
        decide
    · rintro ⟨env, τ⟩ ⟨v, junk, h1, hv, hcs, h2, h3, h4, h5, h6⟩
      simp only at h1 h2 h3 h4 h5 h6
      subst h1
      simp only [sizeB] at hcs
      simp (maxSteps := 1000000) (contextual := true) (implicitDefEqProofs := false) [-decide_eq_true_eq, -decide_eq_false_iff_not, -Bool.not_and, -Bool.not_or, -Bool.and_eq_false_imp, -Int.natCast_add, -setAt, -List.map_take, setAt_eq, h2, h3, h4, h5, h6, hcs]
end Go.Proofs.YtfgoedndpcblpaaGreatDoor.Pv
end
section
namespace Go.Proofs.YtfgoedndpcblpaaGreatDoor.Pv
open Go Go.Proofs Go.Proofs.YtfgoedndpcblpaaGreatDoor.Lx Go.Proofs.YtfgoedndpcblpaaGreatDoor.Ps
set_option linter.unusedSimpArgs false
set_option linter.unusedVariables false
variable {L : Lib} {σ : Sto}
def procF (p : Pg) (s : ByteArray) : Option Pc := p.procs.find? fun x => decide (x.name = s)
def bodyF (p : Pg) (s : ByteArray) : List Ps.St := match procF p s with
  | some x => x.body
  | none => []
@[simp] def bodyFs : List FuncId := [109, 169, 101]
theorem body_ok (hl : Free L bodyFs) (p : Pg) (hp : p.procs.length < 274877906944) (s : ByteArray) (hs : procF p s ≠ none) : ∀ σ, callE (EV Tryz.prog L) 109 [.agg (pgC p), str s] σ = some (.sl ((bodyF p s).map stR) .unk, σ) := by
  intro σ
  have hcl : ∀ x : Pc, callE (EV Tryz.prog L) 169 [.agg ((pcR x).map FV.up), .ptr 0 0] ⟨[.cells [str s]], []⟩ = some (boo (decide (x.name = s)), ⟨[.cells [str s]], []⟩) := fun x => by
    refine call_keep (more := [.cells [str x.name, .sl (stRs x.body) .unk]]) (gr := []) (args' := [.agg [str x.name, .sl (stRs x.body) .unk], .ptr 0 0]) rfl ⟨rfl, rfl, fun _ _ _ _ => rfl⟩ ⟨[], rfl, fun c h => absurd h (by simp)⟩ rfl rfl rfl ?_
    refine EV_fn (ids := []) (hl _ (by simp)) Tryz.func169 rfl (by kernel_rfl) (by rw [Tryz.ntmps169]; simp) ?_
    rw [Tryz.ntmps169, Tryz.results169]
    simp (maxSteps := 1000000) (contextual := true) (implicitDefEqProofs := false) [-decide_eq_true_eq, -decide_eq_false_iff_not, -Bool.not_and, -Bool.not_or, -Bool.and_eq_false_imp, -Int.natCast_add, -setAt, -List.map_take, setAt_eq]
  have hi := fun (σ : Sto) (b : Nat) (hb : σ.bx[b]? = some (.cells [str s])) => ixPc_at1 (L := L) (R := pcR) (σ := σ) pcR_len (hl _ (by simp)) p.procs (by omega) (tag := .unk) (h := fun x => decide (x.name = s)) (C := 169) (b := b) hb ⟨rfl, rfl, fun _ _ _ _ => rfl⟩ (by kernel_rfl) (fun x _ => hcl x)
  unfold bodyF procF at *
  rcases find_idx (fun x : Pc => decide (x.name = s)) p.procs 0 with ⟨q1, _⟩ | ⟨k, x, q0, q1, q2⟩
  · exact absurd q1 hs
  rw [q1]
  rw [q2, Nat.zero_add] at hi
  have hix : idx 2 (p.procs.map pcR) (k : Int) = some (.el (pcR x) 0) := row_idx (R := pcR) q0 rfl
  refine call_fn (ids := [1]) (hl _ (by simp)) Tryz.func109 Tryz.ntmps109 Tryz.results109 (by simp) rfl rfl ⟨_, rfl, by kernel_rfl, ?_⟩
  have hga : gather [Bx.cells [.sl (p.enums.map enR) .unk, .sl (p.vars.map vrR) .unk, .sl (p.procs.map pcR) .unk, .sl (p.main.map stR) .unk], .cells [str s]] 64 [1] [] = [1] := gather_one (by simp [ptrsAt, Bx.ptrs, ptrsL, PV.ptrs]) (by simp)
  simp (maxSteps := 1000000) (contextual := true) (implicitDefEqProofs := false) [-decide_eq_true_eq, -decide_eq_false_iff_not, -Bool.not_and, -Bool.not_or, -Bool.and_eq_false_imp, -Int.natCast_add, -setAt, -List.map_take, setAt_eq, pgC, hi, hix, pcR, stRs_map]
  simp only [hga]
  decide
def sizesG (p : Pg) : List ByteArray → List (ByteArray × Nat) → List (ByteArray × Nat)
  | [], m => m
  | s :: l, m => sizesG p l (m ++ [(s, sizeB m (bodyF p s) 0)])
def sizesF (p : Pg) : List (ByteArray × Nat) := sizesG p (orderF p) []
theorem szAt_app (s : ByteArray) : ∀ (m k : List (ByteArray × Nat)), szAt s (m ++ k) = szAt s m ∨ szAt s (m ++ k) = szAt s k
  | [], k => .inr rfl
  | e :: es, k => by
    simp only [List.cons_append, szAt]
    split
    · exact .inl rfl
    · rcases szAt_app s es k with h | h
      · exact .inl h
      · exact .inr h
theorem sizesG_le (p : Pg) : ∀ (l : List ByteArray) (m : List (ByteArray × Nat)), (∀ s, szAt s m ≤ 401) → ∀ s, szAt s (sizesG p l m) ≤ 401
  | [], m, h => h
  | x :: l, m, h => by
    refine sizesG_le p l _ fun s => ?_
    rcases szAt_app s m [(x, sizeB m (bodyF p x) 0)] with e | e
    · rw [e]; exact h s
    · rw [e]
      simp only [szAt]
      split
      · exact sizeB_le m _ 0 (by omega)
      · omega
theorem sizes_le (p : Pg) (s : ByteArray) : szAt s (sizesF p) ≤ 401 := sizesG_le p _ [] (fun _ => Nat.zero_le _) s
theorem ordF_names (p : Pg) : ∀ m, (∀ s ∈ ordF p m [], procF p s ≠ none) ∧ (ordF p m []).Nodup := by
  intro m
  induction m with
  | zero => exact ⟨fun s h => (by cases h), List.nodup_nil⟩
  | succ m ih =>
    rw [ordF_succ, nextF]
    cases hx : p.procs.find? (readyF (ordF p m [])) with
    | none => exact ih
    | some x =>
      have h1 := List.find?_some hx
      have h2 := List.mem_of_find?_eq_some hx
      unfold readyF at h1
      simp only [Bool.and_eq_true] at h1
      have h3 : ¬ x.name ∈ ordF p m [] := fun h => by
        have := memB_iff.2 h
        simp [this] at h1
      refine ⟨fun s hs => ?_, ?_⟩
      · rcases List.mem_append.1 hs with h | h
        · exact ih.1 s h
        · obtain rfl := List.mem_singleton.1 h
          intro hn
          have := List.find?_eq_none.1 hn x h2
          simp at this
      · rw [List.nodup_append]
        exact ⟨ih.2, by simp, fun a ha b hb => by obtain rfl := List.mem_singleton.1 hb; exact fun e => h3 (e ▸ ha)⟩
theorem proc_mem {p : Pg} {s : ByteArray} {x : Pc} (h : procF p s = some x) : x ∈ p.procs ∧ x.name = s := ⟨List.mem_of_find?_eq_some h, by have := List.find?_some h; simpa using this⟩
theorem body_sz {p : Pg} (hp : CkSm p) (s : ByteArray) : stsN (bodyF p s) < 299999 := by
  unfold bodyF
  split
  · rename_i x hx
    have := sum_mem (fun x : Pc => stsN x.body) p.procs x (proc_mem hx).1
    have := hp.pg
    unfold pgN at this; omega
  · simp [stsN]
theorem call_new {H : Hand} {f : FuncId} {args : List PV} {m : List (ByteArray × Nat)} {b : Nat} {bx : List Bx} {gr : List (Nat × Nat)} (ha : ptrsL args = []) (he : eraL args = args) (h : H f args ⟨[], []⟩ = some (.mp b, ⟨bx, gr⟩)) (hb : bx[b]? = some (szBx m)) : callE H f args σ = some (.mp σ.bx.length, ⟨σ.bx ++ [szBx m], σ.gr⟩) := by
  obtain ⟨s1, s2⟩ := szM_ptrs m
  unfold callE
  rw [ha]
  have g0 : gather σ.bx 64 [] [] = [] := rfl
  rw [g0]
  simp only [tagsB, dd]
  unfold callIn
  have hr : renL (find []) (fun _ => .unk) args = some args := by
    rw [(renL_era (ρ := find []) ha).1, he]
  rw [hr]
  have hs : selE σ [] [] = some ⟨[], []⟩ := rfl
  rw [hs]
  simp only [h]
  have a1 : ptrsAt bx b = [] := by unfold ptrsAt; rw [hb]; exact s1
  have g1 : gather bx 64 ((PV.mp b).ptrs ++ ptrsUpto bx ([] : List Nat).length) (iota ([] : List Nat).length) = [b] := gather_one (b := b) (todo := []) (by rw [a1]; simp) (by simp)
  rw [g1]
  have g2 : tagsB bx [b] = [] := by simp [tagsB, tagsAt, hb, s2]
  rw [g2]
  simp only [dd, iota, List.length_nil]
  unfold callBack
  have hs2 : selE ⟨bx, gr⟩ [b] [] = some ⟨[szBx m], []⟩ := by simp [selE, pickL, hb, renBs, szM_ren]
  rw [hs2]
  simp [PV.ren, find, backB, renBs, szM_ren, backL, putMany]
theorem new_fn {f : FuncId} {fn : Func} {n : Nat} {ids : List Nat} {rs : Array ResultVar} {args : List PV} {x : Bx} (hl : L f = none) (hf : Tryz.prog.funcs[f]? = some fn) (hn : fn.ntmps = n) (hrs : fn.results = rs) (hlen : args.length ≤ n)
    (h : ∃ c, fn.body = some c ∧ statOk Tryz.prog ids c = true ∧ WP Tryz.prog L n ids c ⟨initE args, ⟨[], []⟩⟩ fun ctl s => (ctl = .next ∨ ctl = .ret) ∧ Run (outE Tryz.prog s.env s.sto rs.toList) fun r' => ∃ b, r' = .mp b ∧ s.sto.bx[b]? = some x) : ∃ b bx gr, EV Tryz.prog L f args ⟨[], []⟩ = some (.mp b, ⟨bx, gr⟩) ∧ bx[b]? = some x := by
  obtain ⟨c, hb, hst, k, ctl, s', h1, h2, r', h3, b, rfl, h5⟩ := h
  subst hn; subst hrs
  exact ⟨b, s'.sto.bx, s'.sto.gr, EV_fn hl hf hb hst hlen ⟨k, ctl, s', h1, h2, h3, rfl⟩, h5⟩
@[simp] def sizesFs : List FuncId := orderFs ++ bodyFs ++ [107, 110]
theorem sizes_ok (hl : Free L sizesFs) (hg : L 168 = some (growH 1)) (hc : L 25 = some checkH) (p : Pg) (hp : CkSm p) (h0 : (checkF p).2.2 = 0) (hgo : Goes p) : ∀ σ : Sto, callE (EV Tryz.prog L) 107 [.agg (pgC p)] σ = some (.mp σ.bx.length, ⟨σ.bx ++ [szBx (sizesF p)], σ.gr⟩) := by
  intro σ
  have hord := Order_ok (L := L) (hl.sub (by simp +contextual)) hg hc p hp (fun _ => hgo)
  unfold orderO at hord
  rw [if_pos h0] at hord
  obtain ⟨hn1, hn2⟩ := ordF_names p p.procs.length
  have hlen := ordF_len hgo p.procs.length (Nat.le_refl _)
  have hlp := hp.pc
  have key : ∃ b bx gr, EV Tryz.prog L 107 [.agg (pgC p)] ⟨[], []⟩ = some (.mp b, ⟨bx, gr⟩) ∧ bx[b]? = some (szBx (sizesF p)) := by
    have u1 : Tryz.prog.underlying 155 = some (.map 9 3) := by kernel_rfl
    have u2 : Tryz.prog.underlying 9 = some .string := by kernel_rfl
    refine new_fn (ids := []) (hl _ (by simp)) Tryz.func107 Tryz.ntmps107 Tryz.results107 (by simp) ⟨_, rfl, by kernel_rfl, ?_⟩
    have hord' := hord
    simp only [pgC] at hord'
    simp (maxSteps := 1000000) (contextual := true) (implicitDefEqProofs := false) [-decide_eq_true_eq, -decide_eq_false_iff_not, -Bool.not_and, -Bool.not_or, -Bool.and_eq_false_imp, -Int.natCast_add, -setAt, -List.map_take, setAt_eq, pgC, hord', makeMapS]
    refine WP.each (orderF p) (fun rest i s' => ∃ (m : List (ByteArray × Nat)) (junk : List Bx), s'.sto = ⟨.cells (pgC p) :: szBx m :: junk, []⟩ ∧ (∀ s, szAt s m ≤ 401) ∧ m.map (·.1) ++ rest = orderF p ∧ sizesG p rest m = sizesF p ∧ s'.env 1 = .ptr 0 0 ∧ s'.env 3 = .mp 1 ∧ s'.env 8 = .sl ((orderF p).map strR) .unk ∧ s'.env 9 = int (orderF p).length ∧ s'.env 10 = int i) ⟨[], [], by simp [pgC]; rfl, fun _ => Nat.zero_le _, rfl, rfl, by simp, by simp, by simp, by simp, by simp⟩ ?_ ?_
    · rintro x xs i ⟨env, τ⟩ hx hi hxs ⟨m, junk, h1, hm, hld, hsz, h2, h3, h4, h5, h6⟩
      simp only at h1 h2 h3 h4 h5 h6
      subst h1
      have hix := row_idx (R := strR) hx (m := 1) rfl
      have hlt : decide (i < (orderF p).length) = true := by simp [hi]
      have hol : (orderF p).length = p.procs.length := hlen
      have hw : IntKind.wrap .i64 ((i : Int) + 1) = ((i + 1 : Nat) : Int) := wrap_succ (by omega)
      have hb := fun σ => body_ok (L := L) (hl.sub (by simp +contextual)) p (by omega) x (hn1 x (List.mem_of_getElem? hx)) σ
      have hbs := body_sz hp x
      have hsize := fun (c : Bx) (junk : List Bx) (gr : List (Nat × Nat)) => inSize_ok (L := L) (hl.sub (by simp)) m hm 300000 (bodyF p x) (by omega) (by omega) ⟨c :: szBx m :: junk, gr⟩ 1 rfl
      have hins := fun (c : Bx) (junk : List Bx) (gr : List (Nat × Nat)) => ins_str (P := Tryz.prog) (t := 155) (σ := ⟨c :: szBx m :: junk, gr⟩) (b := 1) (l := szM m) (s := x) (v := int (sizeB m (bodyF p x) 0 : Nat)) u1 u2 rfl (by
        rw [List.any_eq_false]
        intro e he heq
        obtain ⟨e', he', rfl⟩ := List.mem_map.1 he
        have heq : x = e'.1 := of_decide_eq_true heq
        have hnd : (m.map (·.1) ++ x :: xs).Nodup := by rw [hld]; exact hn2
        rw [List.nodup_append] at hnd
        exact hnd.2.2 e'.1 (List.mem_map.2 ⟨e', he', rfl⟩) x (List.mem_cons_self ..) heq.symm)
      simp only [pgC] at hb
      simp (maxSteps := 1000000) (contextual := true) (implicitDefEqProofs := false) [-decide_eq_true_eq, -decide_eq_false_iff_not, -Bool.not_and, -Bool.not_or, -Bool.and_eq_false_imp, -Int.natCast_add, -setAt, -List.map_take, setAt_eq, pgC, h2, h3, h4, h5, h6, hlt, hix, hw, strR, hb, hsize, hins]
      refine ⟨m ++ [(x, sizeB m (bodyF p x) 0)], by simp [szBx, szM], fun s => ?_, by rw [← hld]; simp, hsz⟩
      rcases szAt_app s m [(x, sizeB m (bodyF p x) 0)] with e | e
      · rw [e]; exact hm s
      · rw [e]
        simp only [szAt]
        split
        · exact sizeB_le m _ 0 (by omega)
        · omega
    · rintro ⟨env, τ⟩ ⟨m, junk, h1, hm, hld, hsz, h2, h3, h4, h5, h6⟩
      simp only at h1 h2 h3 h4 h5 h6
      subst h1
      simp only [sizesG] at hsz
      subst hsz
      simp (maxSteps := 1000000) (contextual := true) (implicitDefEqProofs := false) [-decide_eq_true_eq, -decide_eq_false_iff_not, -Bool.not_and, -Bool.not_or, -Bool.and_eq_false_imp, -Int.natCast_add, -setAt, -List.map_take, setAt_eq, pgC, h2, h3, h4, h5, h6]
  obtain ⟨b, bx, gr, k1, k2⟩ := key
  exact call_new rfl (by simp [eraL, PV.era, pgC]) k1 k2
end Go.Proofs.YtfgoedndpcblpaaGreatDoor.Pv
end
section
namespace Go.Proofs.YtfgoedndpcblpaaGreatDoor.Pv
open Go Go.Proofs Go.Proofs.YtfgoedndpcblpaaGreatDoor.Lx Go.Proofs.YtfgoedndpcblpaaGreatDoor.Ps
set_option linter.unusedSimpArgs false
set_option linter.unusedVariables false
variable {L : Lib} {σ : Sto}
def inManyF (p : Pg) : Nat := if (checkF p).2.2 = 0 then sizeB (sizesF p) p.main 0 else 0
theorem gather_sz1 (m : List (ByteArray × Nat)) (c : Bx) : gather [c, szBx m] 64 [1] [] = [1] := gather_one (by simp [ptrsAt, (szM_ptrs m).1]) (by simp)
@[simp] def manyFs : List FuncId := sizesFs ++ [42]
theorem Many_ok (hl : Free L manyFs) (hg : L 168 = some (growH 1)) (hc : L 25 = some checkH) (p : Pg) (hp : CkSm p) (hgo : (checkF p).2.2 = 0 → Goes p) : ∀ σ, callE (EV Tryz.prog L) 42 [.agg (pgC p)] σ = some (int (inManyF p : Nat), σ) := by
  intro σ
  have hm := may_ok (L := L) (hl.sub (by simp)) hc p hp
  unfold inManyF
  by_cases h0 : (checkF p).2.2 = 0
  · rw [if_pos h0]
    rw [decide_eq_true h0] at hm
    have hs := sizes_ok (L := L) (hl.sub (by simp +contextual)) hg hc p hp h0 (hgo h0)
    have hmain : stsN p.main < 300000 := by
      have := hp.pg
      unfold pgN at this; omega
    have hz := fun (c : Bx) (gr : List (Nat × Nat)) => inSize_ok (L := L) (hl.sub (by simp)) (sizesF p) (sizes_le p) 300000 p.main (by omega) (by omega) ⟨[c, szBx (sizesF p)], gr⟩ 1 rfl
    simp only [pgC, stRs_map] at hm hs
    refine call_fn (ids := [3]) (hl _ (by simp)) Tryz.func42 Tryz.ntmps42 Tryz.results42 (by simp) rfl rfl ⟨_, rfl, by kernel_rfl, ?_⟩
    simp (maxSteps := 1000000) (contextual := true) (implicitDefEqProofs := false) [-decide_eq_true_eq, -decide_eq_false_iff_not, -Bool.not_and, -Bool.not_or, -Bool.and_eq_false_imp, -Int.natCast_add, -setAt, -List.map_take, setAt_eq, pgC, stRs_map, hm, hs, hz]
    simp only [gather_nil, newB_one, gather_sz1, List.nil_append]
    decide
  · rw [if_neg h0]
    rw [decide_eq_false h0] at hm
    simp only [pgC, stRs_map] at hm
    refine call_fn (ids := [3]) (hl _ (by simp)) Tryz.func42 Tryz.ntmps42 Tryz.results42 (by simp) rfl rfl ⟨_, rfl, by kernel_rfl, ?_⟩
    simp (maxSteps := 1000000) (contextual := true) (implicitDefEqProofs := false) [-decide_eq_true_eq, -decide_eq_false_iff_not, -Bool.not_and, -Bool.not_or, -Bool.and_eq_false_imp, -Int.natCast_add, -setAt, -List.map_take, setAt_eq, pgC, stRs_map, hm]
end Go.Proofs.YtfgoedndpcblpaaGreatDoor.Pv
end
section
namespace Go.Proofs.YtfgoedndpcblpaaGreatDoor.Pv
open Go Go.Proofs Go.Proofs.YtfgoedndpcblpaaGreatDoor.Lx Go.Proofs.YtfgoedndpcblpaaGreatDoor.Ps
set_option linter.unusedSimpArgs false
set_option linter.unusedVariables false
variable {L : Lib} {σ : Sto}
theorem keepsV_fn {f : FuncId} {fn : Func} {n : Nat} {ids : List Nat} {rs : Array ResultVar} {args : List PV} {bs : List Bx} {r : PV} (hl : L f = none) (hf : Tryz.prog.funcs[f]? = some fn) (hn : fn.ntmps = n) (hrs : fn.results = rs) (hlen : args.length ≤ n)
    (h : ∃ c, fn.body = some c ∧ statOk Tryz.prog ids c = true ∧ WP Tryz.prog L n ids c ⟨initE args, ⟨bs, []⟩⟩ fun ctl s => (ctl = .next ∨ ctl = .ret) ∧ Run (outE Tryz.prog s.env s.sto rs.toList) fun r' => r'.ptrs = [] ∧ r'.era = r ∧ ∃ more, s.sto.bx = bs ++ more) : ∃ v : PV, v.ptrs = [] ∧ v.era = r ∧ Keeps (EV Tryz.prog L) f args bs v := by
  obtain ⟨c, hb, hst, k, ctl, s', h1, h2, r', h3, h4, h6, more, h5⟩ := h
  subst hn; subst hrs
  refine ⟨r', h4, h6, more, s'.sto.gr, EV_fn hl hf hb hst hlen ⟨k, ctl, s', h1, h2, h3, ?_⟩⟩
  rw [← h5]
def setAB : Ps.St → List Ps.St → List Ps.St → Ps.St
  | .mk op nm e _ _ pos, a, b => .mk op nm e a b pos
def goF (rec : List Ps.St → Option (List Ps.St)) (p : Pg) (m : List (ByteArray × Nat)) : List Ps.St → List Ps.St → Option (List Ps.St)
  | out, [] => some out
  | out, s :: l =>
    if s.opB = (⟨#[99, 97, 108, 108]⟩ : ByteArray) then
      if 0 < szAt s.nm m then
        if procF p s.nm = none then none else
        match rec (bodyF p s.nm) with
        | some r => if out.length + r.length ≤ 1000000 then goF rec p m (out ++ r) l else none
        | none => none
      else goF rec p m out l
    else match rec s.a, rec s.b with
      | some a, some b => if out.length + 1 ≤ 1000000 then goF rec p m (out ++ [setAB s a b]) l else none
      | _, _ => none
def flatD (p : Pg) (m : List (ByteArray × Nat)) : Nat → List Ps.St → Option (List Ps.St)
  | 0, _ => none
  | n + 1, l => if l.length ≤ 1000000 then goF (flatD p m n) p m [] l else none
def flatB (p : Pg) (m : List (ByteArray × Nat)) : List Bx := [.cells [.mp 1], szBx m, .cells [.fn (.func 108) [.ptr 0 0, .ptr 2 0, .ptr 3 0]], .cells (pgC p)]
theorem pgC_ren (p : Pg) (ρ : Nat → Option Nat) (τ : Tag → Tag) (h1 : τ .unk = .unk) : (Bx.cells (pgC p)).ren ρ τ = some (.cells (pgC p)) := by
  simp [pgC, Bx.ren, renL, PV.ren, h1]
theorem pgC_ptrs (p : Pg) : (Bx.cells (pgC p)).ptrs = [] ∧ (Bx.cells (pgC p)).tags = [] := ⟨rfl, rfl⟩
def mpB (b : Nat) : Bx := .cells [.mp b]
def fnB (a b c : Nat) : Bx := .cells [.fn (.func 108) [.ptr a 0, .ptr b 0, .ptr c 0]]
theorem mpB_p (b : Nat) : (mpB b).ptrs = [b] ∧ (mpB b).tags = [] := ⟨rfl, rfl⟩
theorem fnB_p (a b c : Nat) : (fnB a b c).ptrs = [a, b, c] ∧ (fnB a b c).tags = [] := ⟨rfl, rfl⟩
theorem mpB_ren {ρ : Nat → Option Nat} {τ : Tag → Tag} {b c : Nat} (h : ρ b = some c) : (mpB b).ren ρ τ = some (mpB c) := by simp [mpB, Bx.ren, renL, PV.ren, h]
theorem fnB_ren {ρ : Nat → Option Nat} {τ : Tag → Tag} {a b c a' b' c' : Nat} (h1 : ρ a = some a') (h2 : ρ b = some b') (h3 : ρ c = some c') : (fnB a b c).ren ρ τ = some (fnB a' b' c') := by simp [fnB, Bx.ren, renL, PV.ren, h1, h2, h3]
theorem pgB_ren (p : Pg) {ρ : Nat → Option Nat} {τ : Tag → Tag} (h1 : τ .unk = .unk) : (Bx.cells (pgC p)).ren ρ τ = some (.cells (pgC p)) := pgC_ren p ρ τ h1
theorem flatB_eq (p : Pg) (m : List (ByteArray × Nat)) : flatB p m = [mpB 1, szBx m, fnB 0 2 3, .cells (pgC p)] := rfl
theorem call_flat {H : Hand} {p : Pg} {m : List (ByteArray × Nat)} {l : List Ps.St} {v : PV} {junk : List Bx} {gr : List (Nat × Nat)} (hr : v.ptrs = []) (h : Keeps H 108 [.sl (l.map stR) .unk, .ptr 0 0, .ptr 2 0, .ptr 3 0] (flatB p m) v) : callE H 108 [.sl (l.map stR) .unk, .ptr 0 0, .ptr 2 0, .ptr 3 0] ⟨flatB p m ++ junk, gr⟩ = some (v.era, ⟨flatB p m ++ junk, gr⟩) := by
  obtain ⟨s1, s2⟩ := szM_ptrs m
  obtain ⟨m1, m2⟩ := mpB_p 1
  obtain ⟨f1, f2⟩ := fnB_p 0 2 3
  obtain ⟨q1, q2⟩ := pgC_ptrs p
  have g : ∀ more, gather (flatB p m ++ more) 64 [0, 2, 3] [] = [0, 1, 2, 3] := fun more => by
    simp [gather, flatB_eq, ptrsAt, s1, m1, f1, q1]
  have r1 : ∀ ρ τ, ρ 0 = some 0 → ρ 1 = some 1 → ρ 2 = some 2 → ρ 3 = some 3 → τ Tag.unk = .unk → renBs ρ τ (flatB p m) = some (flatB p m) := fun ρ τ h0 h1 h2 h3 h4 => by
    simp only [flatB_eq, renBs, mpB_ren h1, szM_ren, fnB_ren h0 h2 h3, pgB_ren p h4]
  refine call_keeps (B := [0, 1, 2, 3]) (bs := flatB p m) (obs := flatB p m) (g junk) ?_ ?_ ?_ ?_ rfl ?_ ?_ ?_ ?_ ?_ hr h
  · simp [tagsB, tagsAt, flatB_eq, s2, m2, f2, q2]
  · simp [renL, PV.ren, find]
  · simp [pickL, flatB]
  · exact r1 _ _ rfl rfl rfl rfl rfl
  · intro more
    have : ptrsUpto (flatB p m ++ more) 4 = [1, 0, 2, 3] := by simp [flatB_eq, ptrsUpto, ptrsAt, s1, m1, f1, q1]
    show gather (flatB p m ++ more) 64 (ptrsUpto (flatB p m ++ more) 4) [0, 1, 2, 3] = [0, 1, 2, 3]
    rw [this]
    rfl
  · intro more; simp [tagsB, tagsAt, iota, flatB_eq, s2, m2, f2, q2]
  · intro more; simp [pickL, iota, flatB]
  · exact r1 _ _ rfl rfl rfl rfl rfl
  · exact r1 _ _ rfl rfl rfl rfl rfl
end Go.Proofs.YtfgoedndpcblpaaGreatDoor.Pv
end
section
namespace Go.Proofs.YtfgoedndpcblpaaGreatDoor.Pv
open Go Go.Proofs Go.Proofs.YtfgoedndpcblpaaGreatDoor.Lx Go.Proofs.YtfgoedndpcblpaaGreatDoor.Ps
set_option linter.unusedSimpArgs false
set_option linter.unusedVariables false
variable {L : Lib} {σ : Sto}
theorem st_app {l xs : List Ps.St} {tag : Tag} {gr : List (Nat × Nat)} (ho : Own 6 gr (l.map stR) tag) (hb : l.length + xs.length ≤ 1000000) :
    ∃ tag' gr', (∀ bx, appL 6 112 ⟨bx, gr⟩ (l.map stR) tag (xs.map stR) = some (.sl ((l ++ xs).map stR) tag', ⟨bx, gr'⟩)) ∧ Own 6 gr' ((l ++ xs).map stR) tag' := by
  obtain ⟨tag', gr', h1, h2, _⟩ := app_own3 (b := 112) (g0 := []) (more := gr) (xs := xs.map stR) (by simpa using ho) (fun g _ => Nat.zero_le g) (sized_map stR_len) (sized_map stR_len) (by simp; omega)
  rw [← List.map_append] at h1 h2
  exact ⟨tag', gr', by simpa using h1, by simpa using h2⟩
theorem setAB_R (x : Ps.St) (a b : List Ps.St) : stR (setAB x a b) = [.im (.string x.opB), .im (.string x.nm), .sl (x.e.map exR), .sl (a.map stR), .sl (b.map stR), .im (.int .i64 x.pos)] := by
  rw [stR_l]
  cases x
  rfl
@[simp] def flatFs : List FuncId := bodyFs ++ [108]
set_option maxHeartbeats 1000000 in
theorem flat_keep (hl : Free L flatFs) (p : Pg) (hp : p.procs.length < 274877906944) (m : List (ByteArray × Nat)) : ∀ (n : Nat) (l r : List Ps.St), flatD p m n l = some r → ∃ v : PV, v.ptrs = [] ∧ v.era = .sl (r.map stR) .unk ∧ Keeps (EV Tryz.prog L) 108 [.sl (l.map stR) .unk, .ptr 0 0, .ptr 2 0, .ptr 3 0] (flatB p m) v := by
  intro n
  induction n with
  | zero => intro l r h; cases h
  | succ n ih =>
    intro l r h
    have ih : ∀ (l r : List Ps.St), flatD p m n l = some r → ∀ junk gr, callE (EV Tryz.prog L) 108 [.sl (l.map stR) .unk, .ptr 0 0, .ptr 2 0, .ptr 3 0] ⟨flatB p m ++ junk, gr⟩ = some (.sl (r.map stR) .unk, ⟨flatB p m ++ junk, gr⟩) := fun l r h junk gr => by
      obtain ⟨v, h1, h2, h3⟩ := ih l r h
      rw [← h2]
      exact call_flat h1 h3
    have hro : roF Tryz.prog 6 108 = false := by kernel_rfl
    have hcl : ∀ {env : Nat → PV} {σ σ1 : Sto} {v : PV} {t : Tmp} {a : Operand}, env t = .fn (.func 108) [.ptr 0 0, .ptr 2 0, .ptr 3 0] → σ1.bx = σ.bx → clsCall Tryz.prog env σ v σ1 (.tmp t) #[a] = .w (some []) := fun {env σ σ1 v t a} h1 h2 => clsCall_tmp h1 hro (by
      have : ∀ (q : PV) (l : List PV), ptrsL (q :: l) = q.ptrs ++ ptrsL l := fun _ _ => rfl
      simp [this, PV.ptrs]) h2
    unfold flatD at h
    split at h
    rotate_left
    · cases h
    rename_i hlen
    have u1 : Tryz.prog.underlying 155 = some (.map 9 3) := by kernel_rfl
    have u2 : Tryz.prog.underlying 9 = some .string := by kernel_rfl
    have u3 : zeroV Tryz.prog 3 = some (int 0) := by kernel_rfl
    refine keepsV_fn (ids := [7, 8]) (hl _ (by simp)) Tryz.func108 Tryz.ntmps108 Tryz.results108 (by simp) ⟨_, rfl, by kernel_rfl, ?_⟩
    simp (maxSteps := 1000000) (contextual := true) (implicitDefEqProofs := false) [-decide_eq_true_eq, -decide_eq_false_iff_not, -Bool.not_and, -Bool.not_or, -Bool.and_eq_false_imp, -Int.natCast_add, -setAt, -List.map_take, setAt_eq]
    refine WP.each l (fun rest i s' => ∃ (out : List Ps.St) (tag : Tag) (gr : List (Nat × Nat)) (junk : List Bx), s'.sto = ⟨flatB p m ++ junk, gr⟩ ∧ Own 6 gr (out.map stR) tag ∧ goF (flatD p m n) p m out rest = some r ∧ s'.env 1 = .ptr 0 0 ∧ s'.env 2 = .ptr 2 0 ∧ s'.env 3 = .ptr 3 0 ∧ s'.env 6 = .sl (out.map stR) tag ∧ s'.env 9 = .sl (l.map stR) .unk ∧ s'.env 10 = int l.length ∧ s'.env 11 = int i) ⟨[], .full, [], [], by simp [flatB], .nil, h, by simp, by simp, by simp, by simp, by simp, by simp, by simp⟩ ?_ ?_
    · rintro x xs i ⟨env, τ⟩ hx hi hxs ⟨out, tag, gr, junk, h1, ho, hcs, h2, h3, h4, h5, h6, h7, h8⟩
      simp only at h1 h2 h3 h4 h5 h6 h7 h8
      subst h1
      have hix := row_idx (R := stR) hx (stR_len x)
      have hlt : decide (i < l.length) = true := by simp [hi]
      have hw : IntKind.wrap .i64 ((i : Int) + 1) = ((i + 1 : Nat) : Int) := wrap_succ (by omega)
      have hlk := fun (a : Bx) (junk : List Bx) (gr : List (Nat × Nat)) => look_sz (σ := ⟨a :: szBx m :: junk, gr⟩) (b := 1) (m := m) (s := x.nm) (P := Tryz.prog) u1 u2 u3 rfl
      unfold goF at hcs
      by_cases hop : x.opB = (⟨#[99, 97, 108, 108]⟩ : ByteArray)
      · rw [if_pos hop] at hcs
        by_cases hz : 0 < szAt x.nm m
        · rw [if_pos hz] at hcs
          have hd : decide (0 < szAt x.nm m) = true := decide_eq_true hz
          split at hcs
          · cases hcs
          rename_i hpr
          split at hcs
          rotate_left
          · cases hcs
          rename_i r1 hr1
          split at hcs
          rotate_left
          · cases hcs
          rename_i hsum
          have hb := body_ok (L := L) (hl.sub (by simp +contextual)) p hp x.nm hpr
          have hrec := ih _ _ hr1
          obtain ⟨tag1, gr1, ha, ho1⟩ := st_app (xs := r1) ho hsum
          simp only [pgC, stRs_map] at hb
          simp only [flatB, List.cons_append, List.nil_append, pgC, stRs_map] at hrec
          simp (maxSteps := 1000000) (contextual := true) (implicitDefEqProofs := false) [-decide_eq_true_eq, -decide_eq_false_iff_not, -Bool.not_and, -Bool.not_or, -Bool.and_eq_false_imp, -Int.natCast_add, -setAt, -List.map_take, setAt_eq, flatB, pgC, stRs_map, h2, h3, h4, h5, h6, h7, h8, hlt, hix, hw, stR_l x, hop, hlk, hd, hb, hrec, ha, hcl]
          refine ⟨?_, out ++ r1, tag1, ho1, hcs, by simp, rfl⟩
          refine orderOk_ren (fun n => if n ≤ 3 then n else 4) ?_
          have q1 : (junk.length + 1 + 1 + 1 + 1 ≤ 3) = False := by simp
          simp only [List.map_cons, List.map_nil, Cls.ren, q1, if_false]
          decide
        · rw [if_neg hz] at hcs
          have hd : decide (0 < szAt x.nm m) = false := decide_eq_false hz
          simp (maxSteps := 1000000) (contextual := true) (implicitDefEqProofs := false) [-decide_eq_true_eq, -decide_eq_false_iff_not, -Bool.not_and, -Bool.not_or, -Bool.and_eq_false_imp, -Int.natCast_add, -setAt, -List.map_take, setAt_eq, flatB, pgC, stRs_map, h2, h3, h4, h5, h6, h7, h8, hlt, hix, hw, stR_l x, hop, hlk, hd]
          exact ⟨out, tag, ho, hcs, rfl, rfl⟩
      · rw [if_neg hop] at hcs
        split at hcs
        rotate_left
        · cases hcs
        rename_i a b hra hrb
        split at hcs
        rotate_left
        · cases hcs
        rename_i hsum
        have hA := ih _ _ hra
        have hB := ih _ _ hrb
        obtain ⟨tag1, gr1, ha, ho1⟩ := st_app (xs := [setAB x a b]) ho hsum
        simp only [List.map_cons, List.map_nil, setAB_R] at ha
        simp only [flatB, List.cons_append, List.nil_append, pgC, stRs_map] at hA hB
        simp (maxSteps := 1000000) (contextual := true) (implicitDefEqProofs := false) [-decide_eq_true_eq, -decide_eq_false_iff_not, -Bool.not_and, -Bool.not_or, -Bool.and_eq_false_imp, -Int.natCast_add, -setAt, -List.map_take, setAt_eq, -List.map_append, flatB, pgC, stRs_map, h2, h3, h4, h5, h6, h7, h8, hlt, hix, hw, stR_l x, hop, hA, hB, ha, hcl]
        refine ⟨?_, out ++ [setAB x a b], tag1, ho1, hcs, rfl, rfl⟩
        refine orderOk_ren (fun n => if n ≤ 3 then n else 4) ?_
        have q1 : (junk.length + 1 + 1 + 1 + 1 ≤ 3) = False := by simp
        simp only [List.map_cons, List.map_nil, Cls.ren, q1, if_false]
        decide
    · rintro ⟨env, τ⟩ ⟨out, tag, gr, junk, h1, ho, hcs, h2, h3, h4, h5, h6, h7, h8⟩
      simp only at h1 h2 h3 h4 h5 h6 h7 h8
      subst h1
      simp only [goF, Option.some.injEq] at hcs
      subst hcs
      simp (maxSteps := 1000000) (contextual := true) (implicitDefEqProofs := false) [-decide_eq_true_eq, -decide_eq_false_iff_not, -Bool.not_and, -Bool.not_or, -Bool.and_eq_false_imp, -Int.natCast_add, -setAt, -List.map_take, setAt_eq, flatB, h2, h3, h4, h5, h6, h7, h8]
end Go.Proofs.YtfgoedndpcblpaaGreatDoor.Pv
end
section
namespace Go.Proofs.YtfgoedndpcblpaaGreatDoor.Pv
open Go Go.Proofs Go.Proofs.YtfgoedndpcblpaaGreatDoor.Lx Go.Proofs.YtfgoedndpcblpaaGreatDoor.Ps
set_option linter.unusedSimpArgs false
set_option linter.unusedVariables false
variable {L : Lib} {σ : Sto}
theorem call_flat2 {H : Hand} {p : Pg} {m : List (ByteArray × Nat)} {l : List Ps.St} {v : PV} {z : Bx} {gr : List (Nat × Nat)} (hr : v.ptrs = []) (h : Keeps H 108 [.sl (l.map stR) .unk, .ptr 0 0, .ptr 2 0, .ptr 3 0] (flatB p m) v) : callE H 108 [.sl (l.map stR) .unk, .ptr 3 0, .ptr 4 0, .ptr 0 0] ⟨[.cells (pgC p), z, szBx m, mpB 2, fnB 3 4 0], gr⟩ = some (v.era, ⟨[.cells (pgC p), z, szBx m, mpB 2, fnB 3 4 0], gr⟩) := by
  obtain ⟨s1, s2⟩ := szM_ptrs m
  obtain ⟨m1, m2⟩ := mpB_p 1
  obtain ⟨f1, f2⟩ := fnB_p 0 2 3
  obtain ⟨n1, n2⟩ := mpB_p 2
  obtain ⟨e1, e2⟩ := fnB_p 3 4 0
  obtain ⟨q1, q2⟩ := pgC_ptrs p
  have g : gather [.cells (pgC p), z, szBx m, mpB 2, fnB 3 4 0] 64 [3, 4, 0] [] = [3, 2, 4, 0] := by
    simp [gather, ptrsAt, s1, n1, e1, q1]
  have r1 : ∀ ρ τ, ρ 0 = some 0 → ρ 1 = some 1 → ρ 2 = some 2 → ρ 3 = some 3 → τ Tag.unk = .unk → renBs ρ τ (flatB p m) = some (flatB p m) := fun ρ τ h0 h1 h2 h3 h4 => by
    simp only [flatB_eq, renBs, mpB_ren h1, szM_ren, fnB_ren h0 h2 h3, pgB_ren p h4]
  refine call_keeps (B := [3, 2, 4, 0]) (bs := flatB p m) (obs := [mpB 2, szBx m, fnB 3 4 0, .cells (pgC p)]) g ?_ ?_ ?_ ?_ rfl ?_ ?_ ?_ ?_ ?_ hr h
  · simp [tagsB, tagsAt, s2, n2, e2, q2]
  · simp [renL, PV.ren, find]
  · simp [pickL]
  · have h1 : ∀ τ, (mpB 2).ren (find [3, 2, 4, 0]) τ = some (mpB 1) := fun τ => mpB_ren rfl
    have h2 : ∀ τ, (fnB 3 4 0).ren (find [3, 2, 4, 0]) τ = some (fnB 0 2 3) := fun τ => fnB_ren rfl rfl rfl
    simp only [flatB_eq, renBs, h1, szM_ren, h2, pgB_ren p (τ := Tag.sel []) rfl]
  · intro more
    have : ptrsUpto (flatB p m ++ more) 4 = [1, 0, 2, 3] := by simp [flatB_eq, ptrsUpto, ptrsAt, s1, m1, f1, q1]
    show gather (flatB p m ++ more) 64 (ptrsUpto (flatB p m ++ more) 4) [0, 1, 2, 3] = [0, 1, 2, 3]
    rw [this]
    rfl
  · intro more; simp [tagsB, tagsAt, iota, flatB_eq, s2, m2, f2, q2]
  · intro more; simp [pickL, iota, flatB]
  · exact r1 _ _ rfl rfl rfl rfl rfl
  · have h1 : ∀ N τ, (mpB 1).ren (backB [3, 2, 4, 0] N 4) τ = some (mpB 2) := fun N τ => mpB_ren rfl
    have h2 : ∀ N τ, (fnB 0 2 3).ren (backB [3, 2, 4, 0] N 4) τ = some (fnB 3 4 0) := fun N τ => fnB_ren rfl rfl rfl
    show renBs (backB [3, 2, 4, 0] _ 4) _ (flatB p m) = _
    simp only [flatB_eq, renBs, h1, szM_ren, h2, pgB_ren p (τ := Tag.back [] gr.length 0) rfl]
def inlE (p : Pg) : Int := if (checkF p).2.2 = 0 then (if inManyF p ≤ 400 then 0 else 150) else 1
def inlP (p : Pg) (r : List Ps.St) : Pg := if inlE p = 0 then ⟨p.enums, p.vars, [], r⟩ else ⟨[], [], [], []⟩
@[simp] def inlFs : List FuncId := manyFs ++ flatFs ++ [41]
set_option maxHeartbeats 1000000 in
theorem Inline_ok (hl : Free L inlFs) (hg : L 168 = some (growH 1)) (hc : L 25 = some checkH) (p : Pg) (hp : CkSm p) (hgo : (checkF p).2.2 = 0 → Goes p) (n : Nat) (r : List Ps.St) (hf : inlE p = 0 → flatD p (sizesF p) n p.main = some r) : ∀ σ, callE (EV Tryz.prog L) 41 [.agg (pgC p)] σ = some (.tup [.agg (pgC (inlP p r)), int (inlE p)], σ) := by
  intro σ
  have hm := may_ok (L := L) (hl.sub (by simp +contextual)) hc p hp
  have hmany := Many_ok (L := L) (hl.sub (by simp +contextual)) hg hc p hp hgo
  unfold inlP
  unfold inlE at hf ⊢
  by_cases h0 : (checkF p).2.2 = 0
  · rw [if_pos h0] at hf ⊢
    rw [decide_eq_true h0] at hm
    simp only [pgC, stRs_map] at hm hmany
    by_cases h1 : inManyF p ≤ 400
    · rw [if_pos h1] at hf ⊢
      have hd : decide ((400 : Int) < ((inManyF p : Nat) : Int)) = false := decide_eq_false (by omega)
      have hs := sizes_ok (L := L) (hl.sub (by simp +contextual)) hg hc p hp h0 (hgo h0)
      obtain ⟨v, v1, v2, v3⟩ := flat_keep (L := L) (hl.sub (by simp +contextual)) p (by have := hp.pc; omega) (sizesF p) n p.main r (hf rfl)
      have hfl := fun z gr => call_flat2 (z := z) (gr := gr) v1 v3
      rw [v2] at hfl
      have hro : roF Tryz.prog 6 108 = false := by kernel_rfl
      have hcl : ∀ {env : Nat → PV} {σ σ1 : Sto} {v : PV} {t : Tmp} {a : Operand}, env t = .fn (.func 108) [.ptr 3 0, .ptr 4 0, .ptr 0 0] → σ1.bx = σ.bx → clsCall Tryz.prog env σ v σ1 (.tmp t) #[a] = .w (some []) := fun {env σ σ1 v t a} h1 h2 => clsCall_tmp h1 hro (by
        have : ∀ (q : PV) (l : List PV), ptrsL (q :: l) = q.ptrs ++ ptrsL l := fun _ _ => rfl
        simp [this, PV.ptrs]) h2
      simp only [pgC, stRs_map, mpB, fnB] at hs hfl
      refine call_fn (ids := [8]) (hl _ (by simp)) Tryz.func41 Tryz.ntmps41 Tryz.results41 (by simp) rfl rfl ⟨_, rfl, by kernel_rfl, ?_⟩
      simp (maxSteps := 1000000) (contextual := true) (implicitDefEqProofs := false) [-decide_eq_true_eq, -decide_eq_false_iff_not, -Bool.not_and, -Bool.not_or, -Bool.and_eq_false_imp, -Int.natCast_add, -setAt, -List.map_take, setAt_eq, pgC, stRs_map, hm, hmany, hd, hs, hfl, hcl]
      decide
    · rw [if_neg h1]
      have hd : decide ((400 : Int) < ((inManyF p : Nat) : Int)) = true := decide_eq_true (by omega)
      refine call_fn (ids := [8]) (hl _ (by simp)) Tryz.func41 Tryz.ntmps41 Tryz.results41 (by simp) rfl rfl ⟨_, rfl, by kernel_rfl, ?_⟩
      simp (maxSteps := 1000000) (contextual := true) (implicitDefEqProofs := false) [-decide_eq_true_eq, -decide_eq_false_iff_not, -Bool.not_and, -Bool.not_or, -Bool.and_eq_false_imp, -Int.natCast_add, -setAt, -List.map_take, setAt_eq, pgC, stRs_map, hm, hmany, hd]
  · rw [if_neg h0]
    rw [decide_eq_false h0] at hm
    simp only [pgC, stRs_map] at hm
    refine call_fn (ids := [8]) (hl _ (by simp)) Tryz.func41 Tryz.ntmps41 Tryz.results41 (by simp) rfl rfl ⟨_, rfl, by kernel_rfl, ?_⟩
    simp (maxSteps := 1000000) (contextual := true) (implicitDefEqProofs := false) [-decide_eq_true_eq, -decide_eq_false_iff_not, -Bool.not_and, -Bool.not_or, -Bool.and_eq_false_imp, -Int.natCast_add, -setAt, -List.map_take, setAt_eq, pgC, stRs_map, hm]
end Go.Proofs.YtfgoedndpcblpaaGreatDoor.Pv
end
section
namespace Go.Proofs.YtfgoedndpcblpaaGreatDoor.Pv
open Go Go.Proofs Go.Proofs.YtfgoedndpcblpaaGreatDoor.Lx Go.Proofs.YtfgoedndpcblpaaGreatDoor.Ps
set_option linter.unusedSimpArgs false
set_option linter.unusedVariables false
theorem len_sub {α : Type} [DecidableEq α] : ∀ (l k : List α), l.Nodup → (∀ x ∈ l, x ∈ k) → l.length ≤ k.length
  | [], _, _, _ => Nat.zero_le _
  | x :: xs, k, hn, hs => by
    rw [List.nodup_cons] at hn
    have hx := hs x (List.mem_cons_self ..)
    have h1 : xs.length ≤ (k.erase x).length := len_sub xs (k.erase x) hn.2 fun y hy => (List.mem_erase_of_ne (fun e => hn.1 (by rw [← e]; exact hy))).2 (hs y (List.mem_cons_of_mem _ hy))
    rw [List.length_erase_of_mem hx] at h1
    have := List.length_pos_of_mem hx
    simp only [List.length_cons]
    omega
theorem calls_fit {p : Pg} : ∀ (n : Nat) (l : List Ps.St), stsN l < n → (stmtsF p l).2 = 0 → ∀ s ∈ callsL l, (p.procs.any fun x => decide (x.name = s)) = true
  | 0, l, h, _ => by omega
  | n + 1, [], _, _ => fun s hs => by simp [callsL] at hs
  | n + 1, .mk op nm e a b i :: l, h, hz => by
    simp only [stsN, stN] at h
    simp only [stmtsF] at hz
    have h1 : (stmtF p (.mk op nm e a b i)).2 = 0 := by
      by_cases h1 : (stmtF p (.mk op nm e a b i)).2 = 0
      · exact h1
      · rw [if_neg h1] at hz; exact hz
    rw [if_pos h1] at hz
    have hl := calls_fit n l (by omega) hz
    simp only [stmtF] at h1
    split at h1
    · split at h1
      · split at h1
        · rename_i hf
          split at h1
          · rename_i ha
            have hA := calls_fit n a (by omega) ha
            have hB := calls_fit n b (by omega) h1
            intro s hs
            simp only [callsL, callS, List.mem_append] at hs
            rcases hs with (hs | hs | hs) | hs
            · by_cases hop : op = (⟨#[99, 97, 108, 108]⟩ : ByteArray)
              · rw [if_pos hop] at hs
                obtain rfl := List.mem_singleton.1 hs
                subst hop
                unfold fitsF at hf
                rw [show (Ps.St.mk (⟨#[99, 97, 108, 108]⟩ : ByteArray) s e a b i).opB = (⟨#[99, 97, 108, 108]⟩ : ByteArray) from rfl, show (Ps.St.mk (⟨#[99, 97, 108, 108]⟩ : ByteArray) s e a b i).nm = s from rfl, if_neg (by decide), if_neg (by decide), if_pos rfl] at hf
                by_cases hp : (p.procs.any fun x => decide (x.name = s)) = true
                · exact hp
                · rw [if_neg hp] at hf; simp at hf
              · rw [if_neg hop] at hs; cases hs
            · exact hA s hs
            · exact hB s hs
            · exact hl s hs
          · rename_i ha; exact absurd h1 ha
        · rename_i hf; exact absurd h1 hf
      · rename_i hf; exact absurd h1 hf
    · simp at h1
theorem calls_app (l k : List Ps.St) : callsL (l ++ k) = callsL l ++ callsL k := by
  induction l with
  | nil => rfl
  | cons x xs ih => simp only [List.cons_append, callsL, ih, List.append_assoc]
theorem calls_flat (ls : List (List Ps.St)) : ∀ l ∈ ls, ∀ s ∈ callsL l, s ∈ callsL ls.flatten := by
  induction ls with
  | nil => intro l h; cases h
  | cons x xs ih =>
    intro l h s hs
    rw [List.flatten_cons, calls_app]
    rcases List.mem_cons.1 h with rfl | h
    · exact List.mem_append_left _ hs
    · exact List.mem_append_right _ (ih l h s hs)
theorem has_ins {s t : ByteArray} {v : List ByteArray} : ∀ m : RM, hasM t (insM s v m) = (decide (t = s) || hasM t m)
  | [] => by simp [insM, hasM]
  | e :: es => by
    simp only [insM]
    by_cases h : s = e.1
    · rw [if_pos h]; subst h; simp [hasM]
    · rw [if_neg h]
      have := has_ins (s := s) (t := t) (v := v) es
      simp only [hasM, List.any_cons] at this ⊢
      rw [this]
      cases decide (t = e.1) <;> cases decide (t = s) <;> rfl
theorem get_ins {s t : ByteArray} {v : List ByteArray} : ∀ m : RM, getM t (insM s v m) = if t = s then v else getM t m
  | [] => by simp [insM, getM]
  | e :: es => by
    simp only [insM]
    by_cases h : s = e.1
    · rw [if_pos h]; subst h
      simp only [getM]
      by_cases ht : t = e.1
      · rw [if_pos ht, if_pos ht]
      · rw [if_neg ht, if_neg ht, if_neg ht]
    · rw [if_neg h]
      simp only [getM, get_ins es]
      by_cases ht : t = e.1
      · rw [if_pos ht, if_pos ht, if_neg (show ¬ t = s from fun e2 => h (e2.symm.trans ht))]
      · rw [if_neg ht, if_neg ht]
theorem has_del {s t : ByteArray} (hne : t ≠ s) : ∀ m : RM, hasM t (delM s m) = hasM t m ∧ getM t (delM s m) = getM t m
  | [] => ⟨rfl, rfl⟩
  | e :: es => by
    simp only [delM]
    by_cases h : s = e.1
    · rw [if_pos h]
      have h2 : decide (t = e.1) = false := decide_eq_false fun e2 => hne (e2.trans h.symm)
      constructor
      · simp only [hasM, List.any_cons, h2, Bool.false_or]
      · simp only [getM]; rw [if_neg (of_decide_eq_false h2)]
    · rw [if_neg h]
      obtain ⟨h1, h2⟩ := has_del hne es
      constructor
      · simp only [hasM, List.any_cons] at h1 ⊢; rw [h1]
      · simp only [getM, h2]
def KeptM (ps : List Pc) (S : ByteArray → Prop) (m : RM) : Prop := ∀ x ∈ ps, S x.name → hasM x.name m = true ∧ getM x.name m = callsL x.body
theorem kept_step {ps : List Pc} {S : ByteArray → Prop} (hS : ∀ x ∈ ps, S x.name → ∃ c ∈ callsL x.body, S c ∧ ∃ y ∈ ps, y.name = c) {m : RM} (h : KeptM ps S m) {x : Pc} (hx : x ∈ ps) : KeptM ps S (stepM m x) := by
  unfold stepM
  split
  · exact h
  · rename_i hn
    intro y hy hs
    by_cases he : y.name = x.name
    · exfalso
      refine hn ?_
      obtain ⟨h1, h2⟩ := h y hy hs
      rw [← he, h2]
      obtain ⟨c, hc, hsc, z, hz, rfl⟩ := hS y hy hs
      rw [List.any_eq_true]
      exact ⟨z.name, hc, (h z hz hsc).1⟩
    · obtain ⟨h1, h2⟩ := has_del he m
      rw [h1, h2]; exact h y hy hs
theorem kept_fold {ps : List Pc} {S : ByteArray → Prop} (hS : ∀ x ∈ ps, S x.name → ∃ c ∈ callsL x.body, S c ∧ ∃ y ∈ ps, y.name = c) : ∀ (l : List Pc) (m : RM), (∀ x ∈ l, x ∈ ps) → KeptM ps S m → KeptM ps S (l.foldl stepM m)
  | [], m, _, h => h
  | x :: xs, m, hl, h => kept_fold hS xs _ (fun y hy => hl y (List.mem_cons_of_mem _ hy)) (kept_step hS h (hl x (List.mem_cons_self ..)))
theorem kept_rounds {ps : List Pc} {S : ByteArray → Prop} (hS : ∀ x ∈ ps, S x.name → ∃ c ∈ callsL x.body, S c ∧ ∃ y ∈ ps, y.name = c) : ∀ (n : Nat) (m : RM), KeptM ps S m → KeptM ps S (roundsM ps n m)
  | 0, m, h => h
  | n + 1, m, h => kept_rounds hS n _ (kept_fold hS ps m (fun _ h => h) h)
theorem nodup_inj : ∀ {ps : List Pc}, (ps.map (·.name)).Nodup → ∀ {x y : Pc}, x ∈ ps → y ∈ ps → x.name = y.name → x = y
  | [], _, x, y, hx, _, _ => by cases hx
  | z :: zs, hn, x, y, hx, hy, he => by
    rw [List.map_cons, List.nodup_cons] at hn
    rcases List.mem_cons.1 hx with e1 | h1
    · rcases List.mem_cons.1 hy with e2 | h2
      · rw [e1, e2]
      · exact absurd (show z.name ∈ zs.map (·.name) from List.mem_map.2 ⟨y, h2, by rw [← he, e1]⟩) hn.1
    · rcases List.mem_cons.1 hy with e2 | h2
      · exact absurd (show z.name ∈ zs.map (·.name) from List.mem_map.2 ⟨x, h1, by rw [he, e2]⟩) hn.1
      · exact nodup_inj hn.2 h1 h2 he
theorem left_has {ps : List Pc} (hn : (ps.map (·.name)).Nodup) : ∀ (l : List Pc) (m : RM), (∀ x ∈ l, x ∈ ps) → ∀ x, x ∈ ps → (x ∈ l ∨ (hasM x.name m = true ∧ getM x.name m = callsL x.body)) → hasM x.name (l.foldl (fun m x => insM x.name (callsL x.body) m) m) = true ∧ getM x.name (l.foldl (fun m x => insM x.name (callsL x.body) m) m) = callsL x.body
  | [], m, _, x, _, h => by
    rcases h with h | h
    · cases h
    · exact h
  | y :: ys, m, hl, x, hx, h => by
    rw [List.foldl_cons]
    refine left_has hn ys _ (fun z hz => hl z (List.mem_cons_of_mem _ hz)) x hx ?_
    by_cases he : x.name = y.name
    · right
      have hb : x = y := nodup_inj hn hx (hl y (List.mem_cons_self ..)) he
      subst hb
      rw [has_ins, get_ins, if_pos rfl]
      simp
    · rcases h with h | ⟨h1, h2⟩
      · rcases List.mem_cons.1 h with rfl | h
        · exact absurd rfl he
        · exact .inl h
      · right
        rw [has_ins, get_ins, if_neg he, h1, h2]
        simp
theorem ordF_small (p : Pg) : ∀ m, (ordF p m []).length ≤ m := by
  intro m
  induction m with
  | zero => exact Nat.le_refl _
  | succ m ih =>
    rw [ordF_succ, nextF]
    split
    · simp; omega
    · omega
theorem goes_of {p : Pg} (hg : Good p) : Goes p := by
  have hn : (p.procs.map (·.name)).Nodup := by
    have := names_nodup hg.names
    unfold allNames at this
    rw [List.nodup_append] at this
    exact this.2.1
  have hcall : ∀ x ∈ p.procs, ∀ c ∈ callsL x.body, ∃ y ∈ p.procs, y.name = c := fun x hx c hc => by
    have h1 := calls_fit (stsN (allStmts p) + 1) (allStmts p) (by omega) hg.stmts c (calls_flat (bodiesF p) x.body (by
      unfold bodiesF
      simp only [List.mem_cons, List.mem_append, List.mem_map]
      first | exact .inr ⟨x, hx, rfl⟩ | exact .inl ⟨x, hx, rfl⟩) c hc)
    rw [List.any_eq_true] at h1
    obtain ⟨y, hy, he⟩ := h1
    exact ⟨y, hy, of_decide_eq_true he⟩
  intro m hm
  apply Classical.byContradiction
  intro hno
  have hnone : ∀ x ∈ p.procs, readyF (ordF p m []) x = false := fun x hx => by
    cases hr : readyF (ordF p m []) x with
    | false => rfl
    | true =>
      exfalso
      cases hq : p.procs.find? (readyF (ordF p m [])) with
      | none => exact absurd hr (List.find?_eq_none.1 hq x hx)
      | some y => exact hno ⟨y, hq⟩
  have hS : ∀ x ∈ p.procs, x.name ∉ ordF p m [] → ∃ c ∈ callsL x.body, c ∉ ordF p m [] ∧ ∃ y ∈ p.procs, y.name = c := fun x hx hs => by
    have h1 := hnone x hx
    unfold readyF at h1
    have h2 : memB x.name (ordF p m []) = false := by
      cases h : memB x.name (ordF p m []) with
      | false => rfl
      | true => exact absurd (memB_iff.1 h) hs
    rw [h2] at h1
    simp only [Bool.not_false, Bool.true_and, Bool.not_eq_false'] at h1
    rw [List.any_eq_true] at h1
    obtain ⟨c, hc, he⟩ := h1
    refine ⟨c, hc, fun hm => ?_, hcall x hx c hc⟩
    rw [memB_iff.2 hm] at he
    cases he
  have hk : KeptM p.procs (fun s => s ∉ ordF p m []) (left0 p) := fun x hx _ => left_has hn p.procs [] (fun _ h => h) x hx (.inl hx)
  have hr := kept_rounds hS p.procs.length _ hk
  have hc := hg.cycle
  unfold cycleF at hc
  split at hc
  rotate_left
  · cases hc
  rename_i hz
  have he : roundsM p.procs p.procs.length (left0 p) = [] := List.length_eq_zero_iff.1 hz
  rw [he] at hr
  have hall : ∀ s ∈ p.procs.map (·.name), s ∈ ordF p m [] := fun s hs => by
    obtain ⟨x, hx, rfl⟩ := List.mem_map.1 hs
    apply Classical.byContradiction
    intro hno
    have := (hr x hx hno).1
    simp [hasM] at this
  have h1 := len_sub _ _ hn hall
  have h2 := ordF_small p m
  simp at h1
  omega
end Go.Proofs.YtfgoedndpcblpaaGreatDoor.Pv
end
section
namespace Go.Proofs.YtfgoedndpcblpaaGreatDoor.Pv
open Go Go.Proofs Go.Proofs.YtfgoedndpcblpaaGreatDoor.Lx Go.Proofs.YtfgoedndpcblpaaGreatDoor.Ps
set_option linter.unusedSimpArgs false
set_option linter.unusedVariables false
variable {L : Lib} {σ : Sto} {T : Base}
def src15 : ByteArray := (⟨#[118, 97, 114, 32, 120, 58, 32, 105, 110, 116, 59, 32, 112, 114, 111, 99, 32, 113, 32, 123, 32, 99, 97, 108, 108, 32, 114, 59, 32, 125, 32, 112, 114, 111, 99, 32, 114, 32, 123, 32, 120, 32, 61, 32, 49, 59, 32, 115, 107, 105, 112, 59, 32, 125, 32, 109, 97, 105, 110, 32, 123, 32, 99, 97, 108, 108, 32, 113, 59, 32, 105, 102, 32, 120, 32, 60, 32, 50, 32, 123, 32, 99, 97, 108, 108, 32, 114, 59, 32, 125, 32, 125]⟩ : ByteArray)
def txt15 : ByteArray := (⟨#[118, 97, 114, 32, 120, 58, 32, 105, 110, 116, 59, 10, 109, 97, 105, 110, 32, 123, 10, 32, 32, 120, 32, 61, 32, 49, 59, 10, 32, 32, 115, 107, 105, 112, 59, 10, 32, 32, 105, 102, 32, 120, 32, 60, 32, 50, 32, 123, 10, 32, 32, 32, 32, 120, 32, 61, 32, 49, 59, 10, 32, 32, 32, 32, 115, 107, 105, 112, 59, 10, 32, 32, 125, 10, 125, 10]⟩ : ByteArray)
def p15 : Pg := ⟨[], [⟨(⟨#[120]⟩ : ByteArray), (⟨#[105, 110, 116]⟩ : ByteArray), 0⟩], [⟨(⟨#[113]⟩ : ByteArray), [.mk (⟨#[99, 97, 108, 108]⟩ : ByteArray) (⟨#[114]⟩ : ByteArray) [] [] [] 21]⟩, ⟨(⟨#[114]⟩ : ByteArray), [.mk (⟨#[115, 101, 116]⟩ : ByteArray) (⟨#[120]⟩ : ByteArray) [.mk (⟨#[110, 117, 109]⟩ : ByteArray) ⟨#[]⟩ 1 [] 44] [] [] 40, .mk (⟨#[115, 107, 105, 112]⟩ : ByteArray) ⟨#[]⟩ [] [] [] 47]⟩], [.mk (⟨#[99, 97, 108, 108]⟩ : ByteArray) (⟨#[113]⟩ : ByteArray) [] [] [] 62, .mk (⟨#[105, 102]⟩ : ByteArray) ⟨#[]⟩ [.mk (⟨#[60]⟩ : ByteArray) ⟨#[]⟩ 0 [.mk (⟨#[110, 97, 109, 101]⟩ : ByteArray) (⟨#[120]⟩ : ByteArray) 0 [] 73, .mk (⟨#[110, 117, 109]⟩ : ByteArray) ⟨#[]⟩ 2 [] 77] 75] [.mk (⟨#[99, 97, 108, 108]⟩ : ByteArray) (⟨#[114]⟩ : ByteArray) [] [] [] 81] [] 70]⟩
def m15 : List Ps.St := [.mk (⟨#[115, 101, 116]⟩ : ByteArray) (⟨#[120]⟩ : ByteArray) [.mk (⟨#[110, 117, 109]⟩ : ByteArray) ⟨#[]⟩ 1 [] 44] [] [] 40, .mk (⟨#[115, 107, 105, 112]⟩ : ByteArray) ⟨#[]⟩ [] [] [] 47, .mk (⟨#[105, 102]⟩ : ByteArray) ⟨#[]⟩ [.mk (⟨#[60]⟩ : ByteArray) ⟨#[]⟩ 0 [.mk (⟨#[110, 97, 109, 101]⟩ : ByteArray) (⟨#[120]⟩ : ByteArray) 0 [] 73, .mk (⟨#[110, 117, 109]⟩ : ByteArray) ⟨#[]⟩ 2 [] 77] 75] [.mk (⟨#[115, 101, 116]⟩ : ByteArray) (⟨#[120]⟩ : ByteArray) [.mk (⟨#[110, 117, 109]⟩ : ByteArray) ⟨#[]⟩ 1 [] 44] [] [] 40, .mk (⟨#[115, 107, 105, 112]⟩ : ByteArray) ⟨#[]⟩ [] [] [] 47] [] 70]
set_option maxRecDepth 1000000 in
theorem parse15 : ((evF Tryz.prog libX 400 14 [str src15] ⟨[], []⟩).map fun x => (x.1.ptrs, x.1.era)) = some ([], .tup [.agg (pgC p15), int 92, int 0]) := by kernel_rfl
def out15 : List (List PV × PV) := [([str src15], .tup [.agg (pgC p15), int 92, int 0])]
theorem parse15_fun (h0 : ∀ f h, libL f = some h → FunOk Tryz.prog T f h) : FunOk Tryz.prog T 14 (atH out15) := atH_fun (grd_X h0).handEV (fun x hx => by
  simp only [out15, List.mem_cons, List.not_mem_nil, or_false] at hx
  subst hx
  exact call_seen rfl rfl parse15)
noncomputable def libAp : Lib := look [(14, atH out15), (25, checkH)] libB
theorem grd_Ap (h0 : ∀ f h, libL f = some h → FunOk Tryz.prog T f h) : Grd Tryz.prog libAp T := look_grd (grd_B h0) (fun x hx => by
  simp only [List.mem_cons, List.not_mem_nil, or_false] at hx
  rcases hx with rfl | rfl
  · exact ⟨parse15_fun h0, .inl fun _ _ _ _ => atH_still⟩
  · exact ⟨check_B h0, .inl fun _ _ _ _ => checkH_still⟩)
theorem few_15 : Few p15 := ⟨of_decide_eq_true (by kernel_rfl), of_decide_eq_true (by kernel_rfl), by simp [okG, p15, okTs, okT, okXs, okX]⟩
def q15 : Pg := ⟨[], [⟨(⟨#[120]⟩ : ByteArray), (⟨#[105, 110, 116]⟩ : ByteArray), 0⟩], [], m15⟩
theorem few_q15 : Few q15 := ⟨of_decide_eq_true (by kernel_rfl), of_decide_eq_true (by kernel_rfl), by simp [okG, q15, m15, okTs, okT, okXs, okX]⟩
set_option maxRecDepth 1000000 in
theorem check15 : (checkF p15).2.2 = 0 := by kernel_rfl
theorem goes15 : Goes p15 := by
  rcases check_cases p15 with ⟨_, h⟩ | ⟨h, _⟩
  · exact goes_of h
  · exact absurd check15 h
set_option maxRecDepth 1000000 in
theorem inlE15 : inlE p15 = 0 := by kernel_rfl
set_option maxRecDepth 1000000 in
theorem flat15 : flatD p15 (sizesF p15) 6 p15.main = some m15 := by kernel_rfl
set_option maxRecDepth 1000000 in
theorem many15 : inManyF p15 = 5 := by kernel_rfl
set_option maxRecDepth 1000000 in
theorem order15 : orderO p15 = [(⟨#[114]⟩ : ByteArray), (⟨#[113]⟩ : ByteArray)] := by kernel_rfl
theorem print15 : strOf (printB q15) = txt15 := by kernel_rfl
theorem calls15 : callsL p15.main = [(⟨#[113]⟩ : ByteArray), (⟨#[114]⟩ : ByteArray)] := by kernel_rfl
set_option maxHeartbeats 1000000 in
theorem alive15_ok : ∀ σ, callE (EV Tryz.prog libAp) 37 [] σ = some (boo true, σ) := by
  intro σ
  have hl : Free libAp [37] := free_of (by kernel_rfl)
  have h1 := call_told (L := libAp) (f := 14) (args := [str src15]) (r := .tup [.agg (pgC p15), int 92, int 0]) rfl rfl rfl rfl rfl (atH_at (fun x hx hxa => by
    simp only [out15, List.mem_cons, List.not_mem_nil, or_false] at hx
    subst hx
    rfl) ⟨_, List.mem_cons_self .., rfl⟩)
  have h2 := Inline_ok (L := libAp) (free_of (by kernel_rfl)) rfl rfl p15 few_15.ck (fun _ => goes15) 6 m15 (fun _ => flat15)
  have h3 := Order_ok (L := libAp) (free_of (by kernel_rfl)) rfl rfl p15 few_15.ck (fun _ => goes15)
  have h4 := calls15_ok (L := libAp) (free_of (by kernel_rfl)) rfl 300000 p15.main (of_decide_eq_true (by kernel_rfl)) (by omega)
  have h5 := Print_ok (L := libAp) (free_of (by kernel_rfl)) ⟨rfl, rfl, rfl, rfl, rfl⟩ q15 few_q15.ck.pr
  have h6 := Many_ok (L := libAp) (free_of (by kernel_rfl)) rfl rfl p15 few_15.ck (fun _ => goes15)
  have e2 : inlP p15 m15 = q15 := by unfold inlP; rw [if_pos inlE15]; rfl
  rw [e2, inlE15] at h2
  rw [order15] at h3
  rw [calls15] at h4
  rw [print15] at h5
  rw [many15] at h6
  have h1 : ∀ σ, callE (EV Tryz.prog libAp) 14 [str (⟨#[118, 97, 114, 32, 120, 58, 32, 105, 110, 116, 59, 32, 112, 114, 111, 99, 32, 113, 32, 123, 32, 99, 97, 108, 108, 32, 114, 59, 32, 125, 32, 112, 114, 111, 99, 32, 114, 32, 123, 32, 120, 32, 61, 32, 49, 59, 32, 115, 107, 105, 112, 59, 32, 125, 32, 109, 97, 105, 110, 32, 123, 32, 99, 97, 108, 108, 32, 113, 59, 32, 105, 102, 32, 120, 32, 60, 32, 50, 32, 123, 32, 99, 97, 108, 108, 32, 114, 59, 32, 125, 32, 125]⟩ : ByteArray)] σ = some (.tup [.agg (pgC p15), int 92, int 0], σ) := h1
  have h2 : ∀ σ, callE (EV Tryz.prog libAp) 41 [.agg (pgC p15)] σ = some (.tup [.agg [.sl (q15.enums.map enR) .unk, .sl (q15.vars.map vrR) .unk, .sl [] .unk, .sl (stRs q15.main) .unk], int 0], σ) := h2
  have h3 : ∀ σ, callE (EV Tryz.prog libAp) 38 [.agg (pgC p15)] σ = some (.sl [strR (⟨#[114]⟩ : ByteArray), strR (⟨#[113]⟩ : ByteArray)] .unk, σ) := h3
  have h4 : ∀ σ, callE (EV Tryz.prog libAp) 40 [.sl (stRs p15.main) .unk] σ = some (.sl [strR (⟨#[113]⟩ : ByteArray), strR (⟨#[114]⟩ : ByteArray)] .unk, σ) := by rw [stRs_map]; exact h4
  have h5 : ∀ σ, callE (EV Tryz.prog libAp) 35 [.agg [.sl (q15.enums.map enR) .unk, .sl (q15.vars.map vrR) .unk, .sl [] .unk, .sl (stRs q15.main) .unk]] σ = some (str (⟨#[118, 97, 114, 32, 120, 58, 32, 105, 110, 116, 59, 10, 109, 97, 105, 110, 32, 123, 10, 32, 32, 120, 32, 61, 32, 49, 59, 10, 32, 32, 115, 107, 105, 112, 59, 10, 32, 32, 105, 102, 32, 120, 32, 60, 32, 50, 32, 123, 10, 32, 32, 32, 32, 120, 32, 61, 32, 49, 59, 10, 32, 32, 32, 32, 115, 107, 105, 112, 59, 10, 32, 32, 125, 10, 125, 10]⟩ : ByteArray), σ) := h5
  have h6 : ∀ σ, callE (EV Tryz.prog libAp) 42 [.agg (pgC p15)] σ = some (int 5, σ) := h6
  have i0 : idx 1 [strR (⟨#[114]⟩ : ByteArray), strR (⟨#[113]⟩ : ByteArray)] (0 : Int) = some (.el (strR (⟨#[114]⟩ : ByteArray)) 0) := rfl
  have i1 : idx 1 [strR (⟨#[113]⟩ : ByteArray), strR (⟨#[114]⟩ : ByteArray)] (1 : Int) = some (.el (strR (⟨#[114]⟩ : ByteArray)) 0) := rfl
  clear e2
  simp only [strR] at i0 i1
  simp only [pgC] at h1 h2 h3 h6
  generalize q15.enums.map enR = b1 at *
  generalize q15.vars.map vrR = b2 at *
  generalize stRs q15.main = b4 at *
  generalize p15.enums.map enR = a1 at *
  generalize p15.vars.map vrR = a2 at *
  generalize p15.procs.map pcR = a3 at *
  generalize stRs p15.main = a4 at *
  refine call_fn (ids := []) (hl _ (by simp)) Tryz.func37 Tryz.ntmps37 Tryz.results37 (by simp) rfl rfl ⟨_, rfl, by kernel_rfl, ?_⟩
  simp (maxSteps := 1000000) (contextual := true) (implicitDefEqProofs := false) [-decide_eq_true_eq, -decide_eq_false_iff_not, -Bool.not_and, -Bool.not_or, -Bool.and_eq_false_imp, -Int.natCast_add, -setAt, -List.map_take, setAt_eq, h1, h2, h3, h4, h5, h6, i0, i1, strR]
end Go.Proofs.YtfgoedndpcblpaaGreatDoor.Pv
end
section
namespace Go.Proofs.YtfgoedndpcblpaaGreatDoor.Pv
open Go Go.Proofs Go.Proofs.YtfgoedndpcblpaaGreatDoor.Lx Go.Proofs.YtfgoedndpcblpaaGreatDoor.Ps
set_option linter.unusedSimpArgs false
set_option linter.unusedVariables false
def nmL (i : Nat) : ByteArray := ⟨#[112, UInt8.ofNat (97 + i)]⟩
def callT (i : Nat) : Ps.St := .mk (⟨#[99, 97, 108, 108]⟩ : ByteArray) (nmL i) [] [] [] 0
def skipT : Ps.St := .mk (⟨#[115, 107, 105, 112]⟩ : ByteArray) ⟨#[]⟩ [] [] [] 0
def pcL (many : Nat) : Nat → Pc
  | 0 => ⟨nmL 0, List.replicate many skipT⟩
  | i + 1 => ⟨nmL (i + 1), [callT i, callT i]⟩
def pL (n many : Nat) : Pg := ⟨[], [], (List.range n).map (pcL many), [callT (n - 1)]⟩
def okL (n many : Nat) : Bool := decide ((checkF (pL n many)).2.2 = 0) && decide (inManyF (pL n many) = min (many * 2 ^ (n - 1)) 401) && decide (bkG (pL n many) ≤ 1048576) && decide (pgN (pL n many) ≤ 300) && (if many * 2 ^ (n - 1) ≤ 400 then (match flatD (pL n many) (sizesF (pL n many)) 14 (pL n many).main with | some r => decide (r.length = many * 2 ^ (n - 1)) | none => false) else true)
set_option maxRecDepth 1000000 in
theorem okL_all : ((List.range 12).all fun a => (List.range 6).all fun b => okL (a + 1) (b + 1)) = true := by kernel_rfl
theorem okL_at {n many : Nat} (h1 : 1 ≤ n) (h2 : n ≤ 12) (h3 : 1 ≤ many) (h4 : many ≤ 6) : okL n many = true := by
  have := List.all_eq_true.1 (List.all_eq_true.1 okL_all (n - 1) (List.mem_range.2 (by omega))) (many - 1) (List.mem_range.2 (by omega))
  rwa [Nat.sub_add_cancel h1, Nat.sub_add_cancel h3] at this
theorem okT_call (i : Nat) : okT (callT i) := by simp [callT, okT, okTs, okXs]
theorem okTs_rep : ∀ many, okTs (List.replicate many skipT)
  | 0 => by simp [okTs]
  | m + 1 => by
    rw [List.replicate_succ, okTs]
    exact ⟨by simp [skipT, okT, okTs, okXs], okTs_rep m⟩
theorem okG_L (n many : Nat) : okG (pL n many) := by
  refine ⟨by simp [pL, okTs, okT_call], fun x hx => ?_, fun v hv => by cases hv⟩
  simp only [pL] at hx
  obtain ⟨i, _, rfl⟩ := List.mem_map.1 hx
  cases i with
  | zero => exact okTs_rep many
  | succ i => simp [pcL, okTs, okT_call]
theorem few_L {n many : Nat} (h1 : 1 ≤ n) (h2 : n ≤ 12) (h3 : 1 ≤ many) (h4 : many ≤ 6) : Few (pL n many) := by
  have h := okL_at h1 h2 h3 h4
  unfold okL at h
  simp only [Bool.and_eq_true, decide_eq_true_eq] at h
  exact ⟨h.1.1.2, h.1.2, okG_L n many⟩
end Go.Proofs.YtfgoedndpcblpaaGreatDoor.Pv
end
section
namespace Go.Proofs.YtfgoedndpcblpaaGreatDoor.Pv
open Go Go.Proofs Go.Proofs.YtfgoedndpcblpaaGreatDoor.Lx Go.Proofs.YtfgoedndpcblpaaGreatDoor.Ps
set_option linter.unusedSimpArgs false
set_option linter.unusedVariables false
variable {L : Lib} {σ : Sto} {T : Base}
noncomputable def libV : Lib := look [(25, checkH), (37, aliveH)] libB
theorem grd_V (h0 : ∀ f h, libL f = some h → FunOk Tryz.prog T f h) : Grd Tryz.prog libV T := look_grd (grd_B h0) (fun x hx => by
  simp only [List.mem_cons, List.not_mem_nil, or_false] at hx
  rcases hx with rfl | rfl
  · exact ⟨check_B h0, .inl fun _ _ _ _ => checkH_still⟩
  · refine ⟨told_fun (grd_Ap h0).handEV fun args σ r σ' he => ?_, .inl fun args σ r σ' he => ?_⟩
    · dsimp only at he; unfold aliveH at he
      split at he
      · cases he; exact alive15_ok σ
      · cases he
    · dsimp only at he; unfold aliveH at he; split at he <;> cases he; rfl)
end Go.Proofs.YtfgoedndpcblpaaGreatDoor.Pv
end
section
namespace Go.Proofs.YtfgoedndpcblpaaGreatDoor.Pv
open Go Go.Proofs Go.Proofs.YtfgoedndpcblpaaGreatDoor.Lx Go.Proofs.YtfgoedndpcblpaaGreatDoor.Ps
set_option linter.unusedSimpArgs false
set_option linter.unusedVariables false
variable {L : Lib} {σ : Sto} {T : Base}
theorem nm_wrap : ∀ i : Fin 13, IntKind.wrap .i64 (97 + (i.val : Int)) = 97 + i.val ∧ IntKind.wrap .i32 (97 + (i.val : Int)) = 97 + i.val ∧ ((⟨#[112]⟩ : ByteArray) ++ Utf8.encode (97 + (i.val : Int))) = nmL i.val ∧ ((⟨#[112]⟩ : ByteArray)).size + (Utf8.encode (97 + (i.val : Int))).size ≤ 9223372036854775807 := by decide +kernel
theorem nm_at {i : Nat} (h : i < 13) : IntKind.wrap .i64 (97 + (i : Int)) = 97 + i ∧ IntKind.wrap .i32 (97 + (i : Int)) = 97 + i ∧ ((⟨#[112]⟩ : ByteArray) ++ Utf8.encode (97 + (i : Int))) = nmL i ∧ ((⟨#[112]⟩ : ByteArray)).size + (Utf8.encode (97 + (i : Int))).size ≤ 9223372036854775807 := nm_wrap ⟨i, h⟩
theorem nm_add {i : Nat} (h : i < 13) (t : TypeId) : binE Tryz.prog t .add (str (⟨#[112]⟩ : ByteArray)) (str (Utf8.encode (97 + (i : Int)))) = some (str (nmL i)) := by
  rw [← (nm_at h).2.2.1]; exact bin_sadd (nm_at h).2.2.2
theorem nm_pre {i : Nat} (h0 : 0 < i) (h : i < 13) : IntKind.wrap .i64 (97 + (i : Int) - 1) = 97 + ((i - 1 : Nat) : Int) ∧ IntKind.wrap .i32 (97 + ((i - 1 : Nat) : Int)) = 97 + ((i - 1 : Nat) : Int) ∧ ∀ t, binE Tryz.prog t .add (str (⟨#[112]⟩ : ByteArray)) (str (Utf8.encode (97 + ((i - 1 : Nat) : Int)))) = some (str (nmL (i - 1))) := by
  refine ⟨?_, (nm_at (by omega)).2.1, nm_add (by omega)⟩
  rw [show (97 + (i : Int) - 1) = 97 + ((i - 1 : Nat) : Int) by omega]
  exact (nm_at (by omega)).1
def prL (M i : Nat) : List (List FV) := ((List.range i).map (pcL M)).map pcR
def skL (j : Nat) : List (List FV) := (List.replicate j skipT).map stR
theorem prL_len (M i : Nat) : (prL M i).length = i := by simp [prL]
theorem pcR_0 (M : Nat) : pcR (pcL M 0) = [.im (.string (nmL 0)), .sl (skL M)] := by
  show [FV.im (.string (nmL 0)), .sl (stRs (List.replicate M skipT))] = _
  rw [stRs_map]; rfl
theorem pcR_s (M : Nat) {i : Nat} (h : 0 < i) : pcR (pcL M i) = [.im (.string (nmL i)), .sl [[.im (.string (⟨#[99, 97, 108, 108]⟩ : ByteArray)), .im (.string (nmL (i - 1))), .sl [], .sl [], .sl [], .im (.int .i64 0)], [.im (.string (⟨#[99, 97, 108, 108]⟩ : ByteArray)), .im (.string (nmL (i - 1))), .sl [], .sl [], .sl [], .im (.int .i64 0)]]] := by
  cases i with
  | zero => omega
  | succ i => rfl
theorem prL_snoc {M i : Nat} {tag : Tag} {gr : List (Nat × Nat)} {row : List FV} (hr : pcR (pcL M i) = row) (ho : Own 2 gr (prL M i) tag) (hb : i ≤ 1000000) :
    ∃ tag' gr', (∀ bx, appL 2 40 ⟨bx, gr⟩ (prL M i) tag [row] = some (.sl (prL M (i + 1)) tag', ⟨bx, gr'⟩)) ∧ Own 2 gr' (prL M (i + 1)) tag' := by
  have e : prL M (i + 1) = prL M i ++ [row] := by rw [← hr]; simp [prL, List.range_succ]
  obtain ⟨tag', gr', h2, h3, _⟩ := app_own2 (b := 40) (xs := [row]) ho (sized_map pcR_len) (by rw [← hr]; exact sized_map (l := [pcL M i]) pcR_len) (by rw [prL_len]; simp; omega) (by simp)
  rw [← e] at h2 h3
  exact ⟨tag', gr', h2, h3⟩
theorem skL_snoc {j : Nat} {tag : Tag} {gr : List (Nat × Nat)} (ho : Own 6 gr (skL j) tag) (hb : j ≤ 1000000) :
    ∃ tag' gr', (∀ bx, appL 6 112 ⟨bx, gr⟩ (skL j) tag [[.im (.string (⟨#[115, 107, 105, 112]⟩ : ByteArray)), .im (.string ⟨#[]⟩), .sl [], .sl [], .sl [], .im (.int .i64 0)]] = some (.sl (skL (j + 1)) tag', ⟨bx, gr'⟩)) ∧ Own 6 gr' (skL (j + 1)) tag' ∧ ∀ m' rows' t', m' ≠ 6 → Own m' gr rows' t' → Own m' gr' rows' t' := by
  have e : skL (j + 1) = skL j ++ [stR skipT] := by simp [skL, List.replicate_succ']
  obtain ⟨tag', gr', h2, h3, h4⟩ := app_own2 (b := 112) (xs := [stR skipT]) ho (sized_map stR_len) (sized_map (l := [skipT]) stR_len) (by simp [skL]; omega) (by simp)
  rw [← e] at h2 h3
  exact ⟨tag', gr', h2, h3, h4⟩
set_option maxHeartbeats 4000000 in
theorem long_law_ok (n many : Int) : ∀ σ, callE (EV Tryz.prog libV) 11 [int n, int many] σ = some (boo true, σ) := by
  intro σ
  have hl : Free libV [11] := free_of (by kernel_rfl)
  have h2 := alive_told (L := libV) (f := 37) rfl
  by_cases hin : n < 1 ∨ 12 < n ∨ many < 1 ∨ 6 < many
  · by_cases a1 : n < 1
    · have d1 : decide (n < 1) = true := decide_eq_true a1
      refine call_fn (ids := []) (hl _ (by simp)) Tryz.func11 Tryz.ntmps11 Tryz.results11 (by simp) rfl rfl ⟨_, rfl, by kernel_rfl, ?_⟩
      simp (maxSteps := 1000000) (contextual := true) (implicitDefEqProofs := false) [-decide_eq_true_eq, -decide_eq_false_iff_not, -Bool.not_and, -Bool.not_or, -Bool.and_eq_false_imp, -Int.natCast_add, -setAt, -List.map_take, setAt_eq, h2, d1]
    · have d1 : decide (n < 1) = false := decide_eq_false a1
      by_cases a2 : 12 < n
      · have d2 : decide (12 < n) = true := decide_eq_true a2
        refine call_fn (ids := []) (hl _ (by simp)) Tryz.func11 Tryz.ntmps11 Tryz.results11 (by simp) rfl rfl ⟨_, rfl, by kernel_rfl, ?_⟩
        simp (maxSteps := 1000000) (contextual := true) (implicitDefEqProofs := false) [-decide_eq_true_eq, -decide_eq_false_iff_not, -Bool.not_and, -Bool.not_or, -Bool.and_eq_false_imp, -Int.natCast_add, -setAt, -List.map_take, setAt_eq, h2, d1, d2]
      · have d2 : decide (12 < n) = false := decide_eq_false a2
        by_cases a3 : many < 1
        · have d3 : decide (many < 1) = true := decide_eq_true a3
          refine call_fn (ids := []) (hl _ (by simp)) Tryz.func11 Tryz.ntmps11 Tryz.results11 (by simp) rfl rfl ⟨_, rfl, by kernel_rfl, ?_⟩
          simp (maxSteps := 1000000) (contextual := true) (implicitDefEqProofs := false) [-decide_eq_true_eq, -decide_eq_false_iff_not, -Bool.not_and, -Bool.not_or, -Bool.and_eq_false_imp, -Int.natCast_add, -setAt, -List.map_take, setAt_eq, h2, d1, d2, d3]
        · have d3 : decide (many < 1) = false := decide_eq_false a3
          have d4 : decide (6 < many) = true := decide_eq_true (by omega)
          refine call_fn (ids := []) (hl _ (by simp)) Tryz.func11 Tryz.ntmps11 Tryz.results11 (by simp) rfl rfl ⟨_, rfl, by kernel_rfl, ?_⟩
          simp (maxSteps := 1000000) (contextual := true) (implicitDefEqProofs := false) [-decide_eq_true_eq, -decide_eq_false_iff_not, -Bool.not_and, -Bool.not_or, -Bool.and_eq_false_imp, -Int.natCast_add, -setAt, -List.map_take, setAt_eq, h2, d1, d2, d3, d4]
  · have d1 : decide (n < 1) = false := decide_eq_false (by omega)
    have d2 : decide (12 < n) = false := decide_eq_false (by omega)
    have d3 : decide (many < 1) = false := decide_eq_false (by omega)
    have d4 : decide (6 < many) = false := decide_eq_false (by omega)
    obtain ⟨N, rfl⟩ : ∃ N : Nat, n = N := ⟨n.toNat, by omega⟩
    obtain ⟨M, rfl⟩ : ∃ M : Nat, many = M := ⟨many.toNat, by omega⟩
    have n1 : 1 ≤ N := by omega
    have n2 : N ≤ 12 := by omega
    have m1 : 1 ≤ M := by omega
    have m2 : M ≤ 6 := by omega
    refine call_fn (ids := []) (hl _ (by simp)) Tryz.func11 Tryz.ntmps11 Tryz.results11 (by simp) rfl rfl ⟨_, rfl, by kernel_rfl, ?_⟩
    simp (maxSteps := 1000000) (contextual := true) (implicitDefEqProofs := false) [-decide_eq_true_eq, -decide_eq_false_iff_not, -Bool.not_and, -Bool.not_or, -Bool.and_eq_false_imp, -Int.natCast_add, -setAt, -List.map_take, setAt_eq, h2, d1, d2, d3, d4]
    refine WP.loop (fun m s' => ∃ (i : Nat) (tag : Tag) (gr : List (Nat × Nat)) (junk : List Bx), i ≤ N ∧ m = N - i ∧ s'.sto = ⟨.cells [.sl [] .full, .sl [] .full, .sl (prL M i) tag, .sl [] .full] :: junk, gr⟩ ∧ Own 2 gr (prL M i) tag ∧ s'.env 0 = int N ∧ s'.env 1 = int M ∧ s'.env 5 = .ptr 0 0 ∧ s'.env 27 = int N ∧ s'.env 28 = int i) N ⟨0, .full, [], [], by omega, rfl, by simp [prL], .nil, by simp, by simp, by simp, by simp, by simp⟩ ?_
    rintro m ⟨env, τ⟩ ⟨i, tag, gr, junk, hiN, rfl, j1, ho, j2, j3, j4, j5, j6⟩
    simp only at j1 j2 j3 j4 j5 j6
    subst j1
    by_cases hlt : i < N
    · have hd : decide (i < N) = true := decide_eq_true hlt
      have hw : IntKind.wrap .i64 ((i : Int) + 1) = ((i + 1 : Nat) : Int) := wrap_succ (by omega)
      obtain ⟨w1, w2, _⟩ := nm_at (i := i) (by omega)
      have w3 := fun t => nm_add (i := i) (by omega) t
      simp (maxSteps := 1000000) (contextual := true) (implicitDefEqProofs := false) [-decide_eq_true_eq, -decide_eq_false_iff_not, -Bool.not_and, -Bool.not_or, -Bool.and_eq_false_imp, -Int.natCast_add, -setAt, -List.map_take, setAt_eq, j2, j3, j4, j5, j6, hd, w1, w2, w3]
      rcases Nat.eq_zero_or_pos i with hi0 | hi0
      · subst hi0
        refine WP.loop (fun m s' => ∃ (j : Nat) (tag7 : Tag) (gr : List (Nat × Nat)), j ≤ M ∧ m = M - j ∧ s'.sto = ⟨.cells [.sl [] .full, .sl [] .full, .sl (prL M 0) tag, .sl [] .full] :: (junk ++ [.cells [str (nmL 0), .sl (skL j) tag7]]), gr⟩ ∧ Own 2 gr (prL M 0) tag ∧ Own 6 gr (skL j) tag7 ∧ s'.env 0 = int N ∧ s'.env 1 = int M ∧ s'.env 5 = .ptr 0 0 ∧ s'.env 27 = int N ∧ s'.env 28 = int (0 : Nat) ∧ s'.env 6 = int (0 : Nat) ∧ s'.env 7 = .ptr (junk.length + 1) 0 ∧ s'.env 37 = int M ∧ s'.env 38 = int j) M ⟨0, .full, gr, by omega, rfl, by simp [skL], ho, .nil, by simp [j2], by simp [j3], by simp [j4], by simp [j5], by simp [j6], by simp, by simp, by simp, by simp⟩ ?_
        rintro m ⟨env2, τ2⟩ ⟨j, tag7, gr2, hjM, rfl, k1, ho1, ho7, k2, k3, k4, k5, k6, k7, k8, k9, k10⟩
        simp only at k1 k2 k3 k4 k5 k6 k7 k8 k9 k10
        subst k1
        by_cases hlj : j < M
        · have hdj : decide (j < M) = true := decide_eq_true hlj
          have hwj : IntKind.wrap .i64 ((j : Int) + 1) = ((j + 1 : Nat) : Int) := wrap_succ (by omega)
          obtain ⟨tag8, gr8, ha8, ho8, hk8⟩ := skL_snoc ho7 (by omega)
          simp (maxSteps := 1000000) (contextual := true) (implicitDefEqProofs := false) [-decide_eq_true_eq, -decide_eq_false_iff_not, -Bool.not_and, -Bool.not_or, -Bool.and_eq_false_imp, -Int.natCast_add, -setAt, -List.map_take, setAt_eq, k2, k3, k4, k5, k6, k7, k8, k9, k10, hdj, hwj, ha8]
          exact ⟨M - (j + 1), by omega, j + 1, by omega, rfl, tag8, gr8, ⟨⟨rfl, rfl⟩, rfl⟩, hk8 2 _ _ (by decide) ho1, ho8, rfl⟩
        · have hdj : decide (j < M) = false := decide_eq_false hlj
          obtain rfl : j = M := by omega
          obtain ⟨tag8, gr8, ha8, ho8⟩ := prL_snoc (pcR_0 j) ho1 (by omega)
          simp (maxSteps := 1000000) (contextual := true) (implicitDefEqProofs := false) [-decide_eq_true_eq, -decide_eq_false_iff_not, -Bool.not_and, -Bool.not_or, -Bool.and_eq_false_imp, -Int.natCast_add, -setAt, -List.map_take, setAt_eq, k2, k3, k4, k5, k6, k7, k8, k9, k10, hdj, ha8]
          exact ⟨N - 1, by omega, 1, by omega, rfl, tag8, gr8, ⟨⟨rfl, rfl⟩, rfl⟩, ho8, rfl⟩
      · have hz : decide ((i : Int) = 0) = false := decide_eq_false (by omega)
        have hz' : decide (i = 0) = false := decide_eq_false (by omega)
        have hp : decide (0 < i) = true := decide_eq_true hi0
        obtain ⟨w4, w5, w6⟩ := nm_pre hi0 (by omega)
        refine WP.loop (fun m s' => ∃ (j : Nat), j ≤ M ∧ m = M - j ∧ s'.sto = ⟨.cells [.sl [] .full, .sl [] .full, .sl (prL M i) tag, .sl [] .full] :: (junk ++ [.cells [str (nmL i), .sl [] .full]]), gr⟩ ∧ s'.env 0 = int N ∧ s'.env 1 = int M ∧ s'.env 5 = .ptr 0 0 ∧ s'.env 27 = int N ∧ s'.env 28 = int i ∧ s'.env 6 = int i ∧ s'.env 7 = .ptr (junk.length + 1) 0 ∧ s'.env 37 = int M ∧ s'.env 38 = int j) M ⟨0, by omega, rfl, by simp, by simp [j2], by simp [j3], by simp [j4], by simp [j5], by simp [j6], by simp, by simp, by simp, by simp⟩ ?_
        rintro m ⟨env2, τ2⟩ ⟨j, hjM, rfl, k1, k2, k3, k4, k5, k6, k7, k8, k9, k10⟩
        simp only at k1 k2 k3 k4 k5 k6 k7 k8 k9 k10
        subst k1
        by_cases hlj : j < M
        · have hdj : decide (j < M) = true := decide_eq_true hlj
          have hwj : IntKind.wrap .i64 ((j : Int) + 1) = ((j + 1 : Nat) : Int) := wrap_succ (by omega)
          simp (maxSteps := 1000000) (contextual := true) (implicitDefEqProofs := false) [-decide_eq_true_eq, -decide_eq_false_iff_not, -Bool.not_and, -Bool.not_or, -Bool.and_eq_false_imp, -Int.natCast_add, -setAt, -List.map_take, setAt_eq, k2, k3, k4, k5, k6, k7, k8, k9, k10, hdj, hwj, hz, hz']
          exact ⟨M - (j + 1), by omega, j + 1, by omega, rfl, rfl⟩
        · have hdj : decide (j < M) = false := decide_eq_false hlj
          obtain rfl : j = M := by omega
          obtain ⟨tag8, gr8, ha8, ho8⟩ := prL_snoc (pcR_s j hi0) ho (by omega)
          simp (maxSteps := 1000000) (contextual := true) (implicitDefEqProofs := false) [-decide_eq_true_eq, -decide_eq_false_iff_not, -Bool.not_and, -Bool.not_or, -Bool.and_eq_false_imp, -Int.natCast_add, -setAt, -List.map_take, setAt_eq, k2, k3, k4, k5, k6, k7, k8, k9, k10, hdj, hw, hp, w1, w4, w5, w6, ha8]
          exact ⟨N - (i + 1), by omega, i + 1, by omega, rfl, tag8, gr8, ⟨⟨rfl, rfl⟩, rfl⟩, ho8, rfl⟩
    · have hd : decide (i < N) = false := decide_eq_false hlt
      obtain rfl : i = N := by omega
      obtain ⟨w1, _, _⟩ := nm_at (i := i) (by omega)
      obtain ⟨w4, w5, w6⟩ := nm_pre (i := i) (by omega) (by omega)
      have w7 : IntKind.wrap .i64 ((i : Int) - 1) = ((i - 1 : Nat) : Int) := by rw [show ((i : Int) - 1) = ((i - 1 : Nat) : Int) by omega]; exact wrap_nat (by omega)
      have hpow : 2 ^ (i - 1) ≤ 2048 := Nat.pow_le_pow_right (n := 2) (by omega) (show i - 1 ≤ 11 by omega)
      have hW : M * 2 ^ (i - 1) ≤ 12288 := Nat.mul_le_mul m2 hpow
      have hsh : ∀ t, binE Tryz.prog t .shl (int (M : Nat)) (int ((i - 1 : Nat) : Int)) = some (int ((M * 2 ^ (i - 1) : Nat) : Int)) := fun t => by
        rw [bin_shl (by omega)]
        have e1 : min ((i - 1 : Nat) : Int).toNat IntKind.i64.bits = i - 1 := by
          rw [Int.toNat_natCast, show IntKind.i64.bits = 64 from rfl]; omega
        rw [e1, show ((M : Int) * 2 ^ (i - 1)) = ((M * 2 ^ (i - 1) : Nat) : Int) by push_cast; rfl]
        rw [wrap_nat (by omega)]
      have hk := okL_at n1 n2 m1 m2
      unfold okL at hk
      simp only [Bool.and_eq_true, decide_eq_true_eq] at hk
      obtain ⟨⟨⟨⟨c1, c2⟩, _⟩, _⟩, c3⟩ := hk
      have hck := (few_L n1 n2 m1 m2).ck
      have hgo : Goes (pL i M) := by
        rcases check_cases (pL i M) with ⟨_, h⟩ | ⟨h, _⟩
        · exact goes_of h
        · exact absurd c1 h
      have hpg : eraL [.agg [.sl [] .full, .sl [] .full, .sl (prL M i) tag, .sl [[.im (.string (⟨#[99, 97, 108, 108]⟩ : ByteArray)), .im (.string (nmL (i - 1))), .sl [], .sl [], .sl [], .im (.int .i64 0)]] .full]] = [.agg (pgC (pL i M))] := rfl
      have hM0 := Many_ok (L := libV) (free_of (by kernel_rfl)) rfl rfl (pL i M) hck (fun _ => hgo)
      have hM : ∀ σ, callE (EV Tryz.prog libV) 42 [.agg [.sl [] .full, .sl [] .full, .sl (prL M i) tag, .sl [[.im (.string (⟨#[99, 97, 108, 108]⟩ : ByteArray)), .im (.string (nmL (i - 1))), .sl [], .sl [], .sl [], .im (.int .i64 0)]] .full]] σ = some (int (inManyF (pL i M) : Nat), σ) := fun σ => (callE_era rfl).trans (by rw [hpg]; exact hM0 σ)
      rw [c2] at hM
      by_cases hbig : M * 2 ^ (i - 1) ≤ 400
      · rw [if_pos hbig] at c3
        rw [Nat.min_eq_left (by omega)] at hM c2
        cases hr : flatD (pL i M) (sizesF (pL i M)) 14 (pL i M).main with
        | none => rw [hr] at c3; cases c3
        | some r =>
          rw [hr] at c3
          have hrl : r.length = M * 2 ^ (i - 1) := of_decide_eq_true c3
          have he : inlE (pL i M) = 0 := by unfold inlE; rw [if_pos c1, c2, if_pos hbig]
          have hI0 := Inline_ok (L := libV) (free_of (by kernel_rfl)) rfl rfl (pL i M) hck (fun _ => hgo) 14 r (fun _ => hr)
          have hI : ∀ σ, callE (EV Tryz.prog libV) 41 [.agg [.sl [] .full, .sl [] .full, .sl (prL M i) tag, .sl [[.im (.string (⟨#[99, 97, 108, 108]⟩ : ByteArray)), .im (.string (nmL (i - 1))), .sl [], .sl [], .sl [], .im (.int .i64 0)]] .full]] σ = some (.tup [.agg (pgC (inlP (pL i M) r)), int (inlE (pL i M))], σ) := fun σ => (callE_era rfl).trans (by rw [hpg]; exact hI0 σ)
          rw [he, show inlP (pL i M) r = ⟨[], [], [], r⟩ by unfold inlP; rw [if_pos he]; rfl] at hI
          simp only [pgC, stRs_map, List.map_nil] at hI
          have hq : decide (400 < M * 2 ^ (i - 1)) = false := decide_eq_false (by omega)
          have hrl' : (r.length : Int) = ((M * 2 ^ (i - 1) : Nat) : Int) := by rw [hrl]
          generalize M * 2 ^ (i - 1) = W at *
          simp (maxSteps := 1000000) (contextual := true) (implicitDefEqProofs := false) [-decide_eq_true_eq, -decide_eq_false_iff_not, -Bool.not_and, -Bool.not_or, -Bool.and_eq_false_imp, -Int.natCast_add, -setAt, -List.map_take, setAt_eq, h2, j2, j3, j4, j5, j6, hd, w1, w4, w5, w6, w7, hsh, hM, hI, hq, hrl, hrl']
          exact decide_eq_false (by omega)
      · rw [Nat.min_eq_right (by omega)] at hM c2
        have he : inlE (pL i M) = 150 := by unfold inlE; rw [if_pos c1, c2]; rfl
        have hI0 := Inline_ok (L := libV) (free_of (by kernel_rfl)) rfl rfl (pL i M) hck (fun _ => hgo) 14 [] (fun h => by rw [he] at h; cases h)
        have hI : ∀ σ, callE (EV Tryz.prog libV) 41 [.agg [.sl [] .full, .sl [] .full, .sl (prL M i) tag, .sl [[.im (.string (⟨#[99, 97, 108, 108]⟩ : ByteArray)), .im (.string (nmL (i - 1))), .sl [], .sl [], .sl [], .im (.int .i64 0)]] .full]] σ = some (.tup [.agg (pgC (inlP (pL i M) [])), int (inlE (pL i M))], σ) := fun σ => (callE_era rfl).trans (by rw [hpg]; exact hI0 σ)
        rw [he, show inlP (pL i M) [] = ⟨[], [], [], []⟩ by unfold inlP; rw [if_neg (by rw [he]; decide)]] at hI
        simp only [pgC, stRs_map, List.map_nil] at hI
        have hq : decide (400 < M * 2 ^ (i - 1)) = true := decide_eq_true (by omega)
        generalize M * 2 ^ (i - 1) = W at *
        simp (maxSteps := 1000000) (contextual := true) (implicitDefEqProofs := false) [-decide_eq_true_eq, -decide_eq_false_iff_not, -Bool.not_and, -Bool.not_or, -Bool.and_eq_false_imp, -Int.natCast_add, -setAt, -List.map_take, setAt_eq, h2, j2, j3, j4, j5, j6, hd, w1, w4, w5, w6, w7, hsh, hM, hI, hq]
        exact decide_eq_true (by omega)
end Go.Proofs.YtfgoedndpcblpaaGreatDoor.Pv
end
section
namespace Go.Proofs.YtfgoedndpcblpaaGreatDoor.inlineLongUpto
open Go.ChangeShapes Go.WideShapes Go.ChangeAt Go.RowKit
open Go.ChangeMaps (open_string shut_string)
set_option linter.unusedVariables false
theorem reads (os : Os) {H : Type} (enc : TypeId × Value → H) : ∃ places, DataW.whole enc Tryz.prog ((laidWorld os).forCall (fun _ _ => 0) ⟨#[], #[.int .i64 0, .int .i64 0], []⟩).memory Tryz.f11.params.toList Rows.inlineLongSpec.vars false (#[.int .i64 0, .int .i64 0] : Array Value).toList 8 = some ([.lit (.int .i64 0), .lit (.int .i64 0)], [], places) :=
  ⟨[], by kernel_rfl⟩
set_option maxRecDepth 100000 in
theorem lifted (os : Os) (started : os.Started) (H : Type) (enc : TypeId × Value → H) (F : Stop.Interp) :
    ReturnsInHanded {} Tryz.checked os 11 .any ((Rows.OpenSpec.upto Rows.inlineLongSpec).preRow enc Tryz.prog Tryz.f11 Rows.inlineLongUptoRow.domain false Rows.inlineLongUptoRow.laid) (((Rows.OpenSpec.upto Rows.inlineLongSpec).at F).post enc Tryz.prog Tryz.f11 false true false false) := by
  obtain ⟨places, hx⟩ := reads os enc
  refine returnsInHanded_of_row (C := Tryz.checked) (s := (Rows.OpenSpec.upto Rows.inlineLongSpec)) own started (by kernel_rfl) Tryz.func11
    (witness_row_atRef (enc := enc) (C := Tryz.checked) false (laidWorld os) #[.int .i64 0, .int .i64 0] rfl (by kernel_rfl) (by kernel_rfl) (by kernel_rfl)
      (OpenSpec.preRow_of_cond 8 hx (by kernel_rfl) (fun k hk => by cases hk; kernel_rfl) (by kernel_rfl) (laid_met os _))) ?_
  intro W base args ds gs before hval0 hW _ hcond hsz0 hL _ _
  have hval : ∀ (j : Nat) t v, Tryz.f11.params[j]? = some t → args[j]? = some v → Value.okWide Tryz.prog W .any base t v := hval0
  have hW' := hW
  obtain ⟨p, q, hA0, hV, rfl, hfz, hnd⟩ := hW
  have hA : DataW.TrodAll enc Tryz.prog W 0 (fun _ => true) true Tryz.f11.params.toList args.toList ds p := hA0
  rw [Tryz.params11] at hA hval
  obtain ⟨v0, vs0, d0, ds0, p0, q0, hargs, rfl, rfl, h0, r0⟩ := trodAll_cons hA
  obtain ⟨v1, vs1, d1, ds1, p1, q1, rfl, rfl, rfl, h1, r1⟩ := trodAll_cons r0
  obtain ⟨rfl, rfl, rfl⟩ := trodAll_nil r1
  obtain rfl : args = #[v0, v1] := by cases args; simp_all
  obtain ⟨rfl, rfl⟩ := trodVars_none hV
  have lt0 : ∀ x ∈ p0, x.block < W.heap.size := by obtain ⟨m, hm⟩ := h0; exact DataW.trod_lt m _ _ _ hm
  have lt1 : ∀ x ∈ p1, x.block < W.heap.size := by obtain ⟨m, hm⟩ := h1; exact DataW.trod_lt m _ _ _ hm
  have hT : TabT W := tabs hL
  obtain ⟨I0, rfl, rfl, rfl, w0⟩ := open_int Tryz.underlying3 (hval 0 3 v0 rfl rfl) h0
  obtain ⟨I1, rfl, rfl, rfl, w1⟩ := open_int Tryz.underlying3 (hval 1 3 v1 rfl rfl) h1
  have hB : Rows.uptoBulkAll [.lit (.int .i64 I0), .lit (.int .i64 I1)] ≤ 1048576 := of_decide_eq_true (hcond _ rfl)
  simp only [Rows.uptoBulkAll] at hB
  refine (Pv.walk_mem hT.space hT.pow (args := [Pv.int I0, Pv.int I1]) (fun _ h => Pv.grd_V h) rfl (Pv.reps_two (.im _) (.im _)) (Pv.long_law_ok I0 I1 _)).mono fun e W' ⟨he, bel⟩ => ?_
  subst he
  exact ⟨_, rfl, _, _, _, [], _, [], hW', trodAll_mk1 (shut_bool Tryz.underlying4 _), (trodAll_cons_mk (shut_int Tryz.underlying3 w0) (trodAll_cons_mk (shut_int Tryz.underlying3 w1) trodAll_mk0)), rfl, bel.frame _, fun h => by cases h⟩
theorem said : Rows.InlineLongUptoSaid :=
  OpenClaim.holds_of_cond 11 Tryz.f11 rfl rfl rfl rfl rfl rfl rfl ⟨rfl, rfl, rfl, rfl, rfl⟩ rfl rfl rfl rfl rfl fnamed Tryz.func11 closed inst wrap
    (fun os started H enc _ F => by rw [OpenClaim.pre_eq_preRow]; exact lifted os started H enc F)
theorem plain (f : FuncId) (fn : Func) (hf : Tryz.pinned.checked.prog.funcNamed Rows.inlineLongUptoRow.func = some f) (hfn : Tryz.pinned.checked.prog.funcs[f]? = some fn) :
    false = Tryz.pinned.checked.prog.looks [] ∧ ∀ (j : Nat) t, fn.params[j]? = some t → Tryz.pinned.checked.prog.wantsStandIn t = false := by
  obtain rfl : f = 11 := Option.some.inj ((show Tryz.prog.funcNamed Rows.inlineLongUptoRow.func = some 11 by kernel_rfl).symm.trans hf) |>.symm
  obtain rfl : fn = Tryz.f11 := (Option.some.inj (Tryz.func11.symm.trans hfn)).symm
  refine ⟨by kernel_rfl, fun j t ht => ?_⟩
  rw [Tryz.params11] at ht
  have ht2 := Array.mem_of_getElem? ht
  have ht3 : t = 3 := by simpa using ht2
  obtain rfl := ht3
  exact (show Tryz.prog.wantsStandIn 3 = false by kernel_rfl)
end Go.Proofs.YtfgoedndpcblpaaGreatDoor.inlineLongUpto
namespace Go.Proofs.YtfgoedndpcblpaaGreatDoor
theorem inlineLongUpto_holds : Rows.InlineLongUptoCardSaid :=
  Claim7.holds_tied_plain_at .later [] _ _ _ _ inlineLongUpto.said (fun _ h => by cases h) (by kernel_rfl) (fun _ h => by cases h) inlineLongUpto_row_tie rfl ⟨rfl, rfl⟩ (by kernel_rfl) rfl inlineLongUpto.plain (by kernel_rfl)
#print axioms inlineLongUpto_holds
end Go.Proofs.YtfgoedndpcblpaaGreatDoor
end
