/- LexerRight: for every token, whether it may be is what the document says. No condition. -/
import Derived.Test.YtlcbdgkkkljfnaaDoorCLexerRight0
import Derived.Test.YtlcbdgkkkljfnaaDoorCLexerRight2
import Derived.Test.YtlcbdgkkkljfnaaDoorCLexerRight1
import Derived.Test.YtlcbdgkkkljfnaaDoorWWords
import Derived.Deep.Slices
import Derived.DataReads
import Derived.ChangeArms
import Derived.KernelRfl
import Derived.Test.YtlcbdgkkkljfnaaDoorCards
import Derived.Test.YtlcbdgkkkljfnaaDoorTie
import Derived.WalkKit
import Derived.ProofKit
import Derived.OpenShut
import Derived.ShutString
import Derived.ChangeOld
import Derived.Below
import Derived.SizedLaws
section
/- What the document's Lex comes to: the same. -/
namespace Go.Proofs.YtlcbdgkkkljfnaaDoor.P
open Go Go.RowKit Go.Proofs Go.Proofs.YtlcbdgkkkljfnaaDoor.Lx
open Go.Proofs.YtlcbdgkkkljfnaaDoorW.PrintWords

theorem ref_letter (n : Nat) : helmsmanref11_letter.f (n : Int) = some (letB n) := by
  unfold helmsmanref11_letter.f letB
  have z1 : ((n : Int) ≥ 97) ↔ 97 ≤ n := by omega
  have z2 : ((n : Int) ≤ 122) ↔ n ≤ 122 := by omega
  have z3 : ((n : Int) ≥ 65) ↔ 65 ≤ n := by omega
  have z4 : ((n : Int) ≤ 90) ↔ n ≤ 90 := by omega
  by_cases h1 : 97 ≤ n <;> by_cases h2 : n ≤ 122 <;> by_cases h3 : 65 ≤ n <;> by_cases h4 : n ≤ 90 <;> simp [z1, z2, z3, z4, h1, h2, h3, h4]
theorem ref_digit (n : Nat) : helmsmanref11_digit.f (n : Int) = some (digB n) := by
  unfold helmsmanref11_digit.f digB
  have z1 : ((n : Int) ≥ 48) ↔ 48 ≤ n := by omega
  have z2 : ((n : Int) ≤ 57) ↔ n ≤ 57 := by omega
  by_cases h1 : 48 ≤ n <;> by_cases h2 : n ≤ 57 <;> simp [z1, z2, h1, h2]

def okN : Option Int → Option Int
  | none => none
  | some v => if 1152921504606846976 < v then none else some v
theorem okN_big : ∀ (l : List UInt8) (m : Int), 1152921504606846976 < m → okN (numL m l) = none
  | [], m, h => by simp [numL, okN, h]
  | c :: l, m, h => by
    simp only [numL]
    rw [if_pos (by omega)]; rfl
theorem numF_ok (l : List UInt8) : numF l = match okN (numL 0 l) with | none => (0, 111) | some v => if 40 < l.length then (0, 111) else (v, 0) := by
  unfold numF
  cases h : numL 0 l with
  | none => rfl
  | some n =>
    simp only [okN]
    by_cases h1 : 1152921504606846976 < n
    · rw [if_pos (.inr h1), if_pos h1]
    · rw [if_neg h1]
      by_cases h2 : 40 < l.length
      · rw [if_pos (.inl h2)]; simp only; rw [if_pos h2]
      · rw [if_neg (by omega)]; simp only; rw [if_neg h2]
def numR (n : Nat) : Option Int → Int × Bool
  | none => (0, false)
  | some v => (v, decide ((n : Int) ≤ 40))
theorem number_loop (s : ByteArray) (hs : s.size ≤ 5000) (hdig : ∀ b ∈ s.data.toList, byB digB b = true) : ∀ (d i : Nat) (m : Int), i ≤ s.size → s.size = i + d → 0 ≤ m → m ≤ 1152921504606846976 →
    Ev (fun k => helmsmanref11_Number.l0 k s m (i : Int)) (numR s.size (okN (numL m (s.data.toList.drop i)))) := by
  intro d
  induction d with
  | zero =>
    intro i m h1 h2 h3 h4
    refine Ev.step (fun k => helmsmanref11_Number.l0.eq_2 _ _ _ k) ?_
    refine Ev.no (by omega) ?_
    have : s.data.toList.drop i = [] := List.drop_eq_nil_of_le (by rw [← size_list]; omega)
    rw [this]
    simp only [numL, okN]
    rw [if_neg (by omega)]
    exact Ev.now _
  | succ d ih =>
    intro i m h1 h2 h3 h4
    refine Ev.step (fun k => helmsmanref11_Number.l0.eq_2 _ _ _ k) ?_
    have hlt : i < s.size := by omega
    refine Ev.yes (by omega) ?_
    have hd := drop_cons s i hlt
    have hdg := hdig (s[i]'hlt) (by
      have : s[i]'hlt ∈ s.data.toList.drop i := by rw [hd]; exact List.mem_cons_self
      exact List.mem_of_mem_drop this)
    unfold byB digB at hdg
    simp only [Bool.and_eq_true, decide_eq_true_eq] at hdg
    rw [hd]
    simp only [numL]
    by_cases hb : m > 115292150460684697
    · rw [if_pos hb]
      exact Ev.yes hb (Ev.now _)
    · rw [if_neg hb]
      refine Ev.no hb (Ev.yes (by omega) ?_)
      have hbt := bt_list s i hlt
      have hw : wrap64 (wrap64 (wrap64 (m * 10) - 48) + wrap64 (bt s (i : Int))) = 10 * m + (((s[i]'hlt).toNat : Int) - 48) := by
        rw [hbt]; unfold wrap64; omega
      rw [hw]
      by_cases hc : 10 * m + (((s[i]'hlt).toNat : Int) - 48) > 1152921504606846976
      · rw [okN_big _ _ hc]
        exact Ev.yes hc (Ev.now _)
      · refine Ev.no hc ?_
        rw [wrap64_small (by omega) (by omega)]
        have := ih (i + 1) (10 * m + (((s[i]'hlt).toNat : Int) - 48)) (by omega) (by omega) (by omega) (by omega)
        exact this
theorem number_ev (s : ByteArray) (hs : s.size ≤ 5000) (hdig : ∀ b ∈ s.data.toList, byB digB b = true) :
    Ev (fun k => helmsmanref11_Number.f k s) (numR s.size (okN (numL 0 s.data.toList))) := by
  unfold helmsmanref11_Number.f
  have := number_loop s hs hdig s.size 0 0 (by omega) (by omega) (by omega) (by omega)
  exact this

theorem one_loop (c : Nat) (s : ByteArray) (hs : s.size ≤ 5000) : ∀ (d i : Nat), i ≤ s.size → s.size = i + d →
    Ev (fun k => helmsmanref11_one.l0 k (c : Int) s (i : Int)) ((s.data.toList.drop i).any fun b => b.toNat == c) := by
  intro d
  induction d with
  | zero =>
    intro i h1 h2
    refine Ev.step (fun k => helmsmanref11_one.l0.eq_2 _ _ _ k) ?_
    refine Ev.no (by omega) ?_
    have : s.data.toList.drop i = [] := List.drop_eq_nil_of_le (by rw [← size_list]; omega)
    rw [this]
    exact Ev.now _
  | succ d ih =>
    intro i h1 h2
    refine Ev.step (fun k => helmsmanref11_one.l0.eq_2 _ _ _ k) ?_
    have hlt : i < s.size := by omega
    refine Ev.yes (by omega) (Ev.yes (by omega) ?_)
    rw [drop_cons s i hlt, bt_list s i hlt, List.any_cons]
    by_cases hc : (s[i]'hlt).toNat = c
    · rw [show ((s[i]'hlt).toNat == c) = true by simpa using hc, Bool.true_or]
      exact Ev.yes (by omega) (Ev.now _)
    · rw [show ((s[i]'hlt).toNat == c) = false by simpa using hc, Bool.false_or]
      refine Ev.no (by omega) ?_
      rw [wrap64_small (by omega) (by omega)]
      exact ih (i + 1) (by omega) (by omega)
theorem nat_beq (a c : UInt8) : (a.toNat == c.toNat) = (a == c) := by
  by_cases h : a = c
  · rw [h, beq_self_eq_true, beq_self_eq_true]
  · have h2 : a.toNat ≠ c.toNat := fun e => h (UInt8.toNat_inj.mp e)
    rw [beq_eq_false_iff_ne.mpr h2, beq_eq_false_iff_ne.mpr h]
theorem any_ones (c : UInt8) (l : List UInt8) : (l.any fun b => b.toNat == c.toNat) = l.contains c := by
  induction l with
  | nil => rfl
  | cons a l ih => rw [List.any_cons, List.contains_cons, ih, nat_beq, Bool.beq_comm]
theorem one_ev (c : UInt8) : Ev (fun k => helmsmanref11_one.f k (c.toNat : Int)) (oneB c) := by
  unfold helmsmanref11_one.f
  have := one_loop c.toNat ⟨#[123, 125, 40, 41, 91, 93, 59, 58, 44, 61, 60, 62, 43, 45, 42, 47, 33]⟩ (by decide) 17 0 (by decide) (by decide)
  rw [List.drop_zero, any_ones] at this
  exact this
theorem two_eq (a b : UInt8) : helmsmanref11_two.f (strOf [a, b]) = some (twoB a b) := by
  unfold helmsmanref11_two.f
  rw [toList_data, strOf_list]
  unfold twoB
  by_cases h1 : b = 61
  · subst h1
    by_cases h2 : a = 61
    · subst h2; rfl
    · by_cases h3 : a = 33
      · subst h3; rfl
      · by_cases h4 : a = 60
        · subst h4; rfl
        · by_cases h5 : a = 62
          · subst h5; rfl
          · simp [h2, h3, h4, h5]
  · by_cases h2 : b = 38
    · subst h2
      by_cases h3 : a = 38
      · subst h3; rfl
      · simp [h3]
    · simp [h1, h2]
end Go.Proofs.YtlcbdgkkkljfnaaDoor.P
end

section
/- The document's Lex, place by place. -/
namespace Go.Proofs.YtlcbdgkkkljfnaaDoor.P
open Go Go.RowKit Go.Proofs Go.Proofs.YtlcbdgkkkljfnaaDoor.Lx
open Go.Proofs.YtlcbdgkkkljfnaaDoorW.PrintWords

abbrev Out := List S31 × Int × Int
theorem drop_end (s : ByteArray) (i : Nat) (h : ¬ i < s.size) : s.data.toList.drop i = [] := List.drop_eq_nil_of_le (by rw [← size_list]; omega)

/-- A remark. -/
theorem ref_l1 (s : ByteArray) (hs : s.size ≤ 5000) (pre : List S31) (R : Out) : ∀ (d j : Nat), j ≤ s.size → s.size = j + d →
    Ev (fun k => helmsmanref11_Lex.l0 k s pre ((j + wh (byB noNl) (s.data.toList.drop j) : Nat) : Int)) R → Ev (fun k => helmsmanref11_Lex.l1 k s pre (j : Int)) R := by
  intro d
  induction d with
  | zero =>
    intro j h1 h2 h
    refine Ev.step (fun k => helmsmanref11_Lex.l1.eq_2 _ _ _ k) ?_
    refine Ev.no (by omega) ?_
    rw [drop_end s j (by omega), wh_nil] at h
    exact h
  | succ d ih =>
    intro j h1 h2 h
    have hlt : j < s.size := by omega
    refine Ev.step (fun k => helmsmanref11_Lex.l1.eq_2 _ _ _ k) ?_
    refine Ev.yes (by omega) (Ev.yes (by omega) ?_)
    rw [bt_list s j hlt]
    rw [drop_cons s j hlt, wh_cons] at h
    by_cases h10 : (s[j]'hlt).toNat = 10
    · rw [if_neg (by unfold byB noNl; simp [h10])] at h
      exact Ev.yes (by omega) h
    · rw [if_pos (by unfold byB noNl; simp [h10])] at h
      refine Ev.no (by omega) ?_
      rw [wrap64_small (by omega) (by omega)]
      have := ih (j + 1) (by omega) (by omega) (by rw [show j + 1 + wh (byB noNl) (s.data.toList.drop (j + 1)) = j + (1 + wh (byB noNl) (s.data.toList.drop (j + 1))) by omega]; exact h)
      exact this

def exit2 (k : Nat) (x0 : ByteArray) (x5 : List S31) (x6 x8 : Int) : Option Out :=
  if (wrap64 (x8 - x6)) > 16 then (some (([] : List (S31)), x6, 111)) else (if 0 ≤ x6 then (if x6 ≤ x8 then (if x8 ≤ (x0.size : Int) then (if x5.length < 3518437208883 then (helmsmanref11_Lex.l0 k x0 (x5 ++ [(⟨0, x0.extract (x6 : Int).toNat (x8 : Int).toNat, 0, x6⟩ : S31)]) x8) else (none)) else (none)) else (none)) else (none))
theorem ref_l2 (s : ByteArray) (hs : s.size ≤ 5000) (pre : List S31) (a : Int) (R : Out) : ∀ (d j : Nat), j ≤ s.size → s.size = j + d →
    Ev (fun k => exit2 k s pre a ((j + wh (byB innB) (s.data.toList.drop j) : Nat) : Int)) R → Ev (fun k => helmsmanref11_Lex.l2 k s pre a (j : Int)) R := by
  intro d
  induction d with
  | zero =>
    intro j h1 h2 h
    refine Ev.step (fun k => helmsmanref11_Lex.l2.eq_2 _ _ _ _ k) ?_
    refine Ev.no (by omega) ?_
    rw [drop_end s j (by omega), wh_nil] at h
    exact h
  | succ d ih =>
    intro j h1 h2 h
    have hlt : j < s.size := by omega
    refine Ev.step (fun k => helmsmanref11_Lex.l2.eq_2 _ _ _ _ k) ?_
    refine Ev.yes (by omega) (Ev.yes (by omega) ?_)
    rw [bt_list s j hlt]
    rw [drop_cons s j hlt, wh_cons] at h
    have step : byB innB (s[j]'hlt) = true → Ev (fun k => helmsmanref11_Lex.l2 k s pre a (wrap64 ((j : Int) + 1))) R := fun hi => by
      rw [if_pos hi] at h
      rw [wrap64_small (by omega) (by omega)]
      have := ih (j + 1) (by omega) (by omega) (by rw [show j + 1 + wh (byB innB) (s.data.toList.drop (j + 1)) = j + (1 + wh (byB innB) (s.data.toList.drop (j + 1))) by omega]; exact h)
      exact this
    refine Ev.then (ref_letter _) ?_
    by_cases hl : letB (s[j]'hlt).toNat = true
    · refine Ev.yes hl (step (by unfold byB innB; simp [hl]))
    · refine Ev.no hl (Ev.then (ref_digit _) ?_)
      by_cases hd : digB (s[j]'hlt).toNat = true
      · refine Ev.yes hd (step (by unfold byB innB; simp [hd]))
      · refine Ev.no hd ?_
        by_cases h95 : (s[j]'hlt).toNat = 95
        · exact Ev.yes (by omega) (step (by unfold byB innB; simp [h95]))
        · refine Ev.no (by omega) ?_
          rw [if_neg (by unfold byB innB; simp [hl, hd, h95])] at h
          exact h

def exit3 (k : Nat) (x0 : ByteArray) (x5 : List S31) (x6 x8 : Int) : Option Out :=
  if 0 ≤ x6 then (if x6 ≤ x8 then (if x8 ≤ (x0.size : Int) then ((helmsmanref11_Number.f k (x0.extract (x6 : Int).toNat (x8 : Int).toNat)).bind fun bt133 => (if bt133.2 = true then (if x5.length < 3518437208883 then (helmsmanref11_Lex.l0 k x0 (x5 ++ [(⟨1, x0.extract (x6 : Int).toNat (x8 : Int).toNat, bt133.1, x6⟩ : S31)]) x8) else (none)) else (some (([] : List (S31)), x6, 111)))) else (none)) else (none)) else (none)
theorem ref_l3 (s : ByteArray) (hs : s.size ≤ 5000) (pre : List S31) (a : Int) (R : Out) : ∀ (d j : Nat), j ≤ s.size → s.size = j + d →
    Ev (fun k => exit3 k s pre a ((j + wh (byB digB) (s.data.toList.drop j) : Nat) : Int)) R → Ev (fun k => helmsmanref11_Lex.l3 k s pre a (j : Int)) R := by
  intro d
  induction d with
  | zero =>
    intro j h1 h2 h
    refine Ev.step (fun k => helmsmanref11_Lex.l3.eq_2 _ _ _ _ k) ?_
    refine Ev.no (by omega) ?_
    rw [drop_end s j (by omega), wh_nil] at h
    exact h
  | succ d ih =>
    intro j h1 h2 h
    have hlt : j < s.size := by omega
    refine Ev.step (fun k => helmsmanref11_Lex.l3.eq_2 _ _ _ _ k) ?_
    refine Ev.yes (by omega) (Ev.yes (by omega) ?_)
    rw [bt_list s j hlt]
    rw [drop_cons s j hlt, wh_cons] at h
    refine Ev.then (ref_digit _) ?_
    by_cases hd : digB (s[j]'hlt).toNat = true
    · refine Ev.yes hd ?_
      rw [if_pos (show byB digB (s[j]'hlt) = true from hd)] at h
      rw [wrap64_small (by omega) (by omega)]
      have := ih (j + 1) (by omega) (by omega) (by rw [show j + 1 + wh (byB digB) (s.data.toList.drop (j + 1)) = j + (1 + wh (byB digB) (s.data.toList.drop (j + 1))) by omega]; exact h)
      exact this
    · refine Ev.no hd ?_
      rw [if_neg (show ¬ byB digB (s[j]'hlt) = true from hd)] at h
      exact h
end Go.Proofs.YtlcbdgkkkljfnaaDoor.P
end

section
/- The document's Lex and the program's are the same. -/
namespace Go.Proofs.YtlcbdgkkkljfnaaDoor.P
open Go Go.RowKit Go.Proofs Go.Proofs.YtlcbdgkkkljfnaaDoor.Lx
open Go.Proofs.YtlcbdgkkkljfnaaDoorW.PrintWords

theorem lexS_tok (s : ByteArray) (a f : Nat) (h : a < s.size) {k n e : Int} {x : List UInt8} (ht : tokF (s.data.toList.drop a) = (k, x, n, e)) :
    lexS (f + 1) a (s.data.toList.drop a) = if e = 0 then (lexS f (a + x.length + skip false (s.data.toList.drop (a + x.length))) (s.data.toList.drop (a + x.length + skip false (s.data.toList.drop (a + x.length))))).cons (k, x, n, a) else .no a e := by
  have hd := drop_cons s a h
  have h1 : lexS (f + 1) a (s.data.toList.drop a) = if (tokF (s.data.toList.drop a)).2.2.2 = 0 then
          (lexS f (a + (tokF (s.data.toList.drop a)).2.1.length + skip false ((s.data.toList.drop a).drop (tokF (s.data.toList.drop a)).2.1.length)) (((s.data.toList.drop a).drop (tokF (s.data.toList.drop a)).2.1.length).drop (skip false ((s.data.toList.drop a).drop (tokF (s.data.toList.drop a)).2.1.length)))).cons ((tokF (s.data.toList.drop a)).1, (tokF (s.data.toList.drop a)).2.1, (tokF (s.data.toList.drop a)).2.2.1, a)
        else .no a (tokF (s.data.toList.drop a)).2.2.2 := by rw [hd]; rfl
  rw [h1, ht]
  simp only [List.drop_drop]
theorem out31_cons (n : Nat) (pre : List S31) (t : Tk) (r : LexR) : out31 n pre (r.cons t) = out31 n (pre ++ [tok31 t]) r := by
  cases r with
  | ok l => simp [out31, LexR.cons]
  | no b e => rfl
theorem extract_mid (s : ByteArray) (a w : Nat) : s.extract a (a + w) = strOf ((s.data.toList.drop a).take w) := by
  apply ByteArray.ext
  apply Array.toList_inj.mp
  rw [Lib.extract_data]
  simp [strOf]

/-- What the document's loop comes to at a place. -/
def At (s : ByteArray) (f a : Nat) (pre : List S31) : Out := out31 s.size pre (lexS f (a + skip false (s.data.toList.drop a)) (s.data.toList.drop (a + skip false (s.data.toList.drop a))))

theorem at_blank (s : ByteArray) (f a : Nat) (pre : List S31) (h : a < s.size) (hb : s[a].toNat = 32 ∨ s[a].toNat = 9 ∨ s[a].toNat = 10) : At s f a pre = At s f (a + 1) pre := by
  unfold At
  have : skip false (s.data.toList.drop a) = 1 + skip false (s.data.toList.drop (a + 1)) := by rw [drop_cons s a h]; simp only [skip]; rw [if_pos hb]
  rw [this, show a + (1 + skip false (s.data.toList.drop (a + 1))) = a + 1 + skip false (s.data.toList.drop (a + 1)) by omega]
theorem at_remark (s : ByteArray) (f a : Nat) (pre : List S31) (h : a < s.size) (hb : s[a].toNat = 35) : At s f a pre = At s f (a + wh (byB noNl) (s.data.toList.drop a)) pre := by
  have h1 : skip false (s.data.toList.drop a) = skip true (s.data.toList.drop a) := by
    rw [drop_cons s a h]; simp [skip, hb]
  have h2 := skip_true (s.data.toList.drop a)
  rw [List.drop_drop] at h2
  unfold At
  rw [h1, h2]
  simp only [Nat.add_assoc]
theorem at_tok (s : ByteArray) (f a : Nat) (pre : List S31) (h : a < s.size) (hb : ¬ (s[a].toNat = 32 ∨ s[a].toNat = 9 ∨ s[a].toNat = 10)) (h35 : s[a].toNat ≠ 35) {k n e : Int} {x : List UInt8} (ht : tokF (s.data.toList.drop a) = (k, x, n, e)) :
    At s (f + 1) a pre = if e = 0 then At s f (a + x.length) (pre ++ [⟨k, strOf x, n, a⟩]) else ([], a, e) := by
  have h1 : skip false (s.data.toList.drop a) = 0 := by rw [drop_cons s a h]; simp only [skip]; rw [if_neg hb, if_neg h35]
  unfold At
  rw [h1]
  simp only [Nat.add_zero]
  rw [lexS_tok s a f h ht]
  split
  · rw [out31_cons]; rfl
  · rfl
theorem at_end (s : ByteArray) (f a : Nat) (pre : List S31) (h : ¬ a < s.size) : At s f a pre = (pre, (s.size : Int), 0) := by
  unfold At
  rw [drop_end s a h, drop_end s _ (by omega)]
  cases f <;> simp [lexS, out31]

set_option maxHeartbeats 1000000 in
theorem ref_loop (s : ByteArray) (hs : s.size ≤ 4096) : ∀ (d a f : Nat) (pre : List S31), a ≤ s.size → s.size = a + d → s.size ≤ a + f → pre.length ≤ a →
    Ev (fun k => helmsmanref11_Lex.l0 k s pre (a : Int)) (At s f a pre) := by
  intro d
  induction d using Nat.strongRecOn with
  | _ d ih =>
  intro a f pre ha hd hf hp
  by_cases hlt : a < s.size
  · have IH : ∀ (a' f' : Nat) (pre' : List S31), a < a' → a' ≤ s.size → s.size ≤ a' + f' → pre'.length ≤ a' → Ev (fun k => helmsmanref11_Lex.l0 k s pre' (a' : Int)) (At s f' a' pre') :=
      fun a' f' pre' h1 h2 h3 h4 => ih (s.size - a') (by omega) a' f' pre' h2 (by omega) h3 h4
    refine Ev.step (fun k => helmsmanref11_Lex.l0.eq_2 _ _ _ k) ?_
    refine Ev.yes (by omega) (Ev.yes (by omega) ?_)
    rw [bt_list s a hlt, wrap64_small (show -9223372036854775808 ≤ (a : Int) + 1 by omega) (by omega)]
    have blank : ∀ b : Bool, b = true → (s[a].toNat = 32 ∨ s[a].toNat = 9 ∨ s[a].toNat = 10) → Ev (fun k => helmsmanref11_Lex.j1 k s pre (a : Int) (s[a].toNat : Int) ((a : Int) + 1) b) (At s f a pre) := by
      intro b hbt hbl
      refine Ev.step (fun k => helmsmanref11_Lex.j1.eq_2 _ _ _ _ _ _ k) ?_
      refine Ev.yes hbt ?_
      rw [at_blank s f a pre hlt hbl]
      exact IH (a + 1) f pre (by omega) (by omega) (by omega) (by omega)
    by_cases h32 : s[a].toNat = 32
    · exact Ev.yes (by omega) (blank true rfl (.inl h32))
    refine Ev.no (by omega) ?_
    by_cases h9 : s[a].toNat = 9
    · exact Ev.yes (by omega) (blank true rfl (.inr (.inl h9)))
    refine Ev.no (by omega) ?_
    by_cases h10 : s[a].toNat = 10
    · exact blank _ (by rw [h10]; rfl) (.inr (.inr h10))
    have hnb : ¬ (s[a].toNat = 32 ∨ s[a].toNat = 9 ∨ s[a].toNat = 10) := by omega
    refine Ev.step (fun k => helmsmanref11_Lex.j1.eq_2 _ _ _ _ _ _ k) ?_
    refine Ev.no (by simp; omega) ?_
    by_cases h35 : s[a].toNat = 35
    · refine Ev.yes (by omega) ?_
      refine ref_l1 s (by omega) pre _ (s.size - a) a ha (by omega) ?_
      have hpos : 1 ≤ wh (byB noNl) (s.data.toList.drop a) := by rw [drop_cons s a hlt, wh_cons, if_pos (by unfold byB noNl; simp [h35])]; omega
      have hle := wh_le (byB noNl) (s.data.toList.drop a)
      rw [List.length_drop, ← size_list] at hle
      rw [at_remark s f a pre hlt h35]
      exact IH _ f pre (by omega) (by omega) (by omega) (by omega)
    refine Ev.no (by omega) ?_
    obtain ⟨g, rfl⟩ : ∃ g, f = g + 1 := ⟨f - 1, by omega⟩
    have hdc := drop_cons s a hlt
    have hll : (s.data.toList.drop a).length = s.size - a := by rw [List.length_drop, ← size_list]
    refine Ev.then (ref_letter _) ?_
    have htok : tokF (s.data.toList.drop a) = 
      if letB s[a].toNat = true then (if 16 < wh (byB innB) (s.data.toList.drop a) then (0, [], 0, 111) else (0, (s.data.toList.drop a).take (wh (byB innB) (s.data.toList.drop a)), 0, 0))
      else if digB s[a].toNat = true then (1, (s.data.toList.drop a).take (wh (byB digB) (s.data.toList.drop a)), (numF ((s.data.toList.drop a).take (wh (byB digB) (s.data.toList.drop a)))).1, (numF ((s.data.toList.drop a).take (wh (byB digB) (s.data.toList.drop a)))).2)
      else if signF (s.data.toList.drop a) = [] then (0, [], 0, 110) else (2, signF (s.data.toList.drop a), 0, 0) := by rw [hdc]; rfl
    by_cases hl : letB s[a].toNat = true
    · refine Ev.yes hl ?_
      rw [if_pos hl] at htok
      have hw : wh (byB innB) (s.data.toList.drop a) = 1 + wh (byB innB) (s.data.toList.drop (a + 1)) := by rw [hdc, wh_cons, if_pos (by unfold byB innB; simp [hl])]
      have hle := wh_le (byB innB) (s.data.toList.drop a)
      have key := ref_l2 s (by omega) pre (a : Int) (At s (g + 1) a pre) (s.size - (a + 1)) (a + 1) (by omega) (by omega)
      rw [show a + 1 + wh (byB innB) (s.data.toList.drop (a + 1)) = a + wh (byB innB) (s.data.toList.drop a) by omega] at key
      refine key ?_
      clear key
      generalize hwd : wh (byB innB) (s.data.toList.drop a) = wd at *
      unfold exit2
      rw [wrap64_small (show -9223372036854775808 ≤ ((a + wd : Nat) : Int) - (a : Int) by omega) (by omega)]
      by_cases h16 : 16 < wd
      · rw [if_pos h16] at htok
        rw [at_tok s g a pre hlt hnb h35 htok]
        exact Ev.yes (by omega) (Ev.now _)
      · rw [if_neg h16] at htok
        rw [at_tok s g a pre hlt hnb h35 htok, if_pos rfl]
        refine Ev.no (by omega) (Ev.yes (by omega) (Ev.yes (by omega) (Ev.yes (by omega) (Ev.yes (by omega) ?_))))
        rw [Int.toNat_natCast, Int.toNat_natCast, extract_mid, List.length_take, Nat.min_eq_left (by omega)]
        exact IH (a + wd) g _ (by omega) (by omega) (by omega) (by simp; omega)
    refine Ev.no hl (Ev.then (ref_digit _) ?_)
    rw [if_neg hl] at htok
    by_cases hdg : digB s[a].toNat = true
    · refine Ev.yes hdg ?_
      rw [if_pos hdg] at htok
      have hw : wh (byB digB) (s.data.toList.drop a) = 1 + wh (byB digB) (s.data.toList.drop (a + 1)) := by rw [hdc, wh_cons, if_pos (show byB digB s[a] = true from hdg)]
      have hle := wh_le (byB digB) (s.data.toList.drop a)
      have key := ref_l3 s (by omega) pre (a : Int) (At s (g + 1) a pre) (s.size - (a + 1)) (a + 1) (by omega) (by omega)
      rw [show a + 1 + wh (byB digB) (s.data.toList.drop (a + 1)) = a + wh (byB digB) (s.data.toList.drop a) by omega] at key
      refine key ?_
      clear key
      have hall := take_wh (byB digB) (s.data.toList.drop a)
      have hnf := numF_ok ((s.data.toList.drop a).take (wh (byB digB) (s.data.toList.drop a)))
      generalize hwd : wh (byB digB) (s.data.toList.drop a) = wd at *
      have hlen : ((s.data.toList.drop a).take wd).length = wd := by rw [List.length_take, Nat.min_eq_left (by omega)]
      unfold exit3
      refine Ev.yes (by omega) (Ev.yes (by omega) (Ev.yes (by omega) ?_))
      rw [Int.toNat_natCast, Int.toNat_natCast, extract_mid]
      refine Ev.bind (number_ev _ (by rw [strOf_size]; omega) (by rw [strOf_list]; exact hall)) ?_
      rw [strOf_list, strOf_size, hlen]
      rw [hlen] at hnf
      cases hok : okN (numL 0 ((s.data.toList.drop a).take wd)) with
      | none =>
        rw [hok] at hnf
        simp only at hnf
        rw [hnf] at htok
        rw [at_tok s g a pre hlt hnb h35 htok]
        exact Ev.no (by simp [numR]) (Ev.now _)
      | some v =>
        rw [hok] at hnf
        simp only at hnf
        by_cases h40 : 40 < wd
        · rw [if_pos h40] at hnf
          rw [hnf] at htok
          rw [at_tok s g a pre hlt hnb h35 htok]
          exact Ev.no (by simp [numR]; omega) (Ev.now _)
        · rw [if_neg h40] at hnf
          rw [hnf] at htok
          rw [at_tok s g a pre hlt hnb h35 htok, if_pos rfl, hlen]
          refine Ev.yes (by simp [numR]; omega) (Ev.yes (by omega) ?_)
          exact IH (a + wd) g _ (by omega) (by omega) (by omega) (by simp; omega)
    refine Ev.no hdg ?_
    rw [if_neg hdg] at htok
    have hone : ∀ b : Bool, b = false → (signF (s.data.toList.drop a) = if oneB s[a] = true then [s[a]] else []) → Ev (fun k => helmsmanref11_Lex.j5 k s pre (a : Int) (s[a].toNat : Int) ((a : Int) + 1) b) (At s (g + 1) a pre) := by
      intro b hb hsg
      refine Ev.step (fun k => helmsmanref11_Lex.j5.eq_2 _ _ _ _ _ _ k) ?_
      refine Ev.no (by rw [hb]; simp) (Ev.bind (one_ev _) ?_)
      by_cases h1 : oneB s[a] = true
      · rw [if_pos h1] at hsg
        rw [hsg, if_neg (by simp)] at htok
        rw [at_tok s g a pre hlt hnb h35 htok, if_pos rfl]
        refine Ev.yes h1 (Ev.yes (by omega) (Ev.yes (by omega) (Ev.yes (by omega) (Ev.yes (by omega) ?_))))
        have he : s.extract (a : Int).toNat ((a : Int) + 1).toNat = strOf [s[a]] := by
          rw [show ((a : Int) + 1).toNat = a + 1 by omega, Int.toNat_natCast, extract_mid, hdc]; rfl
        rw [he]
        exact IH (a + 1) g _ (by omega) (by omega) (by omega) (by simp; omega)
      · rw [if_neg h1] at hsg
        rw [hsg, if_pos rfl] at htok
        rw [at_tok s g a pre hlt hnb h35 htok]
        exact Ev.no h1 (Ev.now _)
    have hw2 : wrap64 ((a : Int) + 2) = ((a + 2 : Nat) : Int) := by rw [wrap64_small (by omega) (by omega)]; omega
    rw [hw2]
    by_cases h2 : a + 2 ≤ s.size
    · refine Ev.yes (by omega) (Ev.yes (by omega) (Ev.yes (by omega) ?_))
      have hdc2 := drop_cons s (a + 1) (by omega)
      have he : s.extract a (a + 2) = strOf [s[a], s[a + 1]] := by rw [extract_mid, hdc, hdc2]; rfl
      rw [Int.toNat_natCast, Int.toNat_natCast, he]
      refine Ev.then (two_eq _ _) ?_
      have hsg : signF (s.data.toList.drop a) = if twoB s[a] s[a + 1] = true then [s[a], s[a + 1]] else if oneB s[a] = true then [s[a]] else [] := by rw [hdc, hdc2]; exact signF_two _ _ _
      by_cases ht : twoB s[a] s[a + 1] = true
      · rw [if_pos ht] at hsg
        rw [hsg, if_neg (by simp)] at htok
        rw [at_tok s g a pre hlt hnb h35 htok, if_pos rfl]
        refine Ev.step (fun k => helmsmanref11_Lex.j5.eq_2 _ _ _ _ _ _ k) ?_
        rw [hw2]
        refine Ev.yes ht (Ev.yes (by omega) (Ev.yes (by omega) (Ev.yes (by omega) (Ev.yes (by omega) ?_))))
        rw [Int.toNat_natCast, Int.toNat_natCast, he]
        exact IH (a + 2) g _ (by omega) (by omega) (by omega) (by simp; omega)
      · rw [if_neg ht] at hsg
        exact hone _ (by simpa using ht) hsg
    · refine Ev.no (by omega) (hone false rfl ?_)
      have : s.data.toList.drop (a + 1) = [] := drop_end s (a + 1) (by omega)
      rw [hdc, this]
      exact signF_one _
  · refine Ev.step (fun k => helmsmanref11_Lex.l0.eq_2 _ _ _ k) ?_
    refine Ev.no (by omega) ?_
    rw [at_end s f a pre hlt]
    exact Ev.now _
theorem ref_lex_ev (s : ByteArray) (hs : s.size ≤ 4096) : Ev (fun k => helmsmanref11_Lex.f k s) (out31 s.size [] (lexA s.data.toList)) := by
  unfold helmsmanref11_Lex.f
  refine Ev.no (by omega) ?_
  have := ref_loop s hs s.size 0 s.data.toList.length [] (by omega) (by omega) (by rw [← size_list]; omega) (Nat.zero_le _)
  unfold At at this
  rw [List.drop_zero, Nat.zero_add] at this
  exact this
theorem ref_lex_long (s : ByteArray) (hs : ¬ s.size ≤ 4096) : Ev (fun k => helmsmanref11_Lex.f k s) ([], 0, 111) := by
  unfold helmsmanref11_Lex.f
  refine Ev.yes (by omega) (Ev.now _)
end Go.Proofs.YtlcbdgkkkljfnaaDoor.P
end

section
/- The plain laws of the lexer. -/
namespace Go.Proofs.YtlcbdgkkkljfnaaDoor.P
open Go Go.RowKit Go.Proofs Go.Proofs.YtlcbdgkkkljfnaaDoor.Lx
open Go.Proofs.YtlcbdgkkkljfnaaDoorW.PrintWords

theorem alive_ev : Ev (fun k => helmsmanlaw11_alive.f k) true := Ev.of (fun k => helmsmanlaw11_alive.mono k) (k := 20) (by kernel_rfl)

theorem reads_loop (l : List Tk) (hl : l.length ≤ 5000) : ∀ (d i : Nat), i ≤ l.length → l.length = i + d →
    Ev (fun k => helmsmanlaw11_LexerReads.l0 k (l.map tok32) (l.map tok31) (l.length : Int) (i : Int)) true := by
  intro d
  induction d with
  | zero =>
    intro i h1 h2
    refine Ev.step (fun k => helmsmanlaw11_LexerReads.l0.eq_2 _ _ _ _ k) ?_
    refine Ev.no (by omega) (Ev.bind alive_ev (Ev.now _))
  | succ d ih =>
    intro i h1 h2
    refine Ev.step (fun k => helmsmanlaw11_LexerReads.l0.eq_2 _ _ _ _ k) ?_
    have hlt : i < l.length := by omega
    refine Ev.yes (by omega) (Ev.yes (by omega) (Ev.yes (by rw [List.length_map]; omega) (Ev.yes (by rw [List.length_map]; omega) ?_)))
    have h32 : rd_T32 (l.map tok32) (i : Int) = tok32 (l[i]'hlt) := by
      unfold rd_T32
      rw [Int.toNat_natCast, List.getD_eq_getElem?_getD, List.getElem?_map, List.getElem?_eq_getElem hlt]; rfl
    have h31 : rd_T31 (l.map tok31) (i : Int) = tok31 (l[i]'hlt) := by
      unfold rd_T31
      rw [Int.toNat_natCast, List.getD_eq_getElem?_getD, List.getElem?_map, List.getElem?_eq_getElem hlt]; rfl
    rw [h32, h31]
    refine Ev.no (by simp [tok32, tok31]) ?_
    rw [wrap64_small (by omega) (by omega)]
    exact ih (i + 1) (by omega) (by omega)
theorem lexS_len : ∀ (f a : Nat) (l : List UInt8) (x : List Tk), lexS f a l = .ok x → x.length ≤ f
  | 0, a, l, x, h => by simp [lexS] at h; subst h; simp
  | f + 1, a, [], x, h => by simp [lexS] at h; subst h; simp
  | f + 1, a, c :: r, x, h => by
    rw [lexS] at h
    split at h
    · revert h
      generalize hq : lexS f _ _ = q
      intro h
      cases q with
      | ok y =>
        have := lexS_len f _ _ y hq
        simp only [LexR.cons, LexR.ok.injEq] at h
        subst h
        simp; omega
      | no b e => cases h
    · cases h

theorem LexerReads : helmsmanlaw11_LexerReads.Pure := by
  intro s hs
  apply Ev.rounds
  unfold helmsmanlaw11_LexerReads.f
  by_cases hbig : (s.size : Int) > 5000
  · exact Ev.yes hbig (Ev.bind alive_ev (Ev.now _))
  refine Ev.no hbig ?_
  by_cases h4 : s.size ≤ 4096
  · refine Ev.bind (lex_ev s h4) (Ev.bind (ref_lex_ev s h4) ?_)
    cases hx : lexA s.data.toList with
    | ok l =>
      have hlen := lexS_len _ _ _ _ hx
      rw [← size_list] at hlen
      simp only [out32, out31, List.nil_append]
      refine Ev.yes trivial (Ev.yes trivial ?_)
      refine Ev.step (fun k => helmsmanlaw11_LexerReads.j0.eq_2 _ _ _ k) ?_
      refine Ev.no (by simp) ?_
      have := reads_loop l (by omega) l.length 0 (by omega) (by omega)
      rw [List.length_map]
      exact this
    | no a e =>
      simp only [out32, out31]
      refine Ev.yes trivial (Ev.yes trivial ?_)
      refine Ev.step (fun k => helmsmanlaw11_LexerReads.j0.eq_2 _ _ _ k) ?_
      refine Ev.no (by simp) ?_
      exact reads_loop [] (by simp) 0 0 (by simp) (by simp)
  · refine Ev.bind (lex_long s h4) (Ev.bind (ref_lex_long s h4) ?_)
    refine Ev.yes rfl (Ev.yes rfl ?_)
    refine Ev.step (fun k => helmsmanlaw11_LexerReads.j0.eq_2 _ _ _ k) ?_
    refine Ev.no (by simp) ?_
    exact reads_loop [] (by simp) 0 0 (by simp) (by simp)

end Go.Proofs.YtlcbdgkkkljfnaaDoor.P
end

section
/- The plain law of LexerRight. -/
namespace Go.Proofs.YtlcbdgkkkljfnaaDoor.P
open Go Go.RowKit Go.Proofs Go.Proofs.YtlcbdgkkkljfnaaDoor.Lx
open Go.Proofs.YtlcbdgkkkljfnaaDoorW.PrintWords

/-- May a token be? -/
def rightB (k : Int) (s : ByteArray) (n : Int) : Bool :=
  decide (s.size ≤ 4096) && match lexA s.data.toList with
  | .ok [t] => decide (t.1 = k) && (decide (t.2.1 = s.data.toList) && (decide (t.2.2.1 = n) && decide (t.2.2.2 = 0)))
  | _ => false
/-- The same, but for the place: a token that is all of a text stands at 0. -/
theorem one_place (s : List UInt8) (t : Tk) (h : lexA s = .ok [t]) (ht : t.2.1 = s) : t.2.2.2 = 0 := by
  unfold lexA at h
  generalize hk : skip false s = k at *
  cases s with
  | nil => simp [lexS] at h
  | cons c r =>
    rw [List.length_cons] at h
    cases hd : (c :: r).drop k with
    | nil => rw [hd, lexS] at h; simp at h
    | cons a b =>
      rw [hd, lexS] at h
      have hl := tokF_len (a :: b)
      have hll : (a :: b).length = (c :: r).length - k := by rw [← hd, List.length_drop]
      split at h
      · revert h
        generalize lexS r.length _ _ = q
        intro h
        cases q with
        | no _ _ => cases h
        | ok y =>
          simp only [LexR.cons, LexR.ok.injEq, List.cons.injEq] at h
          obtain ⟨h1, _⟩ := h
          subst h1
          simp only at ht ⊢
          rw [ht, hll] at hl
          simp only [List.length_cons] at hl
          omega
      · cases h
theorem right_ev (k : Int) (s : ByteArray) (n a : Int) : Ev (fun m => lexer_Right.f m k s n a) (rightB k s n) := by
  unfold lexer_Right.f rightB
  by_cases h4 : s.size ≤ 4096
  · rw [decide_eq_true h4, Bool.true_and]
    refine Ev.bind (lex_ev s h4) ?_
    cases hx : lexA s.data.toList with
    | no p e =>
      simp only [out32]
      by_cases he : e = 0
      · exact Ev.yes he (Ev.no (by simp) (Ev.now _))
      · exact Ev.no he (Ev.now _)
    | ok l =>
      simp only [out32, List.nil_append, List.length_map]
      refine Ev.yes trivial ?_
      match l with
      | [] => exact Ev.no (by simp) (Ev.now _)
      | [t] =>
        refine Ev.yes (by simp) (Ev.yes (by simp) ?_)
        refine Ev.congr (fun _ => ?_) (Ev.now _)
        have : rd_T32 ([t].map tok32) 0 = tok32 t := rfl
        rw [this]
        simp only [tok32, toList_data, strOf_list, Option.some.injEq]
        by_cases h1 : t.1 = k <;> by_cases h2 : t.2.1 = s.data.toList <;> by_cases h3 : t.2.2.1 = n <;> by_cases h5 : t.2.2.2 = 0 <;> simp [h1, h2, h3, h5]
      | t :: u :: r => exact Ev.no (by simp; omega) (Ev.now _)
  · rw [decide_eq_false h4, Bool.false_and]
    exact Ev.bind (lex_long s h4) (Ev.no (by simp) (Ev.now _))

theorem LexerRight (k : Int) (s : ByteArray) (n a : Int) : Ev (fun m => helmsmanlaw11_LexerRight.f m k s n a) true := by
  unfold helmsmanlaw11_LexerRight.f
  by_cases hbig : (s.size : Int) > 5000
  · exact Ev.yes hbig (Ev.bind alive_ev (Ev.now _))
  refine Ev.no hbig ?_
  have no : rightB k s n = false → Ev (fun m => (helmsmanlaw11_alive.f m).bind fun t => if t = true then (lexer_Right.f m k s n a).bind fun t2 => some (t2 == false) else some false) true := fun h => by
    refine Ev.bind alive_ev (Ev.yes rfl ?_)
    have hr := right_ev k s n a
    rw [h] at hr
    exact Ev.bind hr (Ev.now _)
  by_cases h4 : s.size ≤ 4096
  · refine Ev.bind (ref_lex_ev s h4) ?_
    cases hx : lexA s.data.toList with
    | no p e =>
      simp only [out31]
      have h : rightB k s n = false := by unfold rightB; rw [hx]; simp
      by_cases he : e = 0
      · exact Ev.yes he (Ev.no (by simp) (no h))
      · exact Ev.no he (no h)
    | ok l =>
      simp only [out31, List.nil_append, List.length_map]
      refine Ev.yes trivial ?_
      match l with
      | [] => exact Ev.no (by simp) (no (by unfold rightB; rw [hx]; simp))
      | [t] =>
        refine Ev.yes (by simp) (Ev.yes (by simp) ?_)
        have hrd : rd_T31 ([t].map tok31) 0 = tok31 t := rfl
        simp only [hrd]
        simp only [tok31, toList_data, strOf_list]
        by_cases h1 : t.1 = k
        · refine Ev.yes h1 ?_
          by_cases h2 : t.2.1 = s.data.toList
          · refine Ev.yes h2 ?_
            refine Ev.bind alive_ev (Ev.yes rfl ?_)
            refine Ev.bind (right_ev k s n a) ?_
            have h0 := one_place _ _ hx h2
            have : rightB k s n = (t.2.2.1 == n) := by
              unfold rightB
              rw [hx, decide_eq_true h4]
              simp [h1, h2, h0]
              by_cases h3 : t.2.2.1 = n <;> simp [h3]
            rw [this]
            simp only [beq_self_eq_true]
            exact Ev.now _
          · exact Ev.no h2 (no (by unfold rightB; rw [hx]; simp [h2]))
        · exact Ev.no h1 (no (by unfold rightB; rw [hx]; simp [h1]))
      | t :: u :: r => exact Ev.no (by simp; omega) (no (by unfold rightB; rw [hx]; simp))
  · have h : rightB k s n = false := by unfold rightB; rw [decide_eq_false h4, Bool.false_and]
    exact Ev.bind (ref_lex_long s h4) (Ev.no (by simp) (no h))
end Go.Proofs.YtlcbdgkkkljfnaaDoor.P
end

section
/- From what an argument reads as to what the printed walks ask: rows of rows, structs. -/
namespace Go.Proofs.YtlcbdgkkkljfnaaDoor.Rd
open Go Go.RowKit Go.Proofs.YtlcbdgkkkljfnaaDoorW.PrintWords
variable {H : Type} {enc : TypeId × Value → H} {P : Program} {w : World} {base : Nat} {spare : Nat → Bool} {held : Bool}

theorem add_add' (a : Addr) (i j : Nat) : (a.add i).add j = a.add (i + j) := Go.Deep.add_add a i j

/-- A row: what its elements read as, one by one. -/
theorem rd_slice {α : Type} {d : Kd α} {t e : TypeId} {R : α → DataW H → Prop} (ht : P.underlying t = some (.slice e)) (hc : P.cellsOf e = d.sz)
    (hel : ∀ (fuel : Nat) (cs : List Value) (r : DataW H × List MemPlace), DataW.trod enc P w base spare held fuel e cs = some r → ∃ x, d.K w x cs ∧ R x r.1)
    {fuel : Nat} {cs : List Value} {r : DataW H × List MemPlace} (h : DataW.trod enc P w base spare held fuel t cs = some r) :
    ∃ (xs : List α) (A : Option Addr) (c : Nat), cs = [.slice A xs.length c] ∧ xs.length ≤ c ∧ d.C w A xs.length xs ∧
      ((r.1 = .nil ∧ xs = []) ∨ ∃ ys zs, r.1 = .slice ys zs ∧ ys.length = xs.length ∧ ∀ (i : Nat) x y, xs[i]? = some x → ys[i]? = some y → R x y) := by
  rcases Go.Deep.open_slice ht h with ⟨rfl, rfl⟩ | ⟨a, len, cap, m, n, D, Pl, rfl, hb, hl, hm, rfl, rfl, hi⟩
  · exact ⟨[], none, 0, rfl, Nat.le_refl _, Kd.C_nil _ _, .inl ⟨rfl, rfl⟩⟩
  · have hle : ∀ i, i < len → i < (if spare a.block then cap else len) := fun i h => by split <;> omega
    have hx : ∀ i, i < len → ∃ x cs', w.cells? base (a.add (i * P.cellsOf e)) (P.cellsOf e) = some cs' ∧ d.K w x cs' ∧ R x (D i) := fun i h => by
      obtain ⟨cs', hcs, htr⟩ := hi i (hle i h)
      obtain ⟨x, hK, hR⟩ := hel n cs' _ htr
      exact ⟨x, cs', hcs, hK, hR⟩
    obtain ⟨xs, hlen, hxs⟩ : ∃ xs : List α, xs.length = len ∧ ∀ i x, xs[i]? = some x → ∃ cs', w.cells? base (a.add (i * P.cellsOf e)) (P.cellsOf e) = some cs' ∧ d.K w x cs' ∧ R x (D i) := by
      clear hi h hm hl hle
      induction len with
      | zero => exact ⟨[], rfl, fun i x h => by simp at h⟩
      | succ k ih =>
        obtain ⟨xs, h1, h2⟩ := ih (fun i h => hx i (by omega))
        obtain ⟨x, hxk⟩ := hx k (by omega)
        refine ⟨xs ++ [x], by simp [h1], fun i y hy => ?_⟩
        rcases Nat.lt_or_ge i k with hlt | hge
        · rw [List.getElem?_append_left (by omega)] at hy; exact h2 i y hy
        · rw [List.getElem?_append_right (by omega)] at hy
          have : i - xs.length = 0 := by
            rcases Nat.eq_zero_or_pos (i - xs.length) with h | h
            · exact h
            · rw [List.getElem?_eq_none (by simp; omega)] at hy; cases hy
          obtain rfl : i = k := by omega
          rw [this] at hy
          simp at hy
          subst hy
          exact hxk
    refine ⟨xs, some a, cap, by rw [hlen], by omega, ?_, .inr ⟨_, _, rfl, by simp [hlen], ?_⟩⟩
    · refine ⟨rfl, by unfold maxLen at hm; omega, fun _ => ⟨a, rfl, fun j p hj => ?_⟩⟩
      obtain ⟨cs', hcs, hK, _⟩ := hxs j p hj
      obtain ⟨_, hl2, hcell⟩ := World.cells?_some hcs
      refine ⟨cs', by rw [hl2, hc], hK, fun i u hu => ?_⟩
      have hlt : i < P.cellsOf e := by rw [← hl2]; exact (List.getElem?_eq_some_iff.mp hu).1
      have := hcell i hlt
      rw [add_add', hc] at this
      rw [this]; exact hu
    · intro i x y hx hy
      obtain ⟨_, _, _, hR⟩ := hxs i x hx
      have : y = D i := by
        rw [List.getElem?_map] at hy
        have hi : i < len := by rw [← hlen]; exact (List.getElem?_eq_some_iff.mp hx).1
        rw [List.getElem?_range hi] at hy
        exact (Option.some.inj hy).symm
      rw [this]; exact hR
theorem rd_int {t : TypeId} {k : IntKind} {fuel : Nat} {cs : List Value} {r : DataW H × List MemPlace} (ht : P.underlying t = some (.int k)) (h : DataW.trod enc P w base spare held fuel t cs = some r) :
    ∃ x : Int, cs = [.int k x] ∧ r.1 = .lit (.int k x) ∧ (Lit.int k x).wf = true := by
  obtain ⟨x, hc, hr, hw⟩ := DataW.trod_int ht h
  exact ⟨x, hc, by rw [hr], hw⟩
theorem rd_string {t : TypeId} {fuel : Nat} {cs : List Value} {r : DataW H × List MemPlace} (ht : P.underlying t = some .string) (h : DataW.trod enc P w base spare held fuel t cs = some r) :
    ∃ x : ByteArray, cs = [.string x] ∧ r.1 = .lit (.string x.data.toList) := by
  obtain ⟨x, hc, hr, hw⟩ := DataW.trod_string ht h
  exact ⟨x, hc, by rw [hr]⟩
end Go.Proofs.YtlcbdgkkkljfnaaDoor.Rd
end

section
/- What a token, and a row of tokens, read as. -/
namespace Go.Proofs.YtlcbdgkkkljfnaaDoor.P
open Go Go.RowKit Go.Proofs.YtlcbdgkkkljfnaaDoorW.PrintWords Go.Proofs.YtlcbdgkkkljfnaaDoor.Rd
variable {H : Type} {enc : TypeId × Value → H} {w : World} {base : Nat} {spare : Nat → Bool} {held : Bool}

theorem cells31 : Tryd.prog.cellsOf 31 = 4 := by kernel_rfl
theorem cells3 : Tryd.prog.cellsOf 3 = 1 := by kernel_rfl
theorem cells9 : Tryd.prog.cellsOf 9 = 1 := by kernel_rfl
def Tok31 (x : S31) (d : DataW H) : Prop := d = .agg [.lit (.int .i64 x.f0), .lit (.string x.f1.data.toList), .lit (.int .i64 x.f2), .lit (.int .i64 x.f3)]
theorem rd31 (fuel : Nat) (cs : List Value) (r : DataW H × List MemPlace) (h : DataW.trod enc Tryd.prog w base spare held fuel 31 cs = some r) :
    ∃ x : S31, cs = [.int .i64 x.f0, .string x.f1, .int .i64 x.f2, .int .i64 x.f3] ∧ Tok31 x r.1 := by
  obtain ⟨xs, n, rfl, rfl, hl, hx, hf⟩ := DataW.trod_struct Tryd.underlying31 h
  rw [cells31] at hl
  match cs, hl with
  | [c0, c1, c2, c3], _ =>
    match xs, hx with
    | [y0, y1, y2, y3], _ =>
      have h0 : DataW.trod enc Tryd.prog w base spare held n 3 [c0] = some y0 := by
        have h : DataW.trod enc Tryd.prog w base spare held n 3 (List.take (Tryd.prog.cellsOf 3) (List.drop 0 [c0, c1, c2, c3])) = some y0 := hf 0 _ rfl
        rw [cells3] at h
        exact h
      have h1 : DataW.trod enc Tryd.prog w base spare held n 9 [c1] = some y1 := by
        have h : DataW.trod enc Tryd.prog w base spare held n 9 (List.take (Tryd.prog.cellsOf 9) (List.drop 1 [c0, c1, c2, c3])) = some y1 := hf 1 _ rfl
        rw [cells9] at h
        exact h
      have h2 : DataW.trod enc Tryd.prog w base spare held n 3 [c2] = some y2 := by
        have h : DataW.trod enc Tryd.prog w base spare held n 3 (List.take (Tryd.prog.cellsOf 3) (List.drop 2 [c0, c1, c2, c3])) = some y2 := hf 2 _ rfl
        rw [cells3] at h
        exact h
      have h3 : DataW.trod enc Tryd.prog w base spare held n 3 [c3] = some y3 := by
        have h : DataW.trod enc Tryd.prog w base spare held n 3 (List.take (Tryd.prog.cellsOf 3) (List.drop 3 [c0, c1, c2, c3])) = some y3 := hf 3 _ rfl
        rw [cells3] at h
        exact h
      obtain ⟨x0, e0, d0, _⟩ := rd_int Tryd.underlying3 h0
      obtain ⟨x1, e1, d1⟩ := rd_string Tryd.underlying9 h1
      obtain ⟨x2, e2, d2, _⟩ := rd_int Tryd.underlying3 h2
      obtain ⟨x3, e3, d3, _⟩ := rd_int Tryd.underlying3 h3
      simp only [List.cons.injEq, and_true] at e0 e1 e2 e3
      subst e0 e1 e2 e3
      exact ⟨⟨x0, x1, x2, x3⟩, rfl, by simp [Tok31, d0, d1, d2, d3]⟩
theorem rd27 {fuel : Nat} {cs : List Value} {r : DataW H × List MemPlace} (h : DataW.trod enc Tryd.prog w base spare held fuel 27 cs = some r) :
    ∃ (xs : List S31) (A : Option Addr) (c : Nat), cs = [.slice A xs.length c] ∧ xs.length ≤ c ∧ Kd.C k31 w A xs.length xs ∧
      ((r.1 = .nil ∧ xs = []) ∨ ∃ ys zs, r.1 = .slice ys zs ∧ ys.length = xs.length ∧ ∀ (i : Nat) x y, xs[i]? = some x → ys[i]? = some y → Tok31 x y) :=
  rd_slice Tryd.underlying27 (by rw [cells31]; rfl) (fun fuel cs r h => by
    obtain ⟨x, rfl, hx⟩ := rd31 fuel cs r h
    exact ⟨x, k31_mk w x, hx⟩) h
end Go.Proofs.YtlcbdgkkkljfnaaDoor.P
end

section
namespace Go.Proofs.YtlcbdgkkkljfnaaDoor.lexerRight
open Go.ChangeShapes Go.WideShapes Go.ChangeAt Go.RowKit
set_option linter.unusedVariables false

theorem reads (os : Os) {H : Type} (enc : TypeId × Value → H) : ∃ places, DataW.whole enc Tryd.prog ((laidWorld os).forCall (fun _ _ => 0) ⟨#[], #[.agg #[.int .i64 0, .string ByteArray.empty, .int .i64 0, .int .i64 0]], []⟩).memory Tryd.f5.params.toList Rows.lexerRightSpec.vars false (#[.agg #[.int .i64 0, .string ByteArray.empty, .int .i64 0, .int .i64 0]] : Array Value).toList 8 = some ([.agg [.lit (.int .i64 0), .lit (.string []), .lit (.int .i64 0), .lit (.int .i64 0)]], [], places) :=
  ⟨[], by kernel_rfl⟩

set_option maxRecDepth 100000 in
theorem lifted (os : Os) (started : os.Started) (H : Type) (enc : TypeId × Value → H) (F : Stop.Interp) :
    ReturnsInHanded {} Tryd.checked os 5 .any ((OpenSpec.ofChange Rows.lexerRightSpec).preRow enc Tryd.prog Tryd.f5 Rows.lexerRightRow.domain false Rows.lexerRightRow.laid) (((OpenSpec.ofChange Rows.lexerRightSpec).at F).post enc Tryd.prog Tryd.f5 false true false false) := by
  obtain ⟨places, hx⟩ := reads os enc
  refine returnsInHanded_of_row (C := Tryd.checked) (s := (OpenSpec.ofChange Rows.lexerRightSpec)) own started (by kernel_rfl) Tryd.func5
    (witness_row_atRef (enc := enc) (C := Tryd.checked) false (laidWorld os) #[.agg #[.int .i64 0, .string ByteArray.empty, .int .i64 0, .int .i64 0]] rfl (by kernel_rfl) (by kernel_rfl) (by kernel_rfl)
      (OpenSpec.preRow_of_cond 8 hx (by kernel_rfl) (fun k hk => by cases hk) (by kernel_rfl) (laid_met os _))) ?_
  intro W base args ds gs before hval0 hW _ hcond hsz0 hL _ _
  have hval : ∀ (j : Nat) t v, Tryd.f5.params[j]? = some t → args[j]? = some v → Value.okWide Tryd.prog W .any base t v := hval0
  have hW' := hW
  obtain ⟨p, q, hA0, hV, rfl, hfz, hnd⟩ := hW
  have hA : DataW.TrodAll enc Tryd.prog W 0 (fun _ => true) true Tryd.f5.params.toList args.toList ds p := hA0
  rw [Tryd.params5] at hA hval
  obtain ⟨v0, vs0, d0, ds0, p0, q0, hargs, rfl, rfl, h0, r0⟩ := trodAll_cons hA
  obtain ⟨rfl, rfl, rfl⟩ := trodAll_nil r0
  obtain rfl : args = #[v0] := by cases args; simp_all
  obtain ⟨rfl, rfl⟩ := trodVars_none hV
  have lt0 : ∀ x ∈ p0, x.block < W.heap.size := by obtain ⟨m, hm⟩ := h0; exact DataW.trod_lt m _ _ _ hm
  have hT : P.TabT W := tabs hL
  obtain ⟨cs, rfl, _⟩ := okWide_struct Tryd.underlying31 (hval 0 31 v0 rfl rfl)
  obtain ⟨x, hcs, _⟩ : ∃ x : P.S31, cs.toList = [.int .i64 x.f0, .string x.f1, .int .i64 x.f2, .int .i64 x.f3] ∧ P.Tok31 x d0 := by
    obtain ⟨m, hm⟩ := h0
    exact P.rd31 m _ _ hm
  obtain rfl : cs = #[.int .i64 x.f0, .string x.f1, .int .i64 x.f2, .int .i64 x.f3] := by cases cs; simp_all
  obtain ⟨k, hk⟩ := (P.LexerRight x.f0 x.f1 x.f2 x.f3).rounds
  refine (P.helmsmanlaw11_LexerRight.calls k x.f0 x.f1 x.f2 x.f3 true W hT hk).mono fun e W' ⟨he, bel⟩ => ?_
  subst he
  exact ⟨_, rfl, _, _, _, [], _, [], hW', trodAll_mk1 (shut_bool Tryd.underlying4 _), (trodAll_cons_mk (Below.trod laidOut (by kernel_rfl) (of_decide_eq_true (by kernel_rfl)) h0 bel lt0) trodAll_mk0), rfl, bel.frame _, fun h => by cases h⟩

theorem said : Rows.LexerRightSaid :=
  OpenClaim.holds_of_cond 5 Tryd.f5 rfl rfl rfl rfl rfl rfl rfl ⟨rfl, rfl, rfl, rfl, rfl⟩ rfl rfl rfl rfl rfl (by kernel_rfl) Tryd.func5 (by kernel_rfl)
    (of_decide_eq_true (by kernel_rfl)) (by unfold Func.isWrapper; first | (rw [if_pos (by decide +kernel)]; kernel_rfl) | (rw [if_neg (by decide +kernel)]; exact ⟨rfl, rfl⟩))
    (fun os started H enc _ F => by rw [OpenClaim.pre_eq_preRow]; exact lifted os started H enc F)

theorem plain (f : FuncId) (fn : Func) (hf : Tryd.pinned.checked.prog.funcNamed Rows.lexerRightRow.func = some f) (hfn : Tryd.pinned.checked.prog.funcs[f]? = some fn) :
    false = Tryd.pinned.checked.prog.looks [] ∧ ∀ (j : Nat) t, fn.params[j]? = some t → Tryd.pinned.checked.prog.wantsStandIn t = false := by
  obtain rfl : f = 5 := Option.some.inj ((show Tryd.prog.funcNamed Rows.lexerRightRow.func = some 5 by kernel_rfl).symm.trans hf) |>.symm
  obtain rfl : fn = Tryd.f5 := (Option.some.inj (Tryd.func5.symm.trans hfn)).symm
  refine ⟨by kernel_rfl, fun j t ht => ?_⟩
  rw [Tryd.params5] at ht
  obtain rfl : t = 31 := by simpa using Array.mem_of_getElem? ht
  exact (show Tryd.prog.wantsStandIn 31 = false by kernel_rfl)
end Go.Proofs.YtlcbdgkkkljfnaaDoor.lexerRight
namespace Go.Proofs.YtlcbdgkkkljfnaaDoor
theorem lexerRight_holds : Rows.LexerRightCardSaid :=
  Claim7.holds_tied_plain_at .later [] _ _ _ _ lexerRight.said (fun _ h => by cases h) (by kernel_rfl) (fun _ h => by cases h) lexerRight_row_tie rfl ⟨rfl, rfl⟩ (by kernel_rfl) rfl lexerRight.plain (by kernel_rfl)
#print axioms lexerRight_holds
end Go.Proofs.YtlcbdgkkkljfnaaDoor
end
