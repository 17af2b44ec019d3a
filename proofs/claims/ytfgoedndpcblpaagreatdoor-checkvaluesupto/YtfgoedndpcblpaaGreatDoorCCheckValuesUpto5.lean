/- CheckValues (second form): which enum has a value, how wide so many are, and that there is no such variable, is what the document says. Condition: what the arguments read as is together of bulk at most 1048576. -/
import Derived.Test.YtfgoedndpcblpaaGreatDoorCCheckValuesUpto4
import Derived.Test.YtfgoedndpcblpaaGreatDoorCards
import Derived.Test.YtfgoedndpcblpaaGreatDoorTie
import Derived.Test.YtfgoedndpcblpaaGreatDoorCCheckValuesUpto0
import Derived.WalkKit
import Derived.ProofKit
import Derived.OpenShut
import Derived.ShutString
import Derived.ChangeOld
import Derived.Below
import Derived.SizedLaws
section
/- How long what is printed is; which programs Check can look at. -/
namespace Go.Proofs.YtfgoedndpcblpaaGreatDoor.Pv
open Go Go.Proofs Go.Proofs.YtfgoedndpcblpaaGreatDoor.Lx Go.Proofs.YtfgoedndpcblpaaGreatDoor.Ps
set_option linter.unusedSimpArgs false
set_option linter.unusedVariables false

mutual
theorem lnE_bk : ∀ e : Ex, lnE e + 2 ≤ 8 * bkE e
  | .mk op nm n l i => by rw [lnE, bkE]; have := lnEs_bk l; omega
theorem lnEs_bk : ∀ l : List Ex, lnEs l ≤ 8 * bkEs l
  | [] => Nat.zero_le _
  | x :: xs => by rw [lnEs, bkEs]; have := lnE_bk x; have := lnEs_bk xs; omega
end
mutual
theorem lnT_bk : ∀ e : Ps.St, lnT e ≤ 8 * bkT e
  | .mk op nm e a b i => by rw [lnT, bkT]; have := lnEs_bk e; have := lnTs_bk a; have := lnTs_bk b; omega
theorem lnTs_bk : ∀ l : List Ps.St, lnTs l ≤ 8 * bkTs l
  | [] => Nat.zero_le _
  | x :: xs => by rw [lnTs, bkTs]; have := lnT_bk x; have := lnTs_bk xs; omega
end
theorem cat_len : ∀ ws : List ByteArray, (catB ws).length = sumN (fun w => w.size) ws
  | [] => rfl
  | x :: xs => by rw [cat_cons, List.length_append, size_toList, sumN, cat_len xs]
theorem line_len (d : Nat) (ws : List ByteArray) : (lineB d ws).length = 2 * d + sumN (fun w => w.size) ws + 1 := by
  unfold lineB; simp only [List.length_append, rep_len, List.length_cons, List.length_nil, cat_len]
theorem part_bk {e : List Ex} (ho : okXs e) (k : Nat) : (partB e k).size ≤ 8 * bkEs e := by
  have h1 := (part_len (k := k) (l := e) fun x hx => text_len x (okXs_mem ho x hx)).1
  have h2 := lnEs_bk e
  unfold partB
  rw [strOf_size]; omega
theorem ite_len {c : Prop} [Decidable c] {a b : List UInt8} {N : Nat} (h1 : a.length ≤ N) (h2 : b.length ≤ N) : (if c then a else b).length ≤ N := by split <;> assumption
mutual
theorem stmt_len (M : Nat) : ∀ (s : Ps.St) (d : Nat), okT s → 2 * (d + 1 + stN s) + 40 ≤ M → (stmtB d s).length ≤ 24 * bkT s + 3 * (M * (1 + stN s))
  | .mk op nm e a b i, d, ho, hM => by
    rw [okT] at ho
    rw [stN] at hM ⊢
    have hA := stmts_len M a (d + 1) ho.2.1 (by omega)
    have hB := stmts_len M b (d + 1) ho.2.2 (by omega)
    have hp0 := part_bk ho.1 0
    have hp1 := part_bk ho.1 1
    have hMA : M * (stsN a + stsN b) ≤ M * (exsN e + stsN a + stsN b) := Nat.mul_le_mul_left _ (by omega)
    rw [Nat.mul_add] at hMA
    have hM1 : M * (1 + (exsN e + stsN a + stsN b)) = M + M * (exsN e + stsN a + stsN b) := by rw [Nat.mul_add, Nat.mul_one]
    rw [hM1, bkT, stmtB]
    have y0 : (⟨#[32, 61, 32]⟩ : ByteArray).size = 3 := rfl
    have y1 : (⟨#[59]⟩ : ByteArray).size = 1 := rfl
    have y2 : (⟨#[91]⟩ : ByteArray).size = 1 := rfl
    have y3 : (⟨#[93, 32, 61, 32]⟩ : ByteArray).size = 4 := rfl
    have y4 : (⟨#[32, 61, 32, 105, 110, 112, 117, 116, 59]⟩ : ByteArray).size = 9 := rfl
    have y5 : (⟨#[32, 61, 32, 105, 110, 112, 117, 116, 40]⟩ : ByteArray).size = 9 := rfl
    have y6 : (⟨#[44, 32]⟩ : ByteArray).size = 2 := rfl
    have y7 : (⟨#[41, 59]⟩ : ByteArray).size = 2 := rfl
    have y8 : (⟨#[32]⟩ : ByteArray).size = 1 := rfl
    have y9 : (⟨#[32, 123]⟩ : ByteArray).size = 2 := rfl
    have y10 : (⟨#[125, 32, 101, 108, 115, 101, 32, 123]⟩ : ByteArray).size = 8 := rfl
    have y11 : (⟨#[125]⟩ : ByteArray).size = 1 := rfl
    have y12 : (⟨#[99, 97, 108, 108, 32]⟩ : ByteArray).size = 5 := rfl
    have z1 := size_toList op
    have z2 := size_toList nm
    have z3 := size_toList (partB e 0)
    have z4 := size_toList (partB e 1)
    have hif : (if 0 < b.length then lineB d [⟨#[125, 32, 101, 108, 115, 101, 32, 123]⟩] ++ stmtsB (d + 1) b else []).length ≤ 2 * d + 9 + (stmtsB (d + 1) b).length := by
      refine ite_len ?_ (Nat.zero_le _)
      simp only [List.length_append, line_len, sumN, y0, y1, y2, y3, y4, y5, y6, y7, y8, y9, y10, y11, y12, List.length_cons, List.length_nil]; omega
    generalize (if 0 < b.length then lineB d [⟨#[125, 32, 101, 108, 115, 101, 32, 123]⟩] ++ stmtsB (d + 1) b else []) = xb at *
    refine ite_len ?_ (ite_len ?_ (ite_len (ite_len ?_ ?_) (ite_len ?_ (ite_len ?_ (ite_len ?_ (ite_len ?_ ?_))))))
    all_goals (simp only [List.length_append, line_len, sumN, y0, y1, y2, y3, y4, y5, y6, y7, y8, y9, y10, y11, y12, List.length_cons, List.length_nil]; omega)
theorem stmts_len (M : Nat) : ∀ (l : List Ps.St) (d : Nat), okTs l → 2 * (d + stsN l) + 40 ≤ M → (stmtsB d l).length ≤ 24 * bkTs l + 3 * (M * stsN l)
  | [], d, _, _ => Nat.zero_le _
  | x :: xs, d, ho, hM => by
    rw [okTs] at ho
    rw [stsN] at hM
    have h1 := stmt_len M x d ho.1 (by omega)
    have h2 := stmts_len M xs d ho.2 (by omega)
    rw [stmtsB, List.length_append, bkTs, stsN]
    have : M * (1 + stN x + stsN xs) = M * (1 + stN x) + M * stsN xs := Nat.mul_add _ _ _
    rw [this]; omega
end
theorem flat_len {α : Type} (f : α → List UInt8) (g : α → Nat) : ∀ l : List α, (∀ x ∈ l, (f x).length ≤ g x) → (flatB f l).length ≤ sumN g l
  | [], _ => Nat.le_refl _
  | x :: xs, h => by
    rw [flatB, List.length_append, sumN]
    have h1 := h x (List.mem_cons_self ..)
    have h2 := flat_len f g xs (fun y hy => h y (List.mem_cons_of_mem _ hy))
    omega
theorem sum_le {α : Type} {f g : α → Nat} : ∀ {l : List α}, (∀ x ∈ l, f x ≤ g x) → sumN f l ≤ sumN g l
  | [], _ => Nat.le_refl _
  | x :: xs, h => by
    rw [sumN, sumN]
    have h1 := h x (List.mem_cons_self ..)
    have h2 := sum_le (l := xs) (fun y hy => h y (List.mem_cons_of_mem _ hy))
    omega
theorem sum_mul {α : Type} (c : Nat) (f : α → Nat) : ∀ l : List α, sumN (fun x => c * f x) l = c * sumN f l
  | [] => rfl
  | x :: xs => by rw [sumN, sumN, sum_mul c f xs, Nat.mul_add]
theorem sum_add {α : Type} (f g : α → Nat) : ∀ l : List α, sumN (fun x => f x + g x) l = sumN f l + sumN g l
  | [] => rfl
  | x :: xs => by rw [sumN, sumN, sumN, sum_add f g xs]; omega
theorem sum_one {α : Type} {f : α → Nat} : ∀ {l : List α}, (∀ x ∈ l, 1 ≤ f x) → l.length ≤ sumN f l
  | [], _ => Nat.le_refl _
  | x :: xs, h => by
    rw [sumN, List.length_cons]
    have h1 := h x (List.mem_cons_self ..)
    have h2 := sum_one (l := xs) (fun y hy => h y (List.mem_cons_of_mem _ hy))
    omega
theorem sum_c {α : Type} (c : Nat) {f : α → Nat} : ∀ {l : List α}, (∀ x ∈ l, c ≤ f x) → c * l.length ≤ sumN f l
  | [], _ => Nat.le_refl _
  | x :: xs, h => by
    rw [sumN, List.length_cons]
    have h1 := h x (List.mem_cons_self ..)
    have h2 := sum_c c (l := xs) (fun y hy => h y (List.mem_cons_of_mem _ hy))
    rw [Nat.mul_add]; omega
theorem join_len : ∀ l : List ByteArray, (listB l).size ≤ 2 * sumN bkStr l := by
  intro l
  unfold listB
  rw [strOf_size]
  unfold Lib.join
  induction l with
  | nil => exact Nat.zero_le _
  | cons x xs ih =>
    have hx := size_toList x
    cases xs with
    | nil => simp [List.intercalate, sumN, bkStr]; omega
    | cons y ys =>
      have e : [44, 32].intercalate ((x :: y :: ys).map (·.data.toList)) = x.data.toList ++ ([44, 32] ++ [44, 32].intercalate ((y :: ys).map (·.data.toList))) := by simp [List.intercalate]
      rw [e, List.length_append, List.length_append, sumN]
      simp only [List.length_cons, List.length_nil]
      unfold bkStr at ih ⊢; omega
/-- A program of few parts, of which there is not too much. -/
structure Few (p : Pg) : Prop where
  bk : bkG p ≤ 1048576
  pg : pgN p ≤ 300
  ok : okG p
theorem Few.parts {p : Pg} (h : Few p) : p.enums.length ≤ 1048576 ∧ p.vars.length ≤ 1048576 ∧ p.procs.length ≤ 524288 ∧ sumN (fun e => e.l.length) p.enums ≤ 1048576 := by
  have hb := h.bk
  unfold bkG at hb
  have h1 : p.enums.length ≤ sumN bkEn p.enums := sum_one (fun x _ => by unfold bkEn; omega)
  have h2 : p.vars.length ≤ sumN bkV p.vars := sum_one (fun x _ => by unfold bkV; omega)
  have h3 : 2 * p.procs.length ≤ sumN bkX p.procs := sum_c 2 (fun x _ => by unfold bkX; omega)
  have h4 : sumN (fun e => e.l.length) p.enums ≤ sumN bkEn p.enums := sum_le (fun x _ => by
    unfold bkEn
    have : x.l.length ≤ sumN bkStr x.l := sum_one (fun y _ => by unfold bkStr; omega)
    omega)
  omega
theorem Few.printed {p : Pg} (h : Few p) : (printB p).length ≤ 274877906944 := by
  have hb := h.bk
  have hp := h.pg
  have ho := h.ok
  unfold bkG at hb
  unfold pgN at hp
  have hM : 2 * (1 + stsN p.main) + 40 ≤ 1000 := by omega
  have h1 := stmts_len 1000 p.main 1 ho.1 hM
  have h2 : ∀ x ∈ p.procs, (procB x).length ≤ 32 * bkX x + 3000 * stsN x.body := fun x hx => by
    have hs := sum_mem (fun x : Pc => stsN x.body) p.procs x hx
    have := stmts_len 1000 x.body 1 (ho.2.1 x hx) (by omega)
    unfold procB bkX
    simp only [List.length_append, line_len, sumN]
    have e1 : (⟨#[32, 123]⟩ : ByteArray).size = 2 := rfl
    have e2 : (⟨#[125]⟩ : ByteArray).size = 1 := rfl
    have e3 : (⟨#[112, 114, 111, 99, 32]⟩ : ByteArray).size = 5 := rfl
    rw [e1, e2, e3]
    omega
  have h3 := flat_len procB (fun x => 32 * bkX x + 3000 * stsN x.body) p.procs h2
  rw [sum_add (fun x => 32 * bkX x) (fun x => 3000 * stsN x.body), sum_mul, sum_mul] at h3
  have h4 := flat_len varB (fun x => 32 * bkV x) p.vars (fun x hx => by
    have hi := Lib.itoa_length_le x.len (ho.2.2 x hx).1 (ho.2.2 x hx).2
    have hm : (manyB x.len).size ≤ 23 := by
      unfold manyB
      split
      · rw [strOf_size]; simp only [List.length_append, List.length_cons, List.length_nil]; omega
      · exact Nat.zero_le _
    unfold varB bkV
    simp only [line_len, sumN]
    have e1 : (⟨#[118, 97, 114, 32]⟩ : ByteArray).size = 4 := rfl
    have e2 : (⟨#[58, 32]⟩ : ByteArray).size = 2 := rfl
    have e3 : (⟨#[59]⟩ : ByteArray).size = 1 := rfl
    rw [e1, e2, e3]
    omega)
  rw [sum_mul] at h4
  have h5 := flat_len enumB (fun x => 32 * bkEn x) p.enums (fun x hx => by
    have hj := join_len x.l
    unfold enumB bkEn
    simp only [line_len, sumN]
    have e1 : (⟨#[101, 110, 117, 109, 32]⟩ : ByteArray).size = 5 := rfl
    have e2 : (⟨#[32, 123, 32]⟩ : ByteArray).size = 3 := rfl
    have e3 : (⟨#[32, 125]⟩ : ByteArray).size = 2 := rfl
    rw [e1, e2, e3]
    omega)
  rw [sum_mul] at h5
  unfold printB
  simp only [List.length_append, line_len, sumN]
  have e1 : (⟨#[109, 97, 105, 110, 32, 123]⟩ : ByteArray).size = 6 := rfl
  have e2 : (⟨#[125]⟩ : ByteArray).size = 1 := rfl
  rw [e1, e2]
  omega
theorem Few.ck {p : Pg} (h : Few p) : CkSm p := by
  obtain ⟨h1, h2, h3, h4⟩ := h.parts
  have hb := h.bk
  have hp := h.pg
  have hl := lnTs_bk p.main
  have hsm : bulkP p < 274877906944 - 1 := by unfold bulkP; omega
  unfold bkG at hb
  refine ⟨⟨h.ok, h.printed, by omega, by omega, by omega, fun e he => ?_, by omega, fun x hx => ?_⟩, hsm, fun s hs => ?_, by omega, by omega⟩
  · have := sum_mem (fun e : En => e.l.length) p.enums e he
    omega
  · have h5 := sum_mem bkX p.procs x hx
    have h6 := lnTs_bk x.body
    have e5 : bkX x = 2 + x.name.size + bkTs x.body := rfl
    rw [e5] at h5; omega
  · unfold allNames at hs
    rcases List.mem_append.1 hs with hs | hs
    · rcases List.mem_append.1 hs with hs | hs
      · obtain ⟨l, hl, hs⟩ := List.mem_flatten.1 hs
        obtain ⟨e, he, rfl⟩ := List.mem_map.1 hl
        have h5 := sum_mem bkEn p.enums e he
        have e5 : bkEn e = 2 + e.name.size + sumN bkStr e.l := rfl
        rw [e5] at h5
        rcases List.mem_cons.1 hs with rfl | hs
        · omega
        · have h6 := sum_mem bkStr e.l s hs
          have e6 : bkStr s = s.size + 1 := rfl
          rw [e6] at h6; omega
      · obtain ⟨e, he, rfl⟩ := List.mem_map.1 hs
        have h5 := sum_mem bkV p.vars e he
        have e5 : bkV e = 4 + e.name.size + e.type.size := rfl
        rw [e5] at h5; omega
    · obtain ⟨e, he, rfl⟩ := List.mem_map.1 hs
      have h5 := sum_mem bkX p.procs e he
      have e5 : bkX e = 2 + e.name.size + bkTs e.body := rfl
      rw [e5] at h5; omega
mutual
theorem exN_bk : ∀ e : Ex, exN e + 1 ≤ bkE e
  | .mk op nm n l i => by rw [exN, bkE]; have := exsN_bk l; omega
theorem exsN_bk : ∀ l : List Ex, exsN l ≤ bkEs l
  | [] => Nat.zero_le _
  | x :: xs => by rw [exsN, bkEs]; have := exN_bk x; have := exsN_bk xs; omega
end
mutual
theorem stN_bk : ∀ e : Ps.St, stN e + 1 ≤ bkT e
  | .mk op nm e a b i => by rw [stN, bkT]; have := exsN_bk e; have := stsN_bk a; have := stsN_bk b; omega
theorem stsN_bk : ∀ l : List Ps.St, stsN l ≤ bkTs l
  | [] => Nat.zero_le _
  | x :: xs => by rw [stsN, bkTs]; have := stN_bk x; have := stsN_bk xs; omega
end
theorem pgN_bk (p : Pg) : pgN p ≤ bkG p := by
  unfold pgN bkG
  have h1 := stsN_bk p.main
  have h2 : sumN (fun x : Pc => stsN x.body) p.procs ≤ sumN bkX p.procs := sum_le (fun x _ => by
    have := stsN_bk x.body
    have e5 : bkX x = 2 + x.name.size + bkTs x.body := rfl
    rw [e5]; omega)
  omega
theorem small_bk {p : Pg} (h : bkG p ≤ 1048576) : smallP p := by
  have hn := pgN_bk p
  have hb := h
  unfold bkG at hb
  have h1 : p.enums.length ≤ sumN bkEn p.enums := sum_one (fun x _ => by unfold bkEn; omega)
  have h2 : p.vars.length ≤ sumN bkV p.vars := sum_one (fun x _ => by unfold bkV; omega)
  have h3 : p.procs.length ≤ sumN bkX p.procs := sum_one (fun x _ => by unfold bkX; omega)
  have h4 : sumN (fun e => e.l.length) p.enums ≤ sumN bkEn p.enums := sum_le (fun x _ => by
    unfold bkEn
    have : x.l.length ≤ sumN bkStr x.l := sum_one (fun y _ => by unfold bkStr; omega)
    omega)
  unfold smallP bulkP
  omega
end Go.Proofs.YtfgoedndpcblpaaGreatDoor.Pv
end

section
/- Layer 14's own try: what it yields. -/
namespace Go.Proofs.YtfgoedndpcblpaaGreatDoor.Pv
open Go Go.Proofs Go.Proofs.YtfgoedndpcblpaaGreatDoor.Lx Go.Proofs.YtfgoedndpcblpaaGreatDoor.Ps
set_option linter.unusedSimpArgs false
set_option linter.unusedVariables false
variable {L : Lib} {σ : Sto} {T : Base}

/-- What a function yields at given arguments. -/
noncomputable def atH : List (List PV × PV) → List PV → Sto → Option (PV × Sto)
  | [], _, _ => none
  | (a, v) :: l, args, σ => open Classical in if args = a then some (v, σ) else atH l args σ
theorem atH_call {f : FuncId} : ∀ {l : List (List PV × PV)}, (∀ x ∈ l, ∀ σ, callE (EV Tryz.prog L) f x.1 σ = some (x.2, σ)) → ∀ args σ r σ', atH l args σ = some (r, σ') → callE (EV Tryz.prog L) f args σ = some (r, σ')
  | [], _, args, σ, r, σ', he => by cases he
  | (a, v) :: l, h, args, σ, r, σ', he => by
    rw [atH] at he
    split at he
    · rename_i e
      subst e
      cases he
      exact h (args, v) (List.mem_cons_self ..) σ
    · exact atH_call (fun x hx => h x (List.mem_cons_of_mem _ hx)) args σ r σ' he
theorem atH_fun (hH : HandOk Tryz.prog T (EV Tryz.prog L)) {f : FuncId} {l : List (List PV × PV)} (h : ∀ x ∈ l, ∀ σ, callE (EV Tryz.prog L) f x.1 σ = some (x.2, σ)) : FunOk Tryz.prog T f (atH l) := told_fun hH (atH_call h)
theorem atH_at {a : List PV} {v : PV} : ∀ {l : List (List PV × PV)}, (∀ x ∈ l, x.1 = a → x.2 = v) → (∃ x ∈ l, x.1 = a) → ∀ σ, atH l a σ = some (v, σ)
  | [], _, h, σ => by obtain ⟨x, hx, _⟩ := h; cases hx
  | (b, u) :: l, h1, h2, σ => by
    rw [atH]
    split
    · rename_i e; rw [show u = v from h1 (b, u) (List.mem_cons_self ..) e.symm]
    · rename_i e
      refine atH_at (fun x hx => h1 x (List.mem_cons_of_mem _ hx)) ?_ σ
      obtain ⟨x, hx, hxa⟩ := h2
      rcases List.mem_cons.1 hx with rfl | hx
      · exact absurd hxa.symm e
      · exact ⟨x, hx, hxa⟩
theorem atH_still : ∀ {l : List (List PV × PV)} {args : List PV} {σ σ1 : Sto} {r : PV}, atH l args σ = some (r, σ1) → σ1 = σ
  | [], _, _, _, _, h => by cases h
  | (a, v) :: l, args, σ, σ1, r, h => by
    rw [atH] at h
    split at h
    · cases h; rfl
    · exact atH_still h
/-- From a run that is seen through to a call. -/
theorem call_seen {f : FuncId} {args : List PV} {r : PV} {k : Nat} (ha : ptrsL args = []) (he : eraL args = args) (h : ((evF Tryz.prog L k f args ⟨[], []⟩).map fun x => (x.1.ptrs, x.1.era)) = some ([], r)) : ∀ σ, callE (EV Tryz.prog L) f args σ = some (r, σ) := fun σ => by
  obtain ⟨x, h1, h2⟩ := Option.map_eq_some_iff.1 h
  simp only [Prod.mk.injEq] at h2
  have h3 : EV Tryz.prog L f args ⟨[], []⟩ = some (x.1, x.2) := EV_iff.2 ⟨k, h1⟩
  rw [← h2.2]
  exact call_pure ha (by rw [he]; exact h3) h2.1
def src14a : ByteArray := (⟨#[101, 110, 117, 109, 32, 101, 32, 123, 32, 97, 44, 32, 98, 44, 32, 99, 32, 125, 32, 118, 97, 114, 32, 120, 58, 32, 101, 59, 32, 118, 97, 114, 32, 121, 58, 32, 105, 110, 116, 59, 32, 109, 97, 105, 110, 32, 123, 32, 120, 32, 61, 32, 98, 59, 32, 121, 32, 61, 32, 49, 59, 32, 125]⟩ : ByteArray)
def src14b : ByteArray := (⟨#[109, 97, 105, 110, 32, 123, 32, 120, 32, 61, 32, 49, 59, 32, 125]⟩ : ByteArray)
def p14a : Pg := ⟨[⟨(⟨#[101]⟩ : ByteArray), [(⟨#[97]⟩ : ByteArray), (⟨#[98]⟩ : ByteArray), (⟨#[99]⟩ : ByteArray)]⟩], [⟨(⟨#[120]⟩ : ByteArray), (⟨#[101]⟩ : ByteArray), 0⟩, ⟨(⟨#[121]⟩ : ByteArray), (⟨#[105, 110, 116]⟩ : ByteArray), 0⟩], [], [.mk (⟨#[115, 101, 116]⟩ : ByteArray) (⟨#[120]⟩ : ByteArray) [.mk (⟨#[110, 97, 109, 101]⟩ : ByteArray) (⟨#[98]⟩ : ByteArray) 0 [] 52] [] [] 48, .mk (⟨#[115, 101, 116]⟩ : ByteArray) (⟨#[121]⟩ : ByteArray) [.mk (⟨#[110, 117, 109]⟩ : ByteArray) ⟨#[]⟩ 1 [] 59] [] [] 55]⟩
def p14b : Pg := ⟨[], [], [], [.mk (⟨#[115, 101, 116]⟩ : ByteArray) (⟨#[120]⟩ : ByteArray) [.mk (⟨#[110, 117, 109]⟩ : ByteArray) ⟨#[]⟩ 1 [] 11] [] [] 7]⟩
set_option maxRecDepth 1000000 in
theorem parse14a : ((evF Tryz.prog libX 400 14 [str src14a] ⟨[], []⟩).map fun x => (x.1.ptrs, x.1.era)) = some ([], .tup [.agg (pgC p14a), int 63, int 0]) := by kernel_rfl
set_option maxRecDepth 1000000 in
theorem parse14b : ((evF Tryz.prog libX 400 14 [str src14b] ⟨[], []⟩).map fun x => (x.1.ptrs, x.1.era)) = some ([], .tup [.agg (pgC p14b), int 15, int 0]) := by kernel_rfl
def out14 : List (List PV × PV) := [([str src14a], .tup [.agg (pgC p14a), int 63, int 0]), ([str src14b], .tup [.agg (pgC p14b), int 15, int 0])]
theorem grd_X (h0 : ∀ f h, libL f = some h → FunOk Tryz.prog T f h) : Grd Tryz.prog libX T := ⟨mixed, libX_ro, libX_ok h0⟩
theorem parse14_fun (h0 : ∀ f h, libL f = some h → FunOk Tryz.prog T f h) : FunOk Tryz.prog T 14 (atH out14) := atH_fun (grd_X h0).handEV (fun x hx => by
  simp only [out14, List.mem_cons, List.not_mem_nil, or_false] at hx
  rcases hx with rfl | rfl
  · exact call_seen rfl rfl parse14a
  · exact call_seen rfl rfl parse14b)
/-- Check, and the parser at two texts. -/
noncomputable def libQ : Lib := look [(14, atH out14), (25, checkH)] libB
theorem checkH_still {args : List PV} {σ σ1 : Sto} {r : PV} (h : checkH args σ = some (r, σ1)) : σ1 = σ := by
  unfold checkH at h
  split at h <;> cases h
  rfl
theorem grd_Q (h0 : ∀ f h, libL f = some h → FunOk Tryz.prog T f h) : Grd Tryz.prog libQ T := look_grd (grd_B h0) (fun x hx => by
  simp only [List.mem_cons, List.not_mem_nil, or_false] at hx
  rcases hx with rfl | rfl
  · exact ⟨parse14_fun h0, .inl fun _ _ _ _ => atH_still⟩
  · exact ⟨check_B h0, .inl fun _ _ _ _ => checkH_still⟩)
theorem call_told {f : FuncId} {h : List PV → Sto → Option (PV × Sto)} {args : List PV} {r : PV} (hl : L f = some h) (ha : ptrsL args = []) (he : eraL args = args) (hr : r.ptrs = []) (hre : r.era = r) (hh : ∀ σ, h args σ = some (r, σ)) : ∀ σ, callE (EV Tryz.prog L) f args σ = some (r, σ) := fun σ => by
  have := call_pure (σ := σ) (H := EV Tryz.prog L) ha (EV_lib (P := Tryz.prog) hl (by rw [he]; exact hh ⟨[], []⟩)) hr
  rwa [hre] at this
theorem ck_told (hl : L 25 = some checkH) (p : Pg) (hp : CkSm p) : ∀ σ, callE (EV Tryz.prog L) 25 [.agg (pgC p)] σ = some (checkOut p, σ) := call_told hl rfl rfl rfl rfl (checkH_at p hp)
theorem few_14a : Few p14a := ⟨of_decide_eq_true (by kernel_rfl), of_decide_eq_true (by kernel_rfl), by simp [okG, p14a, okTs, okT, okXs, okX]⟩
theorem few_14b : Few p14b := ⟨of_decide_eq_true (by kernel_rfl), of_decide_eq_true (by kernel_rfl), by simp [okG, p14b, okTs, okT, okXs, okX]⟩
def c14a : CI := ⟨[⟨(⟨#[120]⟩ : ByteArray), 1, 0, 2, 3, (⟨#[101]⟩ : ByteArray)⟩, ⟨(⟨#[121]⟩ : ByteArray), 2, 1, 0, 0, (⟨#[105, 110, 116]⟩ : ByteArray)⟩], 2, 1, 0⟩
set_option maxRecDepth 1000000 in
theorem check14a : checkF p14a = (c14a, 0, 0) := by kernel_rfl
set_option maxRecDepth 1000000 in
theorem check14b : checkF p14b = (zCI, 7, 140) := by kernel_rfl
theorem free_Q {l : List FuncId} (h : (l.all fun f => (libQ f).isNone) = true) : Free libQ l := free_of h
set_option maxHeartbeats 1000000 in
theorem alive14_ok (hl : Free libQ [24]) : ∀ σ, callE (EV Tryz.prog libQ) 24 [] σ = some (boo true, σ) := by
  intro σ
  have h1 := call_told (L := libQ) (f := 14) (args := [str src14a]) (r := .tup [.agg (pgC p14a), int 63, int 0]) rfl rfl rfl rfl rfl (atH_at (fun x hx hxa => by
    simp only [out14, List.mem_cons, List.not_mem_nil, or_false] at hx
    rcases hx with rfl | rfl
    · rfl
    · simp [src14a, src14b] at hxa) ⟨_, List.mem_cons_self .., rfl⟩)
  have h2 := call_told (L := libQ) (f := 14) (args := [str src14b]) (r := .tup [.agg (pgC p14b), int 15, int 0]) rfl rfl rfl rfl rfl (atH_at (fun x hx hxa => by
    simp only [out14, List.mem_cons, List.not_mem_nil, or_false] at hx
    rcases hx with rfl | rfl
    · simp [src14a, src14b] at hxa
    · rfl) ⟨_, List.mem_cons_of_mem _ (List.mem_cons_self ..), rfl⟩)
  have h3 := ck_told (L := libQ) rfl p14a few_14a.ck
  have h4 := ck_told (L := libQ) rfl p14b few_14b.ck
  unfold checkOut at h3 h4
  rw [check14a] at h3
  rw [check14b] at h4
  have h5 := Find_ok (L := libQ) (free_of (by kernel_rfl)) c14a (by decide) (⟨#[121]⟩ : ByteArray)
  have h6 := Value_ok (L := libQ) (free_of (by kernel_rfl)) p14a few_14a.ck.sm (⟨#[99]⟩ : ByteArray)
  have h7 := Type_ok (L := libQ) (free_of (by kernel_rfl)) p14a few_14a.ck.sm 1 (.mk (⟨#[110, 97, 109, 101]⟩ : ByteArray) (⟨#[120]⟩ : ByteArray) 0 [] 0) (by decide) (by decide)
  have h8 := Wide_ok (L := libQ) (free_of (by kernel_rfl)) rfl 5 (by decide) (by decide)
  have e5 : findF c14a (⟨#[121]⟩ : ByteArray) = some ⟨(⟨#[121]⟩ : ByteArray), 2, 1, 0, 0, (⟨#[105, 110, 116]⟩ : ByteArray)⟩ := by kernel_rfl
  have e6 : valueF (⟨#[99]⟩ : ByteArray) p14a.enums = ((⟨#[101]⟩ : ByteArray), 2, true) := by kernel_rfl
  have e7 : typeF p14a (.mk (⟨#[110, 97, 109, 101]⟩ : ByteArray) (⟨#[120]⟩ : ByteArray) 0 [] 0) = ((⟨#[101]⟩ : ByteArray), 0, 0) := by kernel_rfl
  have e8 : wideF 5 = 3 := by kernel_rfl
  rw [e5] at h5
  rw [e6] at h6
  rw [e7] at h7
  rw [e8] at h8
  have h1 : ∀ σ, callE (EV Tryz.prog libQ) 14 [str (⟨#[101, 110, 117, 109, 32, 101, 32, 123, 32, 97, 44, 32, 98, 44, 32, 99, 32, 125, 32, 118, 97, 114, 32, 120, 58, 32, 101, 59, 32, 118, 97, 114, 32, 121, 58, 32, 105, 110, 116, 59, 32, 109, 97, 105, 110, 32, 123, 32, 120, 32, 61, 32, 98, 59, 32, 121, 32, 61, 32, 49, 59, 32, 125]⟩ : ByteArray)] σ = some (.tup [.agg (pgC p14a), int 63, int 0], σ) := h1
  have h2 : ∀ σ, callE (EV Tryz.prog libQ) 14 [str (⟨#[109, 97, 105, 110, 32, 123, 32, 120, 32, 61, 32, 49, 59, 32, 125]⟩ : ByteArray)] σ = some (.tup [.agg (pgC p14b), int 15, int 0], σ) := h2
  have h3 : ∀ σ, callE (EV Tryz.prog libQ) 25 [.agg (pgC p14a)] σ = some (.tup [.agg [.sl (c14a.vars.map cvR) .unk, int 2, int 1, int 0], int 0, int 0], σ) := h3
  have h4 : ∀ σ, callE (EV Tryz.prog libQ) 25 [.agg (pgC p14b)] σ = some (.tup [.agg [.sl [] .unk, int 0, int 0, int 0], int 7, int 140], σ) := h4
  have h5 : ∀ σ, callE (EV Tryz.prog libQ) 26 [.agg [.sl (c14a.vars.map cvR) .unk, int 2, int 1, int 0], str (⟨#[121]⟩ : ByteArray)] σ = some (.tup [.agg [str (⟨#[121]⟩ : ByteArray), int 2, int 1, int 0, int 0, str (⟨#[105, 110, 116]⟩ : ByteArray)], boo true], σ) := h5
  have h6 : ∀ σ, callE (EV Tryz.prog libQ) 27 [.agg (pgC p14a), str (⟨#[99]⟩ : ByteArray)] σ = some (.tup [str (⟨#[101]⟩ : ByteArray), int 2, boo true], σ) := h6
  have h7 : ∀ σ, callE (EV Tryz.prog libQ) 66 [.agg (pgC p14a), .agg [str (⟨#[110, 97, 109, 101]⟩ : ByteArray), str (⟨#[120]⟩ : ByteArray), int 0, .sl [] .full, int 0]] σ = some (.tup [str (⟨#[101]⟩ : ByteArray), int 0, int 0], σ) := fun σ => (callE_era rfl).trans (h7 σ)
  have h8 : ∀ σ, callE (EV Tryz.prog libQ) 31 [int 5] σ = some (int 3, σ) := h8
  clear e5 e6 e7 e8
  generalize c14a.vars.map cvR = vs at *
  simp only [pgC] at h1 h2 h3 h4 h6 h7
  generalize p14a.enums = a1 at *
  generalize p14a.vars = a2 at *
  generalize p14a.procs = a3 at *
  generalize p14a.main = a4 at *
  generalize p14b.enums = b1 at *
  generalize p14b.vars = b2 at *
  generalize p14b.procs = b3 at *
  generalize p14b.main = b4 at *
  refine call_fn (ids := []) (hl _ (by simp)) Tryz.func24 Tryz.ntmps24 Tryz.results24 (by simp) rfl rfl ⟨_, rfl, by kernel_rfl, ?_⟩
  simp (maxSteps := 1000000) (contextual := true) (implicitDefEqProofs := false) [-decide_eq_true_eq, -decide_eq_false_iff_not, -Bool.not_and, -Bool.not_or, -Bool.and_eq_false_imp, -Int.natCast_add, -setAt, -List.map_take, setAt_eq, h1, h2, h3, h4, h5, h6, h7, h8]
end Go.Proofs.YtfgoedndpcblpaaGreatDoor.Pv
end

section
/- Where variables stand: the plain law. -/
namespace Go.Proofs.YtfgoedndpcblpaaGreatDoor.Pv
open Go Go.Proofs Go.Proofs.YtfgoedndpcblpaaGreatDoor.Lx Go.Proofs.YtfgoedndpcblpaaGreatDoor.Ps
set_option linter.unusedSimpArgs false
set_option linter.unusedVariables false

theorem from_cases (p : Pg) : ∀ (m i : Nat), ((fromF p m i).2.2.2 = 0 ∧ (fromF p m i).1 = laidF p ∧ ∀ j, i ≤ j → j < i + m → (cloF p j).2 = 0) ∨ ((fromF p m i).2.2.2 ≠ 0 ∧ (fromF p m i).1 = zCI)
  | 0, i => .inl ⟨rfl, rfl, fun j h1 h2 => by omega⟩
  | m + 1, i => by
    rw [fromF]
    split
    · rename_i h0
      rcases from_cases p m (i + 1) with ⟨h1, h2, h3⟩ | h
      · refine .inl ⟨h1, h2, fun j hj1 hj2 => ?_⟩
        by_cases e : j = i
        · subst e; exact h0
        · exact h3 j (by omega) (by omega)
      · exact .inr h
    · rename_i h0
      exact .inr ⟨h0, rfl⟩
/-- A program that may be. -/
structure Good (p : Pg) : Prop where
  many : manyF p = 0
  names : namesF p = 0
  types : TypesOk p
  great : greatF p = 0
  stmts : (stmtsF p (allStmts p)).2 = 0
  cycle : cycleF p = 0
  printed : printedF p = 0
  info : (checkF p).1 = laidF p
theorem check_cases (p : Pg) : ((checkF p).2.2 = 0 ∧ Good p) ∨ ((checkF p).2.2 ≠ 0 ∧ (checkF p).1 = zCI) := by
  rcases from_cases p 7 0 with ⟨h1, h2, h3⟩ | h
  · exact .inl ⟨h1, ⟨h3 0 (by omega) (by omega), h3 1 (by omega) (by omega), typesOk_of (h3 2 (by omega) (by omega)), h3 3 (by omega) (by omega), h3 4 (by omega) (by omega), h3 5 (by omega) (by omega), h3 6 (by omega) (by omega), h2⟩⟩
  · exact .inr h
/-- The numbers so far: of bits, whole numbers, arrays. -/
abbrev N3 := Int × Int × Int
def stepV (x : N3) (v : CV) : N3 := if v.kind = 2 then (x.1, x.2.1 + 1, x.2.2) else if v.kind = 3 then (x.1, x.2.1, x.2.2 + 1) else (x.1 + v.wide, x.2.1, x.2.2)
def okV (x : N3) (v : CV) : Prop :=
  (0 ≤ v.wide ∧ v.wide ≤ 3) ∧ (if v.kind = 2 then v.pos = x.2.1 + 1 ∧ v.wide = 0 else if v.kind = 3 then v.pos = x.2.2 ∧ v.wide = 0 ∧ 1 ≤ v.many else v.pos = x.1 ∧ v.many ≤ 2 ^ v.wide.toNat ∧ (0 < v.wide → 2 ^ (v.wide.toNat - 1) < v.many))
def runV : N3 → List CV → Prop
  | _, [] => True
  | x, v :: vs => okV x v ∧ runV (stepV x v) vs
def endV : N3 → List CV → N3
  | x, [] => x
  | x, v :: vs => endV (stepV x v) vs
def num3 (i : CI) : N3 := (i.bits, i.ints, i.arrays)
theorem bits_two : ∀ m : Nat, 1 ≤ m → m ≤ 8 → ((wideF m : Nat) : Int) ≤ 3 ∧ (m : Int) ≤ 2 ^ wideF m ∧ (0 < wideF m → (2 : Int) ^ (wideF m - 1) < m) := by
  intro m h1 h2
  match m, h1, h2 with
  | 1, _, _ => decide
  | 2, _, _ => decide
  | 3, _, _ => decide
  | 4, _, _ => decide
  | 5, _, _ => decide
  | 6, _, _ => decide
  | 7, _, _ => decide
  | 8, _, _ => decide
theorem laidV_ok (p : Pg) (hm : ∀ e ∈ p.enums, 1 ≤ e.l.length ∧ e.l.length ≤ 8) (v : Vr) (ht : typeBad p v = false) (i : CI) : okV (num3 i) (laidV p i v).2 ∧ num3 (laidV p i v).1 = stepV (num3 i) (laidV p i v).2 ∧ (laidV p i v).2.name = v.name ∧ (laidV p i v).1.vars = i.vars := by
  unfold laidV
  split
  · rename_i h0
    refine ⟨⟨by simp, ?_⟩, ?_, rfl, rfl⟩
    · simp [num3]; omega
    · simp [num3, stepV]
  · rename_i h0
    split
    · refine ⟨⟨by simp, ?_⟩, ?_, rfl, rfl⟩
      · simp [num3]
      · simp [num3, stepV]
    · rename_i h1
      split
      · refine ⟨⟨by simp, ?_⟩, ?_, rfl, rfl⟩
        · simp [num3]
        · simp [num3, stepV]
      · rename_i h2
        split
        · rename_i e he
          have hmem := List.mem_of_find?_eq_some he
          obtain ⟨b1, b2⟩ := hm e hmem
          obtain ⟨b3, b4, b5⟩ := bits_two e.l.length b1 b2
          refine ⟨⟨⟨by simp, b3⟩, ?_⟩, ?_, rfl, rfl⟩
          · simp only [num3]
            rw [if_neg (by decide), if_neg (by decide)]
            refine ⟨trivial, by simpa using b4, fun h => ?_⟩
            have := b5 (by simpa using h)
            simpa using this
          · simp [num3, stepV]
        · rename_i he
          exfalso
          unfold typeBad isEnum at ht
          rw [List.find?_eq_none] at he
          have : (p.enums.any fun e => decide (e.name = v.type)) = false := by
            rw [List.any_eq_false]; exact he
          simp [h1, h2, this] at ht
theorem laidS_ok (p : Pg) (hm : ∀ e ∈ p.enums, 1 ≤ e.l.length ∧ e.l.length ≤ 8) : ∀ (vs : List Vr) (i : CI), (∀ v ∈ vs, typeBad p v = false) → ∃ cs, (laidS p vs i).vars = i.vars ++ cs ∧ runV (num3 i) cs ∧ endV (num3 i) cs = num3 (laidS p vs i) ∧ cs.map (·.name) = vs.map (·.name)
  | [], i, _ => ⟨[], by simp [laidS], trivial, rfl, rfl⟩
  | v :: vs, i, h => by
    obtain ⟨h1, h2, h3, h4⟩ := laidV_ok p hm v (h v (List.mem_cons_self ..)) i
    obtain ⟨cs, h5, h6, h7, h8⟩ := laidS_ok p hm vs { (laidV p i v).1 with vars := i.vars ++ [(laidV p i v).2] } (fun v hv => h v (List.mem_cons_of_mem _ hv))
    have e : num3 { (laidV p i v).1 with vars := i.vars ++ [(laidV p i v).2] } = stepV (num3 i) (laidV p i v).2 := h2
    rw [e] at h6 h7
    refine ⟨(laidV p i v).2 :: cs, ?_, ⟨h1, h6⟩, h7, by rw [List.map_cons, List.map_cons, h3, h8]⟩
    rw [laidS, h5]; simp
theorem many_enums {p : Pg} (h : manyF p = 0) : (∀ e ∈ p.enums, 1 ≤ e.l.length ∧ e.l.length ≤ 8) ∧ p.vars.length ≤ 16 ∧ p.enums.length ≤ 16 ∧ p.procs.length ≤ 16 ∧ ∀ v ∈ p.vars, 0 ≤ v.len ∧ v.len ≤ 16 := by
  unfold manyF at h
  split at h
  · rename_i hc
    simp only [Bool.and_eq_true, decide_eq_true_eq, List.all_eq_true] at hc
    exact ⟨hc.1.2, hc.1.1.1.2, hc.1.1.1.1, hc.1.1.2, hc.2⟩
  · cases h
theorem namesS_nodup : ∀ {l met : List ByteArray}, namesS l met = true → l.Nodup ∧ ∀ s ∈ l, s ∉ met
  | [], met, _ => ⟨List.nodup_nil, fun s h => by cases h⟩
  | s :: l, met, h => by
    simp only [namesS, Bool.and_eq_true, Bool.not_eq_true'] at h
    obtain ⟨⟨_, h1⟩, h2⟩ := h
    obtain ⟨h3, h4⟩ := namesS_nodup h2
    have hs : s ∉ met := fun hm => by rw [memB_iff.2 hm] at h1; cases h1
    refine ⟨List.nodup_cons.2 ⟨fun hm => h4 s hm (List.mem_append_right _ (List.mem_singleton.2 rfl)), h3⟩, fun t ht => ?_⟩
    rcases List.mem_cons.1 ht with rfl | ht
    · exact hs
    · exact fun hm => h4 t ht (List.mem_append_left _ hm)
theorem names_nodup {p : Pg} (h : namesF p = 0) : (allNames p).Nodup := by
  unfold namesF at h
  split at h
  · rename_i hc; exact (namesS_nodup hc).1
  · cases h
theorem find_own {f : CV → ByteArray} : ∀ {l : List CV} {v : CV}, (l.map f).Nodup → v ∈ l → l.find? (fun x => decide (f x = f v)) = some v
  | [], v, _, h => by cases h
  | x :: xs, v, hn, h => by
    rw [List.map_cons, List.nodup_cons] at hn
    rcases List.mem_cons.1 h with rfl | h
    · simp
    · have hne : f x ≠ f v := fun e => hn.1 (e ▸ List.mem_map.2 ⟨v, h, rfl⟩)
      rw [List.find?_cons_of_neg (by simpa using hne)]
      exact find_own hn.2 h
theorem laid_law {p : Pg} (hg : Good p) : runV (0, 0, 0) (laidF p).vars ∧ endV (0, 0, 0) (laidF p).vars = num3 (laidF p) ∧ (∀ v ∈ (laidF p).vars, findF (laidF p) v.name = some v) ∧ (laidF p).bits ≤ 12 ∧ (laidF p).ints ≤ 6 ∧ (laidF p).vars.length ≤ 16 := by
  obtain ⟨hm, hv, _⟩ := many_enums hg.many
  obtain ⟨cs, h1, h2, h3, h4⟩ := laidS_ok p hm p.vars zCI (fun v hv => hg.types v hv)
  have e1 : (laidF p).vars = cs := by unfold laidF; rw [h1]; rfl
  rw [e1]
  have hn : (cs.map (·.name)).Nodup := by
    rw [h4]
    have := names_nodup hg.names
    unfold allNames at this
    exact ((List.nodup_append.1 (List.nodup_append.1 this).1).2.1)
  have hgr := hg.great
  unfold greatF at hgr
  split at hgr
  case isFalse => cases hgr
  rename_i hc
  simp only [Bool.and_eq_true, decide_eq_true_eq] at hc
  refine ⟨h2, h3, fun v hv => ?_, hc.1.1, hc.1.2, ?_⟩
  · unfold findF
    rw [e1]
    exact find_own hn hv
  · have := congrArg List.length h4
    simp only [List.length_map] at this
    omega
end Go.Proofs.YtfgoedndpcblpaaGreatDoor.Pv
end

section
/- CheckLaid: the law's function yields true. -/
namespace Go.Proofs.YtfgoedndpcblpaaGreatDoor.Pv
open Go Go.Proofs Go.Proofs.YtfgoedndpcblpaaGreatDoor.Lx Go.Proofs.YtfgoedndpcblpaaGreatDoor.Ps
set_option linter.unusedSimpArgs false
set_option linter.unusedVariables false
variable {L : Lib} {σ : Sto} {T : Base}

/-- Check, and layer 14's try. -/
noncomputable def libZ : Lib := look [(25, checkH), (24, aliveH)] libB
theorem grd_Z (h0 : ∀ f h, libL f = some h → FunOk Tryz.prog T f h) : Grd Tryz.prog libZ T := look_grd (grd_B h0) (fun x hx => by
  simp only [List.mem_cons, List.not_mem_nil, or_false] at hx
  rcases hx with rfl | rfl
  · exact ⟨check_B h0, .inl fun _ _ _ _ => checkH_still⟩
  · refine ⟨told_fun (grd_Q h0).handEV fun args σ r σ' he => ?_, .inl fun args σ r σ' he => ?_⟩
    · dsimp only at he; unfold aliveH at he
      split at he
      · cases he; exact alive14_ok (free_of (by kernel_rfl)) σ
      · cases he
    · dsimp only at he; unfold aliveH at he; split at he <;> cases he; rfl)
theorem alive_told {f : FuncId} (hl : L f = some aliveH) : ∀ σ, callE (EV Tryz.prog L) f [] σ = some (boo true, σ) := call_told hl rfl rfl rfl rfl (fun σ => rfl)
theorem few_of {p : Pg} (h : few14F p = true) : pgN p ≤ 300 := by
  unfold few14F at h
  simp only [Bool.and_eq_true, decide_eq_true_eq] at h
  omega
theorem neq_cv (v : CV) : binE Tryz.prog 56 .neq (.agg (cvC (some v))) (.agg (cvC (some v))) = some (boo false) := by
  have h : eqE Tryz.prog 56 (cvC (some v)) (cvC (some v)) = some true := by
    unfold eqE
    rw [Tryz.underlying56]
    simp only
    rw [if_pos ⟨by kernel_rfl, by kernel_rfl⟩]
    simp [eqFs, Tryz.underlying9, Tryz.underlying3, eqD, cvC]
  simp only [binE, h]
  rfl
set_option maxHeartbeats 4000000 in
theorem laid_law_ok (p : Pg) (hb : bkG p ≤ 1048576) (ho : okG p) (hs : smallP p) : ∀ σ, callE (EV Tryz.prog libZ) 6 [.agg (pgC p)] σ = some (boo true, σ) := by
  intro σ
  have hl : Free libZ [6] := free_of (by kernel_rfl)
  have h1 := few14_ok (L := libZ) (free_of (by kernel_rfl)) p hs
  have h2 := alive_told (L := libZ) (f := 24) rfl
  have h3 := lawProg_ok (L := libZ) (free_of (by kernel_rfl)) p hs
  cases hf : few14F p with
  | false =>
    rw [hf] at h1
    simp only [pgC] at h1
    refine call_fn (ids := []) (hl _ (by simp)) Tryz.func6 Tryz.ntmps6 Tryz.results6 (by simp) rfl rfl ⟨_, rfl, by kernel_rfl, ?_⟩
    simp (maxSteps := 1000000) (contextual := true) (implicitDefEqProofs := false) [-decide_eq_true_eq, -decide_eq_false_iff_not, -Bool.not_and, -Bool.not_or, -Bool.and_eq_false_imp, -Int.natCast_add, -setAt, -List.map_take, setAt_eq, pgC, h1, h2]
  | true =>
    rw [hf] at h1
    have h4 := ck_told (L := libZ) rfl p (Few.ck ⟨hb, few_of hf, ho⟩)
    unfold checkOut at h4
    rcases check_cases p with ⟨hc, hg⟩ | ⟨hc, hz⟩
    · rw [hg.info, hc] at h4
      obtain ⟨k1, k2, k3, k4, k5, k6⟩ := laid_law hg
      have h5 := fun n => Find_ok (L := libZ) (free_of (by kernel_rfl)) (laidF p) (by omega) n
      generalize laidF p = c at *
      clear hg
      generalize (checkF p).2.1 = x at *
      simp only [pgC] at h1 h3 h4
      simp only [ciC] at h4 h5
      refine call_fn (ids := []) (hl _ (by simp)) Tryz.func6 Tryz.ntmps6 Tryz.results6 (by simp) rfl rfl ⟨_, rfl, by kernel_rfl, ?_⟩
      simp (maxSteps := 1000000) (contextual := true) (implicitDefEqProofs := false) [-decide_eq_true_eq, -decide_eq_false_iff_not, -Bool.not_and, -Bool.not_or, -Bool.and_eq_false_imp, -Int.natCast_add, -setAt, -List.map_take, setAt_eq, pgC, h1, h2, h3, h4]
      refine WP.each c.vars (fun rest i s' => ∃ (n : N3) (junk : List Bx), s'.sto = ⟨.cells (pgC p) :: .cells [.sl (c.vars.map cvR) .unk, int c.bits, int c.ints, int c.arrays] :: junk, []⟩ ∧ runV n rest ∧ endV n rest = num3 c ∧ (0 ≤ n.1 ∧ n.1 ≤ 3 * i ∧ 0 ≤ n.2.1 ∧ n.2.1 ≤ i ∧ 0 ≤ n.2.2 ∧ n.2.2 ≤ i) ∧ s'.env 3 = .ptr 1 0 ∧ s'.env 6 = int n.1 ∧ s'.env 7 = int n.2.1 ∧ s'.env 8 = int n.2.2 ∧ s'.env 34 = .sl (c.vars.map cvR) .unk ∧ s'.env 35 = int c.vars.length ∧ s'.env 36 = int i) ⟨(0, 0, 0), [], by simp [pgC], k1, k2, by simp, by simp, by simp, by simp, by simp, by simp, by simp, by simp⟩ ?_ ?_
      · rintro v xs i ⟨env, τ⟩ hx hi hxs ⟨⟨nb, ni, na⟩, junk, j1, hr, he, hn, j2, j3, j4, j5, j6, j7, j8⟩
        simp only at j1 j2 j3 j4 j5 j6 j7 j8 hn
        subst j1
        have hix := row_idx (R := cvR) hx (m := 6) rfl
        have hlt : decide (i < c.vars.length) = true := by simp [hi]
        have hw : IntKind.wrap .i64 ((i : Int) + 1) = ((i + 1 : Nat) : Int) := wrap_succ (by omega)
        have hfv := k3 v (List.mem_of_getElem? hx)
        have h6 := h5 v.name
        rw [hfv] at h6
        have hne := neq_cv v
        simp only [runV] at hr
        obtain ⟨⟨⟨hw0, hw3⟩, hok⟩, hrun⟩ := hr
        rw [endV] at he
        simp only [stepV] at hrun he
        simp only [cvC, Option.isSome] at h6 hne
        obtain ⟨vn, vk, vp, vw, vm, vo⟩ := v
        simp only at hok hrun he h6 hne hw0 hw3
        by_cases hk2 : vk = 2
        · subst hk2
          rw [if_pos rfl] at hok hrun he
          obtain ⟨rfl, rfl⟩ := hok
          have hw2 : IntKind.wrap .i64 (ni + 1) = ni + 1 := wrap_of (by omega)
          simp (maxSteps := 1000000) (contextual := true) (implicitDefEqProofs := false) [-decide_eq_true_eq, -decide_eq_false_iff_not, -Bool.not_and, -Bool.not_or, -Bool.and_eq_false_imp, -Int.natCast_add, -setAt, -List.map_take, setAt_eq, pgC, j2, j3, j4, j5, j6, j7, j8, hlt, hix, hw, hw2, cvR, h6, hne]
          exact ⟨nb, ni + 1, na, hrun, he, ⟨by omega, by omega, by omega, by omega, by omega, by omega⟩, rfl, rfl, rfl⟩
        · rw [if_neg hk2] at hok hrun he
          have hd2 : decide (vk = 2) = false := decide_eq_false hk2
          by_cases hk3 : vk = 3
          · subst hk3
            rw [if_pos rfl] at hok hrun he
            obtain ⟨rfl, rfl, hm1⟩ := hok
            have hw2 : IntKind.wrap .i64 (vp + 1) = vp + 1 := wrap_of (by omega)
            have hd4 : decide (vm < 1) = false := decide_eq_false (by omega)
            simp (maxSteps := 1000000) (contextual := true) (implicitDefEqProofs := false) [-decide_eq_true_eq, -decide_eq_false_iff_not, -Bool.not_and, -Bool.not_or, -Bool.and_eq_false_imp, -Int.natCast_add, -setAt, -List.map_take, setAt_eq, pgC, j2, j3, j4, j5, j6, j7, j8, hlt, hix, hw, hw2, cvR, h6, hne, hd4]
            exact ⟨nb, ni, vp + 1, hrun, he, ⟨by omega, by omega, by omega, by omega, by omega, by omega⟩, rfl, rfl, rfl⟩
          · rw [if_neg hk3] at hok hrun he
            have hd3 : decide (vk = 3) = false := decide_eq_false hk3
            obtain ⟨rfl, hm1, hm2⟩ := hok
            have hw2 : IntKind.wrap .i64 (vp + vw) = vp + vw := wrap_of (by omega)
            have s1 : ∀ t, binE Tryz.prog t .shl (int 1) (int vw) = some (int (2 ^ vw.toNat)) := fun t => by
              rw [bin_shl (by omega)]
              have : vw = 0 ∨ vw = 1 ∨ vw = 2 ∨ vw = 3 := by omega
              rcases this with rfl | rfl | rfl | rfl <;> rfl
            have s2 : ∀ t, 0 < vw → binE Tryz.prog t .shl (int 1) (int (vw - 1)) = some (int (2 ^ (vw.toNat - 1))) := fun t h => by
              rw [bin_shl (by omega)]
              have : vw = 1 ∨ vw = 2 ∨ vw = 3 := by omega
              rcases this with rfl | rfl | rfl <;> rfl
            have hd4 : decide (2 ^ vw.toNat < vm) = false := decide_eq_false (by omega)
            by_cases hw0' : 0 < vw
            · have hd5 : decide (0 < vw) = true := decide_eq_true hw0'
              have s2' := fun t => s2 t hw0'
              have hw6 : IntKind.wrap .i64 (vw - 1) = vw - 1 := wrap_of (by omega)
              have hd6 : decide (vm ≤ 2 ^ (vw.toNat - 1)) = false := decide_eq_false (by have := hm2 hw0'; omega)
              simp (maxSteps := 1000000) (contextual := true) (implicitDefEqProofs := false) [-decide_eq_true_eq, -decide_eq_false_iff_not, -Bool.not_and, -Bool.not_or, -Bool.and_eq_false_imp, -Int.natCast_add, -setAt, -List.map_take, setAt_eq, pgC, j2, j3, j4, j5, j6, j7, j8, hlt, hix, hw, hw2, hd2, hd3, cvR, h6, hne, s1, s2', hd4, hd5, hw6, hd6]
              exact ⟨vp + vw, ni, na, hrun, he, ⟨by omega, by omega, by omega, by omega, by omega, by omega⟩, rfl, rfl, rfl⟩
            · have hd5 : decide (0 < vw) = false := decide_eq_false hw0'
              simp (maxSteps := 1000000) (contextual := true) (implicitDefEqProofs := false) [-decide_eq_true_eq, -decide_eq_false_iff_not, -Bool.not_and, -Bool.not_or, -Bool.and_eq_false_imp, -Int.natCast_add, -setAt, -List.map_take, setAt_eq, pgC, j2, j3, j4, j5, j6, j7, j8, hlt, hix, hw, hw2, hd2, hd3, cvR, h6, hne, s1, hd4, hd5]
              exact ⟨vp + vw, ni, na, hrun, he, ⟨by omega, by omega, by omega, by omega, by omega, by omega⟩, rfl, rfl, rfl⟩
      · rintro ⟨env, τ⟩ ⟨⟨nb, ni, na⟩, junk, j1, hr, he, hn, j2, j3, j4, j5, j6, j7, j8⟩
        simp only at j1 j2 j3 j4 j5 j6 j7 j8
        subst j1
        simp only [endV, num3, Prod.mk.injEq] at he
        obtain ⟨rfl, rfl, rfl⟩ := he
        simp (maxSteps := 1000000) (contextual := true) (implicitDefEqProofs := false) [-decide_eq_true_eq, -decide_eq_false_iff_not, -Bool.not_and, -Bool.not_or, -Bool.and_eq_false_imp, -Int.natCast_add, -setAt, -List.map_take, setAt_eq, pgC, h2, j2, j3, j4, j5, j6, j7, j8]
        exact ⟨decide_eq_true k4, decide_eq_true k5⟩
    · rw [hz] at h4
      generalize (checkF p).2.1 = x at *
      generalize (checkF p).2.2 = y at *
      simp only [pgC] at h1 h3 h4
      simp only [ciC, zCI, List.map_nil] at h4
      have hd : decide (y = 0) = false := decide_eq_false hc
      refine call_fn (ids := []) (hl _ (by simp)) Tryz.func6 Tryz.ntmps6 Tryz.results6 (by simp) rfl rfl ⟨_, rfl, by kernel_rfl, ?_⟩
      simp (maxSteps := 1000000) (contextual := true) (implicitDefEqProofs := false) [-decide_eq_true_eq, -decide_eq_false_iff_not, -Bool.not_and, -Bool.not_or, -Bool.and_eq_false_imp, -Int.natCast_add, -setAt, -List.map_take, setAt_eq, pgC, h1, h2, h3, h4, hd]
end Go.Proofs.YtfgoedndpcblpaaGreatDoor.Pv
end

section
/- The document's Find. -/
namespace Go.Proofs.YtfgoedndpcblpaaGreatDoor.Pv
open Go Go.Proofs Go.Proofs.YtfgoedndpcblpaaGreatDoor.Lx Go.Proofs.YtfgoedndpcblpaaGreatDoor.Ps
set_option linter.unusedSimpArgs false
set_option linter.unusedVariables false
variable {L : Lib} {σ : Sto}

theorem refFind_ok (hl : Free L [29]) (c : CI) (hc : c.vars.length < 274877906944) (n : ByteArray) : ∀ σ, callE (EV Tryz.prog L) 29 [.agg (ciC c), str n] σ = some (int (idxP (fun v : CV => decide (v.name = n)) c.vars 0), σ) := by
  intro σ
  generalize hres : idxP (fun v : CV => decide (v.name = n)) c.vars 0 = res
  refine call_fn (ids := []) (hl _ (by simp)) Tryz.func29 Tryz.ntmps29 Tryz.results29 (by simp) rfl rfl ⟨_, rfl, by kernel_rfl, ?_⟩
  simp (maxSteps := 1000000) (contextual := true) (implicitDefEqProofs := false) [-decide_eq_true_eq, -decide_eq_false_iff_not, -Bool.not_and, -Bool.not_or, -Bool.and_eq_false_imp, -Int.natCast_add, -setAt, -List.map_take, setAt_eq, ciC]
  refine WP.each c.vars (fun rest i s' => s'.sto = ⟨[.cells (ciC c)], []⟩ ∧ s'.env 1 = str n ∧ s'.env 2 = .ptr 0 0 ∧ s'.env 5 = int i ∧ idxP (fun v : CV => decide (v.name = n)) rest i = res) ⟨by simp [ciC], by simp, by simp, by simp, hres⟩ ?_ ?_
  · rintro x xs i ⟨env, τ⟩ hx hii hxs ⟨h1, h2, h3, h5, h6⟩
    simp only at h1 h2 h3 h5
    subst h1
    have hix := row_idx (R := cvR) hx (m := 6) rfl
    have hlt : decide (i < c.vars.length) = true := by simp [hii]
    have hw : IntKind.wrap .i64 ((i : Int) + 1) = ((i + 1 : Nat) : Int) := wrap_succ (by omega)
    simp only [idxP] at h6
    by_cases hn : x.name = n
    · rw [if_pos (by simp [hn])] at h6
      rw [← h6]
      simp (maxSteps := 1000000) (contextual := true) (implicitDefEqProofs := false) [-decide_eq_true_eq, -decide_eq_false_iff_not, -Bool.not_and, -Bool.not_or, -Bool.and_eq_false_imp, -Int.natCast_add, -setAt, -List.map_take, setAt_eq, ciC, h2, h3, h5, hlt, hix, hw, cvR, hn]
    · rw [if_neg (by simp [hn])] at h6
      simp (maxSteps := 1000000) (contextual := true) (implicitDefEqProofs := false) [-decide_eq_true_eq, -decide_eq_false_iff_not, -Bool.not_and, -Bool.not_or, -Bool.and_eq_false_imp, -Int.natCast_add, -setAt, -List.map_take, setAt_eq, ciC, h2, h3, h5, hlt, hix, hw, cvR, hn]
      exact h6
  · rintro ⟨env, τ⟩ ⟨h1, h2, h3, h5, h6⟩
    simp only at h1 h2 h3 h5
    subst h1
    simp only [idxP] at h6
    rw [← h6]
    simp (maxSteps := 1000000) (contextual := true) (implicitDefEqProofs := false) [-decide_eq_true_eq, -decide_eq_false_iff_not, -Bool.not_and, -Bool.not_or, -Bool.and_eq_false_imp, -Int.natCast_add, -setAt, -List.map_take, setAt_eq, ciC, h2, h3, h5]
theorem wide_iff (n : Int) (w : Nat) : w < wideF n ↔ ((2 ^ w : Nat) : Int) < n := by
  unfold wideF bitsN
  have hp : 1 ≤ 2 ^ w := Nat.one_le_two_pow
  split
  · rename_i h0
    constructor
    · intro h; omega
    · intro h; omega
  · rename_i h0
    rw [Nat.lt_succ_iff, Nat.le_log2 h0]
    omega
theorem refWide_ok (hl : Free L [32]) (n : Int) (h2 : n ≤ 1152921504606846976) : ∀ σ, callE (EV Tryz.prog L) 32 [int n] σ = some (int (wideF n : Nat), σ) := by
  intro σ
  have hW : wideF n ≤ 60 := by
    apply Nat.le_of_not_lt
    intro h
    have := (wide_iff n 60).1 h
    have e : (2 : Nat) ^ 60 = 1152921504606846976 := by decide
    omega
  refine call_fn (ids := []) (hl _ (by simp)) Tryz.func32 Tryz.ntmps32 Tryz.results32 (by simp) rfl rfl ⟨_, rfl, by kernel_rfl, ?_⟩
  simp (maxSteps := 1000000) (contextual := true) (implicitDefEqProofs := false) [-decide_eq_true_eq, -decide_eq_false_iff_not, -Bool.not_and, -Bool.not_or, -Bool.and_eq_false_imp, -Int.natCast_add, -setAt, -List.map_take, setAt_eq]
  refine WP.loop (fun m s' => ∃ w, m = 62 - w ∧ w ≤ wideF n ∧ s'.sto = ⟨[], []⟩ ∧ s'.env 0 = int n ∧ s'.env 3 = int (w : Nat) ∧ s'.env 4 = int ((2 ^ w : Nat) : Int)) 62 ⟨0, by simp⟩ ?_
  rintro m ⟨env, τ⟩ ⟨w, rfl, hw, h1, h3, h4, h5⟩
  simp only at h1 h3 h4 h5
  subst h1
  have hpw : 2 ^ w ≤ 2 ^ 60 := Nat.pow_le_pow_right (by omega) (by omega)
  have e60 : (2 : Nat) ^ 60 = 1152921504606846976 := by decide
  have hw62 : decide ((w : Int) < 62) = true := by simp; omega
  have hwr : IntKind.wrap .i64 ((w : Int) + 1) = ((w + 1 : Nat) : Int) := wrap_succ (by omega)
  have hmul : IntKind.wrap .i64 (((2 ^ w : Nat) : Int) * 2) = ((2 ^ (w + 1) : Nat) : Int) := by
    have e1 : (((2 ^ w : Nat) : Int) * 2) = ((2 ^ (w + 1) : Nat) : Int) := by rw [Nat.pow_succ]; omega
    have e2 : 2 ^ (w + 1) ≤ 2 ^ 61 := Nat.pow_le_pow_right (by omega) (by omega)
    have e61 : (2 : Nat) ^ 61 = 2305843009213693952 := by decide
    rw [e1]
    generalize 2 ^ (w + 1) = q at *
    exact wrap_of (by omega)
  have hiff := wide_iff n w
  generalize 2 ^ w = pw at *
  by_cases hc : (pw : Int) < n
  · simp (maxSteps := 1000000) (contextual := true) (implicitDefEqProofs := false) [-decide_eq_true_eq, -decide_eq_false_iff_not, -Bool.not_and, -Bool.not_or, -Bool.and_eq_false_imp, -Int.natCast_add, -setAt, -List.map_take, setAt_eq, h3, h4, h5, hc, hw62, hwr, hmul]
    have := hiff.2 hc
    exact ⟨62 - (w + 1), by omega, w + 1, rfl, by omega, rfl, rfl⟩
  · simp (maxSteps := 1000000) (contextual := true) (implicitDefEqProofs := false) [-decide_eq_true_eq, -decide_eq_false_iff_not, -Bool.not_and, -Bool.not_or, -Bool.and_eq_false_imp, -Int.natCast_add, -setAt, -List.map_take, setAt_eq, h3, h4, h5, hc]
    have := fun h => hc (hiff.1 h)
    omega
theorem old_ok (hl : Free L [30]) (c : CI) (hc : c.vars.length < 274877906944) : ∀ σ, callE (EV Tryz.prog L) 30 [.agg (ciC c)] σ = some (.agg (ciC c), σ) := by
  intro σ
  refine call_fn (ids := []) (hl _ (by simp)) Tryz.func30 Tryz.ntmps30 Tryz.results30 (by simp) rfl rfl ⟨_, rfl, by kernel_rfl, ?_⟩
  simp (maxSteps := 1000000) (contextual := true) (implicitDefEqProofs := false) [-decide_eq_true_eq, -decide_eq_false_iff_not, -Bool.not_and, -Bool.not_or, -Bool.and_eq_false_imp, -Int.natCast_add, -setAt, -List.map_take, setAt_eq, ciC]
  refine WP.each c.vars (fun rest i s' => ∃ (tag : Tag) (gr : List (Nat × Nat)) (junk : List Bx), s'.sto = ⟨.cells (ciC c) :: .cells [.sl [] .full, int 0, int 0, int 0] :: .cells [.sl ((c.vars.take i).map cvR) tag, int c.bits, int c.ints, int c.arrays] :: junk, gr⟩ ∧ Own 6 gr ((c.vars.take i).map cvR) tag ∧ s'.env 1 = .ptr 0 0 ∧ s'.env 2 = .ptr 1 0 ∧ s'.env 3 = .ptr 2 0 ∧ s'.env 14 = .sl (c.vars.map cvR) .unk ∧ s'.env 15 = int c.vars.length ∧ s'.env 16 = int i) ⟨.full, [], [], by simp [ciC], .nil, by simp, by simp, by simp, by simp, by simp, by simp⟩ ?_ ?_
  · rintro x xs i ⟨env, τ⟩ hx hii hxs ⟨tag, gr, junk, h1, ho, h2, h3, h4, h5, h6, h7⟩
    simp only at h1 h2 h3 h4 h5 h6 h7
    subst h1
    have hix := row_idx (R := cvR) hx (m := 6) rfl
    have hlt : decide (i < c.vars.length) = true := by simp [hii]
    have hw : IntKind.wrap .i64 ((i : Int) + 1) = ((i + 1 : Nat) : Int) := wrap_succ (by omega)
    obtain ⟨tag', gr', ha, ho', _⟩ := own_snoc (R := cvR) (b := 64) hx hii (fun _ => rfl) ho (by omega)
    simp only [cvR] at ha
    simp (maxSteps := 1000000) (contextual := true) (implicitDefEqProofs := false) [-decide_eq_true_eq, -decide_eq_false_iff_not, -Bool.not_and, -Bool.not_or, -Bool.and_eq_false_imp, -Int.natCast_add, -setAt, -List.map_take, setAt_eq, ciC, h2, h3, h4, h5, h6, h7, hlt, hix, hw, cvR, ha]
    exact ⟨tag', gr', ⟨rfl, rfl⟩, ho'⟩
  · rintro ⟨env, τ⟩ ⟨tag, gr, junk, h1, ho, h2, h3, h4, h5, h6, h7⟩
    simp only at h1 h2 h3 h4 h5 h6 h7
    subst h1
    rw [List.take_length] at ho ⊢
    simp (maxSteps := 1000000) (contextual := true) (implicitDefEqProofs := false) [-decide_eq_true_eq, -decide_eq_false_iff_not, -Bool.not_and, -Bool.not_or, -Bool.and_eq_false_imp, -Int.natCast_add, -setAt, -List.map_take, setAt_eq, ciC, h2, h3, h4, h5, h6, h7]
end Go.Proofs.YtfgoedndpcblpaaGreatDoor.Pv
end

section
/- The document's Value. -/
namespace Go.Proofs.YtfgoedndpcblpaaGreatDoor.Pv
open Go Go.Proofs Go.Proofs.YtfgoedndpcblpaaGreatDoor.Lx Go.Proofs.YtfgoedndpcblpaaGreatDoor.Ps
set_option linter.unusedSimpArgs false
set_option linter.unusedVariables false
variable {L : Lib} {σ : Sto}

theorem refValue_ok (hl : Free L [28]) (p : Pg) (hp : smallP p) (n : ByteArray) : ∀ σ, callE (EV Tryz.prog L) 28 [.agg (pgC p), str n] σ = some (.tup [str (valueF n p.enums).1, int (valueF n p.enums).2.1, boo (valueF n p.enums).2.2], σ) := by
  intro σ
  obtain ⟨hle, hlv, hlp⟩ := hp.lens
  have hs : ∀ e ∈ p.enums, e.l.length < 274877906944 := fun e h => by
    have := sum_mem (fun e : En => e.l.length) p.enums e h
    unfold smallP bulkP at hp; omega
  generalize hres : valueF n p.enums = res
  refine call_fn (ids := []) (hl _ (by simp)) Tryz.func28 Tryz.ntmps28 Tryz.results28 (by simp) rfl rfl ⟨_, rfl, by kernel_rfl, ?_⟩
  simp (maxSteps := 1000000) (contextual := true) (implicitDefEqProofs := false) [-decide_eq_true_eq, -decide_eq_false_iff_not, -Bool.not_and, -Bool.not_or, -Bool.and_eq_false_imp, -Int.natCast_add, -setAt, -List.map_take, setAt_eq, pgC]
  refine WP.each p.enums (fun rest i s' => s'.sto = ⟨[.cells (pgC p)], []⟩ ∧ s'.env 1 = str n ∧ s'.env 2 = .ptr 0 0 ∧ s'.env 7 = int i ∧ valueF n rest = res) ⟨by simp [pgC], by simp, by simp, by simp, hres⟩ ?_ ?_
  · rintro x xs i ⟨env, τ⟩ hx hii hxs ⟨h1, h2, h3, h5, h6⟩
    simp only at h1 h2 h3 h5
    subst h1
    have hix := row_idx (R := enR) hx (m := 2) rfl
    have hlt : decide (i < p.enums.length) = true := by simp [hii]
    have hw : IntKind.wrap .i64 ((i : Int) + 1) = ((i + 1 : Nat) : Int) := wrap_succ (by omega)
    have hxl := hs x (List.mem_of_getElem? hx)
    simp only [valueF] at h6
    simp (maxSteps := 1000000) (contextual := true) (implicitDefEqProofs := false) [-decide_eq_true_eq, -decide_eq_false_iff_not, -Bool.not_and, -Bool.not_or, -Bool.and_eq_false_imp, -Int.natCast_add, -setAt, -List.map_take, setAt_eq, pgC, h2, h3, h5, hlt]
    refine WP.each x.l (fun rest k s' => s'.sto = ⟨[.cells (pgC p)], []⟩ ∧ s'.env 1 = str n ∧ s'.env 2 = .ptr 0 0 ∧ s'.env 7 = int i ∧ s'.env 8 = int k ∧ idxS n rest k = idxS n x.l 0) ⟨by simp [pgC], by simp [h2], by simp [h3], by simp [h5], by simp, rfl⟩ ?_ ?_
    · rintro y ys k ⟨env2, τ2⟩ hy hkk hys ⟨g1, g2, g3, g5, g6, g7⟩
      simp only at g1 g2 g3 g5 g6
      subst g1
      have hiy := row_idx (R := strR) hy (m := 1) rfl
      have hlk : decide (k < x.l.length) = true := by simp [hkk]
      have hwk : IntKind.wrap .i64 ((k : Int) + 1) = ((k + 1 : Nat) : Int) := wrap_succ (by omega)
      simp only [idxS] at g7
      by_cases hn : n = y
      · rw [if_pos hn] at g7
        rw [← g7, if_pos (by omega)] at h6
        rw [← h6]
        simp (maxSteps := 1000000) (contextual := true) (implicitDefEqProofs := false) [-decide_eq_true_eq, -decide_eq_false_iff_not, -Bool.not_and, -Bool.not_or, -Bool.and_eq_false_imp, -Int.natCast_add, -setAt, -List.map_take, setAt_eq, pgC, g2, g3, g5, g6, hix, enR, hlk, hiy, strR, hn]
      · rw [if_neg hn] at g7
        have hn' : ¬ y = n := fun h => hn h.symm
        simp (maxSteps := 1000000) (contextual := true) (implicitDefEqProofs := false) [-decide_eq_true_eq, -decide_eq_false_iff_not, -Bool.not_and, -Bool.not_or, -Bool.and_eq_false_imp, -Int.natCast_add, -setAt, -List.map_take, setAt_eq, pgC, g2, g3, g5, g6, hix, enR, hlk, hiy, strR, hn', hwk]
        exact g7
    · rintro ⟨env2, τ2⟩ ⟨g1, g2, g3, g5, g6, g7⟩
      simp only at g1 g2 g3 g5 g6
      subst g1
      simp only [idxS] at g7
      rw [← g7, if_neg (by omega)] at h6
      simp (maxSteps := 1000000) (contextual := true) (implicitDefEqProofs := false) [-decide_eq_true_eq, -decide_eq_false_iff_not, -Bool.not_and, -Bool.not_or, -Bool.and_eq_false_imp, -Int.natCast_add, -setAt, -List.map_take, setAt_eq, pgC, g2, g3, g5, g6, hix, enR, hw]
      exact h6
  · rintro ⟨env, τ⟩ ⟨h1, h2, h3, h5, h6⟩
    simp only at h1 h2 h3 h5
    subst h1
    simp only [valueF] at h6
    rw [← h6]
    simp (maxSteps := 1000000) (contextual := true) (implicitDefEqProofs := false) [-decide_eq_true_eq, -decide_eq_false_iff_not, -Bool.not_and, -Bool.not_or, -Bool.and_eq_false_imp, -Int.natCast_add, -setAt, -List.map_take, setAt_eq, pgC, h2, h3, h5]
end Go.Proofs.YtfgoedndpcblpaaGreatDoor.Pv
end

section
/- CheckValues: the law's function yields true. -/
namespace Go.Proofs.YtfgoedndpcblpaaGreatDoor.Pv
open Go Go.Proofs Go.Proofs.YtfgoedndpcblpaaGreatDoor.Lx Go.Proofs.YtfgoedndpcblpaaGreatDoor.Ps
set_option linter.unusedSimpArgs false
set_option linter.unusedVariables false
variable {L : Lib} {σ : Sto} {T : Base}

theorem find_idx {α : Type} (h : α → Bool) : ∀ (l : List α) (i : Nat), (l.find? h = none ∧ idxP h l i = -1) ∨ ∃ j v, l[j]? = some v ∧ l.find? h = some v ∧ idxP h l i = ((i + j : Nat) : Int)
  | [], i => .inl ⟨rfl, rfl⟩
  | x :: xs, i => by
    simp only [idxP]
    by_cases hx : h x = true
    · exact .inr ⟨0, x, rfl, by rw [List.find?_cons_of_pos hx], by rw [if_pos hx]; rfl⟩
    · rw [if_neg hx, List.find?_cons_of_neg hx]
      rcases find_idx h xs (i + 1) with h1 | ⟨j, v, h1, h2, h3⟩
      · exact .inl h1
      · exact .inr ⟨j + 1, v, h1, h2, by rw [h3]; congr 1; omega⟩
theorem eql_cv (v : CV) : binE Tryz.prog 68 .eql (.agg (cvC (some v))) (.agg (cvC (some v))) = some (boo true) := by
  have h : eqE Tryz.prog 68 (cvC (some v)) (cvC (some v)) = some true := by
    unfold eqE
    rw [Tryz.underlying68]
    simp only
    rw [if_pos ⟨by kernel_rfl, by kernel_rfl⟩]
    simp [eqFs, Tryz.underlying9, Tryz.underlying3, eqD, cvC]
  simp only [binE, h]
  rfl
set_option maxHeartbeats 4000000 in
theorem values_law_ok (p : Pg) (n : ByteArray) (many : Int) (hm : okI many) (hb : bkG p ≤ 1048576) (ho : okG p) (hs : smallP p) : ∀ σ, callE (EV Tryz.prog libZ) 7 [.agg (pgC p), str n, int many] σ = some (boo true, σ) := by
  intro σ
  have hl : Free libZ [7] := free_of (by kernel_rfl)
  have h1 := few14_ok (L := libZ) (free_of (by kernel_rfl)) p hs
  have h2 := alive_told (L := libZ) (f := 24) rfl
  have h3 := lawProg_ok (L := libZ) (free_of (by kernel_rfl)) p hs
  cases hf : few14F p with
  | false =>
    rw [hf] at h1
    simp only [pgC] at h1
    refine call_fn (ids := []) (hl _ (by simp)) Tryz.func7 Tryz.ntmps7 Tryz.results7 (by simp) rfl rfl ⟨_, rfl, by kernel_rfl, ?_⟩
    simp (maxSteps := 1000000) (contextual := true) (implicitDefEqProofs := false) [-decide_eq_true_eq, -decide_eq_false_iff_not, -Bool.not_and, -Bool.not_or, -Bool.and_eq_false_imp, -Int.natCast_add, -setAt, -List.map_take, setAt_eq, pgC, h1, h2]
  | true =>
    rw [hf] at h1
    by_cases hmx : 1152921504606846976 < many
    · have hd : decide (1152921504606846976 < many) = true := decide_eq_true hmx
      simp only [pgC] at h1
      refine call_fn (ids := []) (hl _ (by simp)) Tryz.func7 Tryz.ntmps7 Tryz.results7 (by simp) rfl rfl ⟨_, rfl, by kernel_rfl, ?_⟩
      simp (maxSteps := 1000000) (contextual := true) (implicitDefEqProofs := false) [-decide_eq_true_eq, -decide_eq_false_iff_not, -Bool.not_and, -Bool.not_or, -Bool.and_eq_false_imp, -Int.natCast_add, -setAt, -List.map_take, setAt_eq, pgC, h1, h2, hd]
    have hd : decide (1152921504606846976 < many) = false := decide_eq_false hmx
    have h4 := ck_told (L := libZ) rfl p (Few.ck ⟨hb, few_of hf, ho⟩)
    have hcl : (checkF p).1.vars.length < 274877906944 := by
      rcases check_cases p with ⟨hc, hg⟩ | ⟨hc, hz⟩
      · rw [hg.info]; have := (laid_law hg).2.2.2.2.2; omega
      · rw [hz]; decide
    unfold checkOut at h4
    have h5 := Value_ok (L := libZ) (free_of (by kernel_rfl)) p hs n
    have h6 := refValue_ok (L := libZ) (free_of (by kernel_rfl)) p hs n
    have h7 := Find_ok (L := libZ) (free_of (by kernel_rfl)) (checkF p).1 hcl n
    have h8 := refFind_ok (L := libZ) (free_of (by kernel_rfl)) (checkF p).1 hcl n
    have h9 := old_ok (L := libZ) (free_of (by kernel_rfl)) (checkF p).1 hcl
    have h10 := Wide_ok (L := libZ) (free_of (by kernel_rfl)) rfl many hm.1 hm.2
    have h11 := refWide_ok (L := libZ) (free_of (by kernel_rfl)) many (by omega)
    generalize (checkF p).1 = c at *
    generalize (checkF p).2.1 = x at *
    generalize (checkF p).2.2 = y at *
    generalize valueF n p.enums = z at *
    obtain ⟨z1, z2, z3⟩ := z
    generalize wideF many = wd at *
    simp only [pgC] at h1 h3 h4 h5 h6
    unfold findF at h7
    have hbq : ∀ b : Bool, binE Tryz.prog 4 .eql (boo b) (boo b) = some (boo true) := fun b => by rw [bin_beq Tryz.underlying4]; simp
    rcases find_idx (fun v : CV => decide (v.name = n)) c.vars 0 with ⟨q1, q2⟩ | ⟨j, v, q0, q1, q2⟩
    · rw [q1] at h7
      rw [q2] at h8
      simp only [cvC, Option.isSome, ciC] at h4 h7 h8 h9
      refine call_fn (ids := []) (hl _ (by simp)) Tryz.func7 Tryz.ntmps7 Tryz.results7 (by simp) rfl rfl ⟨_, rfl, by kernel_rfl, ?_⟩
      simp (maxSteps := 1000000) (contextual := true) (implicitDefEqProofs := false) [-decide_eq_true_eq, -decide_eq_false_iff_not, -Bool.not_and, -Bool.not_or, -Bool.and_eq_false_imp, -Int.natCast_add, -setAt, -List.map_take, setAt_eq, pgC, h1, h2, h3, h4, h5, h6, h7, h8, h9, h10, h11, hd, hbq]
    · rw [q1] at h7
      rw [q2, Nat.zero_add] at h8
      have hix : idx 6 (c.vars.map cvR) (j : Int) = some (.el (cvR v) 0) := row_idx (R := cvR) q0 rfl
      have heq := eql_cv v
      simp only [cvC, Option.isSome, ciC] at h4 h7 h8 h9 heq
      refine call_fn (ids := []) (hl _ (by simp)) Tryz.func7 Tryz.ntmps7 Tryz.results7 (by simp) rfl rfl ⟨_, rfl, by kernel_rfl, ?_⟩
      simp (maxSteps := 1000000) (contextual := true) (implicitDefEqProofs := false) [-decide_eq_true_eq, -decide_eq_false_iff_not, -Bool.not_and, -Bool.not_or, -Bool.and_eq_false_imp, -Int.natCast_add, -setAt, -List.map_take, setAt_eq, pgC, h1, h2, h3, h4, h5, h6, h7, h8, h9, h10, h11, hd, hbq, hix, heq, cvR]
end Go.Proofs.YtfgoedndpcblpaaGreatDoor.Pv
end

section
namespace Go.Proofs.YtfgoedndpcblpaaGreatDoor.checkValuesUpto
open Go.ChangeShapes Go.WideShapes Go.ChangeAt Go.RowKit
open Go.ChangeMaps (open_string shut_string)
set_option linter.unusedVariables false

theorem reads (os : Os) {H : Type} (enc : TypeId × Value → H) : ∃ places, DataW.whole enc Tryz.prog ((laidWorld os).forCall (fun _ _ => 0) ⟨#[], #[.agg #[.slice none 0 0, .slice none 0 0, .slice none 0 0, .slice none 0 0], .string ByteArray.empty, .int .i64 0], []⟩).memory Tryz.f7.params.toList Rows.checkValuesSpec.vars false (#[.agg #[.slice none 0 0, .slice none 0 0, .slice none 0 0, .slice none 0 0], .string ByteArray.empty, .int .i64 0] : Array Value).toList 8 = some ([.agg [.nil, .nil, .nil, .nil], .lit (.string []), .lit (.int .i64 0)], [], places) :=
  ⟨[], by kernel_rfl⟩

set_option maxRecDepth 100000 in
theorem lifted (os : Os) (started : os.Started) (H : Type) (enc : TypeId × Value → H) (F : Stop.Interp) :
    ReturnsInHanded {} Tryz.checked os 7 .any ((Rows.OpenSpec.upto Rows.checkValuesSpec).preRow enc Tryz.prog Tryz.f7 Rows.checkValuesUptoRow.domain false Rows.checkValuesUptoRow.laid) (((Rows.OpenSpec.upto Rows.checkValuesSpec).at F).post enc Tryz.prog Tryz.f7 false true false false) := by
  obtain ⟨places, hx⟩ := reads os enc
  refine returnsInHanded_of_row (C := Tryz.checked) (s := (Rows.OpenSpec.upto Rows.checkValuesSpec)) own started (by kernel_rfl) Tryz.func7
    (witness_row_atRef (enc := enc) (C := Tryz.checked) false (laidWorld os) #[.agg #[.slice none 0 0, .slice none 0 0, .slice none 0 0, .slice none 0 0], .string ByteArray.empty, .int .i64 0] rfl (by kernel_rfl) (by kernel_rfl) (by kernel_rfl)
      (OpenSpec.preRow_of_cond 8 hx (by kernel_rfl) (fun k hk => by cases hk; kernel_rfl) (by kernel_rfl) (laid_met os _))) ?_
  intro W base args ds gs before hval0 hW _ hcond hsz0 hL _ _
  have hval : ∀ (j : Nat) t v, Tryz.f7.params[j]? = some t → args[j]? = some v → Value.okWide Tryz.prog W .any base t v := hval0
  have hW' := hW
  obtain ⟨p, q, hA0, hV, rfl, hfz, hnd⟩ := hW
  have hA : DataW.TrodAll enc Tryz.prog W 0 (fun _ => true) true Tryz.f7.params.toList args.toList ds p := hA0
  rw [Tryz.params7] at hA hval
  obtain ⟨v0, vs0, d0, ds0, p0, q0, hargs, rfl, rfl, h0, r0⟩ := trodAll_cons hA
  obtain ⟨v1, vs1, d1, ds1, p1, q1, rfl, rfl, rfl, h1, r1⟩ := trodAll_cons r0
  obtain ⟨v2, vs2, d2, ds2, p2, q2, rfl, rfl, rfl, h2, r2⟩ := trodAll_cons r1
  obtain ⟨rfl, rfl, rfl⟩ := trodAll_nil r2
  obtain rfl : args = #[v0, v1, v2] := by cases args; simp_all
  obtain ⟨rfl, rfl⟩ := trodVars_none hV
  have lt0 : ∀ x ∈ p0, x.block < W.heap.size := by obtain ⟨m, hm⟩ := h0; exact DataW.trod_lt m _ _ _ hm
  have lt1 : ∀ x ∈ p1, x.block < W.heap.size := by obtain ⟨m, hm⟩ := h1; exact DataW.trod_lt m _ _ _ hm
  have lt2 : ∀ x ∈ p2, x.block < W.heap.size := by obtain ⟨m, hm⟩ := h2; exact DataW.trod_lt m _ _ _ hm
  have hr0 := h0
  obtain ⟨m0, hm0⟩ := hr0
  have hT : TabT W := tabs hL
  obtain ⟨cs0, rfl, _⟩ := okWide_struct Tryz.underlying38 (hval 0 38 v0 rfl rfl)
  obtain ⟨X0, hX0, B0, O0⟩ := Pv.rdG m0 _ _ hm0
  replace B0 : Pv.bkG X0 ≤ Rows.uptoBulk d0 := B0
  obtain ⟨S1, rfl, rfl, rfl, w1⟩ := open_string Tryz.underlying9 (hval 1 9 v1 rfl rfl) h1
  obtain ⟨I2, rfl, rfl, rfl, w2⟩ := open_int Tryz.underlying3 (hval 2 3 v2 rfl rfl) h2
  have hB : Rows.uptoBulkAll [d0, .lit (.string S1.data.toList), .lit (.int .i64 I2)] ≤ 1048576 := of_decide_eq_true (hcond _ rfl)
  simp only [Rows.uptoBulkAll] at hB
  refine (Pv.walk_mem hT.space hT.pow (args := [.agg (Pv.pgC X0), Pv.str S1, Pv.int I2]) (fun _ h => Pv.grd_Z h) rfl (Pv.reps_three (Pv.rep_pg hX0) (.im _) (.im _)) (Pv.values_law_ok X0 S1 I2 (Pv.okI_wf w2) (by omega) O0 (Pv.small_bk (by omega)) _)).mono fun e W' ⟨he, bel⟩ => ?_
  subst he
  exact ⟨_, rfl, _, _, _, [], _, [], hW', trodAll_mk1 (shut_bool Tryz.underlying4 _), (trodAll_cons_mk (Below.trod laidOut (by kernel_rfl) (of_decide_eq_true (by kernel_rfl)) h0 bel lt0) (trodAll_cons_mk (shut_string Tryz.underlying9 w1) (trodAll_cons_mk (shut_int Tryz.underlying3 w2) trodAll_mk0))), rfl, bel.frame _, fun h => by cases h⟩

theorem k0 : (Rows.checkValuesUptoRow.wf (OpenSpec.ofChange (Rows.OpenSpec.upto Rows.checkValuesSpec).bare)) = true := by kernel_rfl
theorem k1 : (laidOutB Tryz.prog) = true := by kernel_rfl
theorem k2 : (mapsRowed Tryz.prog) = true := by kernel_rfl
theorem k3 : (Tryz.f7.params.all (Tryz.prog.readableRec ·)) = true := by kernel_rfl
theorem k4 : (namedTie Tryz.prog Rows.checkValuesUptoRow.named (Rows.OpenSpec.upto Rows.checkValuesSpec).bare.vars) = true := by kernel_rfl
theorem k5 : ((Rows.checkValuesUptoRow.stops == [])) = true := by kernel_rfl
theorem k6 : ((Tryz.prog.stops == [])) = true := by kernel_rfl
theorem k7 : ((Rows.checkValuesUptoRow.knobs == [])) = true := by kernel_rfl
theorem k8 : ((Tryz.prog.stopKnobs == [])) = true := by kernel_rfl
theorem k9 : ((Rows.checkValuesUptoRow.inPlace == Tryz.prog.inPlace 7)) = true := by kernel_rfl
theorem k10 : ((Rows.checkValuesUptoRow.unfollowed == Tryz.prog.unfollowed 7)) = true := by kernel_rfl
theorem k11 : ((Rows.checkValuesUptoRow.recurses == Tryz.prog.recurses 7)) = true := by kernel_rfl
theorem k12 : ((Rows.checkValuesUptoRow.named == Tryz.prog.varsNamed 7)) = true := by kernel_rfl
theorem k13 : ((Rows.checkValuesUptoRow.maps == (Tryz.f7.params.toList ++ (Rows.OpenSpec.upto Rows.checkValuesSpec).bare.plain.varTypes Tryz.prog).any (Tryz.prog.mapsRec ·))) = true := by kernel_rfl
theorem k14 : ((Rows.checkValuesUptoRow.ifaces == (Tryz.f7.params.toList ++ (Rows.OpenSpec.upto Rows.checkValuesSpec).bare.plain.varTypes Tryz.prog).any (Tryz.prog.ifacesRec ·))) = true := by kernel_rfl
theorem k15 : ((Rows.checkValuesUptoRow.mapsOut == Tryz.prog.mapsAmong Tryz.f7.resultTypes.toList)) = true := by kernel_rfl
theorem k16 : ((Rows.checkValuesUptoRow.loops == (Tryz.f7.params.toList ++ (Rows.OpenSpec.upto Rows.checkValuesSpec).bare.plain.varTypes Tryz.prog).any (Tryz.prog.loopsFrom ·))) = true := by kernel_rfl
theorem k17 : ((Rows.checkValuesUptoRow.wideKeys == (Tryz.f7.params.toList ++ (Rows.OpenSpec.upto Rows.checkValuesSpec).bare.plain.varTypes Tryz.prog ++ Tryz.f7.resultTypes.toList).any (Tryz.prog.wideKeysFrom ·))) = true := by kernel_rfl
theorem k18 : ((Rows.OpenSpec.upto Rows.checkValuesSpec).bare.vars.all (Tryz.prog.varReadable ·)) = true := by kernel_rfl
theorem k19 : (Tryz.f7.resultTypes.all (fun t => Tryz.prog.readableRec t && decide (t < Tryz.prog.types.size))) = true := by kernel_rfl
theorem k20 : ((Rows.checkValuesUptoRow.ifacesOut == Tryz.f7.resultTypes.toList.any (Tryz.prog.ifacesRec ·))) = true := by kernel_rfl
theorem k21 : ((Rows.checkValuesUptoRow.loopsOut == Tryz.f7.resultTypes.toList.any (Tryz.prog.loopsFrom ·))) = true := by kernel_rfl
theorem k22 : ((Rows.checkValuesUptoRow.plainKeys == Tryz.prog.plainKeys)) = true := by kernel_rfl
theorem k23 : (Rows.checkValuesUptoRow.shortTexts.isNone) = true := by kernel_rfl
theorem k24 : (Tryz.prog.stopsHeard) = true := by kernel_rfl
theorem k25 : (Tryz.prog.mayEnter) = true := by kernel_rfl
theorem k26 : ((Rows.checkValuesUptoRow.lifted == Tryz.prog.liftsFinal)) = true := by kernel_rfl
theorem k27 : ((Tryz.prog.make == some Rows.checkValuesUptoRow.make)) = true := by kernel_rfl
theorem k29 : ((Rows.checkValuesUptoRow.pinned == Rows.checkValuesUptoRow.pinnedBy)) = true := by kernel_rfl
theorem k30 : ((Rows.checkValuesUptoRow.veiled == (Tryz.f7.params.toList ++ (Rows.OpenSpec.upto Rows.checkValuesSpec).bare.plain.varTypes Tryz.prog ++ Tryz.f7.resultTypes.toList).any (Tryz.prog.veiledRec ·))) = true := by kernel_rfl
theorem k31 : (Rows.checkValuesUptoRow.veiledFits Tryz.prog Tryz.f7.params.toList (Tryz.f7.params.toList ++ (Rows.OpenSpec.upto Rows.checkValuesSpec).bare.plain.varTypes Tryz.prog ++ Tryz.f7.resultTypes.toList)) = true := by kernel_rfl
theorem closed : joinedFacts Tryz.prog 7 Tryz.f7 (Rows.OpenSpec.upto Rows.checkValuesSpec).bare Rows.checkValuesUptoRow = true := by
  unfold joinedFacts
  refine Bool.and_eq_true_iff.2 ⟨?_, k31⟩
  refine Bool.and_eq_true_iff.2 ⟨?_, k30⟩
  refine Bool.and_eq_true_iff.2 ⟨?_, k29⟩
  refine Bool.and_eq_true_iff.2 ⟨?_, by kernel_rfl⟩
  refine Bool.and_eq_true_iff.2 ⟨?_, k27⟩
  refine Bool.and_eq_true_iff.2 ⟨?_, k26⟩
  refine Bool.and_eq_true_iff.2 ⟨?_, k25⟩
  refine Bool.and_eq_true_iff.2 ⟨?_, k24⟩
  refine Bool.and_eq_true_iff.2 ⟨?_, k23⟩
  refine Bool.and_eq_true_iff.2 ⟨?_, k22⟩
  refine Bool.and_eq_true_iff.2 ⟨?_, k21⟩
  refine Bool.and_eq_true_iff.2 ⟨?_, k20⟩
  refine Bool.and_eq_true_iff.2 ⟨?_, k19⟩
  refine Bool.and_eq_true_iff.2 ⟨?_, k18⟩
  refine Bool.and_eq_true_iff.2 ⟨?_, k17⟩
  refine Bool.and_eq_true_iff.2 ⟨?_, k16⟩
  refine Bool.and_eq_true_iff.2 ⟨?_, k15⟩
  refine Bool.and_eq_true_iff.2 ⟨?_, k14⟩
  refine Bool.and_eq_true_iff.2 ⟨?_, k13⟩
  refine Bool.and_eq_true_iff.2 ⟨?_, k12⟩
  refine Bool.and_eq_true_iff.2 ⟨?_, k11⟩
  refine Bool.and_eq_true_iff.2 ⟨?_, k10⟩
  refine Bool.and_eq_true_iff.2 ⟨?_, k9⟩
  refine Bool.and_eq_true_iff.2 ⟨?_, k8⟩
  refine Bool.and_eq_true_iff.2 ⟨?_, k7⟩
  refine Bool.and_eq_true_iff.2 ⟨?_, k6⟩
  refine Bool.and_eq_true_iff.2 ⟨?_, k5⟩
  refine Bool.and_eq_true_iff.2 ⟨?_, k4⟩
  refine Bool.and_eq_true_iff.2 ⟨?_, k3⟩
  refine Bool.and_eq_true_iff.2 ⟨?_, k2⟩
  refine Bool.and_eq_true_iff.2 ⟨?_, k1⟩
  exact k0

theorem fnamed : Tryz.pinned.checked.prog.funcNamed Rows.checkValuesUptoRow.func = some 7 := by kernel_rfl
theorem inst : Tryz.f7.isInstance Tryz.prog Rows.checkValuesUptoRow.origin Rows.checkValuesUptoRow.targs := of_decide_eq_true (by kernel_rfl)
theorem wrap : Tryz.f7.isWrapper Tryz.prog Rows.checkValuesUptoRow.wrapper Rows.checkValuesUptoRow.mainSum := by unfold Func.isWrapper; first | (rw [if_pos (by decide +kernel)]; kernel_rfl) | (rw [if_neg (by decide +kernel)]; exact ⟨rfl, rfl⟩)
theorem said : Rows.CheckValuesUptoSaid :=
  OpenClaim.holds_of_cond 7 Tryz.f7 rfl rfl rfl rfl rfl rfl rfl ⟨rfl, rfl, rfl, rfl, rfl⟩ rfl rfl rfl rfl rfl fnamed Tryz.func7 closed inst wrap
    (fun os started H enc _ F => by rw [OpenClaim.pre_eq_preRow]; exact lifted os started H enc F)

theorem plain (f : FuncId) (fn : Func) (hf : Tryz.pinned.checked.prog.funcNamed Rows.checkValuesUptoRow.func = some f) (hfn : Tryz.pinned.checked.prog.funcs[f]? = some fn) :
    false = Tryz.pinned.checked.prog.looks [] ∧ ∀ (j : Nat) t, fn.params[j]? = some t → Tryz.pinned.checked.prog.wantsStandIn t = false := by
  obtain rfl : f = 7 := Option.some.inj ((show Tryz.prog.funcNamed Rows.checkValuesUptoRow.func = some 7 by kernel_rfl).symm.trans hf) |>.symm
  obtain rfl : fn = Tryz.f7 := (Option.some.inj (Tryz.func7.symm.trans hfn)).symm
  refine ⟨by kernel_rfl, fun j t ht => ?_⟩
  rw [Tryz.params7] at ht
  have ht2 := Array.mem_of_getElem? ht
  have ht3 : t = 38 ∨ t = 9 ∨ t = 3 := by simpa using ht2
  rcases ht3 with rfl | rfl | rfl
  · exact (show Tryz.prog.wantsStandIn 38 = false by kernel_rfl)
  · exact (show Tryz.prog.wantsStandIn 9 = false by kernel_rfl)
  · exact (show Tryz.prog.wantsStandIn 3 = false by kernel_rfl)
end Go.Proofs.YtfgoedndpcblpaaGreatDoor.checkValuesUpto
namespace Go.Proofs.YtfgoedndpcblpaaGreatDoor
theorem checkValuesUpto_holds : Rows.CheckValuesUptoCardSaid :=
  Claim7.holds_tied_plain_at .later [] _ _ _ _ checkValuesUpto.said (fun _ h => by cases h) (by kernel_rfl) (fun _ h => by cases h) checkValuesUpto_row_tie rfl ⟨rfl, rfl⟩ (by kernel_rfl) rfl checkValuesUpto.plain (by kernel_rfl)
#print axioms checkValuesUpto_holds
end Go.Proofs.YtfgoedndpcblpaaGreatDoor
end
