/- InlineOrder (second form): each procedure stands behind all that it calls, and each once. Condition: what the argument reads as is of bulk at most 1048576. -/
import Derived.Test.YtfgoedndpcblpaaGreatDoorCInlineOrderUpto4
import Derived.Test.YtfgoedndpcblpaaGreatDoorCards
import Derived.Test.YtfgoedndpcblpaaGreatDoorTie
import Derived.Test.YtfgoedndpcblpaaGreatDoorCInlineOrderUpto0
import Derived.WalkKit
import Derived.ProofKit
import Derived.OpenShut
import Derived.ShutString
import Derived.ChangeOld
import Derived.Below
import Derived.SizedLaws
section
namespace Go.Proofs.YtfgoedndpcblpaaGreatDoor.Pv
open Go Go.Proofs Go.Proofs.YtfgoedndpcblpaaGreatDoor.Lx Go.Proofs.YtfgoedndpcblpaaGreatDoor.Ps
set_option linter.unusedSimpArgs false
set_option linter.unusedVariables false
theorem len_sub {α : Type} [DecidableEq α] : ∀ (l k : List α), l.Nodup → (∀ x ∈ l, x ∈ k) → l.length ≤ k.length
  | [], _, _, _ => Nat.zero_le _
  | x :: xs, k, hn, hs => by
    rw [List.nodup_cons] at hn
    have hx := hs x (List.mem_cons_self ..)
    have h1 : xs.length ≤ (k.erase x).length := len_sub xs (k.erase x) hn.2 fun y hy => (List.mem_erase_of_ne (fun e => hn.1 (by rw [← e]; exact hy))).2 (hs y (List.mem_cons_of_mem _ hy))
    rw [List.length_erase_of_mem hx] at h1
    have := List.length_pos_of_mem hx
    simp only [List.length_cons]
    omega
theorem calls_fit {p : Pg} : ∀ (n : Nat) (l : List Ps.St), stsN l < n → (stmtsF p l).2 = 0 → ∀ s ∈ callsL l, (p.procs.any fun x => decide (x.name = s)) = true
  | 0, l, h, _ => by omega
  | n + 1, [], _, _ => fun s hs => by simp [callsL] at hs
  | n + 1, .mk op nm e a b i :: l, h, hz => by
    simp only [stsN, stN] at h
    simp only [stmtsF] at hz
    have h1 : (stmtF p (.mk op nm e a b i)).2 = 0 := by
      by_cases h1 : (stmtF p (.mk op nm e a b i)).2 = 0
      · exact h1
      · rw [if_neg h1] at hz; exact hz
    rw [if_pos h1] at hz
    have hl := calls_fit n l (by omega) hz
    simp only [stmtF] at h1
    split at h1
    · split at h1
      · split at h1
        · rename_i hf
          split at h1
          · rename_i ha
            have hA := calls_fit n a (by omega) ha
            have hB := calls_fit n b (by omega) h1
            intro s hs
            simp only [callsL, callS, List.mem_append] at hs
            rcases hs with (hs | hs | hs) | hs
            · by_cases hop : op = (⟨#[99, 97, 108, 108]⟩ : ByteArray)
              · rw [if_pos hop] at hs
                obtain rfl := List.mem_singleton.1 hs
                subst hop
                unfold fitsF at hf
                rw [show (Ps.St.mk (⟨#[99, 97, 108, 108]⟩ : ByteArray) s e a b i).opB = (⟨#[99, 97, 108, 108]⟩ : ByteArray) from rfl, show (Ps.St.mk (⟨#[99, 97, 108, 108]⟩ : ByteArray) s e a b i).nm = s from rfl, if_neg (by decide), if_neg (by decide), if_pos rfl] at hf
                by_cases hp : (p.procs.any fun x => decide (x.name = s)) = true
                · exact hp
                · rw [if_neg hp] at hf; simp at hf
              · rw [if_neg hop] at hs; cases hs
            · exact hA s hs
            · exact hB s hs
            · exact hl s hs
          · rename_i ha; exact absurd h1 ha
        · rename_i hf; exact absurd h1 hf
      · rename_i hf; exact absurd h1 hf
    · simp at h1
theorem calls_app (l k : List Ps.St) : callsL (l ++ k) = callsL l ++ callsL k := by
  induction l with
  | nil => rfl
  | cons x xs ih => simp only [List.cons_append, callsL, ih, List.append_assoc]
theorem calls_flat (ls : List (List Ps.St)) : ∀ l ∈ ls, ∀ s ∈ callsL l, s ∈ callsL ls.flatten := by
  induction ls with
  | nil => intro l h; cases h
  | cons x xs ih =>
    intro l h s hs
    rw [List.flatten_cons, calls_app]
    rcases List.mem_cons.1 h with rfl | h
    · exact List.mem_append_left _ hs
    · exact List.mem_append_right _ (ih l h s hs)
theorem has_ins {s t : ByteArray} {v : List ByteArray} : ∀ m : RM, hasM t (insM s v m) = (decide (t = s) || hasM t m)
  | [] => by simp [insM, hasM]
  | e :: es => by
    simp only [insM]
    by_cases h : s = e.1
    · rw [if_pos h]; subst h; simp [hasM]
    · rw [if_neg h]
      have := has_ins (s := s) (t := t) (v := v) es
      simp only [hasM, List.any_cons] at this ⊢
      rw [this]
      cases decide (t = e.1) <;> cases decide (t = s) <;> rfl
theorem get_ins {s t : ByteArray} {v : List ByteArray} : ∀ m : RM, getM t (insM s v m) = if t = s then v else getM t m
  | [] => by simp [insM, getM]
  | e :: es => by
    simp only [insM]
    by_cases h : s = e.1
    · rw [if_pos h]; subst h
      simp only [getM]
      by_cases ht : t = e.1
      · rw [if_pos ht, if_pos ht]
      · rw [if_neg ht, if_neg ht, if_neg ht]
    · rw [if_neg h]
      simp only [getM, get_ins es]
      by_cases ht : t = e.1
      · rw [if_pos ht, if_pos ht, if_neg (show ¬ t = s from fun e2 => h (e2.symm.trans ht))]
      · rw [if_neg ht, if_neg ht]
theorem has_del {s t : ByteArray} (hne : t ≠ s) : ∀ m : RM, hasM t (delM s m) = hasM t m ∧ getM t (delM s m) = getM t m
  | [] => ⟨rfl, rfl⟩
  | e :: es => by
    simp only [delM]
    by_cases h : s = e.1
    · rw [if_pos h]
      have h2 : decide (t = e.1) = false := decide_eq_false fun e2 => hne (e2.trans h.symm)
      constructor
      · simp only [hasM, List.any_cons, h2, Bool.false_or]
      · simp only [getM]; rw [if_neg (of_decide_eq_false h2)]
    · rw [if_neg h]
      obtain ⟨h1, h2⟩ := has_del hne es
      constructor
      · simp only [hasM, List.any_cons] at h1 ⊢; rw [h1]
      · simp only [getM, h2]
def KeptM (ps : List Pc) (S : ByteArray → Prop) (m : RM) : Prop := ∀ x ∈ ps, S x.name → hasM x.name m = true ∧ getM x.name m = callsL x.body
theorem kept_step {ps : List Pc} {S : ByteArray → Prop} (hS : ∀ x ∈ ps, S x.name → ∃ c ∈ callsL x.body, S c ∧ ∃ y ∈ ps, y.name = c) {m : RM} (h : KeptM ps S m) {x : Pc} (hx : x ∈ ps) : KeptM ps S (stepM m x) := by
  unfold stepM
  split
  · exact h
  · rename_i hn
    intro y hy hs
    by_cases he : y.name = x.name
    · exfalso
      refine hn ?_
      obtain ⟨h1, h2⟩ := h y hy hs
      rw [← he, h2]
      obtain ⟨c, hc, hsc, z, hz, rfl⟩ := hS y hy hs
      rw [List.any_eq_true]
      exact ⟨z.name, hc, (h z hz hsc).1⟩
    · obtain ⟨h1, h2⟩ := has_del he m
      rw [h1, h2]; exact h y hy hs
theorem kept_fold {ps : List Pc} {S : ByteArray → Prop} (hS : ∀ x ∈ ps, S x.name → ∃ c ∈ callsL x.body, S c ∧ ∃ y ∈ ps, y.name = c) : ∀ (l : List Pc) (m : RM), (∀ x ∈ l, x ∈ ps) → KeptM ps S m → KeptM ps S (l.foldl stepM m)
  | [], m, _, h => h
  | x :: xs, m, hl, h => kept_fold hS xs _ (fun y hy => hl y (List.mem_cons_of_mem _ hy)) (kept_step hS h (hl x (List.mem_cons_self ..)))
theorem kept_rounds {ps : List Pc} {S : ByteArray → Prop} (hS : ∀ x ∈ ps, S x.name → ∃ c ∈ callsL x.body, S c ∧ ∃ y ∈ ps, y.name = c) : ∀ (n : Nat) (m : RM), KeptM ps S m → KeptM ps S (roundsM ps n m)
  | 0, m, h => h
  | n + 1, m, h => kept_rounds hS n _ (kept_fold hS ps m (fun _ h => h) h)
theorem nodup_inj : ∀ {ps : List Pc}, (ps.map (·.name)).Nodup → ∀ {x y : Pc}, x ∈ ps → y ∈ ps → x.name = y.name → x = y
  | [], _, x, y, hx, _, _ => by cases hx
  | z :: zs, hn, x, y, hx, hy, he => by
    rw [List.map_cons, List.nodup_cons] at hn
    rcases List.mem_cons.1 hx with e1 | h1
    · rcases List.mem_cons.1 hy with e2 | h2
      · rw [e1, e2]
      · exact absurd (show z.name ∈ zs.map (·.name) from List.mem_map.2 ⟨y, h2, by rw [← he, e1]⟩) hn.1
    · rcases List.mem_cons.1 hy with e2 | h2
      · exact absurd (show z.name ∈ zs.map (·.name) from List.mem_map.2 ⟨x, h1, by rw [he, e2]⟩) hn.1
      · exact nodup_inj hn.2 h1 h2 he
theorem left_has {ps : List Pc} (hn : (ps.map (·.name)).Nodup) : ∀ (l : List Pc) (m : RM), (∀ x ∈ l, x ∈ ps) → ∀ x, x ∈ ps → (x ∈ l ∨ (hasM x.name m = true ∧ getM x.name m = callsL x.body)) → hasM x.name (l.foldl (fun m x => insM x.name (callsL x.body) m) m) = true ∧ getM x.name (l.foldl (fun m x => insM x.name (callsL x.body) m) m) = callsL x.body
  | [], m, _, x, _, h => by
    rcases h with h | h
    · cases h
    · exact h
  | y :: ys, m, hl, x, hx, h => by
    rw [List.foldl_cons]
    refine left_has hn ys _ (fun z hz => hl z (List.mem_cons_of_mem _ hz)) x hx ?_
    by_cases he : x.name = y.name
    · right
      have hb : x = y := nodup_inj hn hx (hl y (List.mem_cons_self ..)) he
      subst hb
      rw [has_ins, get_ins, if_pos rfl]
      simp
    · rcases h with h | ⟨h1, h2⟩
      · rcases List.mem_cons.1 h with rfl | h
        · exact absurd rfl he
        · exact .inl h
      · right
        rw [has_ins, get_ins, if_neg he, h1, h2]
        simp
theorem ordF_small (p : Pg) : ∀ m, (ordF p m []).length ≤ m := by
  intro m
  induction m with
  | zero => exact Nat.le_refl _
  | succ m ih =>
    rw [ordF_succ, nextF]
    split
    · simp; omega
    · omega
theorem goes_of {p : Pg} (hg : Good p) : Goes p := by
  have hn : (p.procs.map (·.name)).Nodup := by
    have := names_nodup hg.names
    unfold allNames at this
    rw [List.nodup_append] at this
    exact this.2.1
  have hcall : ∀ x ∈ p.procs, ∀ c ∈ callsL x.body, ∃ y ∈ p.procs, y.name = c := fun x hx c hc => by
    have h1 := calls_fit (stsN (allStmts p) + 1) (allStmts p) (by omega) hg.stmts c (calls_flat (bodiesF p) x.body (by
      unfold bodiesF
      simp only [List.mem_cons, List.mem_append, List.mem_map]
      first | exact .inr ⟨x, hx, rfl⟩ | exact .inl ⟨x, hx, rfl⟩) c hc)
    rw [List.any_eq_true] at h1
    obtain ⟨y, hy, he⟩ := h1
    exact ⟨y, hy, of_decide_eq_true he⟩
  intro m hm
  apply Classical.byContradiction
  intro hno
  have hnone : ∀ x ∈ p.procs, readyF (ordF p m []) x = false := fun x hx => by
    cases hr : readyF (ordF p m []) x with
    | false => rfl
    | true =>
      exfalso
      cases hq : p.procs.find? (readyF (ordF p m [])) with
      | none => exact absurd hr (List.find?_eq_none.1 hq x hx)
      | some y => exact hno ⟨y, hq⟩
  have hS : ∀ x ∈ p.procs, x.name ∉ ordF p m [] → ∃ c ∈ callsL x.body, c ∉ ordF p m [] ∧ ∃ y ∈ p.procs, y.name = c := fun x hx hs => by
    have h1 := hnone x hx
    unfold readyF at h1
    have h2 : memB x.name (ordF p m []) = false := by
      cases h : memB x.name (ordF p m []) with
      | false => rfl
      | true => exact absurd (memB_iff.1 h) hs
    rw [h2] at h1
    simp only [Bool.not_false, Bool.true_and, Bool.not_eq_false'] at h1
    rw [List.any_eq_true] at h1
    obtain ⟨c, hc, he⟩ := h1
    refine ⟨c, hc, fun hm => ?_, hcall x hx c hc⟩
    rw [memB_iff.2 hm] at he
    cases he
  have hk : KeptM p.procs (fun s => s ∉ ordF p m []) (left0 p) := fun x hx _ => left_has hn p.procs [] (fun _ h => h) x hx (.inl hx)
  have hr := kept_rounds hS p.procs.length _ hk
  have hc := hg.cycle
  unfold cycleF at hc
  split at hc
  rotate_left
  · cases hc
  rename_i hz
  have he : roundsM p.procs p.procs.length (left0 p) = [] := List.length_eq_zero_iff.1 hz
  rw [he] at hr
  have hall : ∀ s ∈ p.procs.map (·.name), s ∈ ordF p m [] := fun s hs => by
    obtain ⟨x, hx, rfl⟩ := List.mem_map.1 hs
    apply Classical.byContradiction
    intro hno
    have := (hr x hx hno).1
    simp [hasM] at this
  have h1 := len_sub _ _ hn hall
  have h2 := ordF_small p m
  simp at h1
  omega
end Go.Proofs.YtfgoedndpcblpaaGreatDoor.Pv
end
section
namespace Go.Proofs.YtfgoedndpcblpaaGreatDoor.Pv
open Go Go.Proofs Go.Proofs.YtfgoedndpcblpaaGreatDoor.Lx Go.Proofs.YtfgoedndpcblpaaGreatDoor.Ps
set_option linter.unusedSimpArgs false
set_option linter.unusedVariables false
variable {L : Lib} {σ : Sto} {T : Base}
def src15 : ByteArray := (⟨#[118, 97, 114, 32, 120, 58, 32, 105, 110, 116, 59, 32, 112, 114, 111, 99, 32, 113, 32, 123, 32, 99, 97, 108, 108, 32, 114, 59, 32, 125, 32, 112, 114, 111, 99, 32, 114, 32, 123, 32, 120, 32, 61, 32, 49, 59, 32, 115, 107, 105, 112, 59, 32, 125, 32, 109, 97, 105, 110, 32, 123, 32, 99, 97, 108, 108, 32, 113, 59, 32, 105, 102, 32, 120, 32, 60, 32, 50, 32, 123, 32, 99, 97, 108, 108, 32, 114, 59, 32, 125, 32, 125]⟩ : ByteArray)
def txt15 : ByteArray := (⟨#[118, 97, 114, 32, 120, 58, 32, 105, 110, 116, 59, 10, 109, 97, 105, 110, 32, 123, 10, 32, 32, 120, 32, 61, 32, 49, 59, 10, 32, 32, 115, 107, 105, 112, 59, 10, 32, 32, 105, 102, 32, 120, 32, 60, 32, 50, 32, 123, 10, 32, 32, 32, 32, 120, 32, 61, 32, 49, 59, 10, 32, 32, 32, 32, 115, 107, 105, 112, 59, 10, 32, 32, 125, 10, 125, 10]⟩ : ByteArray)
def p15 : Pg := ⟨[], [⟨(⟨#[120]⟩ : ByteArray), (⟨#[105, 110, 116]⟩ : ByteArray), 0⟩], [⟨(⟨#[113]⟩ : ByteArray), [.mk (⟨#[99, 97, 108, 108]⟩ : ByteArray) (⟨#[114]⟩ : ByteArray) [] [] [] 21]⟩, ⟨(⟨#[114]⟩ : ByteArray), [.mk (⟨#[115, 101, 116]⟩ : ByteArray) (⟨#[120]⟩ : ByteArray) [.mk (⟨#[110, 117, 109]⟩ : ByteArray) ⟨#[]⟩ 1 [] 44] [] [] 40, .mk (⟨#[115, 107, 105, 112]⟩ : ByteArray) ⟨#[]⟩ [] [] [] 47]⟩], [.mk (⟨#[99, 97, 108, 108]⟩ : ByteArray) (⟨#[113]⟩ : ByteArray) [] [] [] 62, .mk (⟨#[105, 102]⟩ : ByteArray) ⟨#[]⟩ [.mk (⟨#[60]⟩ : ByteArray) ⟨#[]⟩ 0 [.mk (⟨#[110, 97, 109, 101]⟩ : ByteArray) (⟨#[120]⟩ : ByteArray) 0 [] 73, .mk (⟨#[110, 117, 109]⟩ : ByteArray) ⟨#[]⟩ 2 [] 77] 75] [.mk (⟨#[99, 97, 108, 108]⟩ : ByteArray) (⟨#[114]⟩ : ByteArray) [] [] [] 81] [] 70]⟩
def m15 : List Ps.St := [.mk (⟨#[115, 101, 116]⟩ : ByteArray) (⟨#[120]⟩ : ByteArray) [.mk (⟨#[110, 117, 109]⟩ : ByteArray) ⟨#[]⟩ 1 [] 44] [] [] 40, .mk (⟨#[115, 107, 105, 112]⟩ : ByteArray) ⟨#[]⟩ [] [] [] 47, .mk (⟨#[105, 102]⟩ : ByteArray) ⟨#[]⟩ [.mk (⟨#[60]⟩ : ByteArray) ⟨#[]⟩ 0 [.mk (⟨#[110, 97, 109, 101]⟩ : ByteArray) (⟨#[120]⟩ : ByteArray) 0 [] 73, .mk (⟨#[110, 117, 109]⟩ : ByteArray) ⟨#[]⟩ 2 [] 77] 75] [.mk (⟨#[115, 101, 116]⟩ : ByteArray) (⟨#[120]⟩ : ByteArray) [.mk (⟨#[110, 117, 109]⟩ : ByteArray) ⟨#[]⟩ 1 [] 44] [] [] 40, .mk (⟨#[115, 107, 105, 112]⟩ : ByteArray) ⟨#[]⟩ [] [] [] 47] [] 70]
set_option maxRecDepth 1000000 in
theorem parse15 : ((evF Tryz.prog libX 400 14 [str src15] ⟨[], []⟩).map fun x => (x.1.ptrs, x.1.era)) = some ([], .tup [.agg (pgC p15), int 92, int 0]) := by kernel_rfl
def out15 : List (List PV × PV) := [([str src15], .tup [.agg (pgC p15), int 92, int 0])]
theorem parse15_fun (h0 : ∀ f h, libL f = some h → FunOk Tryz.prog T f h) : FunOk Tryz.prog T 14 (atH out15) := atH_fun (grd_X h0).handEV (fun x hx => by
  simp only [out15, List.mem_cons, List.not_mem_nil, or_false] at hx
  subst hx
  exact call_seen rfl rfl parse15)
noncomputable def libAp : Lib := look [(14, atH out15), (25, checkH)] libB
theorem grd_Ap (h0 : ∀ f h, libL f = some h → FunOk Tryz.prog T f h) : Grd Tryz.prog libAp T := look_grd (grd_B h0) (fun x hx => by
  simp only [List.mem_cons, List.not_mem_nil, or_false] at hx
  rcases hx with rfl | rfl
  · exact ⟨parse15_fun h0, .inl fun _ _ _ _ => atH_still⟩
  · exact ⟨check_B h0, .inl fun _ _ _ _ => checkH_still⟩)
theorem few_15 : Few p15 := ⟨of_decide_eq_true (by kernel_rfl), of_decide_eq_true (by kernel_rfl), by simp [okG, p15, okTs, okT, okXs, okX]⟩
def q15 : Pg := ⟨[], [⟨(⟨#[120]⟩ : ByteArray), (⟨#[105, 110, 116]⟩ : ByteArray), 0⟩], [], m15⟩
theorem few_q15 : Few q15 := ⟨of_decide_eq_true (by kernel_rfl), of_decide_eq_true (by kernel_rfl), by simp [okG, q15, m15, okTs, okT, okXs, okX]⟩
set_option maxRecDepth 1000000 in
theorem check15 : (checkF p15).2.2 = 0 := by kernel_rfl
theorem goes15 : Goes p15 := by
  rcases check_cases p15 with ⟨_, h⟩ | ⟨h, _⟩
  · exact goes_of h
  · exact absurd check15 h
set_option maxRecDepth 1000000 in
theorem inlE15 : inlE p15 = 0 := by kernel_rfl
set_option maxRecDepth 1000000 in
theorem flat15 : flatD p15 (sizesF p15) 6 p15.main = some m15 := by kernel_rfl
set_option maxRecDepth 1000000 in
theorem many15 : inManyF p15 = 5 := by kernel_rfl
set_option maxRecDepth 1000000 in
theorem order15 : orderO p15 = [(⟨#[114]⟩ : ByteArray), (⟨#[113]⟩ : ByteArray)] := by kernel_rfl
theorem print15 : strOf (printB q15) = txt15 := by kernel_rfl
theorem calls15 : callsL p15.main = [(⟨#[113]⟩ : ByteArray), (⟨#[114]⟩ : ByteArray)] := by kernel_rfl
set_option maxHeartbeats 1000000 in
theorem alive15_ok : ∀ σ, callE (EV Tryz.prog libAp) 37 [] σ = some (boo true, σ) := by
  intro σ
  have hl : Free libAp [37] := free_of (by kernel_rfl)
  have h1 := call_told (L := libAp) (f := 14) (args := [str src15]) (r := .tup [.agg (pgC p15), int 92, int 0]) rfl rfl rfl rfl rfl (atH_at (fun x hx hxa => by
    simp only [out15, List.mem_cons, List.not_mem_nil, or_false] at hx
    subst hx
    rfl) ⟨_, List.mem_cons_self .., rfl⟩)
  have h2 := Inline_ok (L := libAp) (free_of (by kernel_rfl)) rfl rfl p15 few_15.ck (fun _ => goes15) 6 m15 (fun _ => flat15)
  have h3 := Order_ok (L := libAp) (free_of (by kernel_rfl)) rfl rfl p15 few_15.ck (fun _ => goes15)
  have h4 := calls15_ok (L := libAp) (free_of (by kernel_rfl)) rfl 300000 p15.main (of_decide_eq_true (by kernel_rfl)) (by omega)
  have h5 := Print_ok (L := libAp) (free_of (by kernel_rfl)) ⟨rfl, rfl, rfl, rfl, rfl⟩ q15 few_q15.ck.pr
  have h6 := Many_ok (L := libAp) (free_of (by kernel_rfl)) rfl rfl p15 few_15.ck (fun _ => goes15)
  have e2 : inlP p15 m15 = q15 := by unfold inlP; rw [if_pos inlE15]; rfl
  rw [e2, inlE15] at h2
  rw [order15] at h3
  rw [calls15] at h4
  rw [print15] at h5
  rw [many15] at h6
  have h1 : ∀ σ, callE (EV Tryz.prog libAp) 14 [str (⟨#[118, 97, 114, 32, 120, 58, 32, 105, 110, 116, 59, 32, 112, 114, 111, 99, 32, 113, 32, 123, 32, 99, 97, 108, 108, 32, 114, 59, 32, 125, 32, 112, 114, 111, 99, 32, 114, 32, 123, 32, 120, 32, 61, 32, 49, 59, 32, 115, 107, 105, 112, 59, 32, 125, 32, 109, 97, 105, 110, 32, 123, 32, 99, 97, 108, 108, 32, 113, 59, 32, 105, 102, 32, 120, 32, 60, 32, 50, 32, 123, 32, 99, 97, 108, 108, 32, 114, 59, 32, 125, 32, 125]⟩ : ByteArray)] σ = some (.tup [.agg (pgC p15), int 92, int 0], σ) := h1
  have h2 : ∀ σ, callE (EV Tryz.prog libAp) 41 [.agg (pgC p15)] σ = some (.tup [.agg [.sl (q15.enums.map enR) .unk, .sl (q15.vars.map vrR) .unk, .sl [] .unk, .sl (stRs q15.main) .unk], int 0], σ) := h2
  have h3 : ∀ σ, callE (EV Tryz.prog libAp) 38 [.agg (pgC p15)] σ = some (.sl [strR (⟨#[114]⟩ : ByteArray), strR (⟨#[113]⟩ : ByteArray)] .unk, σ) := h3
  have h4 : ∀ σ, callE (EV Tryz.prog libAp) 40 [.sl (stRs p15.main) .unk] σ = some (.sl [strR (⟨#[113]⟩ : ByteArray), strR (⟨#[114]⟩ : ByteArray)] .unk, σ) := by rw [stRs_map]; exact h4
  have h5 : ∀ σ, callE (EV Tryz.prog libAp) 35 [.agg [.sl (q15.enums.map enR) .unk, .sl (q15.vars.map vrR) .unk, .sl [] .unk, .sl (stRs q15.main) .unk]] σ = some (str (⟨#[118, 97, 114, 32, 120, 58, 32, 105, 110, 116, 59, 10, 109, 97, 105, 110, 32, 123, 10, 32, 32, 120, 32, 61, 32, 49, 59, 10, 32, 32, 115, 107, 105, 112, 59, 10, 32, 32, 105, 102, 32, 120, 32, 60, 32, 50, 32, 123, 10, 32, 32, 32, 32, 120, 32, 61, 32, 49, 59, 10, 32, 32, 32, 32, 115, 107, 105, 112, 59, 10, 32, 32, 125, 10, 125, 10]⟩ : ByteArray), σ) := h5
  have h6 : ∀ σ, callE (EV Tryz.prog libAp) 42 [.agg (pgC p15)] σ = some (int 5, σ) := h6
  have i0 : idx 1 [strR (⟨#[114]⟩ : ByteArray), strR (⟨#[113]⟩ : ByteArray)] (0 : Int) = some (.el (strR (⟨#[114]⟩ : ByteArray)) 0) := rfl
  have i1 : idx 1 [strR (⟨#[113]⟩ : ByteArray), strR (⟨#[114]⟩ : ByteArray)] (1 : Int) = some (.el (strR (⟨#[114]⟩ : ByteArray)) 0) := rfl
  clear e2
  simp only [strR] at i0 i1
  simp only [pgC] at h1 h2 h3 h6
  generalize q15.enums.map enR = b1 at *
  generalize q15.vars.map vrR = b2 at *
  generalize stRs q15.main = b4 at *
  generalize p15.enums.map enR = a1 at *
  generalize p15.vars.map vrR = a2 at *
  generalize p15.procs.map pcR = a3 at *
  generalize stRs p15.main = a4 at *
  refine call_fn (ids := []) (hl _ (by simp)) Tryz.func37 Tryz.ntmps37 Tryz.results37 (by simp) rfl rfl ⟨_, rfl, by kernel_rfl, ?_⟩
  simp (maxSteps := 1000000) (contextual := true) (implicitDefEqProofs := false) [-decide_eq_true_eq, -decide_eq_false_iff_not, -Bool.not_and, -Bool.not_or, -Bool.and_eq_false_imp, -Int.natCast_add, -setAt, -List.map_take, setAt_eq, h1, h2, h3, h4, h5, h6, i0, i1, strR]
end Go.Proofs.YtfgoedndpcblpaaGreatDoor.Pv
end
section
namespace Go.Proofs.YtfgoedndpcblpaaGreatDoor.Pv
open Go Go.Proofs Go.Proofs.YtfgoedndpcblpaaGreatDoor.Lx Go.Proofs.YtfgoedndpcblpaaGreatDoor.Ps
set_option linter.unusedSimpArgs false
set_option linter.unusedVariables false
variable {L : Lib} {σ : Sto} {T : Base}
theorem ordF_pre (p : Pg) (i : Nat) : ∀ k, ∃ t, ordF p (i + k) [] = ordF p i [] ++ t
  | 0 => ⟨[], by simp⟩
  | k + 1 => by
    obtain ⟨t, ht⟩ := ordF_pre p i k
    rw [← Nat.add_assoc, ordF_succ, nextF]
    split
    · exact ⟨t ++ [_], by rw [ht, List.append_assoc]⟩
    · exact ⟨t, ht⟩
theorem order_law {p : Pg} (hg : Good p) : (orderF p).length = p.procs.length ∧ ∀ i s, (orderF p)[i]? = some s → memB s ((orderF p).take i) = false ∧ ∀ q ∈ p.procs, q.name = s → ∀ c ∈ callsL q.body, memB c ((orderF p).take i) = true := by
  have hgo := goes_of hg
  have hn : (p.procs.map (·.name)).Nodup := by
    have := names_nodup hg.names
    unfold allNames at this
    rw [List.nodup_append] at this
    exact this.2.1
  have hlen := ordF_len hgo
  refine ⟨hlen _ (Nat.le_refl _), fun i s hs => ?_⟩
  have hi : i < p.procs.length := by
    have := (List.getElem?_eq_some_iff.1 hs).1
    rwa [show (orderF p).length = p.procs.length from hlen _ (Nat.le_refl _)] at this
  obtain ⟨x, hx⟩ := hgo i hi
  have hsucc := ordF_succ p i []
  rw [nextF, hx] at hsucc
  have hli := hlen i (by omega)
  obtain ⟨t, ht⟩ := ordF_pre p (i + 1) (p.procs.length - (i + 1))
  rw [Nat.add_sub_cancel' (by omega), hsucc] at ht
  have ho : orderF p = ordF p i [] ++ (x.name :: t) := by
    show ordF p p.procs.length [] = _
    rw [ht, List.append_assoc]; rfl
  have htk : (orderF p).take i = ordF p i [] := by
    rw [ho, List.take_append_of_le_length (by omega), List.take_of_length_le (by omega)]
  have hsx : s = x.name := by
    rw [ho, List.getElem?_append_right (by omega), hli, Nat.sub_self] at hs
    exact (Option.some.inj hs).symm
  rw [htk]
  have h1 := List.find?_some hx
  unfold readyF at h1
  simp only [Bool.and_eq_true] at h1
  obtain ⟨h1, h2⟩ := h1
  subst hsx
  refine ⟨by simpa using h1, fun q hq he c hc => ?_⟩
  obtain rfl := nodup_inj hn hq (List.mem_of_find?_eq_some hx) he
  have h3 : ((callsL q.body).any fun s => !memB s (ordF p i [])) = false := by simpa using h2
  have := List.any_eq_false.1 h3 c hc
  simpa using this
noncomputable def libV : Lib := look [(25, checkH), (37, aliveH)] libB
theorem grd_V (h0 : ∀ f h, libL f = some h → FunOk Tryz.prog T f h) : Grd Tryz.prog libV T := look_grd (grd_B h0) (fun x hx => by
  simp only [List.mem_cons, List.not_mem_nil, or_false] at hx
  rcases hx with rfl | rfl
  · exact ⟨check_B h0, .inl fun _ _ _ _ => checkH_still⟩
  · refine ⟨told_fun (grd_Ap h0).handEV fun args σ r σ' he => ?_, .inl fun args σ r σ' he => ?_⟩
    · dsimp only at he; unfold aliveH at he
      split at he
      · cases he; exact alive15_ok σ
      · cases he
    · dsimp only at he; unfold aliveH at he; split at he <;> cases he; rfl)
theorem few_of15 {p : Pg} (h : few15F p = true) : pgN p ≤ 300 := by
  unfold few15F at h
  simp only [Bool.and_eq_true, decide_eq_true_eq] at h
  omega
theorem slL_strs {l : List ByteArray} {i : Nat} (hi : i ≤ l.length) (tag : Tag) : slL 1 (l.map strR) tag none (some (int (i : Nat))) = some (.sl ((l.take i).map strR) .unk) := by
  have h1 : boundE (some (int (i : Nat))) (l.map strR).length (l.map strR).length = some i := by
    rw [bound_int, if_pos (by rw [List.length_map]; omega)]; rfl
  unfold slL
  rw [h1]
  simp only [bound_none]
  simp [List.map_take]
set_option maxHeartbeats 4000000 in
theorem order_law_ok (p : Pg) (hb : bkG p ≤ 1048576) (ho : okG p) (hs : smallP p) : ∀ σ, callE (EV Tryz.prog libV) 10 [.agg (pgC p)] σ = some (boo true, σ) := by
  intro σ
  have hl : Free libV [10] := free_of (by kernel_rfl)
  have h1 := few15_ok (L := libV) (free_of (by kernel_rfl)) p hs
  have h2 := alive_told (L := libV) (f := 37) rfl
  have h3 := lawProg_ok (L := libV) (free_of (by kernel_rfl)) p hs
  cases hf : few15F p with
  | false =>
    rw [hf] at h1
    simp only [pgC] at h1
    refine call_fn (ids := []) (hl _ (by simp)) Tryz.func10 Tryz.ntmps10 Tryz.results10 (by simp) rfl rfl ⟨_, rfl, by kernel_rfl, ?_⟩
    simp (maxSteps := 1000000) (contextual := true) (implicitDefEqProofs := false) [-decide_eq_true_eq, -decide_eq_false_iff_not, -Bool.not_and, -Bool.not_or, -Bool.and_eq_false_imp, -Int.natCast_add, -setAt, -List.map_take, setAt_eq, pgC, h1, h2]
  | true =>
    rw [hf] at h1
    have hck : CkSm p := Few.ck ⟨hb, few_of15 hf, ho⟩
    have h4 := ck_told (L := libV) rfl p hck
    unfold checkOut at h4
    rcases check_cases p with ⟨hc, hg⟩ | ⟨hc, hz⟩
    · have hgo := goes_of hg
      have h5 := Order_ok (L := libV) (free_of (by kernel_rfl)) rfl rfl p hck (fun _ => hgo)
      unfold orderO at h5
      rw [if_pos hc] at h5
      obtain ⟨hlen, hlaw⟩ := order_law hg
      have hlp := hck.pc
      rw [hc] at h4
      have hcalls := fun (x : Pc) (hx : x ∈ p.procs) => calls15_ok (L := libV) (free_of (by kernel_rfl)) rfl 300000 x.body (by
        have := sum_mem (fun x : Pc => stsN x.body) p.procs x hx
        have := hck.pg
        unfold pgN at this; omega) (by omega)
      generalize orderF p = out at *
      generalize (checkF p).1 = c at *
      generalize (checkF p).2.1 = x at *
      simp only [pgC, stRs_map] at h1 h3 h4 h5
      simp only [ciC] at h4
      refine call_fn (ids := []) (hl _ (by simp)) Tryz.func10 Tryz.ntmps10 Tryz.results10 (by simp) rfl rfl ⟨_, rfl, by kernel_rfl, ?_⟩
      simp (maxSteps := 1000000) (contextual := true) (implicitDefEqProofs := false) [-decide_eq_true_eq, -decide_eq_false_iff_not, -Bool.not_and, -Bool.not_or, -Bool.and_eq_false_imp, -Int.natCast_add, -setAt, -List.map_take, setAt_eq, pgC, stRs_map, h1, h2, h3, h4, h5, hlen]
      refine WP.each out (fun rest i s' => ∃ (junk : List Bx), s'.sto = ⟨.cells (pgC p) :: .cells (pgC p) :: junk, []⟩ ∧ s'.env 3 = .ptr 1 0 ∧ s'.env 4 = .sl (out.map strR) .unk ∧ s'.env 42 = .sl (out.map strR) .unk ∧ s'.env 43 = int out.length ∧ s'.env 44 = int i) ⟨_, by simp [pgC, stRs_map]; rfl, by simp, by simp, by simp, by simp [hlen], by simp⟩ ?_ ?_
      · rintro s xs i ⟨env, τ⟩ hx hi hxs ⟨junk, j1, j2, j3, j4, j5, j6⟩
        simp only at j1 j2 j3 j4 j5 j6
        subst j1
        have hix := row_idx (R := strR) hx (m := 1) rfl
        have hlt : decide (i < out.length) = true := by simp [hi]
        have hw : IntKind.wrap .i64 ((i : Int) + 1) = ((i + 1 : Nat) : Int) := wrap_succ (by omega)
        obtain ⟨l1, l2⟩ := hlaw i s hx
        have htl : (out.take i).length < 274877906944 := by rw [List.length_take]; omega
        have hh1 := has_ok (L := libV) (free_of (by kernel_rfl)) (out.take i) htl s
        rw [l1] at hh1
        have hle : i ≤ out.length := by omega
        have hsl := fun tag => slL_strs (l := out) hle tag
        simp (maxSteps := 1000000) (contextual := true) (implicitDefEqProofs := false) [-decide_eq_true_eq, -decide_eq_false_iff_not, -Bool.not_and, -Bool.not_or, -Bool.and_eq_false_imp, -Int.natCast_add, -setAt, -List.map_take, setAt_eq, pgC, stRs_map, j2, j3, j4, j5, j6, hlt, hix, hw, strR, hsl, hh1]
        refine WP.each p.procs (fun rest k s' => ∃ (junk : List Bx), s'.sto = ⟨.cells (pgC p) :: .cells (pgC p) :: junk, []⟩ ∧ s'.env 3 = .ptr 1 0 ∧ s'.env 4 = .sl (out.map strR) .unk ∧ s'.env 42 = .sl (out.map strR) .unk ∧ s'.env 43 = int out.length ∧ s'.env 44 = int i ∧ s'.env 8 = int i ∧ s'.env 9 = str s ∧ s'.env 55 = .sl (p.procs.map pcR) .unk ∧ s'.env 56 = int p.procs.length ∧ s'.env 57 = int k) ⟨junk, by simp [pgC, stRs_map], by simp [j2], by simp [j3], by simp [j4], by simp [j5], by simp [j6], by simp, by simp, by simp, by simp, by simp⟩ ?_ ?_
        · rintro q qs k ⟨env2, τ2⟩ hq hk hqs ⟨junk2, m1, m2, m3, m4, m5, m6, m7, m8, m9, m10, m11⟩
          simp only at m1 m2 m3 m4 m5 m6 m7 m8 m9 m10 m11
          subst m1
          have hqx : idx 2 (p.procs.map pcR) (k : Int) = some (.el (pcR q) 0) := row_idx (R := pcR) hq rfl
          have hlt2 : decide (k < p.procs.length) = true := by simp [hk]
          have hw2 : IntKind.wrap .i64 ((k : Int) + 1) = ((k + 1 : Nat) : Int) := wrap_succ (by omega)
          have hmem := List.mem_of_getElem? hq
          by_cases hqs' : q.name = s
          · have hcq := hcalls q hmem
            have hd : decide (q.name = s) = true := decide_eq_true hqs'
            have hcl := callsL_len q.body
            have hcb : stsN q.body < 299999 := by
              have := sum_mem (fun x : Pc => stsN x.body) p.procs q hmem
              have := hck.pg
              unfold pgN at this; omega
            simp (maxSteps := 1000000) (contextual := true) (implicitDefEqProofs := false) [-decide_eq_true_eq, -decide_eq_false_iff_not, -Bool.not_and, -Bool.not_or, -Bool.and_eq_false_imp, -Int.natCast_add, -setAt, -List.map_take, setAt_eq, pgC, stRs_map, m2, m3, m4, m5, m6, m7, m8, m9, m10, m11, hlt2, hqx, hw2, pcR, hd, hcq]
            refine WP.each (callsL q.body) (fun rest r s' => ∃ (junk : List Bx), s'.sto = ⟨.cells (pgC p) :: .cells (pgC p) :: junk, []⟩ ∧ s'.env 3 = .ptr 1 0 ∧ s'.env 4 = .sl (out.map strR) .unk ∧ s'.env 42 = .sl (out.map strR) .unk ∧ s'.env 43 = int out.length ∧ s'.env 44 = int i ∧ s'.env 8 = int i ∧ s'.env 9 = str s ∧ s'.env 55 = .sl (p.procs.map pcR) .unk ∧ s'.env 56 = int p.procs.length ∧ s'.env 57 = int k ∧ s'.env 67 = .sl ((callsL q.body).map strR) .unk ∧ s'.env 68 = int (callsL q.body).length ∧ s'.env 69 = int r) ⟨_, by simp [pgC, stRs_map]; rfl, by simp [m2], by simp [m3], by simp [m4], by simp [m5], by simp [m6], by simp [m7], by simp [m8], by simp [m9], by simp [m10], by simp [m11], by simp, by simp, by simp⟩ ?_ ?_
            · rintro c0 cs0 r ⟨env3, τ3⟩ hr hri hrs ⟨junk3, n1, n2, n3, n4, n5, n6, n7, n8, n9, n10, n11, n12, n13, n14⟩
              simp only at n1 n2 n3 n4 n5 n6 n7 n8 n9 n10 n11 n12 n13 n14
              subst n1
              have hcx := row_idx (R := strR) hr (m := 1) rfl
              have hlt3 : decide (r < (callsL q.body).length) = true := by simp [hri]
              have hw3 : IntKind.wrap .i64 ((r : Int) + 1) = ((r + 1 : Nat) : Int) := wrap_succ (by omega)
              have hh2 := has_ok (L := libV) (free_of (by kernel_rfl)) (out.take i) htl c0
              rw [l2 q hmem hqs' c0 (List.mem_of_getElem? hr)] at hh2
              simp (maxSteps := 1000000) (contextual := true) (implicitDefEqProofs := false) [-decide_eq_true_eq, -decide_eq_false_iff_not, -Bool.not_and, -Bool.not_or, -Bool.and_eq_false_imp, -Int.natCast_add, -setAt, -List.map_take, setAt_eq, pgC, stRs_map, n2, n3, n4, n5, n6, n7, n8, n9, n10, n11, n12, n13, n14, hlt3, hcx, hw3, strR, hsl, hh2]
            · rintro ⟨env3, τ3⟩ ⟨junk3, n1, n2, n3, n4, n5, n6, n7, n8, n9, n10, n11, n12, n13, n14⟩
              simp only at n1 n2 n3 n4 n5 n6 n7 n8 n9 n10 n11 n12 n13 n14
              subst n1
              simp (maxSteps := 1000000) (contextual := true) (implicitDefEqProofs := false) [-decide_eq_true_eq, -decide_eq_false_iff_not, -Bool.not_and, -Bool.not_or, -Bool.and_eq_false_imp, -Int.natCast_add, -setAt, -List.map_take, setAt_eq, pgC, stRs_map, n2, n3, n4, n5, n6, n7, n8, n9, n10, n11, n12, n13, n14, hw2]
          · have hd : decide (q.name = s) = false := decide_eq_false hqs'
            simp (maxSteps := 1000000) (contextual := true) (implicitDefEqProofs := false) [-decide_eq_true_eq, -decide_eq_false_iff_not, -Bool.not_and, -Bool.not_or, -Bool.and_eq_false_imp, -Int.natCast_add, -setAt, -List.map_take, setAt_eq, pgC, stRs_map, m2, m3, m4, m5, m6, m7, m8, m9, m10, m11, hlt2, hqx, hw2, pcR, hd]
        · rintro ⟨env2, τ2⟩ ⟨junk2, m1, m2, m3, m4, m5, m6, m7, m8, m9, m10, m11⟩
          simp only at m1 m2 m3 m4 m5 m6 m7 m8 m9 m10 m11
          subst m1
          simp (maxSteps := 1000000) (contextual := true) (implicitDefEqProofs := false) [-decide_eq_true_eq, -decide_eq_false_iff_not, -Bool.not_and, -Bool.not_or, -Bool.and_eq_false_imp, -Int.natCast_add, -setAt, -List.map_take, setAt_eq, pgC, stRs_map, m2, m3, m4, m5, m6, m7, m8, m9, m10, m11, hw]
      · rintro ⟨env, τ⟩ ⟨junk, j1, j2, j3, j4, j5, j6⟩
        simp only at j1 j2 j3 j4 j5 j6
        subst j1
        simp (maxSteps := 1000000) (contextual := true) (implicitDefEqProofs := false) [-decide_eq_true_eq, -decide_eq_false_iff_not, -Bool.not_and, -Bool.not_or, -Bool.and_eq_false_imp, -Int.natCast_add, -setAt, -List.map_take, setAt_eq, pgC, stRs_map, h2, j2, j3, j4, j5, j6]
    · have h5 := Order_ok (L := libV) (free_of (by kernel_rfl)) rfl rfl p hck (fun h => absurd h hc)
      unfold orderO at h5
      rw [if_neg hc] at h5
      generalize (checkF p).1 = c at *
      generalize (checkF p).2.1 = x at *
      generalize (checkF p).2.2 = y at *
      simp only [pgC, stRs_map] at h1 h3 h4 h5
      simp only [ciC] at h4
      have hd : decide (y = 0) = false := decide_eq_false hc
      refine call_fn (ids := []) (hl _ (by simp)) Tryz.func10 Tryz.ntmps10 Tryz.results10 (by simp) rfl rfl ⟨_, rfl, by kernel_rfl, ?_⟩
      simp (maxSteps := 1000000) (contextual := true) (implicitDefEqProofs := false) [-decide_eq_true_eq, -decide_eq_false_iff_not, -Bool.not_and, -Bool.not_or, -Bool.and_eq_false_imp, -Int.natCast_add, -setAt, -List.map_take, setAt_eq, pgC, stRs_map, h1, h2, h3, h4, h5, hd]
end Go.Proofs.YtfgoedndpcblpaaGreatDoor.Pv
end
section
namespace Go.Proofs.YtfgoedndpcblpaaGreatDoor.inlineOrderUpto
open Go.ChangeShapes Go.WideShapes Go.ChangeAt Go.RowKit
open Go.ChangeMaps (open_string shut_string)
set_option linter.unusedVariables false
theorem reads (os : Os) {H : Type} (enc : TypeId × Value → H) : ∃ places, DataW.whole enc Tryz.prog ((laidWorld os).forCall (fun _ _ => 0) ⟨#[], #[.agg #[.slice none 0 0, .slice none 0 0, .slice none 0 0, .slice none 0 0]], []⟩).memory Tryz.f10.params.toList Rows.inlineOrderSpec.vars false (#[.agg #[.slice none 0 0, .slice none 0 0, .slice none 0 0, .slice none 0 0]] : Array Value).toList 8 = some ([.agg [.nil, .nil, .nil, .nil]], [], places) :=
  ⟨[], by kernel_rfl⟩
set_option maxRecDepth 100000 in
theorem lifted (os : Os) (started : os.Started) (H : Type) (enc : TypeId × Value → H) (F : Stop.Interp) :
    ReturnsInHanded {} Tryz.checked os 10 .any ((Rows.OpenSpec.upto Rows.inlineOrderSpec).preRow enc Tryz.prog Tryz.f10 Rows.inlineOrderUptoRow.domain false Rows.inlineOrderUptoRow.laid) (((Rows.OpenSpec.upto Rows.inlineOrderSpec).at F).post enc Tryz.prog Tryz.f10 false true false false) := by
  obtain ⟨places, hx⟩ := reads os enc
  refine returnsInHanded_of_row (C := Tryz.checked) (s := (Rows.OpenSpec.upto Rows.inlineOrderSpec)) own started (by kernel_rfl) Tryz.func10
    (witness_row_atRef (enc := enc) (C := Tryz.checked) false (laidWorld os) #[.agg #[.slice none 0 0, .slice none 0 0, .slice none 0 0, .slice none 0 0]] rfl (by kernel_rfl) (by kernel_rfl) (by kernel_rfl)
      (OpenSpec.preRow_of_cond 8 hx (by kernel_rfl) (fun k hk => by cases hk; kernel_rfl) (by kernel_rfl) (laid_met os _))) ?_
  intro W base args ds gs before hval0 hW _ hcond hsz0 hL _ _
  have hval : ∀ (j : Nat) t v, Tryz.f10.params[j]? = some t → args[j]? = some v → Value.okWide Tryz.prog W .any base t v := hval0
  have hW' := hW
  obtain ⟨p, q, hA0, hV, rfl, hfz, hnd⟩ := hW
  have hA : DataW.TrodAll enc Tryz.prog W 0 (fun _ => true) true Tryz.f10.params.toList args.toList ds p := hA0
  rw [Tryz.params10] at hA hval
  obtain ⟨v0, vs0, d0, ds0, p0, q0, hargs, rfl, rfl, h0, r0⟩ := trodAll_cons hA
  obtain ⟨rfl, rfl, rfl⟩ := trodAll_nil r0
  obtain rfl : args = #[v0] := by cases args; simp_all
  obtain ⟨rfl, rfl⟩ := trodVars_none hV
  have lt0 : ∀ x ∈ p0, x.block < W.heap.size := by obtain ⟨m, hm⟩ := h0; exact DataW.trod_lt m _ _ _ hm
  have hr0 := h0
  obtain ⟨m0, hm0⟩ := hr0
  have hT : TabT W := tabs hL
  obtain ⟨cs0, rfl, _⟩ := okWide_struct Tryz.underlying38 (hval 0 38 v0 rfl rfl)
  obtain ⟨X0, hX0, B0, O0⟩ := Pv.rdG m0 _ _ hm0
  replace B0 : Pv.bkG X0 ≤ Rows.uptoBulk d0 := B0
  have hB : Rows.uptoBulkAll [d0] ≤ 1048576 := of_decide_eq_true (hcond _ rfl)
  simp only [Rows.uptoBulkAll] at hB
  refine (Pv.walk_mem hT.space hT.pow (args := [.agg (Pv.pgC X0)]) (fun _ h => Pv.grd_V h) rfl (Pv.reps_one (Pv.rep_pg hX0)) (Pv.order_law_ok X0 (by omega) O0 (Pv.small_bk (by omega)) _)).mono fun e W' ⟨he, bel⟩ => ?_
  subst he
  exact ⟨_, rfl, _, _, _, [], _, [], hW', trodAll_mk1 (shut_bool Tryz.underlying4 _), (trodAll_cons_mk (Below.trod laidOut (by kernel_rfl) (of_decide_eq_true (by kernel_rfl)) h0 bel lt0) trodAll_mk0), rfl, bel.frame _, fun h => by cases h⟩
theorem k0 : (Rows.inlineOrderUptoRow.wf (OpenSpec.ofChange (Rows.OpenSpec.upto Rows.inlineOrderSpec).bare)) = true := by kernel_rfl
theorem k1 : (laidOutB Tryz.prog) = true := by kernel_rfl
theorem k2 : (mapsRowed Tryz.prog) = true := by kernel_rfl
theorem k3 : (Tryz.f10.params.all (Tryz.prog.readableRec ·)) = true := by kernel_rfl
theorem k4 : (namedTie Tryz.prog Rows.inlineOrderUptoRow.named (Rows.OpenSpec.upto Rows.inlineOrderSpec).bare.vars) = true := by kernel_rfl
theorem k5 : ((Rows.inlineOrderUptoRow.stops == [])) = true := by kernel_rfl
theorem k6 : ((Tryz.prog.stops == [])) = true := by kernel_rfl
theorem k7 : ((Rows.inlineOrderUptoRow.knobs == [])) = true := by kernel_rfl
theorem k8 : ((Tryz.prog.stopKnobs == [])) = true := by kernel_rfl
theorem k9 : ((Rows.inlineOrderUptoRow.inPlace == Tryz.prog.inPlace 10)) = true := by kernel_rfl
theorem k10 : ((Rows.inlineOrderUptoRow.unfollowed == Tryz.prog.unfollowed 10)) = true := by kernel_rfl
theorem k11 : ((Rows.inlineOrderUptoRow.recurses == Tryz.prog.recurses 10)) = true := by kernel_rfl
theorem k12 : ((Rows.inlineOrderUptoRow.named == Tryz.prog.varsNamed 10)) = true := by kernel_rfl
theorem k13 : ((Rows.inlineOrderUptoRow.maps == (Tryz.f10.params.toList ++ (Rows.OpenSpec.upto Rows.inlineOrderSpec).bare.plain.varTypes Tryz.prog).any (Tryz.prog.mapsRec ·))) = true := by kernel_rfl
theorem k14 : ((Rows.inlineOrderUptoRow.ifaces == (Tryz.f10.params.toList ++ (Rows.OpenSpec.upto Rows.inlineOrderSpec).bare.plain.varTypes Tryz.prog).any (Tryz.prog.ifacesRec ·))) = true := by kernel_rfl
theorem k15 : ((Rows.inlineOrderUptoRow.mapsOut == Tryz.prog.mapsAmong Tryz.f10.resultTypes.toList)) = true := by kernel_rfl
theorem k16 : ((Rows.inlineOrderUptoRow.loops == (Tryz.f10.params.toList ++ (Rows.OpenSpec.upto Rows.inlineOrderSpec).bare.plain.varTypes Tryz.prog).any (Tryz.prog.loopsFrom ·))) = true := by kernel_rfl
theorem k17 : ((Rows.inlineOrderUptoRow.wideKeys == (Tryz.f10.params.toList ++ (Rows.OpenSpec.upto Rows.inlineOrderSpec).bare.plain.varTypes Tryz.prog ++ Tryz.f10.resultTypes.toList).any (Tryz.prog.wideKeysFrom ·))) = true := by kernel_rfl
theorem k18 : ((Rows.OpenSpec.upto Rows.inlineOrderSpec).bare.vars.all (Tryz.prog.varReadable ·)) = true := by kernel_rfl
theorem k19 : (Tryz.f10.resultTypes.all (fun t => Tryz.prog.readableRec t && decide (t < Tryz.prog.types.size))) = true := by kernel_rfl
theorem k20 : ((Rows.inlineOrderUptoRow.ifacesOut == Tryz.f10.resultTypes.toList.any (Tryz.prog.ifacesRec ·))) = true := by kernel_rfl
theorem k21 : ((Rows.inlineOrderUptoRow.loopsOut == Tryz.f10.resultTypes.toList.any (Tryz.prog.loopsFrom ·))) = true := by kernel_rfl
theorem k22 : ((Rows.inlineOrderUptoRow.plainKeys == Tryz.prog.plainKeys)) = true := by kernel_rfl
theorem k23 : (Rows.inlineOrderUptoRow.shortTexts.isNone) = true := by kernel_rfl
theorem k24 : (Tryz.prog.stopsHeard) = true := by kernel_rfl
theorem k25 : (Tryz.prog.mayEnter) = true := by kernel_rfl
theorem k26 : ((Rows.inlineOrderUptoRow.lifted == Tryz.prog.liftsFinal)) = true := by kernel_rfl
theorem k27 : ((Tryz.prog.make == some Rows.inlineOrderUptoRow.make)) = true := by kernel_rfl
theorem k29 : ((Rows.inlineOrderUptoRow.pinned == Rows.inlineOrderUptoRow.pinnedBy)) = true := by kernel_rfl
theorem k30 : ((Rows.inlineOrderUptoRow.veiled == (Tryz.f10.params.toList ++ (Rows.OpenSpec.upto Rows.inlineOrderSpec).bare.plain.varTypes Tryz.prog ++ Tryz.f10.resultTypes.toList).any (Tryz.prog.veiledRec ·))) = true := by kernel_rfl
theorem k31 : (Rows.inlineOrderUptoRow.veiledFits Tryz.prog Tryz.f10.params.toList (Tryz.f10.params.toList ++ (Rows.OpenSpec.upto Rows.inlineOrderSpec).bare.plain.varTypes Tryz.prog ++ Tryz.f10.resultTypes.toList)) = true := by kernel_rfl
theorem closed : joinedFacts Tryz.prog 10 Tryz.f10 (Rows.OpenSpec.upto Rows.inlineOrderSpec).bare Rows.inlineOrderUptoRow = true := by
  unfold joinedFacts
  refine Bool.and_eq_true_iff.2 ⟨?_, k31⟩
  refine Bool.and_eq_true_iff.2 ⟨?_, k30⟩
  refine Bool.and_eq_true_iff.2 ⟨?_, k29⟩
  refine Bool.and_eq_true_iff.2 ⟨?_, by kernel_rfl⟩
  refine Bool.and_eq_true_iff.2 ⟨?_, k27⟩
  refine Bool.and_eq_true_iff.2 ⟨?_, k26⟩
  refine Bool.and_eq_true_iff.2 ⟨?_, k25⟩
  refine Bool.and_eq_true_iff.2 ⟨?_, k24⟩
  refine Bool.and_eq_true_iff.2 ⟨?_, k23⟩
  refine Bool.and_eq_true_iff.2 ⟨?_, k22⟩
  refine Bool.and_eq_true_iff.2 ⟨?_, k21⟩
  refine Bool.and_eq_true_iff.2 ⟨?_, k20⟩
  refine Bool.and_eq_true_iff.2 ⟨?_, k19⟩
  refine Bool.and_eq_true_iff.2 ⟨?_, k18⟩
  refine Bool.and_eq_true_iff.2 ⟨?_, k17⟩
  refine Bool.and_eq_true_iff.2 ⟨?_, k16⟩
  refine Bool.and_eq_true_iff.2 ⟨?_, k15⟩
  refine Bool.and_eq_true_iff.2 ⟨?_, k14⟩
  refine Bool.and_eq_true_iff.2 ⟨?_, k13⟩
  refine Bool.and_eq_true_iff.2 ⟨?_, k12⟩
  refine Bool.and_eq_true_iff.2 ⟨?_, k11⟩
  refine Bool.and_eq_true_iff.2 ⟨?_, k10⟩
  refine Bool.and_eq_true_iff.2 ⟨?_, k9⟩
  refine Bool.and_eq_true_iff.2 ⟨?_, k8⟩
  refine Bool.and_eq_true_iff.2 ⟨?_, k7⟩
  refine Bool.and_eq_true_iff.2 ⟨?_, k6⟩
  refine Bool.and_eq_true_iff.2 ⟨?_, k5⟩
  refine Bool.and_eq_true_iff.2 ⟨?_, k4⟩
  refine Bool.and_eq_true_iff.2 ⟨?_, k3⟩
  refine Bool.and_eq_true_iff.2 ⟨?_, k2⟩
  refine Bool.and_eq_true_iff.2 ⟨?_, k1⟩
  exact k0
theorem fnamed : Tryz.pinned.checked.prog.funcNamed Rows.inlineOrderUptoRow.func = some 10 := by kernel_rfl
theorem inst : Tryz.f10.isInstance Tryz.prog Rows.inlineOrderUptoRow.origin Rows.inlineOrderUptoRow.targs := of_decide_eq_true (by kernel_rfl)
theorem wrap : Tryz.f10.isWrapper Tryz.prog Rows.inlineOrderUptoRow.wrapper Rows.inlineOrderUptoRow.mainSum := by unfold Func.isWrapper; first | (rw [if_pos (by decide +kernel)]; kernel_rfl) | (rw [if_neg (by decide +kernel)]; exact ⟨rfl, rfl⟩)
theorem said : Rows.InlineOrderUptoSaid :=
  OpenClaim.holds_of_cond 10 Tryz.f10 rfl rfl rfl rfl rfl rfl rfl ⟨rfl, rfl, rfl, rfl, rfl⟩ rfl rfl rfl rfl rfl fnamed Tryz.func10 closed inst wrap
    (fun os started H enc _ F => by rw [OpenClaim.pre_eq_preRow]; exact lifted os started H enc F)
theorem plain (f : FuncId) (fn : Func) (hf : Tryz.pinned.checked.prog.funcNamed Rows.inlineOrderUptoRow.func = some f) (hfn : Tryz.pinned.checked.prog.funcs[f]? = some fn) :
    false = Tryz.pinned.checked.prog.looks [] ∧ ∀ (j : Nat) t, fn.params[j]? = some t → Tryz.pinned.checked.prog.wantsStandIn t = false := by
  obtain rfl : f = 10 := Option.some.inj ((show Tryz.prog.funcNamed Rows.inlineOrderUptoRow.func = some 10 by kernel_rfl).symm.trans hf) |>.symm
  obtain rfl : fn = Tryz.f10 := (Option.some.inj (Tryz.func10.symm.trans hfn)).symm
  refine ⟨by kernel_rfl, fun j t ht => ?_⟩
  rw [Tryz.params10] at ht
  have ht2 := Array.mem_of_getElem? ht
  have ht3 : t = 38 := by simpa using ht2
  obtain rfl := ht3
  exact (show Tryz.prog.wantsStandIn 38 = false by kernel_rfl)
end Go.Proofs.YtfgoedndpcblpaaGreatDoor.inlineOrderUpto
namespace Go.Proofs.YtfgoedndpcblpaaGreatDoor
theorem inlineOrderUpto_holds : Rows.InlineOrderUptoCardSaid :=
  Claim7.holds_tied_plain_at .later [] _ _ _ _ inlineOrderUpto.said (fun _ h => by cases h) (by kernel_rfl) (fun _ h => by cases h) inlineOrderUpto_row_tie rfl ⟨rfl, rfl⟩ (by kernel_rfl) rfl inlineOrderUpto.plain (by kernel_rfl)
#print axioms inlineOrderUpto_holds
end Go.Proofs.YtfgoedndpcblpaaGreatDoor
end
