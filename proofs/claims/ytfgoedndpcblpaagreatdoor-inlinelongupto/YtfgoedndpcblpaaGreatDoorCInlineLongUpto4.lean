/- Texts of this claim, joined. -/
import Derived.Test.YtfgoedndpcblpaaGreatDoorCInlineLongUpto3
import Derived.Lib.ItoaNum
import Derived.Lib.AppendZerosOnto
import Derived.Lib.Repeat
import Derived.Lib.Join
import Derived.Lib.ItoaLen
section
namespace Go.Proofs.YtfgoedndpcblpaaGreatDoor.Pv
open Go Go.Proofs Go.RowKit Go.Proofs.YtfgoedndpcblpaaGreatDoor.Lx Go.Proofs.YtfgoedndpcblpaaGreatDoor.Ps
set_option linter.unusedSimpArgs false
set_option linter.unusedVariables false
noncomputable section
theorem lib_ok {T : Base} {b c : Nat} {o q : Obj} (ha : asciiB b o) (ha' : T b = some o) (hp : powB c q) (hp' : T c = some q) : ∀ f h, libL f = some h → FunOk Tryz.prog T f h := by
  refine look_all (fun x hx => ?_) (fun f h e => by cases e)
  simp only [List.mem_cons, List.not_mem_nil, or_false] at hx
  rcases hx with rfl | rfl | rfl | rfl | rfl | rfl
  · exact fields_fun ha ha'
  · exact join_fun
  · exact repeat_fun
  · exact format_fun hp hp'
  · exact copy_fun
  · exact string_fun
set_option maxRecDepth 100000
theorem ro_copy : ∀ d, roF Tryz.prog d 201 = false
  | 0 | 1 | 2 | 3 | 4 | 5 | 6 | 7 => by kernel_rfl
  | k + 8 => by kernel_rfl
theorem ro_stop : ∀ d, roF Tryz.prog d 117 = false
  | 0 | 1 | 2 | 3 | 4 | 5 | 6 | 7 => by kernel_rfl
  | k + 8 => by kernel_rfl
theorem ro_take : ∀ d, roF Tryz.prog d 119 = false
  | 0 | 1 | 2 | 3 | 4 | 5 | 6 | 7 => by kernel_rfl
  | k + 8 => by kernel_rfl
theorem ro_need : ∀ d, roF Tryz.prog d 176 = false
  | 0 | 1 | 2 | 3 | 4 | 5 | 6 | 7 => by kernel_rfl
  | k + 8 => by kernel_rfl
theorem ro_name : ∀ d, roF Tryz.prog d 122 = false
  | 0 | 1 | 2 | 3 | 4 | 5 | 6 | 7 => by kernel_rfl
  | k + 8 => by kernel_rfl
theorem ro_expr : ∀ d, roF Tryz.prog d 113 = false
  | 0 | 1 | 2 | 3 | 4 | 5 | 6 | 7 => by kernel_rfl
  | k + 8 => by kernel_rfl
theorem libL_ro : LibRo Tryz.prog libL := by
  refine look_all (Q := fun f h => ∀ d, roF Tryz.prog d f = true → ∀ args σ r σ1, h args σ = some (r, σ1) → σ1 = σ) (fun x hx d hd args σ r σ1 he => ?_) (fun f h e => by cases e)
  simp only [List.mem_cons, List.not_mem_nil, or_false] at hx
  rcases hx with rfl | rfl | rfl | rfl | rfl | rfl
  · dsimp only at he; unfold fieldsH at he; split at he
    · split at he
      · cases he; rfl
      · cases he
    · cases he
  · dsimp only at he; unfold joinH at he; split at he
    · split at he
      · split at he
        · cases he; rfl
        · cases he
      · cases he
    · cases he
  · dsimp only at he; unfold repeatH at he; split at he
    · split at he
      · cases he; rfl
      · cases he
    · cases he
  · dsimp only at he; unfold formatH at he; split at he
    · split at he
      · cases he; rfl
      · cases he
    · cases he
  · rw [ro_copy] at hd; cases hd
  · dsimp only at he; unfold stringH at he; split at he
    · split at he
      · split at he
        · split at he
          · cases he; rfl
          · cases he
        · cases he
      · cases he
    · cases he
theorem mixed : Tryz.prog.follows .mixedOrders = true := by kernel_rfl
theorem hand_L {T : Base} (h : ∀ f h, libL f = some h → FunOk Tryz.prog T f h) : HandOk Tryz.prog T (EV Tryz.prog libL) := EV_hand (ev_sound mixed libL_ro h)
theorem hF_L : libL 116 = some fieldsH := rfl
theorem free_L : Free libL readFs := by
  intro f hf
  simp only [readFs, exprFs, List.cons_append, List.nil_append, List.mem_cons, List.not_mem_nil, or_false] at hf
  rcases hf with rfl | rfl | rfl | rfl | rfl | rfl | rfl | rfl | rfl | rfl | rfl | rfl | rfl | rfl | rfl | rfl | rfl | rfl | rfl | rfl | rfl | rfl | rfl | rfl | rfl | rfl | rfl | rfl | rfl | rfl | rfl | rfl | rfl <;> rfl
theorem libX_ok {T : Base} (h0 : ∀ f h, libL f = some h → FunOk Tryz.prog T f h) : ∀ f h, libX f = some h → FunOk Tryz.prog T f h := by
  have hH := hand_L h0
  have hl := free_L
  refine look_all (fun x hx => ?_) h0
  simp only [List.mem_cons, List.not_mem_nil, or_false] at hx
  rcases hx with rfl | rfl | rfl | rfl | rfl | rfl | rfl | rfl | rfl | rfl
  · skip
    refine told_fun hH fun args σ r σ' he => ?_
    dsimp only at he; unfold lexH at he
    split at he
    · rename_i s
      split at he
      · rename_i hs; cases he; exact Lex_ok (hl.sub (by simp)) hF_L s hs
      · cases he
    · cases he
  · skip
    refine told_fun hH (meth_told fun p args r p' he => ?_)
    unfold onG at he
    split at he
    · cases he; exact ⟨rfl, rfl, _, rfl, rfl, on_ok (hl _ (by simp)) _ _⟩
    · cases he
  · skip
    refine told_fun hH (meth_told fun p args r p' he => ?_)
    unfold wordG at he
    split at he
    · cases he; exact ⟨rfl, rfl, _, rfl, rfl, word_ok (hl.sub (by simp)) _ _ _⟩
    · cases he
  · skip
    refine told_fun hH (meth_told fun p args r p' he => ?_)
    unfold placeG at he
    split at he
    · cases he; exact ⟨rfl, rfl, _, rfl, rfl, place_ok (hl _ (by simp)) _⟩
    · cases he
  · skip
    refine told_fun hH (meth_told fun p args r p' he => ?_)
    unfold stopG at he
    split at he
    · cases he; exact ⟨rfl, rfl, _, rfl, rfl, stop_ok (hl _ (by simp)) _ _⟩
    · cases he
  · skip
    refine told_fun hH (meth_told fun p args r p' he => ?_)
    unfold takeG at he
    split at he
    · split at he
      · rename_i hv; cases he; exact ⟨rfl, rfl, _, rfl, rfl, take_ok (hl.sub (by simp)) _ hv _ _⟩
      · cases he
    · cases he
  · skip
    refine told_fun hH (meth_told fun p args r p' he => ?_)
    unfold needG at he
    split at he
    · split at he
      · rename_i hv; cases he; exact ⟨rfl, rfl, _, rfl, rfl, need_ok (hl.sub (by simp)) _ hv _⟩
      · cases he
    · cases he
  · skip
    refine told_fun hH (meth_told fun p args r p' he => ?_)
    unfold nameG at he
    split at he
    · split at he
      · rename_i hv; cases he; exact ⟨rfl, rfl, _, rfl, rfl, name_ok (hl.sub (by simp)) hF_L _ hv⟩
      · cases he
    · cases he
  · skip
    refine told_fun hH (meth_told fun p args r p' he => ?_)
    unfold exprG at he
    split at he
    · split at he
      · rename_i hv
        cases he
        obtain ⟨r0, h1, h2, h3⟩ := expr_ok (L := libL) (hl.sub (by simp +contextual)) hF_L hv.2 hv.1 (D := 231) (Nat.le_refl _)
        exact ⟨rfl, rfl, r0, h1, h2, h3⟩
      · cases he
    · cases he
  · skip
    refine told_fun hH fun args σ r σ' he => ?_
    dsimp only at he; unfold reservedH at he
    split at he
    · cases he; exact reserved_ok (hl.sub (by simp)) hF_L _
    · cases he
theorem libX_ro : LibRo Tryz.prog libX := by
  refine look_all (Q := fun f h => ∀ d, roF Tryz.prog d f = true → ∀ args σ r σ1, h args σ = some (r, σ1) → σ1 = σ) (fun x hx d hd args σ r σ1 he => ?_) libL_ro
  simp only [List.mem_cons, List.not_mem_nil, or_false] at hx
  rcases hx with rfl | rfl | rfl | rfl | rfl | rfl | rfl | rfl | rfl | rfl
  · dsimp only at he; unfold lexH at he; split at he
    · split at he
      · cases he; rfl
      · cases he
    · cases he
  · skip
    refine meth_still (fun p args r p' h => ?_) _ _ _ _ he
    unfold onG at h; split at h <;> cases h; rfl
  · skip
    refine meth_still (fun p args r p' h => ?_) _ _ _ _ he
    unfold wordG at h; split at h <;> cases h; rfl
  · skip
    refine meth_still (fun p args r p' h => ?_) _ _ _ _ he
    unfold placeG at h; split at h <;> cases h; rfl
  · rw [ro_stop] at hd; cases hd
  · rw [ro_take] at hd; cases hd
  · rw [ro_need] at hd; cases hd
  · rw [ro_name] at hd; cases hd
  · rw [ro_expr] at hd; cases hd
  · dsimp only at he; unfold reservedH at he; split at he <;> cases he; rfl
def aliveH : List PV → Sto → Option (PV × Sto)
  | [], σ => some (boo true, σ)
  | _, _ => none
end
end Go.Proofs.YtfgoedndpcblpaaGreatDoor.Pv
end
section
namespace Go.Proofs.YtfgoedndpcblpaaGreatDoor.Ps
open Go Go.Proofs Go.Proofs.YtfgoedndpcblpaaGreatDoor.Lx
set_option linter.unusedVariables false
mutual
theorem Ex.all {P : Ex → Prop} (h : ∀ op name n l a, (∀ x ∈ l, P x) → P (.mk op name n l a)) : ∀ e, P e
  | .mk op name n l a => h op name n l a (Ex.alls h l)
theorem Ex.alls {P : Ex → Prop} (h : ∀ op name n l a, (∀ x ∈ l, P x) → P (.mk op name n l a)) : ∀ (l : List Ex), ∀ x ∈ l, P x
  | [], x, hx => by cases hx
  | y :: ys, x, hx => (List.mem_cons.1 hx).elim (fun e => e ▸ Ex.all h y) (fun hx => Ex.alls h ys x hx)
end
def Ex.op : Ex → List UInt8
  | .mk op _ _ _ _ => op.data.toList
def bareL : List (List UInt8) := [[110, 117, 109], [110, 97, 109, 101], [97, 116], [116, 114, 117, 101], [102, 97, 108, 115, 101]]
def partF (l : List (List UInt8 × List UInt8)) (k : Nat) : List UInt8 := match l[k]? with
  | some x => x.2
  | none => []
def closedF (l : List (List UInt8 × List UInt8)) (k : Nat) : List UInt8 := match l[k]? with
  | some x => if bareL.contains x.1 = true then x.2 else [40] ++ x.2 ++ [41]
  | none => []
def textF (op name : List UInt8) (n : Int) (l : List (List UInt8 × List UInt8)) : List UInt8 :=
  if op = [110, 117, 109] then Lib.itoa n
  else if op = [110, 97, 109, 101] then name
  else if op = [97, 116] then name ++ [91] ++ partF l 0 ++ [93]
  else if op = [116, 114, 117, 101] ∨ op = [102, 97, 108, 115, 101] then op
  else if op = [110, 101, 103] then [45] ++ closedF l 0
  else if op = [110, 111, 116] then [33] ++ closedF l 0
  else closedF l 0 ++ [32] ++ op ++ [32] ++ closedF l 1
mutual
def textE : Ex → List UInt8
  | .mk op name n l _ => textF op.data.toList name.data.toList n (textsE l)
def textsE : List Ex → List (List UInt8 × List UInt8)
  | [] => []
  | x :: xs => (x.op, textE x) :: textsE xs
end
theorem textsE_get : ∀ (l : List Ex) (k : Nat), (textsE l)[k]? = l[k]?.map fun x => (x.op, textE x)
  | [], k => by simp [textsE]
  | x :: xs, 0 => by simp [textsE]
  | x :: xs, k + 1 => by simp only [textsE, List.getElem?_cons_succ]; exact textsE_get xs k
inductive St where
  | mk (op name : ByteArray) (e : List Ex) (a b : List St) (at_ : Int)
  deriving Inhabited
mutual
theorem St.all {P : St → Prop} (h : ∀ op name e a b i, (∀ x ∈ a, P x) → (∀ x ∈ b, P x) → P (.mk op name e a b i)) : ∀ e, P e
  | .mk op name e a b i => h op name e a b i (St.alls h a) (St.alls h b)
theorem St.alls {P : St → Prop} (h : ∀ op name e a b i, (∀ x ∈ a, P x) → (∀ x ∈ b, P x) → P (.mk op name e a b i)) : ∀ (l : List St), ∀ x ∈ l, P x
  | [], x, hx => by cases hx
  | y :: ys, x, hx => (List.mem_cons.1 hx).elim (fun e => e ▸ St.all h y) (fun hx => St.alls h ys x hx)
end
end Go.Proofs.YtfgoedndpcblpaaGreatDoor.Ps
end
section
namespace Go.Proofs.YtfgoedndpcblpaaGreatDoor.Ps
open Go Go.Proofs Go.Proofs.YtfgoedndpcblpaaGreatDoor.Lx
set_option linter.unusedVariables false
structure En where
  name : ByteArray
  l : List ByteArray
structure Vr where
  name : ByteArray
  type : ByteArray
  len : Int
structure Pc where
  name : ByteArray
  body : List St
structure Pg where
  enums : List En
  vars : List Vr
  procs : List Pc
  main : List St
def exprT (p : PS) : Ex × PS := exprS 231 0 p
def e0 : ByteArray := ⟨#[]⟩
def stmtsS (g : PS → St × PS) : Nat → PS → List St × PS
  | 0, p => ([], p)
  | m + 1, p => if p.no = 0 then
      (if p.word 2 [125] = true then ([], p.go) else ((g p).1 :: (stmtsS g m (g p).2).1, (stmtsS g m (g p).2).2))
    else ([], p)
def bodyF (g : PS → St × PS) (p : PS) : List St × PS :=
  if p.word 2 [123] = true then
    (if 16 ≤ p.bl then ([], p.stop 131) else
      ((stmtsS g (p.l.length + 2) { p with bl := p.bl + 1, k := p.k + 1 }).1,
        { (stmtsS g (p.l.length + 2) { p with bl := p.bl + 1, k := p.k + 1 }).2 with bl := (stmtsS g (p.l.length + 2) { p with bl := p.bl + 1, k := p.k + 1 }).2.bl - 1 }))
  else ([], p.stop 130)
def lenS (name type : ByteArray) (p : PS) : Vr × PS :=
  if p.word 2 [91] = true then
    (if (p.go.on 1 && decide (1 ≤ p.go.num)) = true then (⟨name, type, p.go.num⟩, (p.go.go.need [93]).need [59])
    else (⟨name, type, 0⟩, p.go.stop 130))
  else (⟨name, type, 0⟩, p.need [59])
theorem Adv.bodyF {g : PS → St × PS} (h : ∀ q, Adv q (g q).2) (p : PS) : Adv p (bodyF g p).2 := by
  have hs : ∀ m q, Adv q (stmtsS g m q).2 := by
    intro m
    induction m with
    | zero => intro q; exact .refl q
    | succ m ih =>
      intro q
      simp only [stmtsS]
      split
      · split
        · exact .go q
        · exact (h q).trans (ih _)
      · exact .refl q
  unfold Ps.bodyF
  split
  · split
    · exact .stop p _
    · have := hs (p.l.length + 2) { p with bl := p.bl + 1, k := p.k + 1 }
      exact ⟨this.l, this.e, by show _ - 1 = _; rw [this.bl]; rfl, this.inn, Nat.le_trans (Nat.le_succ _) this.k, this.no⟩
  · exact .stop p _
theorem Adv.exprT (p : PS) : Adv p (exprT p).2 := .expr _ _ _
theorem Adv.lenS (n t : ByteArray) (p : PS) : Adv p (lenS n t p).2 := by
  unfold Ps.lenS
  split
  · split
    · exact (Adv.go p).trans ((Adv.go _).trans ((Adv.need _ _).trans (.need _ _)))
    · exact (Adv.go p).trans (.stop _ _)
  · exact .need _ _
def Took (p q : PS) : Prop := q.no ≠ 0 ∨ p.k < q.k
theorem Took.go (p : PS) : Took p p.go := .inr (Nat.lt_succ_self _)
theorem Took.stop (p : PS) {x : Int} (hx : x ≠ 0) : Took p (p.stop x) := by
  unfold PS.stop; split
  · exact .inl hx
  · exact .inl (by assumption)
theorem Took.name (p : PS) : Took p p.name.2 := by unfold PS.name; split; exact .go p; exact .stop p (by decide)
end Go.Proofs.YtfgoedndpcblpaaGreatDoor.Ps
end
section
namespace Go.Proofs.YtfgoedndpcblpaaGreatDoor.Pv
open Go Go.Proofs Go.Proofs.YtfgoedndpcblpaaGreatDoor.Lx Go.Proofs.YtfgoedndpcblpaaGreatDoor.Ps
set_option linter.unusedSimpArgs false
set_option linter.unusedVariables false
variable {L : Lib} {σ : Sto}
theorem setAt_eq (cells : List PV) (o : Nat) (vs : List PV) : setAt cells o vs = cells.take o ++ (vs ++ cells.drop (o + vs.length)) := rfl
@[simp] theorem psC_len (p : PS) : (psC p).length = 6 := rfl
@[simp] theorem psC_flg (p : PS) : flagged (psC p) = false := rfl
@[simp high] theorem psC_l (p : PS) : (psC p)[0]? = some (.sl (p.l.map tokR) .unk) := rfl
@[simp high] theorem psC_k (p : PS) : (psC p)[1]? = some (int p.k) := rfl
@[simp high] theorem psC_e (p : PS) : (psC p)[2]? = some (int p.e) := rfl
@[simp high] theorem psC_no (p : PS) : (psC p)[3]? = some (int p.no) := rfl
@[simp high] theorem psC_bl (p : PS) : (psC p)[4]? = some (int p.bl) := rfl
@[simp high] theorem psC_inn (p : PS) : (psC p)[5]? = some (int p.inn) := rfl
@[simp high] theorem psC_go (p : PS) : setAt (psC p) 1 [int ((p.k + 1 : Nat) : Int)] = psC p.go := rfl
@[simp high] theorem psC_setbl (p : PS) (n : Nat) : setAt (psC p) 4 [int (n : Int)] = psC { p with bl := n } := rfl
@[simp] theorem PS.go_l (p : PS) : p.go.l = p.l := rfl
@[simp] theorem PS.go_inn (p : PS) : p.go.inn = p.inn := rfl
@[simp] theorem PS.go_bl (p : PS) : p.go.bl = p.bl := rfl
@[simp] theorem PS.stop_l (p : PS) (x : Int) : (p.stop x).l = p.l := (Adv.stop p x).l
@[simp] theorem PS.stop_inn (p : PS) (x : Int) : (p.stop x).inn = p.inn := (Adv.stop p x).inn
@[simp] theorem PS.stop_bl (p : PS) (x : Int) : (p.stop x).bl = p.bl := (Adv.stop p x).bl
@[simp] theorem PS.need_l (p : PS) (x : List UInt8) : (p.need x).l = p.l := (Adv.need p x).l
@[simp] theorem PS.need_inn (p : PS) (x : List UInt8) : (p.need x).inn = p.inn := (Adv.need p x).inn
@[simp] theorem PS.need_bl (p : PS) (x : List UInt8) : (p.need x).bl = p.bl := (Adv.need p x).bl
@[simp] theorem PS.name_l (p : PS) : p.name.2.l = p.l := (Adv.name p).l
@[simp] theorem PS.name_inn (p : PS) : p.name.2.inn = p.inn := (Adv.name p).inn
@[simp] theorem PS.name_bl (p : PS) : p.name.2.bl = p.bl := (Adv.name p).bl
@[simp] theorem exprT_l (p : PS) : (exprT p).2.l = p.l := (Adv.exprT p).l
@[simp] theorem exprT_inn (p : PS) : (exprT p).2.inn = p.inn := (Adv.exprT p).inn
@[simp] theorem exprT_bl (p : PS) : (exprT p).2.bl = p.bl := (Adv.exprT p).bl
end Go.Proofs.YtfgoedndpcblpaaGreatDoor.Pv
end
section
namespace Go.Proofs.YtfgoedndpcblpaaGreatDoor.Pv
open Go Go.Proofs Go.Proofs.YtfgoedndpcblpaaGreatDoor.Lx Go.Proofs.YtfgoedndpcblpaaGreatDoor.Ps
set_option linter.unusedSimpArgs false
set_option linter.unusedVariables false
variable {L : Lib} {σ : Sto}
mutual
def stR : Ps.St → List FV
  | .mk op name e a b i => [.im (.string op), .im (.string name), .sl (exRs e), .sl (stRs a), .sl (stRs b), .im (.int .i64 i)]
def stRs : List Ps.St → List (List FV)
  | [] => []
  | x :: xs => stR x :: stRs xs
end
abbrev stL (op name : ByteArray) (e : List (List FV)) (te : Tag) (a : List (List FV)) (ta : Tag) (b : List (List FV)) (tb : Tag) (i : Int) : List PV := [str op, str name, .sl e te, .sl a ta, .sl b tb, int i]
def stT (te ta tb : Tag) : Ps.St → List PV
  | .mk op name e a b i => stL op name (exRs e) te (stRs a) ta (stRs b) tb i
def stC (x : Ps.St) : List PV := stT .unk .unk .unk x
theorem stC_row (e : Ps.St) : toFs (stC e) = some (stR e) ∧ ptrsL (stC e) = [] ∧ eraL (stC e) = stC e := by cases e; exact ⟨rfl, rfl, rfl⟩
@[simp] theorem stC_flag (x : Ps.St) : flagged (stC x) = false := by cases x; rfl
def RetV (L : Lib) (f : FuncId) (args : List PV) (p : PS) (v : PV) (p' : PS) : Prop := ∃ r, r.ptrs = [] ∧ r.era = v ∧ Meth L f args p r p'
theorem RetV.call {f : FuncId} {args : List PV} {p p' : PS} {v : PV} (h : RetV L f args p v p') (ha : ptrsL args = []) (he : eraL args = args) {b : Nat} (hb : σ.bx[b]? = some (psB p)) : callE (EV Tryz.prog L) f (.ptr b 0 :: args) σ = some (v, { σ with bx := σ.bx.set b (psB p') }) := by
  obtain ⟨r, h1, h2, h3⟩ := h
  rw [← h2]; exact h3.call ha he h1 hb
@[simp] def stmFs : List FuncId := exprFs ++ [211, 245, 246, 247, 248, 249, 212, 178, 123]
abbrev zSt (op name : ByteArray) (a : Int) : List PV := stL op name [] .full [] .full [] .full a
def plainTag (t : Tag) : Prop := t = .unk ∨ t = .full
def Wrd (L : Lib) (F : FuncId) (p : PS) (op name : ByteArray) (a : Int) (x : Ps.St) (p' : PS) : Prop :=
  ∃ te ta tb more gr, EV Tryz.prog L F [.ptr 0 0, .ptr 1 0] ⟨[psB p, .cells (zSt op name a)], []⟩ = some (.tup [], ⟨psB p' :: .cells (stT te ta tb x) :: more, gr⟩) ∧ plainTag ta ∧ plainTag tb ∧ (plainTag te ∨ ∃ g y, te = .grow g ∧ gr[g]? = some y)
theorem Wrd.call {F : FuncId} {p p' : PS} {op name : ByteArray} {a : Int} {x : Ps.St} (h : Wrd L F p op name a x p') (x2 : Bx) (rest : List Bx) (gr : List (Nat × Nat)) :
    ∃ te ta tb gr', callE (EV Tryz.prog L) F [.ptr 0 0, .ptr 2 0] ⟨psB p :: x2 :: .cells (zSt op name a) :: rest, gr⟩ = some (.tup [], ⟨psB p' :: x2 :: .cells (stT te ta tb x) :: rest, gr'⟩) := by
  obtain ⟨te, ta, tb, more, gr0, h, h1, h2, h3⟩ := h
  obtain ⟨xo, xn, xe, xa, xb, xi⟩ := x
  have f1 := psC_flat p
  have f2 := psC_flat p'
  have e0 : gather (psB p :: x2 :: .cells (zSt op name a) :: rest) 64 (ptrsL [.ptr 0 0, .ptr 2 0]) [] = [0, 2] := by
    simp [ptrsL, PV.ptrs, gather, ptrsAt, Bx.ptrs, f1.ptrs]
  have e1 : tagsB (psB p :: x2 :: .cells (zSt op name a) :: rest) [0, 2] = [] := by simp [tagsB, tagsAt, Bx.tags, f1.tags, tagsL, PV.tags, Tag.rows]
  have e2 : renL (find [0, 2]) (fun _ => .unk) [.ptr 0 0, .ptr 2 0] = some [.ptr 0 0, .ptr 1 0] := rfl
  have e3 : selE ⟨psB p :: x2 :: .cells (zSt op name a) :: rest, gr⟩ [0, 2] [] = some ⟨[psB p, .cells (zSt op name a)], []⟩ := by
    simp [selE, pickL, renBs, Bx.ren, f1.ren _ (Tag.sel []) rfl rfl, renL, PV.ren, Tag.sel]
  have e4 : gather (psB p' :: .cells (stT te ta tb (.mk xo xn xe xa xb xi)) :: more) 64 ((PV.tup []).ptrs ++ ptrsUpto (psB p' :: .cells (stT te ta tb (.mk xo xn xe xa xb xi)) :: more) [0, 2].length) (iota [0, 2].length) = [0, 1] := by
    simp [ptrsUpto, ptrsAt, Bx.ptrs, f2.ptrs, iota, gather, ptrsL, PV.ptrs, stT]
  unfold callE
  rw [e0, e1]
  simp only [dd]
  unfold callIn
  rw [e2, e3]
  simp only [h]
  unfold callBack
  rw [e4]
  rcases h3 with h3 | ⟨g, y, rfl, hg⟩
  · have e5 : tagsB (psB p' :: .cells (stT te ta tb (.mk xo xn xe xa xb xi)) :: more) [0, 1] = [] := by
      rcases h1 with rfl | rfl <;> rcases h2 with rfl | rfl <;> rcases h3 with rfl | rfl <;> simp [tagsB, tagsAt, Bx.tags, f2.tags, tagsL, PV.tags, Tag.rows, stT]
    have e6 : selE ⟨psB p' :: .cells (stT te ta tb (.mk xo xn xe xa xb xi)) :: more, gr0⟩ [0, 1] [] = some ⟨[psB p', .cells (stT te ta tb (.mk xo xn xe xa xb xi))], []⟩ := by
      rcases h1 with rfl | rfl <;> rcases h2 with rfl | rfl <;> rcases h3 with rfl | rfl <;> simp [selE, pickL, renBs, Bx.ren, f2.ren _ (Tag.sel []) rfl rfl, renL, PV.ren, Tag.sel, stT]
    rw [e5]
    simp only [dd, iota, List.length_nil]
    rw [e6]
    refine ⟨te, ta, tb, gr, ?_⟩
    rcases h1 with rfl | rfl <;> rcases h2 with rfl | rfl <;> rcases h3 with rfl | rfl <;> simp [PV.ren, renL, renBs, Bx.ren, f2.ren _ (Tag.back [] gr.length 0) rfl rfl, backL, putMany, stT, Tag.back, backB]
  · have e5 : tagsB (psB p' :: .cells (stT (.grow g) ta tb (.mk xo xn xe xa xb xi)) :: more) [0, 1] = [g] := by
      rcases h1 with rfl | rfl <;> rcases h2 with rfl | rfl <;> simp [tagsB, tagsAt, Bx.tags, f2.tags, tagsL, PV.tags, Tag.rows, stT]
    have e6 : selE ⟨psB p' :: .cells (stT (.grow g) ta tb (.mk xo xn xe xa xb xi)) :: more, gr0⟩ [0, 1] [g] = some ⟨[psB p', .cells (stT (.grow 0) ta tb (.mk xo xn xe xa xb xi))], [y]⟩ := by
      rcases h1 with rfl | rfl <;> rcases h2 with rfl | rfl <;> simp [selE, pickL, renBs, Bx.ren, f2.ren _ (Tag.sel [g]) rfl rfl, renL, PV.ren, Tag.sel, stT, hg, find]
    have e7 : dd [g] [] = [g] := by simp [dd]
    rw [e5]
    simp only [iota, List.length_nil]
    rw [e7, e6]
    refine ⟨.grow gr.length, ta, tb, gr ++ [y], ?_⟩
    rcases h1 with rfl | rfl <;> rcases h2 with rfl | rfl <;> simp [PV.ren, renL, renBs, Bx.ren, f2.ren _ (Tag.back [] gr.length 1) rfl rfl, backL, putMany, stT, Tag.back, backB]
end Go.Proofs.YtfgoedndpcblpaaGreatDoor.Pv
end
section
namespace Go.Proofs.YtfgoedndpcblpaaGreatDoor.Pv
open Go Go.Proofs Go.RowKit
set_option linter.unusedSimpArgs false
set_option linter.unusedVariables false
def Asd (p : Prop) : Prop := p
theorem firstCells_zero (P : Program) (size : Nat) (ao : Option Addr) (w : World) : (Builtin.firstCells size 0 (.slice ao 0 0)).run P w = .ok #[] w := by
  cases ao with
  | none => rfl
  | some a => simp [Builtin.firstCells, loadCells]; rfl
theorem zeros_run {P : Program} (W : World) (t tn ty e : TypeId) (sz : Nat) (ht : P.underlying t = some (.slice e)) (htn : P.underlying tn = some (.int .i64)) (hi3 : (P.info? e).map (fun i => (i.zero.map (·.cells.size), i.size, decide (i.bytes ≤ 1048576))) = some (some sz, sz, true)) (hs0 : 0 < sz) (ao : Option Addr) (n : Nat) (h0 : 0 < n) (hn : n ≤ 1000000) :
    ∃ cs cap, (Builtin.append_ #[t, tn] ty #[.slice ao 0 0, .int .i64 n]).run P W = .ok (.slice (some ⟨W.heap.size, 0, none⟩) n cap) (W.drew.alloc (.cells cs e)) ∧ cs.size = cap * sz ∧ n ≤ cap := by
  obtain ⟨i, hi, h3⟩ := Option.map_eq_some_iff.1 hi3
  simp only [Prod.mk.injEq, Option.map_eq_some_iff, decide_eq_true_eq] at h3
  obtain ⟨⟨z, hz, hzs⟩, hs, hb⟩ := h3
  have hge := grownCap_ge W n 0 e
  have hnb : n * i.bytes ≤ 1000000 * 1048576 := Nat.mul_le_mul hn hb
  have h := Go.Lib.run_append_grow_zeros (P := P) W t tn ty e i z .i64 .i64 ht htn hi hz ao 0 0 [] (firstCells_zero P i.size ao W.drew) n h0 (by omega) (by omega) (by omega) (by omega) (by rw [Nat.zero_add, nextslicecap_zero h0]; omega)
  rw [Nat.zero_add] at h
  refine ⟨_, _, h, ?_, hge⟩
  have e1 : grownCap W n 0 e = n + (grownCap W n 0 e - n) := by omega
  simp only [Array.size_append, size_zeroCells, hzs]
  conv => rhs; rw [e1, Nat.add_mul]
  simp
def GrowPost (W : World) (n sz : Nat) (e : TypeId) (x : Ending) (w' : World) : Prop := ∃ cs cap, x = .returned (.slice (some ⟨W.heap.size, 0, none⟩) 0 cap) ∧ w' = W.drew.alloc (.cells cs e) ∧ cs.size = cap * sz ∧ n ≤ cap
def growH (sz : Nat) : List PV → Sto → Option (PV × Sto)
  | [.sl [] .full, .im (.int .i64 n)], σ => if 0 ≤ n ∧ n ≤ 1000000 then (if n = 0 then some (.sl [] .full, σ) else some (.sl [] (.grow σ.gr.length), { σ with gr := σ.gr ++ [(0, sz)] })) else none
  | _, _ => none
theorem grow_fun {T : Base} {f : FuncId} {sz : Nat} {e : TypeId} (hsz : sz ≠ 0 ∧ (e = byteT → sz = 1)) (hne : e ≠ byteT)
    (h1 : ∀ (W : World) (ao : Option Addr) (n : Nat), 0 < n → n ≤ 1000000 → Calls Tryz.prog f #[.slice ao 0 0, .int .i64 n] W (GrowPost W n sz e))
    (h2 : ∀ (W : World) (ao : Option Addr), Calls Tryz.prog f #[.slice ao 0 0, .int .i64 0] W fun x w' => x = .returned (.slice ao 0 0) ∧ w' = W) : FunOk Tryz.prog T f (growH sz) := by
  intro args σ r σ' he G w vals hT hI hl ha
  unfold growH at he
  split at he
  · rename_i n
    split at he
    · rename_i hn
      obtain ⟨v, u, rfl, hv, hu⟩ := vals2 hl ha
      obtain ⟨n', rfl⟩ : ∃ n' : Nat, n = n' := ⟨n.toNat, by omega⟩
      cases hu
      cases hv with
      | sl hF ht =>
      rename_i ao cap
      have hc0 : cap = 0 := by have : ([] : List (List FV)).length = cap := ht; simpa using this.symm
      subst hc0
      split at he
      · rename_i hz
        cases he
        have hz' : n' = 0 := by omega
        subst hz'
        refine (h2 w ao).mono ?_
        rintro e w' ⟨rfl, rfl⟩
        exact ⟨_, G, rfl, hI, .sl hF ht, .refl _ _⟩
      · rename_i hz
        cases he
        refine (h1 w ao n' (by omega) (by omega)).mono ?_
        rintro x w' ⟨cs, cap, rfl, rfl, hcs, hcap⟩
        have hI0 : Inv G σ w.drew := hI.heap rfl
        have hgl : G.gr.length = σ.gr.length := by rw [← hI.grl, List.length_map]
        obtain ⟨k1, k2⟩ := hI0.growNew (arr := cs) (e := e) (size := sz) (cap := cap) (need := 0) hcs (Nat.zero_le _) G.gr.length (G.gr ++ [⟨w.drew.heap.size, e, sz, cap, 0, hsz⟩]) hsz (by rw [List.getElem?_append_right (Nat.le_refl _), Nat.sub_self]; rfl) (fun g s k => by
            by_cases hg : g < G.gr.length
            · rw [List.getElem?_append_left hg] at k; exact .inr k
            · have := (List.getElem?_eq_some_iff.1 k).1
              rw [List.length_append, List.length_singleton] at this
              exact .inl (by omega)) (fun g s k => ⟨s, by rw [List.getElem?_append_left (List.getElem?_eq_some_iff.1 k).1]; exact k, .inl rfl⟩)
        have e2 : (G.gr ++ [(⟨w.drew.heap.size, e, sz, cap, 0, hsz⟩ : Grow)]).map (fun r => (r.len, r.code)) = σ.gr ++ [(0, sz)] := by
          rw [List.map_append, hI.grl, List.map_cons, List.map_nil]
          simp only [Grow.code, if_neg hne]
        rw [e2] at k1
        refine ⟨_, _, rfl, k1, ?_, (Later.heap (w := w) (w' := w.drew) G rfl ⟨rfl, rfl, rfl⟩).trans k2⟩
        refine Rep.sl (rows := []) (.sl 0 (fun _ _ => undef) (Nat.zero_le _) (by simp) (by simp) (by simp)) ?_
        rw [← hgl]
        exact ⟨_, by rw [List.getElem?_append_right (Nat.le_refl _), Nat.sub_self]; rfl, Nat.le_refl _, fun _ => ⟨rfl, rfl⟩⟩
    · cases he
  · cases he
set_option maxHeartbeats 1000000 in
set_option maxRecDepth 100000 in
theorem growSt_any (W : World) (ao : Option Addr) (n : Nat) (h0 : 0 < n) (hn : n ≤ 1000000) : Calls Tryz.prog 149 #[.slice ao 0 0, .int .i64 n] W (GrowPost W n 6 82) := by
  obtain ⟨cs, cap, h, h1, h2⟩ := zeros_run (P := Tryz.prog) W 26 3 26 82 6 (by kernel_rfl) (by kernel_rfl) (by kernel_rfl) (by decide) ao n h0 hn
  have H : Asd _ := h
  have H1 : Asd _ := h1
  clear h h1
  go_enter Tryz.func149, Tryz.ntmps149
  go_wp2_with (at_builtin; refine Go.Lib.wpList_append_run _ rfl _ _ _ _ rfl _ _ rfl rfl _ _ H ?_)
  go_ret
  exact ⟨cs, cap, rfl, rfl, H1, h2⟩
set_option maxHeartbeats 1000000 in
set_option maxRecDepth 100000 in
theorem growSt_none (W : World) (ao : Option Addr) : Calls Tryz.prog 149 #[.slice ao 0 0, .int .i64 0] W fun x w' => x = .returned (.slice ao 0 0) ∧ w' = W := by
  go_enter Tryz.func149, Tryz.ntmps149
  go_wp2
  go_ret
  exact ⟨rfl, rfl⟩
theorem growSt_fun {T : Base} : FunOk Tryz.prog T 149 (growH 6) := grow_fun (e := 82) ⟨by decide, by decide⟩ (by decide) growSt_any growSt_none
set_option maxHeartbeats 1000000 in
set_option maxRecDepth 100000 in
theorem growStr_any (W : World) (ao : Option Addr) (n : Nat) (h0 : 0 < n) (hn : n ≤ 1000000) : Calls Tryz.prog 168 #[.slice ao 0 0, .int .i64 n] W (GrowPost W n 1 9) := by
  obtain ⟨cs, cap, h, h1, h2⟩ := zeros_run (P := Tryz.prog) W 74 3 74 9 1 (by kernel_rfl) (by kernel_rfl) (by kernel_rfl) (by decide) ao n h0 hn
  have H : Asd _ := h
  have H1 : Asd _ := h1
  clear h h1
  go_enter Tryz.func168, Tryz.ntmps168
  go_wp2_with (at_builtin; refine Go.Lib.wpList_append_run _ rfl _ _ _ _ rfl _ _ rfl rfl _ _ H ?_)
  go_ret
  exact ⟨cs, cap, rfl, rfl, H1, h2⟩
set_option maxHeartbeats 1000000 in
set_option maxRecDepth 100000 in
theorem growStr_none (W : World) (ao : Option Addr) : Calls Tryz.prog 168 #[.slice ao 0 0, .int .i64 0] W fun x w' => x = .returned (.slice ao 0 0) ∧ w' = W := by
  go_enter Tryz.func168, Tryz.ntmps168
  go_wp2
  go_ret
  exact ⟨rfl, rfl⟩
theorem growStr_fun {T : Base} : FunOk Tryz.prog T 168 (growH 1) := grow_fun (e := 9) ⟨by decide, by decide⟩ (by decide) growStr_any growStr_none
end Go.Proofs.YtfgoedndpcblpaaGreatDoor.Pv
end
section
namespace Go.Proofs.YtfgoedndpcblpaaGreatDoor.Pv
open Go Go.Proofs Go.Proofs.YtfgoedndpcblpaaGreatDoor.Lx Go.Proofs.YtfgoedndpcblpaaGreatDoor.Ps
set_option linter.unusedSimpArgs false
set_option linter.unusedVariables false
variable {L : Lib} {σ : Sto}
def strR (s : ByteArray) : List FV := [.im (.string s)]
def enR (e : En) : List FV := [.im (.string e.name), .sl (e.l.map strR)]
def vrR (v : Vr) : List FV := [.im (.string v.name), .im (.string v.type), .im (.int .i64 v.len)]
def pcR (p : Pc) : List FV := [.im (.string p.name), .sl (stRs p.body)]
def pgC (p : Pg) : List PV := [.sl (p.enums.map enR) .unk, .sl (p.vars.map vrR) .unk, .sl (p.procs.map pcR) .unk, .sl (stRs p.main) .unk]
theorem exRs_map (l : List Ex) : exRs l = l.map exR := by
  induction l with
  | nil => rfl
  | cons x xs ih => simp only [exRs, List.map_cons, ih]
theorem stRs_map (l : List Ps.St) : stRs l = l.map stR := by
  induction l with
  | nil => rfl
  | cons x xs ih => simp only [stRs, List.map_cons, ih]
theorem pgC_lone (p : Pg) : Lone (pgC p) := ⟨rfl, rfl, fun ρ τ h1 h2 => by simp [pgC, renL, PV.ren, h1]⟩
theorem row_idx {α : Type} {R : α → List FV} {m : Nat} {l : List α} {i : Nat} {x : α} (h : l[i]? = some x) (hR : (R x).length = m) : idx m (l.map R) (i : Int) = some (.el (R x) 0) := idx_get (by rw [List.getElem?_map, h]; rfl) hR
theorem call_one {H : Hand} {f : FuncId} {b : Nat} {args args' : List PV} {r : PV} {cs cs' : List PV} {more : List Bx} {gr : List (Nat × Nat)} (hb : σ.bx[b]? = some (.cells cs)) (h1 : Lone cs) (h2 : Lone cs') (hp : ∃ l, ptrsL args = b :: l ∧ ∀ c ∈ l, c = b) (hren : renL (find [b]) (fun _ => .unk) args = some args')
    (hr : r.ptrs = []) (h : H f args' ⟨[.cells cs], []⟩ = some (r, ⟨.cells cs' :: more, gr⟩)) : callE H f args σ = some (r.era, { σ with bx := σ.bx.set b (.cells cs') }) := by
  obtain ⟨l, hp, hl⟩ := hp
  have e0 : gather σ.bx 64 (ptrsL args) [] = [b] := by
    rw [hp]
    show gather σ.bx 63 (ptrsAt σ.bx b ++ l) [b] = [b]
    have : ptrsAt σ.bx b = [] := by unfold ptrsAt; rw [hb]; exact h1.ptrs
    rw [this]
    exact gather_known _ _ _ _ (fun c hc => by simp [hl c (by simpa using hc)])
  have e1 : tagsB σ.bx [b] = [] := by
    have : tagsAt σ.bx b = [] := by unfold tagsAt; rw [hb]; exact h1.tags
    simp [tagsB, this]
  unfold callE
  rw [e0, e1]
  simp only [dd]
  have hsel : selE σ [b] [] = some ⟨[.cells cs], []⟩ := by
    simp only [selE, pickL, hb]
    simp only [renBs, Bx.ren, h1.ren _ (Tag.sel []) rfl rfl, Option.map_some]
  unfold callIn
  rw [hren, hsel]
  simp only [h]
  have g0 : gather (.cells cs' :: more) 64 (r.ptrs ++ ptrsUpto (.cells cs' :: more) [b].length) (iota [b].length) = [0] := by
    have : ptrsUpto (Bx.cells cs' :: more) 1 = [] := by simp [ptrsUpto, ptrsAt, Bx.ptrs, h2.ptrs]
    show gather (.cells cs' :: more) 64 (r.ptrs ++ ptrsUpto (Bx.cells cs' :: more) 1) [0] = [0]
    rw [hr, this]; rfl
  rw [g0]
  have g1 : tagsB (Bx.cells cs' :: more) [0] = [] := by simp [tagsB, tagsAt, Bx.tags, h2.tags]
  simp only [g1, dd, iota, List.length_nil]
  unfold callBack
  obtain ⟨k1, k2, k3⟩ := ren_era (ρ := find [0]) hr
  have hsel2 : selE ⟨.cells cs' :: more, gr⟩ [0] [] = some ⟨[.cells cs'], []⟩ := by
    simp [selE, pickL, renBs, Bx.ren, h2.ren _ (Tag.sel []) rfl rfl]
  rw [k1, hsel2]
  simp only
  obtain ⟨k4, _, _⟩ := ren_era (ρ := backB [b] σ.bx.length [Bx.cells cs'].length) k2
  rw [k4, k3]
  have hd := h2.ren (backB [b] σ.bx.length [Bx.cells cs'].length) (Tag.back [] σ.gr.length ([] : List (Nat × Nat)).length) rfl rfl
  simp only [List.length_nil] at hd
  simp only [renBs, Bx.ren, hd, Option.map_some, List.length_nil]
  simp [backL, putMany]
theorem set_same {α : Type} {l : List α} {b : Nat} {x : α} (h : l[b]? = some x) : l.set b x = l := by
  apply List.ext_getElem?
  intro i
  by_cases hi : i = b
  · subst hi; rw [List.getElem?_set_self (List.getElem?_eq_some_iff.1 h).1, h]
  · rw [List.getElem?_set_ne (Ne.symm hi)]
theorem call_keep {H : Hand} {f : FuncId} {b : Nat} {args args' : List PV} {r : PV} {cs : List PV} {more : List Bx} {gr : List (Nat × Nat)} (hb : σ.bx[b]? = some (.cells cs)) (h1 : Lone cs) (hp : ∃ l, ptrsL args = b :: l ∧ ∀ c ∈ l, c = b) (hren : renL (find [b]) (fun _ => .unk) args = some args')
    (hr : r.ptrs = []) (he : r.era = r) (h : H f args' ⟨[.cells cs], []⟩ = some (r, ⟨.cells cs :: more, gr⟩)) : callE H f args σ = some (r, σ) := by
  rw [call_one hb h1 h1 hp hren hr h, he, set_same hb]
def idxP {α : Type} (h : α → Bool) : List α → Nat → Int
  | [], _ => -1
  | x :: xs, i => if h x = true then i else idxP h xs (i + 1)
theorem idxP_any {α : Type} (h : α → Bool) : ∀ (l : List α) (i : Nat), (0 ≤ idxP h l i) ↔ l.any h = true
  | [], i => by simp [idxP]
  | x :: xs, i => by
    simp only [idxP, List.any_cons, Bool.or_eq_true]
    split
    · rename_i hx; simp [hx]
    · rename_i hx; rw [idxP_any h xs (i + 1)]; simp [hx]
theorem ixEn_ok {α : Type} {R : α → List FV} (hR : ∀ x, (R x).length = 2) (hl : L 143 = none) (l : List α) (hn : l.length < 4611686018427387904) {h : α → Bool} {tag : Tag} {fv : PV} (hf : ∀ x ∈ l, funP Tryz.prog (EV Tryz.prog L) σ [.agg ((R x).map FV.up)] fv = some (boo (h x), σ)) : EV Tryz.prog L 143 [.sl (l.map R) tag, fv] σ = some (int (idxP h l 0), σ) := by
  refine EV_fn (ids := []) hl Tryz.func143 rfl (by kernel_rfl) (by rw [Tryz.ntmps143]; simp) ?_
  rw [Tryz.ntmps143, Tryz.results143]
  simp (maxSteps := 1000000) (contextual := true) (implicitDefEqProofs := false) [-decide_eq_true_eq, -decide_eq_false_iff_not, -Bool.not_and, -Bool.not_or, -Bool.and_eq_false_imp, -Int.natCast_add]
  refine WP.each l (fun rest i s' => s'.sto = σ ∧ s'.env 0 = .sl (l.map R) tag ∧ s'.env 1 = fv ∧ s'.env 7 = int l.length ∧ s'.env 8 = int i ∧ idxP h rest i = idxP h l 0) ⟨rfl, by simp, by simp, by simp, by simp, rfl⟩ ?_ ?_
  · rintro x xs i ⟨env, τ⟩ hx hi hxs ⟨h1, h2, h3, h4, h5, h6⟩
    simp only at h1 h2 h3 h4 h5
    subst h1
    have hix : idx 2 (l.map R) i = some (.el (R x) 0) := row_idx hx (hR x)
    have hlt : decide (i < l.length) = true := by simp [hi]
    have hw : IntKind.wrap .i64 ((i : Int) + 1) = ((i + 1 : Nat) : Int) := wrap_succ (by omega)
    have hfx := hf x (List.mem_of_getElem? hx)
    have hrx := hR x
    have htk : ((R x).map FV.up).take 2 = (R x).map FV.up := List.take_of_length_le (by simp [hrx])
    simp only [idxP] at h6
    simp (maxSteps := 1000000) (contextual := true) (implicitDefEqProofs := false) [-decide_eq_true_eq, -decide_eq_false_iff_not, -Bool.not_and, -Bool.not_or, -Bool.and_eq_false_imp, -Int.natCast_add, h2, h3, h4, h5, hlt, hix, hw, hfx, hrx, htk]
    refine ⟨fun e => ?_, fun e => ?_⟩
    · rw [if_pos e] at h6; rw [← h6]
    · rw [if_neg (by rw [e]; simp)] at h6; exact h6
  · rintro ⟨env, τ⟩ ⟨h1, h2, h3, h4, h5, h6⟩
    simp only at h1 h2 h3 h4 h5
    subst h1
    simp only [idxP] at h6
    simp (maxSteps := 1000000) (contextual := true) (implicitDefEqProofs := false) [-decide_eq_true_eq, -decide_eq_false_iff_not, -Bool.not_and, -Bool.not_or, -Bool.and_eq_false_imp, -Int.natCast_add, h2, h3, h4, h5]
    exact h6
theorem ixVr_ok {α : Type} {R : α → List FV} (hR : ∀ x, (R x).length = 3) (hl : L 229 = none) (l : List α) (hn : l.length < 4611686018427387904) {h : α → Bool} {tag : Tag} {fv : PV} (hf : ∀ x ∈ l, funP Tryz.prog (EV Tryz.prog L) σ [.agg ((R x).map FV.up)] fv = some (boo (h x), σ)) : EV Tryz.prog L 229 [.sl (l.map R) tag, fv] σ = some (int (idxP h l 0), σ) := by
  refine EV_fn (ids := []) hl Tryz.func229 rfl (by kernel_rfl) (by rw [Tryz.ntmps229]; simp) ?_
  rw [Tryz.ntmps229, Tryz.results229]
  simp (maxSteps := 1000000) (contextual := true) (implicitDefEqProofs := false) [-decide_eq_true_eq, -decide_eq_false_iff_not, -Bool.not_and, -Bool.not_or, -Bool.and_eq_false_imp, -Int.natCast_add]
  refine WP.each l (fun rest i s' => s'.sto = σ ∧ s'.env 0 = .sl (l.map R) tag ∧ s'.env 1 = fv ∧ s'.env 7 = int l.length ∧ s'.env 8 = int i ∧ idxP h rest i = idxP h l 0) ⟨rfl, by simp, by simp, by simp, by simp, rfl⟩ ?_ ?_
  · rintro x xs i ⟨env, τ⟩ hx hi hxs ⟨h1, h2, h3, h4, h5, h6⟩
    simp only at h1 h2 h3 h4 h5
    subst h1
    have hix : idx 3 (l.map R) i = some (.el (R x) 0) := row_idx hx (hR x)
    have hlt : decide (i < l.length) = true := by simp [hi]
    have hw : IntKind.wrap .i64 ((i : Int) + 1) = ((i + 1 : Nat) : Int) := wrap_succ (by omega)
    have hfx := hf x (List.mem_of_getElem? hx)
    have hrx := hR x
    have htk : ((R x).map FV.up).take 3 = (R x).map FV.up := List.take_of_length_le (by simp [hrx])
    simp only [idxP] at h6
    simp (maxSteps := 1000000) (contextual := true) (implicitDefEqProofs := false) [-decide_eq_true_eq, -decide_eq_false_iff_not, -Bool.not_and, -Bool.not_or, -Bool.and_eq_false_imp, -Int.natCast_add, h2, h3, h4, h5, hlt, hix, hw, hfx, hrx, htk]
    refine ⟨fun e => ?_, fun e => ?_⟩
    · rw [if_pos e] at h6; rw [← h6]
    · rw [if_neg (by rw [e]; simp)] at h6; exact h6
  · rintro ⟨env, τ⟩ ⟨h1, h2, h3, h4, h5, h6⟩
    simp only at h1 h2 h3 h4 h5
    subst h1
    simp only [idxP] at h6
    simp (maxSteps := 1000000) (contextual := true) (implicitDefEqProofs := false) [-decide_eq_true_eq, -decide_eq_false_iff_not, -Bool.not_and, -Bool.not_or, -Bool.and_eq_false_imp, -Int.natCast_add, h2, h3, h4, h5]
    exact h6
theorem ixPc_ok {α : Type} {R : α → List FV} (hR : ∀ x, (R x).length = 2) (hl : L 101 = none) (l : List α) (hn : l.length < 4611686018427387904) {h : α → Bool} {tag : Tag} {fv : PV} (hf : ∀ x ∈ l, funP Tryz.prog (EV Tryz.prog L) σ [.agg ((R x).map FV.up)] fv = some (boo (h x), σ)) : EV Tryz.prog L 101 [.sl (l.map R) tag, fv] σ = some (int (idxP h l 0), σ) := by
  refine EV_fn (ids := []) hl Tryz.func101 rfl (by kernel_rfl) (by rw [Tryz.ntmps101]; simp) ?_
  rw [Tryz.ntmps101, Tryz.results101]
  simp (maxSteps := 1000000) (contextual := true) (implicitDefEqProofs := false) [-decide_eq_true_eq, -decide_eq_false_iff_not, -Bool.not_and, -Bool.not_or, -Bool.and_eq_false_imp, -Int.natCast_add]
  refine WP.each l (fun rest i s' => s'.sto = σ ∧ s'.env 0 = .sl (l.map R) tag ∧ s'.env 1 = fv ∧ s'.env 7 = int l.length ∧ s'.env 8 = int i ∧ idxP h rest i = idxP h l 0) ⟨rfl, by simp, by simp, by simp, by simp, rfl⟩ ?_ ?_
  · rintro x xs i ⟨env, τ⟩ hx hi hxs ⟨h1, h2, h3, h4, h5, h6⟩
    simp only at h1 h2 h3 h4 h5
    subst h1
    have hix : idx 2 (l.map R) i = some (.el (R x) 0) := row_idx hx (hR x)
    have hlt : decide (i < l.length) = true := by simp [hi]
    have hw : IntKind.wrap .i64 ((i : Int) + 1) = ((i + 1 : Nat) : Int) := wrap_succ (by omega)
    have hfx := hf x (List.mem_of_getElem? hx)
    have hrx := hR x
    have htk : ((R x).map FV.up).take 2 = (R x).map FV.up := List.take_of_length_le (by simp [hrx])
    simp only [idxP] at h6
    simp (maxSteps := 1000000) (contextual := true) (implicitDefEqProofs := false) [-decide_eq_true_eq, -decide_eq_false_iff_not, -Bool.not_and, -Bool.not_or, -Bool.and_eq_false_imp, -Int.natCast_add, h2, h3, h4, h5, hlt, hix, hw, hfx, hrx, htk]
    refine ⟨fun e => ?_, fun e => ?_⟩
    · rw [if_pos e] at h6; rw [← h6]
    · rw [if_neg (by rw [e]; simp)] at h6; exact h6
  · rintro ⟨env, τ⟩ ⟨h1, h2, h3, h4, h5, h6⟩
    simp only at h1 h2 h3 h4 h5
    subst h1
    simp only [idxP] at h6
    simp (maxSteps := 1000000) (contextual := true) (implicitDefEqProofs := false) [-decide_eq_true_eq, -decide_eq_false_iff_not, -Bool.not_and, -Bool.not_or, -Bool.and_eq_false_imp, -Int.natCast_add, h2, h3, h4, h5]
    exact h6
theorem ixSt_ok {α : Type} {R : α → List FV} (hR : ∀ x, (R x).length = 6) (hl : L 227 = none) (l : List α) (hn : l.length < 4611686018427387904) {h : α → Bool} {tag : Tag} {fv : PV} (hf : ∀ x ∈ l, funP Tryz.prog (EV Tryz.prog L) σ [.agg ((R x).map FV.up)] fv = some (boo (h x), σ)) : EV Tryz.prog L 227 [.sl (l.map R) tag, fv] σ = some (int (idxP h l 0), σ) := by
  refine EV_fn (ids := []) hl Tryz.func227 rfl (by kernel_rfl) (by rw [Tryz.ntmps227]; simp) ?_
  rw [Tryz.ntmps227, Tryz.results227]
  simp (maxSteps := 1000000) (contextual := true) (implicitDefEqProofs := false) [-decide_eq_true_eq, -decide_eq_false_iff_not, -Bool.not_and, -Bool.not_or, -Bool.and_eq_false_imp, -Int.natCast_add]
  refine WP.each l (fun rest i s' => s'.sto = σ ∧ s'.env 0 = .sl (l.map R) tag ∧ s'.env 1 = fv ∧ s'.env 7 = int l.length ∧ s'.env 8 = int i ∧ idxP h rest i = idxP h l 0) ⟨rfl, by simp, by simp, by simp, by simp, rfl⟩ ?_ ?_
  · rintro x xs i ⟨env, τ⟩ hx hi hxs ⟨h1, h2, h3, h4, h5, h6⟩
    simp only at h1 h2 h3 h4 h5
    subst h1
    have hix : idx 6 (l.map R) i = some (.el (R x) 0) := row_idx hx (hR x)
    have hlt : decide (i < l.length) = true := by simp [hi]
    have hw : IntKind.wrap .i64 ((i : Int) + 1) = ((i + 1 : Nat) : Int) := wrap_succ (by omega)
    have hfx := hf x (List.mem_of_getElem? hx)
    have hrx := hR x
    have htk : ((R x).map FV.up).take 6 = (R x).map FV.up := List.take_of_length_le (by simp [hrx])
    simp only [idxP] at h6
    simp (maxSteps := 1000000) (contextual := true) (implicitDefEqProofs := false) [-decide_eq_true_eq, -decide_eq_false_iff_not, -Bool.not_and, -Bool.not_or, -Bool.and_eq_false_imp, -Int.natCast_add, h2, h3, h4, h5, hlt, hix, hw, hfx, hrx, htk]
    refine ⟨fun e => ?_, fun e => ?_⟩
    · rw [if_pos e] at h6; rw [← h6]
    · rw [if_neg (by rw [e]; simp)] at h6; exact h6
  · rintro ⟨env, τ⟩ ⟨h1, h2, h3, h4, h5, h6⟩
    simp only at h1 h2 h3 h4 h5
    subst h1
    simp only [idxP] at h6
    simp (maxSteps := 1000000) (contextual := true) (implicitDefEqProofs := false) [-decide_eq_true_eq, -decide_eq_false_iff_not, -Bool.not_and, -Bool.not_or, -Bool.and_eq_false_imp, -Int.natCast_add, h2, h3, h4, h5]
    exact h6
theorem ixEx_ok {α : Type} {R : α → List FV} (hR : ∀ x, (R x).length = 5) (hl : L 228 = none) (l : List α) (hn : l.length < 4611686018427387904) {h : α → Bool} {tag : Tag} {fv : PV} (hf : ∀ x ∈ l, funP Tryz.prog (EV Tryz.prog L) σ [.agg ((R x).map FV.up)] fv = some (boo (h x), σ)) : EV Tryz.prog L 228 [.sl (l.map R) tag, fv] σ = some (int (idxP h l 0), σ) := by
  refine EV_fn (ids := []) hl Tryz.func228 rfl (by kernel_rfl) (by rw [Tryz.ntmps228]; simp) ?_
  rw [Tryz.ntmps228, Tryz.results228]
  simp (maxSteps := 1000000) (contextual := true) (implicitDefEqProofs := false) [-decide_eq_true_eq, -decide_eq_false_iff_not, -Bool.not_and, -Bool.not_or, -Bool.and_eq_false_imp, -Int.natCast_add]
  refine WP.each l (fun rest i s' => s'.sto = σ ∧ s'.env 0 = .sl (l.map R) tag ∧ s'.env 1 = fv ∧ s'.env 7 = int l.length ∧ s'.env 8 = int i ∧ idxP h rest i = idxP h l 0) ⟨rfl, by simp, by simp, by simp, by simp, rfl⟩ ?_ ?_
  · rintro x xs i ⟨env, τ⟩ hx hi hxs ⟨h1, h2, h3, h4, h5, h6⟩
    simp only at h1 h2 h3 h4 h5
    subst h1
    have hix : idx 5 (l.map R) i = some (.el (R x) 0) := row_idx hx (hR x)
    have hlt : decide (i < l.length) = true := by simp [hi]
    have hw : IntKind.wrap .i64 ((i : Int) + 1) = ((i + 1 : Nat) : Int) := wrap_succ (by omega)
    have hfx := hf x (List.mem_of_getElem? hx)
    have hrx := hR x
    have htk : ((R x).map FV.up).take 5 = (R x).map FV.up := List.take_of_length_le (by simp [hrx])
    simp only [idxP] at h6
    simp (maxSteps := 1000000) (contextual := true) (implicitDefEqProofs := false) [-decide_eq_true_eq, -decide_eq_false_iff_not, -Bool.not_and, -Bool.not_or, -Bool.and_eq_false_imp, -Int.natCast_add, h2, h3, h4, h5, hlt, hix, hw, hfx, hrx, htk]
    refine ⟨fun e => ?_, fun e => ?_⟩
    · rw [if_pos e] at h6; rw [← h6]
    · rw [if_neg (by rw [e]; simp)] at h6; exact h6
  · rintro ⟨env, τ⟩ ⟨h1, h2, h3, h4, h5, h6⟩
    simp only at h1 h2 h3 h4 h5
    subst h1
    simp only [idxP] at h6
    simp (maxSteps := 1000000) (contextual := true) (implicitDefEqProofs := false) [-decide_eq_true_eq, -decide_eq_false_iff_not, -Bool.not_and, -Bool.not_or, -Bool.and_eq_false_imp, -Int.natCast_add, h2, h3, h4, h5]
    exact h6
theorem ixStr_ok {α : Type} {R : α → List FV} (hR : ∀ x, (R x).length = 1) {S : α → ByteArray} (hS : ∀ x, R x = [.im (.string (S x))]) (hl : L 167 = none) (l : List α) (hn : l.length < 4611686018427387904) {h : α → Bool} {tag : Tag} {fv : PV} (hf : ∀ x ∈ l, funP Tryz.prog (EV Tryz.prog L) σ [str (S x)] fv = some (boo (h x), σ)) : EV Tryz.prog L 167 [.sl (l.map R) tag, fv] σ = some (int (idxP h l 0), σ) := by
  refine EV_fn (ids := []) hl Tryz.func167 rfl (by kernel_rfl) (by rw [Tryz.ntmps167]; simp) ?_
  rw [Tryz.ntmps167, Tryz.results167]
  simp (maxSteps := 1000000) (contextual := true) (implicitDefEqProofs := false) [-decide_eq_true_eq, -decide_eq_false_iff_not, -Bool.not_and, -Bool.not_or, -Bool.and_eq_false_imp, -Int.natCast_add]
  refine WP.each l (fun rest i s' => s'.sto = σ ∧ s'.env 0 = .sl (l.map R) tag ∧ s'.env 1 = fv ∧ s'.env 7 = int l.length ∧ s'.env 8 = int i ∧ idxP h rest i = idxP h l 0) ⟨rfl, by simp, by simp, by simp, by simp, rfl⟩ ?_ ?_
  · rintro x xs i ⟨env, τ⟩ hx hi hxs ⟨h1, h2, h3, h4, h5, h6⟩
    simp only at h1 h2 h3 h4 h5
    subst h1
    have hix : idx 1 (l.map R) i = some (.el (R x) 0) := row_idx hx (hR x)
    have hlt : decide (i < l.length) = true := by simp [hi]
    have hw : IntKind.wrap .i64 ((i : Int) + 1) = ((i + 1 : Nat) : Int) := wrap_succ (by omega)
    have hfx := hf x (List.mem_of_getElem? hx)
    have hrx := hR x
    have htk : ((R x).map FV.up).take 1 = (R x).map FV.up := List.take_of_length_le (by simp [hrx])
    simp only [idxP] at h6
    simp (maxSteps := 1000000) (contextual := true) (implicitDefEqProofs := false) [-decide_eq_true_eq, -decide_eq_false_iff_not, -Bool.not_and, -Bool.not_or, -Bool.and_eq_false_imp, -Int.natCast_add, h2, h3, h4, h5, hlt, hix, hw, hS x, hfx, hrx, htk]
    refine ⟨fun e => ?_, fun e => ?_⟩
    · rw [if_pos e] at h6; rw [← h6]
    · rw [if_neg (by rw [e]; simp)] at h6; exact h6
  · rintro ⟨env, τ⟩ ⟨h1, h2, h3, h4, h5, h6⟩
    simp only at h1 h2 h3 h4 h5
    subst h1
    simp only [idxP] at h6
    simp (maxSteps := 1000000) (contextual := true) (implicitDefEqProofs := false) [-decide_eq_true_eq, -decide_eq_false_iff_not, -Bool.not_and, -Bool.not_or, -Bool.and_eq_false_imp, -Int.natCast_add, h2, h3, h4, h5]
    exact h6
theorem ixEn_at1 {α : Type} {R : α → List FV} (hR : ∀ x, (R x).length = 2) (hl : L 143 = none) (l : List α) (hn : l.length < 4611686018427387904) {h : α → Bool} {tag : Tag} {C : FuncId} {b : Nat} {cs : List PV} (hc : σ.bx[b]? = some (.cells cs)) (h1 : Lone cs) (hb : isBody Tryz.prog C = true) (hf : ∀ x ∈ l, callE (EV Tryz.prog L) C [.agg ((R x).map FV.up), .ptr 0 0] ⟨[.cells cs], []⟩ = some (boo (h x), ⟨[.cells cs], []⟩)) : callE (EV Tryz.prog L) 143 [.sl (l.map R) tag, .fn (.func C) [.ptr b 0]] σ = some (int (idxP h l 0), σ) :=
  call_keep (args' := [.sl (l.map R) .unk, .fn (.func C) [.ptr 0 0]]) hc h1 ⟨[], rfl, fun c h => absurd h (by simp)⟩ (by simp [renL, PV.ren, find]) rfl rfl (ixEn_ok (σ := ⟨[.cells cs], []⟩) hR hl l hn (fun x hx => by rw [funP_fn, if_pos hb]; exact hf x hx))
theorem ixVr_at1 {α : Type} {R : α → List FV} (hR : ∀ x, (R x).length = 3) (hl : L 229 = none) (l : List α) (hn : l.length < 4611686018427387904) {h : α → Bool} {tag : Tag} {C : FuncId} {b : Nat} {cs : List PV} (hc : σ.bx[b]? = some (.cells cs)) (h1 : Lone cs) (hb : isBody Tryz.prog C = true) (hf : ∀ x ∈ l, callE (EV Tryz.prog L) C [.agg ((R x).map FV.up), .ptr 0 0] ⟨[.cells cs], []⟩ = some (boo (h x), ⟨[.cells cs], []⟩)) : callE (EV Tryz.prog L) 229 [.sl (l.map R) tag, .fn (.func C) [.ptr b 0]] σ = some (int (idxP h l 0), σ) :=
  call_keep (args' := [.sl (l.map R) .unk, .fn (.func C) [.ptr 0 0]]) hc h1 ⟨[], rfl, fun c h => absurd h (by simp)⟩ (by simp [renL, PV.ren, find]) rfl rfl (ixVr_ok (σ := ⟨[.cells cs], []⟩) hR hl l hn (fun x hx => by rw [funP_fn, if_pos hb]; exact hf x hx))
theorem ixPc_at1 {α : Type} {R : α → List FV} (hR : ∀ x, (R x).length = 2) (hl : L 101 = none) (l : List α) (hn : l.length < 4611686018427387904) {h : α → Bool} {tag : Tag} {C : FuncId} {b : Nat} {cs : List PV} (hc : σ.bx[b]? = some (.cells cs)) (h1 : Lone cs) (hb : isBody Tryz.prog C = true) (hf : ∀ x ∈ l, callE (EV Tryz.prog L) C [.agg ((R x).map FV.up), .ptr 0 0] ⟨[.cells cs], []⟩ = some (boo (h x), ⟨[.cells cs], []⟩)) : callE (EV Tryz.prog L) 101 [.sl (l.map R) tag, .fn (.func C) [.ptr b 0]] σ = some (int (idxP h l 0), σ) :=
  call_keep (args' := [.sl (l.map R) .unk, .fn (.func C) [.ptr 0 0]]) hc h1 ⟨[], rfl, fun c h => absurd h (by simp)⟩ (by simp [renL, PV.ren, find]) rfl rfl (ixPc_ok (σ := ⟨[.cells cs], []⟩) hR hl l hn (fun x hx => by rw [funP_fn, if_pos hb]; exact hf x hx))
theorem ixSt_at0 {α : Type} {R : α → List FV} (hR : ∀ x, (R x).length = 6) (hl : L 227 = none) (l : List α) (hn : l.length < 4611686018427387904) {h : α → Bool} {tag : Tag} {C : FuncId} (hb : isBody Tryz.prog C = true) (hf : ∀ x ∈ l, callE (EV Tryz.prog L) C [.agg ((R x).map FV.up)] ⟨[], []⟩ = some (boo (h x), ⟨[], []⟩)) : callE (EV Tryz.prog L) 227 [.sl (l.map R) tag, .im (.func (.func C) #[] #[])] σ = some (int (idxP h l 0), σ) :=
  call_pure (r := int (idxP h l 0)) rfl (ixSt_ok (σ := ⟨[], []⟩) (tag := .unk) (fv := .im (.func (.func C) #[] #[])) hR hl l hn (fun x hx => by rw [funP_im, if_pos hb]; exact hf x hx)) rfl
theorem ixEx_at0 {α : Type} {R : α → List FV} (hR : ∀ x, (R x).length = 5) (hl : L 228 = none) (l : List α) (hn : l.length < 4611686018427387904) {h : α → Bool} {tag : Tag} {C : FuncId} (hb : isBody Tryz.prog C = true) (hf : ∀ x ∈ l, callE (EV Tryz.prog L) C [.agg ((R x).map FV.up)] ⟨[], []⟩ = some (boo (h x), ⟨[], []⟩)) : callE (EV Tryz.prog L) 228 [.sl (l.map R) tag, .im (.func (.func C) #[] #[])] σ = some (int (idxP h l 0), σ) :=
  call_pure (r := int (idxP h l 0)) rfl (ixEx_ok (σ := ⟨[], []⟩) (tag := .unk) (fv := .im (.func (.func C) #[] #[])) hR hl l hn (fun x hx => by rw [funP_im, if_pos hb]; exact hf x hx)) rfl
theorem ixStr_at1 {α : Type} {R : α → List FV} (hR : ∀ x, (R x).length = 1) {S : α → ByteArray} (hS : ∀ x, R x = [.im (.string (S x))]) (hl : L 167 = none) (l : List α) (hn : l.length < 4611686018427387904) {h : α → Bool} {tag : Tag} {C : FuncId} {b : Nat} {cs : List PV} (hc : σ.bx[b]? = some (.cells cs)) (h1 : Lone cs) (hb : isBody Tryz.prog C = true) (hf : ∀ x ∈ l, callE (EV Tryz.prog L) C [str (S x), .ptr 0 0] ⟨[.cells cs], []⟩ = some (boo (h x), ⟨[.cells cs], []⟩)) : callE (EV Tryz.prog L) 167 [.sl (l.map R) tag, .fn (.func C) [.ptr b 0]] σ = some (int (idxP h l 0), σ) :=
  call_keep (args' := [.sl (l.map R) .unk, .fn (.func C) [.ptr 0 0]]) hc h1 ⟨[], rfl, fun c h => absurd h (by simp)⟩ (by simp [renL, PV.ren, find]) rfl rfl (ixStr_ok (σ := ⟨[.cells cs], []⟩) hR hS hl l hn (fun x hx => by rw [funP_fn, if_pos hb]; exact hf x hx))
theorem cfPc_at1 {α : Type} {R : α → List FV} (hR : ∀ x, (R x).length = 2) (hl : Free L [193, 101]) (l : List α) (hn : l.length < 4611686018427387904) {h : α → Bool} {tag : Tag} {C : FuncId} {b : Nat} {cs : List PV} (hc : σ.bx[b]? = some (.cells cs)) (h1 : Lone cs) (hb : isBody Tryz.prog C = true) (hf : ∀ x ∈ l, callE (EV Tryz.prog L) C [.agg ((R x).map FV.up), .ptr 0 0] ⟨[.cells cs], []⟩ = some (boo (h x), ⟨[.cells cs], []⟩)) : callE (EV Tryz.prog L) 193 [.sl (l.map R) tag, .fn (.func C) [.ptr b 0]] σ = some (boo (l.any h), σ) := by
  refine call_keep (more := []) (gr := []) (args' := [.sl (l.map R) .unk, .fn (.func C) [.ptr 0 0]]) hc h1 ⟨[], rfl, fun c h => absurd h (by simp)⟩ (by simp [renL, PV.ren, find]) rfl rfl ?_
  have hi := fun gr => ixPc_at1 (L := L) (σ := ⟨[.cells cs], gr⟩) hR (hl _ (by simp)) l hn (tag := .unk) (b := 0) rfl h1 hb hf
  have ha : decide (0 ≤ idxP h l 0) = l.any h := by
    rw [Bool.eq_iff_iff, decide_eq_true_eq]; exact idxP_any h l 0
  refine EV_fn (ids := []) (hl _ (by simp)) Tryz.func193 rfl (by kernel_rfl) (by rw [Tryz.ntmps193]; simp) ?_
  rw [Tryz.ntmps193, Tryz.results193]
  simp (maxSteps := 1000000) (contextual := true) (implicitDefEqProofs := false) [-decide_eq_true_eq, -decide_eq_false_iff_not, -Bool.not_and, -Bool.not_or, -Bool.and_eq_false_imp, -Int.natCast_add, hi, ha]
theorem cfSt_at0 {α : Type} {R : α → List FV} (hR : ∀ x, (R x).length = 6) (hl : Free L [186, 227]) (l : List α) (hn : l.length < 4611686018427387904) {h : α → Bool} {tag : Tag} {C : FuncId} (hb : isBody Tryz.prog C = true) (hf : ∀ x ∈ l, callE (EV Tryz.prog L) C [.agg ((R x).map FV.up)] ⟨[], []⟩ = some (boo (h x), ⟨[], []⟩)) : callE (EV Tryz.prog L) 186 [.sl (l.map R) tag, .im (.func (.func C) #[] #[])] σ = some (boo (l.any h), σ) := by
  refine call_pure (r := boo (l.any h)) rfl (σ1 := ⟨[], []⟩) ?_ rfl
  have hi := fun σ => ixSt_at0 (L := L) (σ := σ) hR (hl _ (by simp)) l hn (tag := .unk) hb hf
  have ha : decide (0 ≤ idxP h l 0) = l.any h := by
    rw [Bool.eq_iff_iff, decide_eq_true_eq]; exact idxP_any h l 0
  refine EV_fn (ids := []) (hl _ (by simp)) Tryz.func186 rfl (by kernel_rfl) (by rw [Tryz.ntmps186]; simp [eraL]) ?_
  rw [Tryz.ntmps186, Tryz.results186]
  simp (maxSteps := 1000000) (contextual := true) (implicitDefEqProofs := false) [-decide_eq_true_eq, -decide_eq_false_iff_not, -Bool.not_and, -Bool.not_or, -Bool.and_eq_false_imp, -Int.natCast_add, eraL, PV.era, hi, ha]
theorem cfEx_at0 {α : Type} {R : α → List FV} (hR : ∀ x, (R x).length = 5) (hl : Free L [188, 228]) (l : List α) (hn : l.length < 4611686018427387904) {h : α → Bool} {tag : Tag} {C : FuncId} (hb : isBody Tryz.prog C = true) (hf : ∀ x ∈ l, callE (EV Tryz.prog L) C [.agg ((R x).map FV.up)] ⟨[], []⟩ = some (boo (h x), ⟨[], []⟩)) : callE (EV Tryz.prog L) 188 [.sl (l.map R) tag, .im (.func (.func C) #[] #[])] σ = some (boo (l.any h), σ) := by
  refine call_pure (r := boo (l.any h)) rfl (σ1 := ⟨[], []⟩) ?_ rfl
  have hi := fun σ => ixEx_at0 (L := L) (σ := σ) hR (hl _ (by simp)) l hn (tag := .unk) hb hf
  have ha : decide (0 ≤ idxP h l 0) = l.any h := by
    rw [Bool.eq_iff_iff, decide_eq_true_eq]; exact idxP_any h l 0
  refine EV_fn (ids := []) (hl _ (by simp)) Tryz.func188 rfl (by kernel_rfl) (by rw [Tryz.ntmps188]; simp [eraL]) ?_
  rw [Tryz.ntmps188, Tryz.results188]
  simp (maxSteps := 1000000) (contextual := true) (implicitDefEqProofs := false) [-decide_eq_true_eq, -decide_eq_false_iff_not, -Bool.not_and, -Bool.not_or, -Bool.and_eq_false_imp, -Int.natCast_add, eraL, PV.era, hi, ha]
theorem cfStr_at1 {α : Type} {R : α → List FV} (hR : ∀ x, (R x).length = 1) {S : α → ByteArray} (hS : ∀ x, R x = [.im (.string (S x))]) (hl : Free L [105, 167]) (l : List α) (hn : l.length < 4611686018427387904) {h : α → Bool} {tag : Tag} {C : FuncId} {b : Nat} {cs : List PV} (hc : σ.bx[b]? = some (.cells cs)) (h1 : Lone cs) (hb : isBody Tryz.prog C = true) (hf : ∀ x ∈ l, callE (EV Tryz.prog L) C [str (S x), .ptr 0 0] ⟨[.cells cs], []⟩ = some (boo (h x), ⟨[.cells cs], []⟩)) : callE (EV Tryz.prog L) 105 [.sl (l.map R) tag, .fn (.func C) [.ptr b 0]] σ = some (boo (l.any h), σ) := by
  refine call_keep (more := []) (gr := []) (args' := [.sl (l.map R) .unk, .fn (.func C) [.ptr 0 0]]) hc h1 ⟨[], rfl, fun c h => absurd h (by simp)⟩ (by simp [renL, PV.ren, find]) rfl rfl ?_
  have hi := fun gr => ixStr_at1 (L := L) (σ := ⟨[.cells cs], gr⟩) hR hS (hl _ (by simp)) l hn (tag := .unk) (b := 0) rfl h1 hb hf
  have ha : decide (0 ≤ idxP h l 0) = l.any h := by
    rw [Bool.eq_iff_iff, decide_eq_true_eq]; exact idxP_any h l 0
  refine EV_fn (ids := []) (hl _ (by simp)) Tryz.func105 rfl (by kernel_rfl) (by rw [Tryz.ntmps105]; simp) ?_
  rw [Tryz.ntmps105, Tryz.results105]
  simp (maxSteps := 1000000) (contextual := true) (implicitDefEqProofs := false) [-decide_eq_true_eq, -decide_eq_false_iff_not, -Bool.not_and, -Bool.not_or, -Bool.and_eq_false_imp, -Int.natCast_add, hi, ha]
end Go.Proofs.YtfgoedndpcblpaaGreatDoor.Pv
end
section
namespace Go.Proofs.YtfgoedndpcblpaaGreatDoor.Ps
open Go Go.Proofs Go.Proofs.YtfgoedndpcblpaaGreatDoor.Lx
set_option linter.unusedVariables false
mutual
def exN : Ex → Nat
  | .mk _ _ _ l _ => exsN l
def exsN : List Ex → Nat
  | [] => 0
  | x :: xs => 1 + exN x + exsN xs
end
mutual
def stN : St → Nat
  | .mk _ _ e a b _ => exsN e + stsN a + stsN b
def stsN : List St → Nat
  | [] => 0
  | x :: xs => 1 + stN x + stsN xs
end
mutual
def deepE : Ex → Nat
  | .mk _ _ _ l _ => deepEs l + 1
def deepEs : List Ex → Nat
  | [] => 0
  | x :: xs => max (deepE x) (deepEs xs)
end
mutual
def depS : St → Nat
  | .mk _ _ _ a b _ => max (depL a) (depL b)
def depL : List St → Nat
  | [] => 0
  | x :: xs => max (depS x + 1) (depL xs)
end
theorem exs_len (l : List Ex) : l.length ≤ exsN l := by
  induction l with
  | nil => exact Nat.le_refl _
  | cons x xs ih => simp only [exsN, List.length_cons]; omega
theorem sts_len (l : List St) : l.length ≤ stsN l := by
  induction l with
  | nil => exact Nat.le_refl _
  | cons x xs ih => simp only [stsN, List.length_cons]; omega
theorem exs_mem : ∀ (l : List Ex), ∀ x ∈ l, exN x + 1 ≤ exsN l
  | [], x, h => by cases h
  | y :: ys, x, h => by
    simp only [exsN]
    rcases List.mem_cons.1 h with rfl | h
    · omega
    · have := exs_mem ys x h; omega
theorem sts_mem : ∀ (l : List St), ∀ x ∈ l, stN x + 1 ≤ stsN l
  | [], x, h => by cases h
  | y :: ys, x, h => by
    simp only [stsN]
    rcases List.mem_cons.1 h with rfl | h
    · omega
    · have := sts_mem ys x h; omega
mutual
theorem deep_le : ∀ e : Ex, deepE e ≤ exN e + 1
  | .mk _ _ _ l _ => by simp only [deepE, exN]; have := deeps_le l; omega
theorem deeps_le : ∀ l : List Ex, deepEs l ≤ exsN l
  | [] => Nat.le_refl _
  | x :: xs => by
    simp only [deepEs, exsN]
    have := deep_le x; have := deeps_le xs
    omega
end
mutual
theorem dep_le : ∀ e : St, depS e ≤ stN e
  | .mk _ _ _ a b _ => by simp only [depS, stN]; have := deps_le a; have := deps_le b; omega
theorem deps_le : ∀ l : List St, depL l ≤ stsN l
  | [] => Nat.le_refl _
  | x :: xs => by
    simp only [depL, stsN]
    have := dep_le x; have := deps_le xs
    omega
end
def Ex.nm : Ex → ByteArray
  | .mk _ name _ _ _ => name
def Ex.opB : Ex → ByteArray
  | .mk op _ _ _ _ => op
def Ex.num : Ex → Int
  | .mk _ _ n _ _ => n
def Ex.l : Ex → List Ex
  | .mk _ _ _ l _ => l
def Ex.pos : Ex → Int
  | .mk _ _ _ _ a => a
def St.opB : St → ByteArray
  | .mk op _ _ _ _ _ => op
def St.nm : St → ByteArray
  | .mk _ n _ _ _ _ => n
def St.e : St → List Ex
  | .mk _ _ e _ _ _ => e
def St.a : St → List St
  | .mk _ _ _ a _ _ => a
def St.b : St → List St
  | .mk _ _ _ _ b _ => b
def St.pos : St → Int
  | .mk _ _ _ _ _ i => i
theorem exN_l (x : Ex) : exN x = exsN x.l := by cases x; rfl
theorem stN_l (x : St) : stN x = exsN x.e + stsN x.a + stsN x.b := by cases x; rfl
theorem deepE_l (x : Ex) : deepE x = deepEs x.l + 1 := by cases x; rfl
theorem depS_l (x : St) : depS x = max (depL x.a) (depL x.b) := by cases x; rfl
def sumN {α : Type} (f : α → Nat) : List α → Nat
  | [] => 0
  | x :: xs => f x + sumN f xs
def pgN (p : Pg) : Nat := stsN p.main + sumN (fun x => stsN x.body) p.procs
def bulkP (p : Pg) : Nat := p.enums.length + sumN (fun e => e.l.length) p.enums + p.vars.length + p.procs.length + pgN p
end Go.Proofs.YtfgoedndpcblpaaGreatDoor.Ps
end
section
namespace Go.Proofs.YtfgoedndpcblpaaGreatDoor.Pv
open Go Go.Proofs Go.Proofs.YtfgoedndpcblpaaGreatDoor.Lx Go.Proofs.YtfgoedndpcblpaaGreatDoor.Ps
set_option linter.unusedSimpArgs false
set_option linter.unusedVariables false
variable {L : Lib} {σ : Sto}
theorem exR_l (x : Ex) : exR x = [.im (.string x.opB), .im (.string x.nm), .im (.int .i64 x.num), .sl (x.l.map exR), .im (.int .i64 x.pos)] := by cases x; simp only [exR, exRs_map]; rfl
theorem exC_l (x : Ex) : exC x = [str x.opB, str x.nm, int x.num, .sl (x.l.map exR) .unk, int x.pos] := by cases x; simp only [exC, exRs_map]; rfl
theorem stR_l (x : Ps.St) : stR x = [.im (.string x.opB), .im (.string x.nm), .sl (x.e.map exR), .sl (x.a.map stR), .sl (x.b.map stR), .im (.int .i64 x.pos)] := by cases x; simp only [stR, exRs_map, stRs_map]; rfl
theorem stC_l (x : Ps.St) : stC x = [str x.opB, str x.nm, .sl (x.e.map exR) .unk, .sl (x.a.map stR) .unk, .sl (x.b.map stR) .unk, int x.pos] := by cases x; simp only [stC, stT, exRs_map, stRs_map]; rfl
theorem exR_len (x : Ex) : (exR x).length = 5 := by cases x; rfl
theorem stR_len (x : Ps.St) : (stR x).length = 6 := by cases x; rfl
theorem wrap_n {x y : Nat} (h : x + y < 9223372036854775808) : IntKind.wrap .i64 ((x : Int) + (y : Int)) = ((x + y : Nat) : Int) := wrap_add h
theorem max_nat (a b : Nat) : max2E (int a) (int b) = some (int (max a b : Nat)) := by
  show some (int (if (a : Int) < b then (b : Int) else a)) = _
  by_cases h : a < b
  · rw [if_pos (by omega), Nat.max_eq_right (by omega)]
  · rw [if_neg (by omega), Nat.max_eq_left (by omega)]
theorem max_pre (m a : Nat) : max2E (int ((m : Int) - 1)) (int a) = some (int (((max m (a + 1) : Nat) : Int) - 1)) := by
  show some (int (if (m : Int) - 1 < a then (a : Int) else (m : Int) - 1)) = _
  by_cases h : m < a + 1
  · rw [if_pos (by omega), Nat.max_eq_right (by omega)]; congr 2; omega
  · rw [if_neg (by omega), Nat.max_eq_left (by omega)]
theorem take_snoc {α β : Type} {l : List α} {i : Nat} {x : α} (f : α → β) (h : l[i]? = some x) : (l.take (i + 1)).map f = (l.take i).map f ++ [f x] := by
  rw [List.take_add_one, h, List.map_append]; rfl
theorem app_own2 {m b : Nat} {rows xs : List (List FV)} {tag : Tag} {gr : List (Nat × Nat)} (h : Own m gr rows tag) (hs : sized m rows = true) (hx : sized m xs = true) (hb : (rows.length + xs.length) * b ≤ 70368744177664) (hn : xs ≠ []) :
    ∃ tag' gr', (∀ bx, appL m b ⟨bx, gr⟩ rows tag xs = some (.sl (rows ++ xs) tag', ⟨bx, gr'⟩)) ∧ Own m gr' (rows ++ xs) tag' ∧ ∀ m' rows' t', m' ≠ m → Own m' gr rows' t' → Own m' gr' rows' t' := by
  have hl : xs.length ≠ 0 := by simpa using hn
  rcases h with rfl | ⟨g, rfl, hg⟩
  · refine ⟨.grow gr.length, gr ++ [(rows.length + xs.length, m)], fun bx => ?_, .inr ⟨_, rfl, by simp⟩, fun m' rows' t' hm ho => ?_⟩
    · unfold appL
      rw [if_pos ⟨hs, hx, hb⟩]
      simp only [if_neg hl]
    · rcases ho with rfl | ⟨g', rfl, hg'⟩
      · exact .inl rfl
      · exact .inr ⟨g', rfl, by rw [List.getElem?_append_left (List.getElem?_eq_some_iff.1 hg').1]; exact hg'⟩
  · have := (List.getElem?_eq_some_iff.1 hg).1
    refine ⟨.grow g, gr.set g (rows.length + xs.length, m), fun bx => ?_, .inr ⟨g, rfl, by simp [List.getElem?_set, this]⟩, fun m' rows' t' hm ho => ?_⟩
    · unfold appL
      rw [if_pos ⟨hs, hx, hb⟩]
      rw [if_neg hl]
      simp only [hg, true_and, ne_eq, hl, not_false_iff, if_true]
    · rcases ho with rfl | ⟨g', rfl, hg'⟩
      · exact .inl rfl
      · refine .inr ⟨g', rfl, ?_⟩
        have hne : g ≠ g' := by
          intro e; subst e
          rw [hg] at hg'
          exact hm (congrArg Prod.snd (Option.some.inj hg')).symm
        rw [List.getElem?_set_ne hne]; exact hg'
theorem own_snoc {α : Type} {R : α → List FV} {m b : Nat} {l : List α} {i : Nat} {x : α} {tag : Tag} {gr : List (Nat × Nat)} (hx : l[i]? = some x) (hi : i < l.length) (hR : ∀ x, (R x).length = m) (ho : Own m gr ((l.take i).map R) tag) (hb : l.length * b ≤ 70368744177664) :
    ∃ tag' gr', (∀ bx, appL m b ⟨bx, gr⟩ ((l.take i).map R) tag [R x] = some (.sl ((l.take (i + 1)).map R) tag', ⟨bx, gr'⟩)) ∧ Own m gr' ((l.take (i + 1)).map R) tag' ∧ ∀ m' rows' t', m' ≠ m → Own m' gr rows' t' → Own m' gr' rows' t' := by
  have h1 : ((l.take i).map R).length = i := by simp; omega
  obtain ⟨tag', gr', h2, h3, h4⟩ := app_own2 (b := b) (xs := [R x]) ho (sized_map hR) (by simp [sized, hR]) (by
    rw [h1]; exact Nat.le_trans (Nat.mul_le_mul_right _ (show i + [R x].length ≤ l.length by simp; omega)) hb) (by simp)
  rw [← take_snoc R hx] at h2 h3
  exact ⟨tag', gr', h2, h3, h4⟩
theorem Deep_ok (hl : Free L [190]) : ∀ (n : Nat) (e : Ex), exN e < n → n < 274877906944 → ∀ σ, callE (EV Tryz.prog L) 190 [.agg (exC e)] σ = some (int (deepE e : Nat), σ) := by
  intro n
  induction n with
  | zero => intro e h; omega
  | succ n ih =>
    intro e h hn σ
    rw [exN_l] at h
    have hlen := exs_len e.l
    have hdl := deeps_le e.l
    rw [exC_l, deepE_l]
    refine call_fn (ids := []) (hl _ (by simp)) Tryz.func190 Tryz.ntmps190 Tryz.results190 (by simp) rfl rfl ⟨_, rfl, by kernel_rfl, ?_⟩
    simp (maxSteps := 1000000) (contextual := true) (implicitDefEqProofs := false) [-decide_eq_true_eq, -decide_eq_false_iff_not, -Bool.not_and, -Bool.not_or, -Bool.and_eq_false_imp, -Int.natCast_add, -setAt, -List.map_take, setAt_eq]
    refine WP.each e.l (fun rest i s' => ∃ (v : Nat) (junk : List Bx), s'.sto = ⟨.cells [str e.opB, str e.nm, int e.num, .sl (e.l.map exR) .unk, int e.pos] :: junk, []⟩ ∧ s'.env 1 = .ptr 0 0 ∧ s'.env 3 = int v ∧ s'.env 7 = .sl (e.l.map exR) .unk ∧ s'.env 8 = int e.l.length ∧ s'.env 9 = int i ∧ max v (deepEs rest) = deepEs e.l) ⟨0, [], rfl, by simp, by simp, by simp, by simp, by simp, by omega⟩ ?_ ?_
    · rintro x xs i ⟨env, τ⟩ hx hi hxs ⟨v, junk, h1, h2, h3, h4, h5, h6, h7⟩
      simp only at h1 h2 h3 h4 h5 h6
      subst h1
      have hix := row_idx (R := exR) hx (exR_len x)
      have hlt : decide (i < e.l.length) = true := by simp [hi]
      have hm := exs_mem e.l x (List.mem_of_getElem? hx)
      have hI := fun σ => ih x (by omega) (by omega) σ
      simp only [exC_l] at hI
      simp only [deepEs] at h7
      have hw : IntKind.wrap .i64 ((i : Int) + 1) = ((i + 1 : Nat) : Int) := wrap_succ (by omega)
      simp (maxSteps := 1000000) (contextual := true) (implicitDefEqProofs := false) [-decide_eq_true_eq, -decide_eq_false_iff_not, -Bool.not_and, -Bool.not_or, -Bool.and_eq_false_imp, -Int.natCast_add, -setAt, -List.map_take, setAt_eq, h2, h3, h4, h5, h6, hlt, hix, hw, exR_l, hI, max_nat]
      exact ⟨max v (deepE x), rfl, by omega⟩
    · rintro ⟨env, τ⟩ ⟨v, junk, h1, h2, h3, h4, h5, h6, h7⟩
      simp only at h1 h2 h3 h4 h5 h6
      subst h1
      simp only [deepEs] at h7
      have : v = deepEs e.l := by omega
      subst this
      have hw : IntKind.wrap .i64 (((deepEs e.l : Nat) : Int) + 1) = ((deepEs e.l + 1 : Nat) : Int) := wrap_succ (by omega)
      simp (maxSteps := 1000000) (contextual := true) (implicitDefEqProofs := false) [-decide_eq_true_eq, -decide_eq_false_iff_not, -Bool.not_and, -Bool.not_or, -Bool.and_eq_false_imp, -Int.natCast_add, -setAt, -List.map_take, setAt_eq, h2, h3, h4, h5, h6, hw]
theorem Depth_ok (hl : Free L [145]) : ∀ (n : Nat) (l : List Ps.St), stsN l < n → n < 274877906944 → ∀ σ, callE (EV Tryz.prog L) 145 [.sl (l.map stR) .unk] σ = some (int (depL l : Nat), σ) := by
  intro n
  induction n with
  | zero => intro l h; omega
  | succ n ih =>
    intro l h hn σ
    have hlen := sts_len l
    have hdl := deps_le l
    refine call_fn (ids := []) (hl _ (by simp)) Tryz.func145 Tryz.ntmps145 Tryz.results145 (by simp) rfl rfl ⟨_, rfl, by kernel_rfl, ?_⟩
    simp (maxSteps := 1000000) (contextual := true) (implicitDefEqProofs := false) [-decide_eq_true_eq, -decide_eq_false_iff_not, -Bool.not_and, -Bool.not_or, -Bool.and_eq_false_imp, -Int.natCast_add, -setAt, -List.map_take, setAt_eq]
    refine WP.each l (fun rest i s' => ∃ (m : Nat) (junk : List Bx), s'.sto = ⟨junk, []⟩ ∧ s'.env 3 = int ((m : Int) - 1) ∧ s'.env 6 = .sl (l.map stR) .unk ∧ s'.env 7 = int l.length ∧ s'.env 8 = int i ∧ max m (depL rest) = depL l) ⟨0, [], rfl, by simp, by simp, by simp, by simp, by omega⟩ ?_ ?_
    · rintro x xs i ⟨env, τ⟩ hx hi hxs ⟨m, junk, h1, h2, h3, h4, h5, h6⟩
      simp only at h1 h2 h3 h4 h5
      subst h1
      have hix := row_idx (R := stR) hx (stR_len x)
      have hlt : decide (i < l.length) = true := by simp [hi]
      have hm := sts_mem l x (List.mem_of_getElem? hx)
      rw [stN_l] at hm
      have hA := fun σ => ih x.a (by omega) (by omega) σ
      have hB := fun σ => ih x.b (by omega) (by omega) σ
      simp only [depL, depS_l] at h6
      have hw : IntKind.wrap .i64 ((i : Int) + 1) = ((i + 1 : Nat) : Int) := wrap_succ (by omega)
      simp (maxSteps := 1000000) (contextual := true) (implicitDefEqProofs := false) [-decide_eq_true_eq, -decide_eq_false_iff_not, -Bool.not_and, -Bool.not_or, -Bool.and_eq_false_imp, -Int.natCast_add, -setAt, -List.map_take, setAt_eq, h2, h3, h4, h5, hlt, hix, hw, stR_l, hA, hB, max_pre]
      exact ⟨_, rfl, by omega⟩
    · rintro ⟨env, τ⟩ ⟨m, junk, h1, h2, h3, h4, h5, h6⟩
      simp only at h1 h2 h3 h4 h5
      subst h1
      simp only [depL] at h6
      have : m = depL l := by omega
      subst this
      have hw : IntKind.wrap .i64 (((depL l : Nat) : Int) - 1 + 1) = ((depL l : Nat) : Int) := by rw [wrap_of (by omega)]; omega
      have hw2 : IntKind.wrap .i64 ((depL l : Nat) : Int) = ((depL l : Nat) : Int) := wrap_nat (by omega)
      simp (maxSteps := 1000000) (contextual := true) (implicitDefEqProofs := false) [-decide_eq_true_eq, -decide_eq_false_iff_not, -Bool.not_and, -Bool.not_or, -Bool.and_eq_false_imp, -Int.natCast_add, -setAt, -List.map_take, setAt_eq, h2, h3, h4, h5, hw, hw2]
theorem enR_len (x : En) : (enR x).length = 2 := rfl
theorem vrR_len (x : Vr) : (vrR x).length = 3 := rfl
theorem pcR_len (x : Pc) : (pcR x).length = 2 := rfl
theorem sum_mem {α : Type} (f : α → Nat) : ∀ (l : List α), ∀ x ∈ l, f x ≤ sumN f l
  | [], x, h => by cases h
  | y :: ys, x, h => by
    simp only [sumN]
    rcases List.mem_cons.1 h with rfl | h
    · omega
    · have := sum_mem f ys x h; omega
end Go.Proofs.YtfgoedndpcblpaaGreatDoor.Pv
end
section
namespace Go.Proofs.YtfgoedndpcblpaaGreatDoor.Ps
open Go Go.Proofs Go.Proofs.YtfgoedndpcblpaaGreatDoor.Lx
set_option linter.unusedVariables false
def memB (s : ByteArray) (l : List ByteArray) : Bool := l.any fun t => decide (t = s)
theorem memB_iff {s : ByteArray} {l : List ByteArray} : memB s l = true ↔ s ∈ l := by simp [memB]
structure CV where
  name : ByteArray
  kind : Int
  pos : Int
  wide : Int
  many : Int
  of : ByteArray
structure CI where
  vars : List CV
  bits : Int
  ints : Int
  arrays : Int
def zCI : CI := ⟨[], 0, 0, 0⟩
def variableF (p : Pg) (n : ByteArray) : Option Vr := p.vars.find? fun v => decide (v.name = n)
def idxS (s : ByteArray) : List ByteArray → Nat → Int
  | [], _ => -1
  | x :: xs, i => if s = x then i else idxS s xs (i + 1)
def valueF (n : ByteArray) : List En → ByteArray × Int × Bool
  | [] => (⟨#[]⟩, 0, false)
  | e :: es => if 0 ≤ idxS n e.l 0 then (e.name, idxS n e.l 0, true) else valueF n es
def namedF (p : Pg) (op nm : ByteArray) : ByteArray × Int :=
  match variableF p nm with
  | some v => if op = (⟨#[97, 116]⟩ : ByteArray) then (if v.len ≤ 0 then (⟨#[]⟩, 140) else ((⟨#[105, 110, 116]⟩ : ByteArray), 0)) else (if 0 < v.len then (⟨#[]⟩, 140) else (v.type, 0))
  | none => if op = (⟨#[97, 116]⟩ : ByteArray) then (⟨#[]⟩, 140) else (if (valueF nm p.enums).2.2 = true then ((valueF nm p.enums).1, 0) else (⟨#[]⟩, 140))
def ruleF (op : ByteArray) : Option (List ByteArray × ByteArray) :=
  if op = (⟨#[116, 114, 117, 101]⟩ : ByteArray) then some ([], (⟨#[98, 111, 111, 108]⟩ : ByteArray)) else if op = (⟨#[102, 97, 108, 115, 101]⟩ : ByteArray) then some ([], (⟨#[98, 111, 111, 108]⟩ : ByteArray))
  else if op = (⟨#[110, 101, 103]⟩ : ByteArray) then some ([(⟨#[105, 110, 116]⟩ : ByteArray)], (⟨#[105, 110, 116]⟩ : ByteArray)) else if op = (⟨#[110, 111, 116]⟩ : ByteArray) then some ([(⟨#[98, 111, 111, 108]⟩ : ByteArray)], (⟨#[98, 111, 111, 108]⟩ : ByteArray)) else if op = (⟨#[97, 116]⟩ : ByteArray) then some ([(⟨#[105, 110, 116]⟩ : ByteArray)], (⟨#[105, 110, 116]⟩ : ByteArray))
  else if op = (⟨#[43]⟩ : ByteArray) then some ([(⟨#[105, 110, 116]⟩ : ByteArray), (⟨#[105, 110, 116]⟩ : ByteArray)], (⟨#[105, 110, 116]⟩ : ByteArray)) else if op = (⟨#[45]⟩ : ByteArray) then some ([(⟨#[105, 110, 116]⟩ : ByteArray), (⟨#[105, 110, 116]⟩ : ByteArray)], (⟨#[105, 110, 116]⟩ : ByteArray)) else if op = (⟨#[42]⟩ : ByteArray) then some ([(⟨#[105, 110, 116]⟩ : ByteArray), (⟨#[105, 110, 116]⟩ : ByteArray)], (⟨#[105, 110, 116]⟩ : ByteArray)) else if op = (⟨#[47]⟩ : ByteArray) then some ([(⟨#[105, 110, 116]⟩ : ByteArray), (⟨#[105, 110, 116]⟩ : ByteArray)], (⟨#[105, 110, 116]⟩ : ByteArray))
  else if op = (⟨#[60]⟩ : ByteArray) then some ([(⟨#[105, 110, 116]⟩ : ByteArray), (⟨#[105, 110, 116]⟩ : ByteArray)], (⟨#[98, 111, 111, 108]⟩ : ByteArray)) else if op = (⟨#[60, 61]⟩ : ByteArray) then some ([(⟨#[105, 110, 116]⟩ : ByteArray), (⟨#[105, 110, 116]⟩ : ByteArray)], (⟨#[98, 111, 111, 108]⟩ : ByteArray)) else if op = (⟨#[62]⟩ : ByteArray) then some ([(⟨#[105, 110, 116]⟩ : ByteArray), (⟨#[105, 110, 116]⟩ : ByteArray)], (⟨#[98, 111, 111, 108]⟩ : ByteArray)) else if op = (⟨#[62, 61]⟩ : ByteArray) then some ([(⟨#[105, 110, 116]⟩ : ByteArray), (⟨#[105, 110, 116]⟩ : ByteArray)], (⟨#[98, 111, 111, 108]⟩ : ByteArray))
  else if op = (⟨#[38, 38]⟩ : ByteArray) then some ([(⟨#[98, 111, 111, 108]⟩ : ByteArray), (⟨#[98, 111, 111, 108]⟩ : ByteArray)], (⟨#[98, 111, 111, 108]⟩ : ByteArray)) else if op = (⟨#[124, 124]⟩ : ByteArray) then some ([(⟨#[98, 111, 111, 108]⟩ : ByteArray), (⟨#[98, 111, 111, 108]⟩ : ByteArray)], (⟨#[98, 111, 111, 108]⟩ : ByteArray)) else none
def hasN (op : ByteArray) : Bool := decide (op = (⟨#[110, 97, 109, 101]⟩ : ByteArray)) || decide (op = (⟨#[97, 116]⟩ : ByteArray))
def pairF (l : List ByteArray) : Bool := match l with
  | [a, b] => decide (a = b) && !decide (a = (⟨#[98, 111, 111, 108]⟩ : ByteArray))
  | _ => false
def joinedF (p : Pg) (op nm : ByteArray) (n : Int) (l : List ByteArray) : ByteArray × Int :=
  if ((!decide (nm = ⟨#[]⟩) && !hasN op) || (!decide (n = 0) && !decide (op = (⟨#[110, 117, 109]⟩ : ByteArray)))) = true then (⟨#[]⟩, 141)
  else if op = (⟨#[110, 117, 109]⟩ : ByteArray) ∧ l = [] then (if n < 0 ∨ 1152921504606846976 < n then (⟨#[]⟩, 142) else ((⟨#[105, 110, 116]⟩ : ByteArray), 0))
  else if op = (⟨#[110, 97, 109, 101]⟩ : ByteArray) ∧ l = [] then namedF p op nm
  else if (op = (⟨#[61, 61]⟩ : ByteArray) ∨ op = (⟨#[33, 61]⟩ : ByteArray)) ∧ pairF l = true then ((⟨#[98, 111, 111, 108]⟩ : ByteArray), 0)
  else match ruleF op with
    | none => (⟨#[]⟩, 141)
    | some r => if r.1 = l then (if op = (⟨#[97, 116]⟩ : ByteArray) then namedF p op nm else (r.2, 0)) else (⟨#[]⟩, 141)
mutual
def typeF (p : Pg) : Ex → ByteArray × Int × Int
  | .mk op nm n l a =>
    if (typesF p l).2.2 = 0 then
      (if (joinedF p op nm n (typesF p l).1).2 = 0 then ((joinedF p op nm n (typesF p l).1).1, 0, 0) else (⟨#[]⟩, a, (joinedF p op nm n (typesF p l).1).2))
    else (⟨#[]⟩, (typesF p l).2.1, (typesF p l).2.2)
def typesF (p : Pg) : List Ex → List ByteArray × Int × Int
  | [] => ([], 0, 0)
  | x :: xs => if (typeF p x).2.2 = 0 then ((typeF p x).1 :: (typesF p xs).1, (typesF p xs).2.1, (typesF p xs).2.2) else ([], (typeF p x).2.1, (typeF p x).2.2)
end
def manyF (p : Pg) : Int :=
  if (decide (p.enums.length ≤ 16) && decide (p.vars.length ≤ 16) && decide (p.procs.length ≤ 16) && (p.enums.all fun e => decide (1 ≤ e.l.length) && decide (e.l.length ≤ 8)) && (p.vars.all fun v => decide (0 ≤ v.len) && decide (v.len ≤ 16))) = true then 0 else 142
def allNames (p : Pg) : List ByteArray := (p.enums.map fun e => e.name :: e.l).flatten ++ p.vars.map (·.name) ++ p.procs.map (·.name)
def nameOk (s : ByteArray) : Bool := decide ((Pv.exprOut s).2.2 = 0) && decide ((Pv.exprOut s).1.opB = (⟨#[110, 97, 109, 101]⟩ : ByteArray)) && decide ((Pv.exprOut s).1.nm = s)
def namesS : List ByteArray → List ByteArray → Bool
  | [], _ => true
  | s :: l, met => nameOk s && !memB s met && namesS l (met ++ [s])
def namesF (p : Pg) : Int := if namesS (allNames p) [] = true then 0 else 140
def isEnum (p : Pg) (t : ByteArray) : Bool := p.enums.any fun e => decide (e.name = t)
def typeBad (p : Pg) (v : Vr) : Bool := !decide (v.type = (⟨#[105, 110, 116]⟩ : ByteArray)) && (decide (0 < v.len) || (!decide (v.type = (⟨#[98, 111, 111, 108]⟩ : ByteArray)) && !isEnum p v.type))
def varTypesF (p : Pg) : Int := if p.vars.any (typeBad p) = true then 141 else 0
def bitsN (n : Nat) : Nat := if n = 0 then 0 else Nat.log2 n + 1
def wideF (many : Int) : Nat := bitsN (max many 1 - 1).toNat
def laidV (p : Pg) (i : CI) (v : Vr) : CI × CV :=
  if 0 < v.len then (⟨i.vars, i.bits, i.ints, i.arrays + 1⟩, ⟨v.name, 3, i.arrays, 0, v.len, v.type⟩)
  else if v.type = (⟨#[105, 110, 116]⟩ : ByteArray) then (⟨i.vars, i.bits, i.ints + 1, i.arrays⟩, ⟨v.name, 2, i.ints + 1, 0, 0, v.type⟩)
  else if v.type = (⟨#[98, 111, 111, 108]⟩ : ByteArray) then (⟨i.vars, i.bits + 1, i.ints, i.arrays⟩, ⟨v.name, 0, i.bits, 1, 2, v.type⟩)
  else match p.enums.find? (fun e => decide (e.name = v.type)) with
    | some e => (⟨i.vars, i.bits + wideF e.l.length, i.ints, i.arrays⟩, ⟨v.name, 1, i.bits, wideF e.l.length, e.l.length, v.type⟩)
    | none => (i, ⟨v.name, 1, i.bits, 0, 0, v.type⟩)
def laidS (p : Pg) : List Vr → CI → CI
  | [], i => i
  | v :: vs, i => laidS p vs { (laidV p i v).1 with vars := i.vars ++ [(laidV p i v).2] }
def laidF (p : Pg) : CI := laidS p p.vars zCI
def bodiesF (p : Pg) : List (List St) := p.procs.map (·.body) ++ [p.main]
mutual
def deepS : St → Bool
  | .mk _ _ e a b _ => e.all (fun x => decide (deepE x ≤ 16)) && deepL a && deepL b
def deepL : List St → Bool
  | [] => true
  | x :: xs => deepS x && deepL xs
end
def greatF (p : Pg) : Int := if (decide ((laidF p).bits ≤ 12) && decide ((laidF p).ints ≤ 6) && (bodiesF p).all fun l => decide (depL l < 16) && deepL l) = true then 0 else 142
def shapeF (op : ByteArray) : Option (Int × Int) :=
  if op = (⟨#[115, 101, 116]⟩ : ByteArray) then some (1, 0) else if op = (⟨#[112, 117, 116]⟩ : ByteArray) then some (2, 0) else if op = (⟨#[105, 110, 112, 117, 116]⟩ : ByteArray) then some (0, 0) else if op = (⟨#[105, 102]⟩ : ByteArray) then some (1, 2) else if op = (⟨#[119, 104, 105, 108, 101]⟩ : ByteArray) then some (1, 1)
  else if op = (⟨#[97, 115, 115, 101, 114, 116]⟩ : ByteArray) then some (1, 0) else if op = (⟨#[97, 115, 115, 117, 109, 101]⟩ : ByteArray) then some (1, 0) else if op = (⟨#[99, 97, 108, 108]⟩ : ByteArray) then some (0, 0) else if op = (⟨#[115, 107, 105, 112]⟩ : ByteArray) then some (0, 0) else none
def hasS (op : ByteArray) : Bool := decide (op = (⟨#[115, 101, 116]⟩ : ByteArray)) || decide (op = (⟨#[112, 117, 116]⟩ : ByteArray)) || decide (op = (⟨#[105, 110, 112, 117, 116]⟩ : ByteArray)) || decide (op = (⟨#[99, 97, 108, 108]⟩ : ByteArray))
def formedF (s : St) : Bool := match shapeF s.opB with
  | none => false
  | some w => (hasS s.opB || decide (s.nm = ⟨#[]⟩)) && decide ((s.e.length : Int) = (if s.opB = (⟨#[105, 110, 112, 117, 116]⟩ : ByteArray) ∧ 0 < s.e.length then 2 else w.1)) && (decide (s.a.length = 0) || decide (0 < w.2)) && (decide (s.b.length = 0) || decide (1 < w.2))
def constF (e : Ex) : Int × Bool := match decide (e.opB = (⟨#[110, 101, 103]⟩ : ByteArray)), e.l with
  | true, [x] => if x.opB = (⟨#[110, 117, 109]⟩ : ByteArray) then (IntKind.wrap .i64 (0 - x.num), true) else (e.num, false)
  | _, _ => (e.num, decide (e.opB = (⟨#[110, 117, 109]⟩ : ByteArray)))
def endsF (v : Vr) (l : List Ex) : Int :=
  if v.type = (⟨#[105, 110, 116]⟩ : ByteArray) then (match l with
    | x :: y :: _ => if (constF x).2 = true ∧ (constF y).2 = true ∧ (constF x).1 ≤ (constF y).1 then 0 else 144
    | _ => 144)
  else if l = [] then 0 else 144
def fitsF (p : Pg) (s : St) (l : List ByteArray) : Int :=
  if s.opB = (⟨#[115, 101, 116]⟩ : ByteArray) ∨ s.opB = (⟨#[105, 110, 112, 117, 116]⟩ : ByteArray) then (match variableF p s.nm with
    | some v => if 0 < v.len then 140 else if s.opB = (⟨#[105, 110, 112, 117, 116]⟩ : ByteArray) then endsF v s.e else if (l.all fun t => decide (t = v.type)) = true then 0 else 141
    | none => 140)
  else if s.opB = (⟨#[112, 117, 116]⟩ : ByteArray) then (match variableF p s.nm with
    | some v => if v.len ≤ 0 then 140 else if (l.all fun t => decide (t = (⟨#[105, 110, 116]⟩ : ByteArray))) = true then 0 else 141
    | none => 140)
  else if s.opB = (⟨#[99, 97, 108, 108]⟩ : ByteArray) then (if (p.procs.any fun x => decide (x.name = s.nm)) = true then (if (l.all fun t => decide (t = ⟨#[]⟩)) = true then 0 else 141) else 140)
  else if (l.all fun t => decide (t = (⟨#[98, 111, 111, 108]⟩ : ByteArray))) = true then 0 else 141
mutual
def stmtF (p : Pg) : St → Int × Int
  | .mk op nm e a b i =>
    if formedF (.mk op nm e a b i) = true then
      (if (typesF p e).2.2 = 0 then
        (if fitsF p (.mk op nm e a b i) (typesF p e).1 = 0 then
          (if (stmtsF p a).2 = 0 then stmtsF p b else stmtsF p a)
        else (i, fitsF p (.mk op nm e a b i) (typesF p e).1))
      else ((typesF p e).2.1, (typesF p e).2.2))
    else (i, 141)
def stmtsF (p : Pg) : List St → Int × Int
  | [] => (0, 0)
  | s :: l => if (stmtF p s).2 = 0 then stmtsF p l else stmtF p s
end
mutual
def callS : St → List ByteArray
  | .mk op nm _ a b _ => (if op = (⟨#[99, 97, 108, 108]⟩ : ByteArray) then [nm] else []) ++ (callsL a ++ callsL b)
def callsL : List St → List ByteArray
  | [] => []
  | s :: l => callS s ++ callsL l
end
end Go.Proofs.YtfgoedndpcblpaaGreatDoor.Ps
end
section
namespace Go.Proofs.YtfgoedndpcblpaaGreatDoor.Pv
open Go Go.Proofs Go.Proofs.YtfgoedndpcblpaaGreatDoor.Lx Go.Proofs.YtfgoedndpcblpaaGreatDoor.Ps
set_option linter.unusedSimpArgs false
set_option linter.unusedVariables false
variable {L : Lib} {σ : Sto}
theorem Wrd.of {F : FuncId} {p p' : PS} {op name : ByteArray} {a : Int} {x : Ps.St} {te ta tb : Tag} {more : List Bx} {gr : List (Nat × Nat)} (h : EV Tryz.prog L F [.ptr 0 0, .ptr 1 0] ⟨[psB p, .cells (zSt op name a)], []⟩ = some (.tup [], ⟨psB p' :: .cells (stT te ta tb x) :: more, gr⟩)) (h1 : plainTag ta) (h2 : plainTag tb) (h3 : plainTag te) : Wrd L F p op name a x p' := ⟨te, ta, tb, more, gr, h, h1, h2, .inl h3⟩
end Go.Proofs.YtfgoedndpcblpaaGreatDoor.Pv
end
section
namespace Go.Proofs.YtfgoedndpcblpaaGreatDoor.Pv
open Go Go.Proofs Go.Proofs.YtfgoedndpcblpaaGreatDoor.Lx Go.Proofs.YtfgoedndpcblpaaGreatDoor.Ps
set_option linter.unusedSimpArgs false
set_option linter.unusedVariables false
variable {L : Lib} {σ : Sto}
@[simp] theorem clsOp_lookup {P : Program} {env : Nat → PV} {v : PV} {σ1 : Sto} {t : TypeId} {x i : Operand} {ok : Bool} : clsOp P env σ v σ1 (.lookup t x i ok) = .r := rfl
theorem keyEq_str (a b : ByteArray) : keyEq (.string a) (.string b) = decide (a = b) := by simp only [keyEq, str_eq]
end Go.Proofs.YtfgoedndpcblpaaGreatDoor.Pv
end
section
namespace Go.Proofs.YtfgoedndpcblpaaGreatDoor.Pv
open Go Go.Proofs Go.Proofs.YtfgoedndpcblpaaGreatDoor.Lx Go.Proofs.YtfgoedndpcblpaaGreatDoor.Ps
set_option linter.unusedSimpArgs false
set_option linter.unusedVariables false
variable {L : Lib} {σ : Sto}
theorem idxP_find {α : Type} (h : α → Bool) : ∀ (l : List α) (i : Nat), (∃ k x, idxP h l i = ((i + k : Nat) : Int) ∧ l[k]? = some x ∧ l.find? h = some x) ∨ (idxP h l i = -1 ∧ l.find? h = none)
  | [], i => .inr ⟨rfl, rfl⟩
  | x :: xs, i => by
    simp only [idxP, List.find?_cons]
    cases hx : h x with
    | true => exact .inl ⟨0, x, by simp, rfl, rfl⟩
    | false =>
      simp only [Bool.false_eq_true, if_false]
      rcases idxP_find h xs (i + 1) with ⟨k, y, h1, h2, h3⟩ | h1
      · exact .inl ⟨k + 1, y, by rw [h1]; congr 1; omega, h2, h3⟩
      · exact .inr h1
def smallP (p : Pg) : Prop := bulkP p < 274877906944 - 1
theorem smallP.lens {p : Pg} (h : smallP p) : p.enums.length < 274877906944 ∧ p.vars.length < 274877906944 ∧ p.procs.length < 274877906944 := by
  unfold smallP bulkP at h; omega
def vrC (v : Option Vr) : List PV := match v with
  | some v => [str v.name, str v.type, int v.len]
  | none => [str ⟨#[]⟩, str ⟨#[]⟩, int 0]
theorem variable_ok (hl : Free L [191, 230, 229]) (p : Pg) (hp : smallP p) (n : ByteArray) : ∀ σ, callE (EV Tryz.prog L) 191 [.agg (pgC p), str n] σ = some (.tup [.agg (vrC (variableF p n)), boo (variableF p n).isSome], σ) := by
  intro σ
  obtain ⟨_, hv, _⟩ := hp.lens
  have hc : ∀ x : Vr, callE (EV Tryz.prog L) 230 [.agg ((vrR x).map FV.up), .ptr 0 0] ⟨[.cells [str n]], []⟩ = some (boo (decide (x.name = n)), ⟨[.cells [str n]], []⟩) := fun x => by
    refine call_keep (more := [.cells [str x.name, str x.type, int x.len]]) (gr := []) (args' := [.agg [str x.name, str x.type, int x.len], .ptr 0 0]) rfl ⟨rfl, rfl, fun _ _ _ _ => rfl⟩ ⟨[], rfl, fun c h => absurd h (by simp)⟩ rfl rfl rfl ?_
    refine EV_fn (ids := []) (hl _ (by simp)) Tryz.func230 rfl (by kernel_rfl) (by rw [Tryz.ntmps230]; simp) ?_
    rw [Tryz.ntmps230, Tryz.results230]
    simp (maxSteps := 1000000) (contextual := true) (implicitDefEqProofs := false) [-decide_eq_true_eq, -decide_eq_false_iff_not, -Bool.not_and, -Bool.not_or, -Bool.and_eq_false_imp, -Int.natCast_add, -setAt, -List.map_take, setAt_eq]
  have hi := fun (σ : Sto) (b : Nat) (hb : σ.bx[b]? = some (.cells [str n])) => ixVr_at1 (L := L) (R := vrR) (σ := σ) vrR_len (hl _ (by simp)) p.vars (by omega) (tag := .unk) (h := fun v => decide (v.name = n)) (C := 230) (b := b) hb ⟨rfl, rfl, fun _ _ _ _ => rfl⟩ (by kernel_rfl) (fun x _ => hc x)
  unfold variableF
  rcases idxP_find (fun v : Vr => decide (v.name = n)) p.vars 0 with ⟨k, x, h1, h2, h3⟩ | ⟨h1, h2⟩
  · rw [h3]
    rw [Nat.zero_add] at h1
    rw [h1] at hi
    have hk : decide ((k : Int) < 0) = false := by simp
    have hix := row_idx (R := vrR) h2 (vrR_len x)
    refine call_fn (ids := []) (hl _ (by simp)) Tryz.func191 Tryz.ntmps191 Tryz.results191 (by simp) rfl rfl ⟨_, rfl, by kernel_rfl, ?_⟩
    simp (maxSteps := 1000000) (contextual := true) (implicitDefEqProofs := false) [-decide_eq_true_eq, -decide_eq_false_iff_not, -Bool.not_and, -Bool.not_or, -Bool.and_eq_false_imp, -Int.natCast_add, -setAt, -List.map_take, setAt_eq, pgC, hi, hk, hix, vrR, vrC]
  · rw [h2]
    rw [h1] at hi
    refine call_fn (ids := []) (hl _ (by simp)) Tryz.func191 Tryz.ntmps191 Tryz.results191 (by simp) rfl rfl ⟨_, rfl, by kernel_rfl, ?_⟩
    simp (maxSteps := 1000000) (contextual := true) (implicitDefEqProofs := false) [-decide_eq_true_eq, -decide_eq_false_iff_not, -Bool.not_and, -Bool.not_or, -Bool.and_eq_false_imp, -Int.natCast_add, -setAt, -List.map_take, setAt_eq, pgC, hi, vrC]
theorem constant_ok (hl : Free L [231]) (e : Ex) : ∀ σ, callE (EV Tryz.prog L) 231 [.agg (exC e)] σ = some (.tup [int (constF e).1, boo (constF e).2], σ) := by
  intro σ
  rw [exC_l]
  unfold constF
  generalize e.l = l
  generalize e.opB = op
  generalize e.num = n
  generalize e.nm = nm
  generalize e.pos = a
  by_cases ho : op = (⟨#[110, 101, 103]⟩ : ByteArray)
  · subst ho
    rcases l with _ | ⟨x, _ | ⟨y, zs⟩⟩
    · refine call_fn (ids := []) (hl _ (by simp)) Tryz.func231 Tryz.ntmps231 Tryz.results231 (by simp) rfl rfl ⟨_, rfl, by kernel_rfl, ?_⟩
      simp (maxSteps := 1000000) (contextual := true) (implicitDefEqProofs := false) [-decide_eq_true_eq, -decide_eq_false_iff_not, -Bool.not_and, -Bool.not_or, -Bool.and_eq_false_imp, -Int.natCast_add, -setAt, -List.map_take, setAt_eq]
    · have hix : idx 5 ([x].map exR) 0 = some (.el (exR x) 0) := row_idx (i := 0) rfl (exR_len x)
      simp only [List.map_cons, List.map_nil, exR_l] at hix
      by_cases hx : x.opB = (⟨#[110, 117, 109]⟩ : ByteArray)
      · simp only [hx] at hix
        refine call_fn (ids := []) (hl _ (by simp)) Tryz.func231 Tryz.ntmps231 Tryz.results231 (by simp) rfl rfl ⟨_, rfl, by kernel_rfl, ?_⟩
        simp (maxSteps := 1000000) (contextual := true) (implicitDefEqProofs := false) [-decide_eq_true_eq, -decide_eq_false_iff_not, -Bool.not_and, -Bool.not_or, -Bool.and_eq_false_imp, -Int.natCast_add, -setAt, -List.map_take, setAt_eq, hix, exR_l, hx]
      · refine call_fn (ids := []) (hl _ (by simp)) Tryz.func231 Tryz.ntmps231 Tryz.results231 (by simp) rfl rfl ⟨_, rfl, by kernel_rfl, ?_⟩
        simp (maxSteps := 1000000) (contextual := true) (implicitDefEqProofs := false) [-decide_eq_true_eq, -decide_eq_false_iff_not, -Bool.not_and, -Bool.not_or, -Bool.and_eq_false_imp, -Int.natCast_add, -setAt, -List.map_take, setAt_eq, hix, exR_l, hx]
    · have hd : decide (((zs.length + 1 + 1 : Nat) : Int) = 1) = false := by simp; omega
      refine call_fn (ids := []) (hl _ (by simp)) Tryz.func231 Tryz.ntmps231 Tryz.results231 (by simp) rfl rfl ⟨_, rfl, by kernel_rfl, ?_⟩
      simp (maxSteps := 1000000) (contextual := true) (implicitDefEqProofs := false) [-decide_eq_true_eq, -decide_eq_false_iff_not, -Bool.not_and, -Bool.not_or, -Bool.and_eq_false_imp, -Int.natCast_add, -setAt, -List.map_take, setAt_eq, hd]
  · refine call_fn (ids := []) (hl _ (by simp)) Tryz.func231 Tryz.ntmps231 Tryz.results231 (by simp) rfl rfl ⟨_, rfl, by kernel_rfl, ?_⟩
    simp (maxSteps := 1000000) (contextual := true) (implicitDefEqProofs := false) [-decide_eq_true_eq, -decide_eq_false_iff_not, -Bool.not_and, -Bool.not_or, -Bool.and_eq_false_imp, -Int.natCast_add, -setAt, -List.map_take, setAt_eq, ho]
theorem ends_ok (hl : Free L [231, 192]) (v : Vr) (l : List Ex) (h : v.type = (⟨#[105, 110, 116]⟩ : ByteArray) → l.length ≠ 1) : ∀ σ, callE (EV Tryz.prog L) 192 [.agg [str v.name, str v.type, int v.len], .sl (l.map exR) .unk] σ = some (int (endsF v l), σ) := by
  intro σ
  have hc := fun x σ => constant_ok (L := L) (hl.sub (by simp)) x σ
  simp only [exC_l] at hc
  unfold endsF
  by_cases ht : v.type = (⟨#[105, 110, 116]⟩ : ByteArray)
  · rw [if_pos ht]
    rcases l with _ | ⟨x, _ | ⟨y, zs⟩⟩
    · refine call_fn (ids := []) (hl _ (by simp)) Tryz.func192 Tryz.ntmps192 Tryz.results192 (by simp) rfl rfl ⟨_, rfl, by kernel_rfl, ?_⟩
      simp (maxSteps := 1000000) (contextual := true) (implicitDefEqProofs := false) [-decide_eq_true_eq, -decide_eq_false_iff_not, -Bool.not_and, -Bool.not_or, -Bool.and_eq_false_imp, -Int.natCast_add, -setAt, -List.map_take, setAt_eq, ht, bin_bne Tryz.underlying4]
    · exact absurd rfl (h ht)
    · have hix : idx 5 ((x :: y :: zs).map exR) 0 = some (.el (exR x) 0) := row_idx (i := 0) rfl (exR_len x)
      have hiy : idx 5 ((x :: y :: zs).map exR) 1 = some (.el (exR y) 0) := row_idx (i := 1) rfl (exR_len y)
      simp only [List.map_cons, exR_l] at hix hiy
      have hd : decide (((zs.length + 1 + 1 : Nat) : Int) = 0) = false := by simp; omega
      refine call_fn (ids := []) (hl _ (by simp)) Tryz.func192 Tryz.ntmps192 Tryz.results192 (by simp) rfl rfl ⟨_, rfl, by kernel_rfl, ?_⟩
      simp (maxSteps := 1000000) (contextual := true) (implicitDefEqProofs := false) [-decide_eq_true_eq, -decide_eq_false_iff_not, -Bool.not_and, -Bool.not_or, -Bool.and_eq_false_imp, -Int.natCast_add, -setAt, -List.map_take, setAt_eq, ht, hd, hix, hiy, exR_l, hc]
      intro h1 h2
      exact ⟨fun h => of_decide_eq_true h, fun h => by have := of_decide_eq_false h; omega⟩
  · rw [if_neg ht]
    rcases l with _ | ⟨x, zs⟩
    · refine call_fn (ids := []) (hl _ (by simp)) Tryz.func192 Tryz.ntmps192 Tryz.results192 (by simp) rfl rfl ⟨_, rfl, by kernel_rfl, ?_⟩
      simp (maxSteps := 1000000) (contextual := true) (implicitDefEqProofs := false) [-decide_eq_true_eq, -decide_eq_false_iff_not, -Bool.not_and, -Bool.not_or, -Bool.and_eq_false_imp, -Int.natCast_add, -setAt, -List.map_take, setAt_eq, ht, bin_bne Tryz.underlying4]
    · have hd : decide (((zs.length + 1 : Nat) : Int) > 0) = true := by simp
      refine call_fn (ids := []) (hl _ (by simp)) Tryz.func192 Tryz.ntmps192 Tryz.results192 (by simp) rfl rfl ⟨_, rfl, by kernel_rfl, ?_⟩
      simp (maxSteps := 1000000) (contextual := true) (implicitDefEqProofs := false) [-decide_eq_true_eq, -decide_eq_false_iff_not, -Bool.not_and, -Bool.not_or, -Bool.and_eq_false_imp, -Int.natCast_add, -setAt, -List.map_take, setAt_eq, ht, hd, bin_bne Tryz.underlying4]
theorem callE_era {H : Hand} {f : FuncId} {args : List PV} (h : ptrsL args = []) : callE H f args σ = callE H f (eraL args) σ := by
  obtain ⟨h1, h2, h3⟩ := renL_era (ρ := find []) h
  obtain ⟨h4, _, _⟩ := renL_era (ρ := find []) h2
  have e0 : gather σ.bx 64 (ptrsL args) [] = [] := by rw [h]; rfl
  have e1 : gather σ.bx 64 (ptrsL (eraL args)) [] = [] := by rw [h2]; rfl
  unfold callE
  rw [e0, e1]
  unfold callIn
  rw [h1, h4, h3]
@[simp] theorem chunks_four {m : Nat} {fs : List FV} : chunks m 4 fs = [fs.take m, (fs.drop m).take m, (fs.drop (2 * m)).take m, (fs.drop (3 * m)).take m] := by simp [chunks, List.range_succ]
@[simp] theorem chunks_five {m : Nat} {fs : List FV} : chunks m 5 fs = [fs.take m, (fs.drop m).take m, (fs.drop (2 * m)).take m, (fs.drop (3 * m)).take m, (fs.drop (4 * m)).take m] := by simp [chunks, List.range_succ]
@[simp] theorem chunks_six {m : Nat} {fs : List FV} : chunks m 6 fs = [fs.take m, (fs.drop m).take m, (fs.drop (2 * m)).take m, (fs.drop (3 * m)).take m, (fs.drop (4 * m)).take m, (fs.drop (5 * m)).take m] := by simp [chunks, List.range_succ]
@[simp] theorem chunks_seven {m : Nat} {fs : List FV} : chunks m 7 fs = [fs.take m, (fs.drop m).take m, (fs.drop (2 * m)).take m, (fs.drop (3 * m)).take m, (fs.drop (4 * m)).take m, (fs.drop (5 * m)).take m, (fs.drop (6 * m)).take m] := by simp [chunks, List.range_succ]
theorem index_okV (hl : L 86 = none) (l : List ByteArray) (s : ByteArray) (hn : l.length < 4611686018427387904) : ∀ σ, callE (EV Tryz.prog L) 86 [.sl (l.map strR) .unk, str s] σ = some (int (idxS s l 0), σ) := by
  intro σ
  have e1 : strsB (l.map (·.data.toList)) = .sl (l.map strR) .unk := by simp only [strsB, List.map_map]; congr 2
  have h := index_ok (σ := σ) hl (l.map (·.data.toList)) s (by simpa using hn)
  have e2 : ∀ (l : List ByteArray) (i : Nat), idxG s.data.toList (l.map (·.data.toList)) i = idxS s l i := by
    intro l
    induction l with
    | nil => intro i; rfl
    | cons x xs ih =>
      intro i
      simp only [List.map_cons, idxG, idxS, ih]
      by_cases hx : s = x
      · subst hx; simp
      · rw [if_neg hx, if_neg (fun e => hx (by rw [← strOf_self s, e, strOf_self]))]
  rw [e1, e2] at h
  exact h
theorem Value_ok (hl : Free L [86, 27]) (p : Pg) (hp : smallP p) (n : ByteArray) : ∀ σ, callE (EV Tryz.prog L) 27 [.agg (pgC p), str n] σ = some (.tup [str (valueF n p.enums).1, int (valueF n p.enums).2.1, boo (valueF n p.enums).2.2], σ) := by
  intro σ
  obtain ⟨he, _, _⟩ := hp.lens
  have hs : ∀ e ∈ p.enums, e.l.length < 274877906944 := fun e h => by
    have := sum_mem (fun e : En => e.l.length) p.enums e h
    unfold smallP bulkP at hp; omega
  refine call_fn (ids := []) (hl _ (by simp)) Tryz.func27 Tryz.ntmps27 Tryz.results27 (by simp) rfl rfl ⟨_, rfl, by kernel_rfl, ?_⟩
  simp (maxSteps := 1000000) (contextual := true) (implicitDefEqProofs := false) [-decide_eq_true_eq, -decide_eq_false_iff_not, -Bool.not_and, -Bool.not_or, -Bool.and_eq_false_imp, -Int.natCast_add, -setAt, -List.map_take, setAt_eq, pgC]
  refine WP.each p.enums (fun rest i s' => ∃ (junk : List Bx), s'.sto = ⟨.cells (pgC p) :: junk, []⟩ ∧ s'.env 1 = str n ∧ s'.env 2 = .ptr 0 0 ∧ s'.env 11 = .sl (p.enums.map enR) .unk ∧ s'.env 12 = int p.enums.length ∧ s'.env 13 = int i ∧ valueF n rest = valueF n p.enums) ⟨[], rfl, by simp, by simp, by simp, by simp, by simp, rfl⟩ ?_ ?_
  · rintro x xs i ⟨env, τ⟩ hx hi hxs ⟨junk, h1, h2, h3, h4, h5, h6, h7⟩
    simp only at h1 h2 h3 h4 h5 h6
    subst h1
    have hix := row_idx (R := enR) hx (enR_len x)
    have hlt : decide (i < p.enums.length) = true := by simp [hi]
    have hx2 := fun σ => index_okV (L := L) (hl _ (by simp)) x.l n (by have := hs x (List.mem_of_getElem? hx); omega) σ
    have hw : IntKind.wrap .i64 ((i : Int) + 1) = ((i + 1 : Nat) : Int) := wrap_succ (by omega)
    simp only [valueF] at h7
    simp (maxSteps := 1000000) (contextual := true) (implicitDefEqProofs := false) [-decide_eq_true_eq, -decide_eq_false_iff_not, -Bool.not_and, -Bool.not_or, -Bool.and_eq_false_imp, -Int.natCast_add, -setAt, -List.map_take, setAt_eq, h2, h3, h4, h5, h6, hlt, hix, hw, enR, hx2]
    refine ⟨fun h => ?_, fun h => ?_⟩
    · rw [if_pos (of_decide_eq_true h)] at h7; rw [← h7]; exact ⟨rfl, rfl, rfl⟩
    · rw [if_neg (of_decide_eq_false h)] at h7; exact h7
  · rintro ⟨env, τ⟩ ⟨junk, h1, h2, h3, h4, h5, h6, h7⟩
    simp only at h1 h2 h3 h4 h5 h6
    subst h1
    simp only [valueF] at h7
    rw [← h7]
    simp (maxSteps := 1000000) (contextual := true) (implicitDefEqProofs := false) [-decide_eq_true_eq, -decide_eq_false_iff_not, -Bool.not_and, -Bool.not_or, -Bool.and_eq_false_imp, -Int.natCast_add, -setAt, -List.map_take, setAt_eq, h2, h3, h4, h5, h6]
@[simp] def namedFs : List FuncId := [86, 27, 191, 230, 229, 185]
theorem named_ok (hl : Free L namedFs) (p : Pg) (hp : smallP p) (e : Ex) : ∀ σ, callE (EV Tryz.prog L) 185 [.agg (pgC p), .agg (exC e)] σ = some (.tup [str (namedF p e.opB e.nm).1, int (namedF p e.opB e.nm).2], σ) := by
  intro σ
  have hv := fun σ => variable_ok (L := L) (hl.sub (by simp)) p hp e.nm σ
  have hu := fun σ => Value_ok (L := L) (hl.sub (by simp)) p hp e.nm σ
  rw [exC_l]
  simp only [pgC] at hv hu
  unfold namedF
  generalize valueF e.nm p.enums = val at *
  obtain ⟨of, k, has⟩ := val
  cases hvar : variableF p e.nm with
  | some v =>
    rw [hvar] at hv
    by_cases ho : e.opB = (⟨#[97, 116]⟩ : ByteArray)
    · simp only [ho, if_true]
      by_cases hz : v.len ≤ 0
      · refine call_fn (ids := []) (hl _ (by simp)) Tryz.func185 Tryz.ntmps185 Tryz.results185 (by simp) rfl rfl ⟨_, rfl, by kernel_rfl, ?_⟩
        simp (maxSteps := 1000000) (contextual := true) (implicitDefEqProofs := false) [-decide_eq_true_eq, -decide_eq_false_iff_not, -Bool.not_and, -Bool.not_or, -Bool.and_eq_false_imp, -Int.natCast_add, -setAt, -List.map_take, setAt_eq, pgC, hv, hu, vrC, ho, hz]
      · refine call_fn (ids := []) (hl _ (by simp)) Tryz.func185 Tryz.ntmps185 Tryz.results185 (by simp) rfl rfl ⟨_, rfl, by kernel_rfl, ?_⟩
        simp (maxSteps := 1000000) (contextual := true) (implicitDefEqProofs := false) [-decide_eq_true_eq, -decide_eq_false_iff_not, -Bool.not_and, -Bool.not_or, -Bool.and_eq_false_imp, -Int.natCast_add, -setAt, -List.map_take, setAt_eq, pgC, hv, hu, vrC, ho, hz]
    · simp only [ho, if_false]
      by_cases hz : 0 < v.len
      · refine call_fn (ids := []) (hl _ (by simp)) Tryz.func185 Tryz.ntmps185 Tryz.results185 (by simp) rfl rfl ⟨_, rfl, by kernel_rfl, ?_⟩
        simp (maxSteps := 1000000) (contextual := true) (implicitDefEqProofs := false) [-decide_eq_true_eq, -decide_eq_false_iff_not, -Bool.not_and, -Bool.not_or, -Bool.and_eq_false_imp, -Int.natCast_add, -setAt, -List.map_take, setAt_eq, pgC, hv, hu, vrC, ho, hz]
      · refine call_fn (ids := []) (hl _ (by simp)) Tryz.func185 Tryz.ntmps185 Tryz.results185 (by simp) rfl rfl ⟨_, rfl, by kernel_rfl, ?_⟩
        simp (maxSteps := 1000000) (contextual := true) (implicitDefEqProofs := false) [-decide_eq_true_eq, -decide_eq_false_iff_not, -Bool.not_and, -Bool.not_or, -Bool.and_eq_false_imp, -Int.natCast_add, -setAt, -List.map_take, setAt_eq, pgC, hv, hu, vrC, ho, hz]
  | none =>
    rw [hvar] at hv
    by_cases ho : e.opB = (⟨#[97, 116]⟩ : ByteArray)
    · simp only [ho, if_true]
      refine call_fn (ids := []) (hl _ (by simp)) Tryz.func185 Tryz.ntmps185 Tryz.results185 (by simp) rfl rfl ⟨_, rfl, by kernel_rfl, ?_⟩
      simp (maxSteps := 1000000) (contextual := true) (implicitDefEqProofs := false) [-decide_eq_true_eq, -decide_eq_false_iff_not, -Bool.not_and, -Bool.not_or, -Bool.and_eq_false_imp, -Int.natCast_add, -setAt, -List.map_take, setAt_eq, pgC, hv, hu, vrC, ho]
    · simp only [ho, if_false]
      cases has with
      | true =>
        refine call_fn (ids := []) (hl _ (by simp)) Tryz.func185 Tryz.ntmps185 Tryz.results185 (by simp) rfl rfl ⟨_, rfl, by kernel_rfl, ?_⟩
        simp (maxSteps := 1000000) (contextual := true) (implicitDefEqProofs := false) [-decide_eq_true_eq, -decide_eq_false_iff_not, -Bool.not_and, -Bool.not_or, -Bool.and_eq_false_imp, -Int.natCast_add, -setAt, -List.map_take, setAt_eq, pgC, hv, hu, vrC, ho]
      | false =>
        refine call_fn (ids := []) (hl _ (by simp)) Tryz.func185 Tryz.ntmps185 Tryz.results185 (by simp) rfl rfl ⟨_, rfl, by kernel_rfl, ?_⟩
        simp (maxSteps := 1000000) (contextual := true) (implicitDefEqProofs := false) [-decide_eq_true_eq, -decide_eq_false_iff_not, -Bool.not_and, -Bool.not_or, -Bool.and_eq_false_imp, -Int.natCast_add, -setAt, -List.map_take, setAt_eq, pgC, hv, hu, vrC, ho]
end Go.Proofs.YtfgoedndpcblpaaGreatDoor.Pv
end
section
namespace Go.Proofs.YtfgoedndpcblpaaGreatDoor.Pv
open Go Go.Proofs Go.Proofs.YtfgoedndpcblpaaGreatDoor.Lx Go.Proofs.YtfgoedndpcblpaaGreatDoor.Ps
set_option linter.unusedSimpArgs false
set_option linter.unusedVariables false
variable {L : Lib} {σ : Sto}
section
variable {P : Program} {H : Hand} {env : Nat → PV}
@[simp] theorem valO_insert {t : TypeId} {m k v : Operand} : valO P H env σ (.insert t m k v) = (insertE P σ t (opdE env m) (opdE env k) (opdE env v)).map (.im undef, ·) := rfl
@[simp] theorem valO_mapUpdate {t : TypeId} {m k v : Operand} : valO P H env σ (.mapUpdate t m k v) = (insertE P σ t (opdE env m) (opdE env k) (opdE env v)).map (.im undef, ·) := rfl
end
def lookS (s : ByteArray) : List (ByteArray × PV) → Option PV
  | [] => none
  | e :: es => if s = e.1 then some e.2 else lookS s es
def strM (l : List (ByteArray × PV)) : List (Value × PV) := l.map fun e => (.string e.1, e.2)
theorem mfind_str (s : ByteArray) : ∀ (l : List (ByteArray × PV)) (i : Nat), (mfind (strM l) (.string s) i).map (·.2) = lookS s l
  | [], i => rfl
  | e :: es, i => by
    simp only [strM, List.map_cons, mfind, lookS, keyEq_str, decide_eq_true_eq]
    split
    · rfl
    · exact mfind_str s es (i + 1)
theorem look_str {P : Program} {t k e : TypeId} {z : PV} {b : Nat} {l : List (ByteArray × PV)} {s : ByteArray} {ok : Bool} (u1 : P.underlying t = some (.map k e)) (u2 : P.underlying k = some .string) (u3 : zeroV P e = some z) (h : σ.bx[b]? = some (.map (strM l))) :
    lookupE P σ t (.mp b) (str s) ok = some (match lookS s l with | some v => (if ok = true then .tup [v, boo true] else v) | none => (if ok = true then .tup [z, boo false] else z)) := by
  have u4 : entriesE σ (.mp b) = some (strM l) := by simp only [entriesE, h]
  unfold lookupE
  rw [u1, u4]
  simp only [u2, u3]
  have hk : keyOk .string (.string s) = true ∧ ((strM l).all fun e => keyOk .string e.1) = true := ⟨rfl, by simp [strM, keyOk]⟩
  rw [if_pos hk]
  have := mfind_str s l 0
  cases hm : mfind (strM l) (.string s) 0 with
  | none => rw [hm] at this; simp only [Option.map_none] at this; rw [← this]; rfl
  | some x => rw [hm] at this; simp only [Option.map_some] at this; rw [← this]
theorem lookS_none {s : ByteArray} : ∀ {l : List (ByteArray × PV)}, (∀ e ∈ l, e.1 ≠ s) → lookS s l = none
  | [], _ => rfl
  | e :: es, h => by
    simp only [lookS]
    rw [if_neg (fun x => h e (List.mem_cons_self ..) x.symm)]
    exact lookS_none fun y hy => h y (List.mem_cons_of_mem _ hy)
theorem ins_str {P : Program} {t k e : TypeId} {b : Nat} {l : List (ByteArray × PV)} {s : ByteArray} {v : PV} (u1 : P.underlying t = some (.map k e)) (u2 : P.underlying k = some .string) (h : σ.bx[b]? = some (.map (strM l))) (hn : (l.any fun e => decide (s = e.1)) = false) :
    insertE P σ t (.mp b) (str s) v = some { σ with bx := σ.bx.set b (.map (strM (l ++ [(s, v)]))) } := by
  unfold insertE
  rw [u1]
  simp only [u2, h]
  have hk : keyOk .string (.string s) = true ∧ ((strM l).all fun e => keyOk .string e.1) = true := ⟨rfl, by simp [strM, keyOk]⟩
  rw [if_pos hk]
  have h1 := mfind_str s l 0
  have h2 : lookS s l = none := lookS_none fun e he hes => by
    have := List.any_eq_false.1 hn e he
    simp [hes] at this
  rw [h2] at h1
  cases hm : mfind (strM l) (.string s) 0 with
  | none => simp [strM]
  | some x => rw [hm] at h1; cases h1
theorem makeMapS {P : Program} {H : Hand} {env : Nat → PV} {t : TypeId} : valO P H env σ (.makeMap t none) = some (.mp σ.bx.length, { σ with bx := σ.bx ++ [.map (strM [])] }) := rfl
def shM (l : List (ByteArray × Int × Int)) : List (ByteArray × PV) := l.map fun e => (e.1, .agg [int e.2.1, int e.2.2])
theorem contains_okV (hl : Free L [104, 86]) (l : List ByteArray) (s : ByteArray) (hn : l.length < 4611686018427387904) (tag : Tag) : ∀ σ, callE (EV Tryz.prog L) 104 [.sl (l.map strR) tag, str s] σ = some (boo (memB s l), σ) := by
  intro σ
  have e1 : strsB (l.map (·.data.toList)) = .sl (l.map strR) .unk := by simp only [strsB, List.map_map]; congr 2
  have h := contains_ok (σ := σ) (hl.sub (by simp)) (l.map (·.data.toList)) s (by simpa using hn)
  have e2 : (l.map (·.data.toList)).contains s.data.toList = memB s l := by
    rw [Bool.eq_iff_iff]
    simp only [List.contains_iff_mem, List.mem_map, memB_iff]
    exact ⟨fun ⟨x, hx, e⟩ => by rw [← strOf_self s, ← e, strOf_self]; exact hx, fun h => ⟨s, h, rfl⟩⟩
  rw [e1, e2] at h
  rw [callE_era rfl]
  exact h
def shapeM : List (ByteArray × PV) := shM [((⟨#[115, 101, 116]⟩ : ByteArray), 1, 0), ((⟨#[112, 117, 116]⟩ : ByteArray), 2, 0), ((⟨#[105, 110, 112, 117, 116]⟩ : ByteArray), 0, 0), ((⟨#[105, 102]⟩ : ByteArray), 1, 2), ((⟨#[119, 104, 105, 108, 101]⟩ : ByteArray), 1, 1), ((⟨#[97, 115, 115, 101, 114, 116]⟩ : ByteArray), 1, 0), ((⟨#[97, 115, 115, 117, 109, 101]⟩ : ByteArray), 1, 0), ((⟨#[99, 97, 108, 108]⟩ : ByteArray), 0, 0), ((⟨#[115, 107, 105, 112]⟩ : ByteArray), 0, 0)]
theorem shape_look (s : ByteArray) : lookS s shapeM = (shapeF s).map fun x => .agg [int x.1, int x.2] := by
  unfold shapeF
  simp only [shapeM, shM, List.map_cons, List.map_nil, lookS]
  simp only [apply_ite (Option.map fun x : Int × Int => PV.agg [int x.1, int x.2]), Option.map_some, Option.map_none]
set_option maxHeartbeats 2000000 in
theorem formed_ok (hl : Free L [104, 86, 147]) (s : Ps.St) (hs : stN s < 274877906944) : ∀ σ, callE (EV Tryz.prog L) 147 [.agg (stC s)] σ = some (boo (formedF s), σ) := by
  intro σ
  rw [stC_l]
  have hc := fun σ => contains_okV (L := L) (hl.sub (by simp)) [(⟨#[115, 101, 116]⟩ : ByteArray), (⟨#[112, 117, 116]⟩ : ByteArray), (⟨#[105, 110, 112, 117, 116]⟩ : ByteArray), (⟨#[99, 97, 108, 108]⟩ : ByteArray)] s.opB (by decide) .full σ
  have u1 : Tryz.prog.underlying 255 = some (.map 9 253) := by kernel_rfl
  have u2 : Tryz.prog.underlying 9 = some .string := by kernel_rfl
  have u3 : zeroV Tryz.prog 253 = some (.agg [int 0, int 0]) := by kernel_rfl
  have hi : ∀ x0 l s v gr, (l.any fun e => decide (s = e.1)) = false → insertE Tryz.prog ⟨[x0, .map (strM l)], gr⟩ 255 (.mp 1) (str s) v = some ⟨[x0, .map (strM (l ++ [(s, v)]))], gr⟩ := fun x0 l s v gr h2 => ins_str (σ := ⟨[x0, .map (strM l)], gr⟩) (b := 1) u1 u2 rfl h2
  have hk : ∀ x0 gr, lookupE Tryz.prog ⟨[x0, .map (strM shapeM)], gr⟩ 255 (.mp 1) (str s.opB) true = some (match lookS s.opB shapeM with | some v => .tup [v, boo true] | none => .tup [.agg [int 0, int 0], boo false]) := fun x0 gr => look_str (σ := ⟨[x0, .map (strM shapeM)], gr⟩) (b := 1) (ok := true) u1 u2 u3 rfl
  simp only [shape_look] at hk
  simp only [shapeM, shM, List.map_cons, List.map_nil] at hk
  simp only [List.map_cons, List.map_nil, strR] at hc
  unfold formedF
  have hcc : memB s.opB ([(⟨#[115, 101, 116]⟩ : ByteArray), (⟨#[112, 117, 116]⟩ : ByteArray), (⟨#[105, 110, 112, 117, 116]⟩ : ByteArray), (⟨#[99, 97, 108, 108]⟩ : ByteArray)] : List ByteArray) = hasS s.opB := by
    rw [Bool.eq_iff_iff, memB_iff]; simp [hasS, or_assoc]
  rw [hcc] at hc
  generalize hasS s.opB = has at *
  cases hsh : shapeF s.opB with
  | none =>
    rw [hsh] at hk
    simp only [Option.map_none] at hk
    refine call_fn (ids := []) (hl _ (by simp)) Tryz.func147 Tryz.ntmps147 Tryz.results147 (by simp) rfl rfl ⟨_, rfl, by kernel_rfl, ?_⟩
    simp (maxSteps := 1000000) (contextual := true) (implicitDefEqProofs := false) [-decide_eq_true_eq, -decide_eq_false_iff_not, -Bool.not_and, -Bool.not_or, -Bool.and_eq_false_imp, -Int.natCast_add, -setAt, -List.map_take, setAt_eq, makeMapS, hi, hk, hc]
  | some w =>
    obtain ⟨w1, w2⟩ := w
    rw [hsh] at hk
    simp only [Option.map_some] at hk
    by_cases hin : s.opB = (⟨#[105, 110, 112, 117, 116]⟩ : ByteArray) ∧ 0 < s.e.length
    · obtain ⟨h1, h2⟩ := hin
      have hd : decide (0 < s.e.length) = true := decide_eq_true h2
      simp only [h1, h2, and_self, if_true] at hk hc ⊢
      refine call_fn (ids := []) (hl _ (by simp)) Tryz.func147 Tryz.ntmps147 Tryz.results147 (by simp) rfl rfl ⟨_, rfl, by kernel_rfl, ?_⟩
      simp (maxSteps := 1000000) (contextual := true) (implicitDefEqProofs := false) [-decide_eq_true_eq, -decide_eq_false_iff_not, -Bool.not_and, -Bool.not_or, -Bool.and_eq_false_imp, -Int.natCast_add, -setAt, -List.map_take, setAt_eq, makeMapS, hi, hk, hc, hd]
      intro h1 h2
      cases hb2 : decide ((s.e.length : Int) = 2) with
      | false => simp
      | true => obtain ⟨h3, h4⟩ := h2 hb2; simp [h3, h4]
    · have h3 : (decide (s.opB = (⟨#[105, 110, 112, 117, 116]⟩ : ByteArray)) && decide (0 < s.e.length)) = false := by
        by_cases h1 : s.opB = (⟨#[105, 110, 112, 117, 116]⟩ : ByteArray)
        · have h2 : ¬ 0 < s.e.length := fun h => hin ⟨h1, h⟩
          simp [h2]
        · simp [h1]
      dsimp only
      rw [if_neg hin]
      refine call_fn (ids := []) (hl _ (by simp)) Tryz.func147 Tryz.ntmps147 Tryz.results147 (by simp) rfl rfl ⟨_, rfl, by kernel_rfl, ?_⟩
      simp (maxSteps := 1000000) (contextual := true) (implicitDefEqProofs := false) [-decide_eq_true_eq, -decide_eq_false_iff_not, -Bool.not_and, -Bool.not_or, -Bool.and_eq_false_imp, -Int.natCast_add, -setAt, -List.map_take, setAt_eq, makeMapS, hi, hk, hc, h3]
      intro h1 h2
      cases hb2 : decide ((s.e.length : Int) = w1) with
      | false => simp
      | true => obtain ⟨h3, h4⟩ := h2 hb2; simp [h3, h4]
end Go.Proofs.YtfgoedndpcblpaaGreatDoor.Pv
end
section
namespace Go.Proofs.YtfgoedndpcblpaaGreatDoor.Ps
open Go Go.Proofs Go.Proofs.YtfgoedndpcblpaaGreatDoor.Lx
set_option linter.unusedVariables false
mutual
def okX : Ex → Prop
  | .mk _ _ n l _ => (-9223372036854775808 ≤ n ∧ n ≤ 9223372036854775807) ∧ okXs l
def okXs : List Ex → Prop
  | [] => True
  | x :: xs => okX x ∧ okXs xs
end
mutual
def okT : St → Prop
  | .mk _ _ e a b _ => okXs e ∧ okTs a ∧ okTs b
def okTs : List St → Prop
  | [] => True
  | x :: xs => okT x ∧ okTs xs
end
def okG (p : Pg) : Prop := okTs p.main ∧ (∀ x ∈ p.procs, okTs x.body) ∧ ∀ v ∈ p.vars, -9223372036854775808 ≤ v.len ∧ v.len ≤ 9223372036854775807
theorem okXs_mem : ∀ {l : List Ex}, okXs l → ∀ x ∈ l, okX x
  | [], _, x, h => by cases h
  | y :: ys, ho, x, h => by
    rw [okXs] at ho
    rcases List.mem_cons.1 h with rfl | h
    · exact ho.1
    · exact okXs_mem ho.2 x h
theorem okTs_mem : ∀ {l : List St}, okTs l → ∀ x ∈ l, okT x
  | [], _, x, h => by cases h
  | y :: ys, ho, x, h => by
    rw [okTs] at ho
    rcases List.mem_cons.1 h with rfl | h
    · exact ho.1
    · exact okTs_mem ho.2 x h
mutual
def lnE : Ex → Nat
  | .mk op nm _ l _ => 32 + op.size + nm.size + lnEs l
def lnEs : List Ex → Nat
  | [] => 0
  | x :: xs => lnE x + 2 + lnEs xs
end
theorem lnEs_get : ∀ {l : List Ex} {k : Nat} {x : Ex}, l[k]? = some x → lnE x + 2 ≤ lnEs l
  | [], k, x, h => by simp at h
  | y :: ys, 0, x, h => by simp at h; subst h; rw [lnEs]; omega
  | y :: ys, k + 1, x, h => by rw [lnEs]; have := lnEs_get (l := ys) (k := k) (x := x) (by simpa using h); omega
theorem lnEs_two : ∀ {l : List Ex} {x y : Ex}, l[0]? = some x → l[1]? = some y → lnE x + 2 + (lnE y + 2) ≤ lnEs l
  | [], x, y, h, _ => by simp at h
  | [_], x, y, _, h => by simp at h
  | a :: b :: l, x, y, h, k => by simp at h k; subst h; subst k; rw [lnEs, lnEs]; omega
theorem lnEs_mem {l : List Ex} {x : Ex} (h : x ∈ l) : lnE x + 2 ≤ lnEs l := by
  obtain ⟨k, hk⟩ := List.getElem?_of_mem h
  exact lnEs_get hk
theorem part_len {l : List Ex} {k : Nat} (h : ∀ x ∈ l, (textE x).length ≤ lnE x) : (partF (textsE l) k).length ≤ lnEs l ∧ (closedF (textsE l) k).length ≤ lnEs l := by
  unfold partF closedF
  rw [textsE_get]
  cases hx : l[k]? with
  | none => exact ⟨Nat.zero_le _, Nat.zero_le _⟩
  | some x =>
    have h1 := h x (List.mem_of_getElem? hx)
    have h2 := lnEs_get hx
    simp only [Option.map_some]
    refine ⟨by omega, ?_⟩
    split
    · omega
    · simp only [List.length_append, List.length_cons, List.length_nil]; omega
theorem closed_two {l : List Ex} (h : ∀ x ∈ l, (textE x).length ≤ lnE x) : (closedF (textsE l) 0).length + (closedF (textsE l) 1).length ≤ lnEs l := by
  cases hx : l[0]? with
  | none =>
    have : closedF (textsE l) 0 = [] := by unfold closedF; rw [textsE_get, hx]; rfl
    rw [this]; have := (part_len (k := 1) h).2; simp only [List.length_nil]; omega
  | some x =>
    cases hy : l[1]? with
    | none =>
      have : closedF (textsE l) 1 = [] := by unfold closedF; rw [textsE_get, hy]; rfl
      rw [this]; have := (part_len (k := 0) h).2; simp only [List.length_nil]; omega
    | some y =>
      have h1 := h x (List.mem_of_getElem? hx)
      have h2 := h y (List.mem_of_getElem? hy)
      have h3 := lnEs_two hx hy
      have a1 : (closedF (textsE l) 0).length ≤ (textE x).length + 2 := by
        unfold closedF; rw [textsE_get, hx]; simp only [Option.map_some]; split <;> simp
      have a2 : (closedF (textsE l) 1).length ≤ (textE y).length + 2 := by
        unfold closedF; rw [textsE_get, hy]; simp only [Option.map_some]; split <;> simp
      omega
theorem size_toList (s : ByteArray) : s.data.toList.length = s.size := by rw [Array.length_toList]; rfl
theorem text_len : ∀ e : Ex, okX e → (textE e).length ≤ lnE e := by
  refine Ex.all fun op name n l a ih => ?_
  intro ho
  rw [okX] at ho
  have hT : ∀ x ∈ l, (textE x).length ≤ lnE x := fun x hx => ih x hx (okXs_mem ho.2 x hx)
  have h1 := part_len (k := 0) hT
  have h2 := closed_two hT
  have h3 := Lib.itoa_length_le n ho.1.1 ho.1.2
  have h4 := size_toList op
  have h5 := size_toList name
  rw [textE, lnE]
  unfold textF
  repeat' split
  all_goals (try simp only [List.length_append, List.length_cons, List.length_nil])
  all_goals omega
mutual
def lnT : St → Nat
  | .mk op nm e a b _ => 8 + op.size + nm.size + lnEs e + lnTs a + lnTs b
def lnTs : List St → Nat
  | [] => 0
  | x :: xs => lnT x + lnTs xs
end
theorem lnTs_mem : ∀ {l : List St}, ∀ x ∈ l, lnT x ≤ lnTs l
  | [], x, h => by cases h
  | y :: ys, x, h => by
    rw [lnTs]
    rcases List.mem_cons.1 h with rfl | h
    · omega
    · have := lnTs_mem x h; omega
theorem lnEs_len (l : List Ex) : l.length ≤ lnEs l := by
  induction l with
  | nil => exact Nat.zero_le _
  | cons x xs ih => rw [lnEs, List.length_cons]; omega
theorem lnTs_len (l : List St) : l.length ≤ lnTs l := by
  induction l with
  | nil => exact Nat.zero_le _
  | cons x xs ih => cases x; rw [lnTs, lnT, List.length_cons]; omega
def catB (ws : List ByteArray) : List UInt8 := Lib.join (ws.map (·.data.toList)) []
def lineB (d : Nat) (ws : List ByteArray) : List UInt8 := Lib.repeatL [32, 32] d ++ catB ws ++ [10]
def partB (e : List Ex) (k : Nat) : ByteArray := strOf (partF (textsE e) k)
mutual
def stmtB (d : Nat) : St → List UInt8
  | .mk op nm e a b _ =>
    if op = (⟨#[115, 101, 116]⟩ : ByteArray) then lineB d [nm, (⟨#[32, 61, 32]⟩ : ByteArray), partB e 0, (⟨#[59]⟩ : ByteArray)]
    else if op = (⟨#[112, 117, 116]⟩ : ByteArray) then lineB d [nm, (⟨#[91]⟩ : ByteArray), partB e 0, (⟨#[93, 32, 61, 32]⟩ : ByteArray), partB e 1, (⟨#[59]⟩ : ByteArray)]
    else if op = (⟨#[105, 110, 112, 117, 116]⟩ : ByteArray) then (if e.length = 0 then lineB d [nm, (⟨#[32, 61, 32, 105, 110, 112, 117, 116, 59]⟩ : ByteArray)] else lineB d [nm, (⟨#[32, 61, 32, 105, 110, 112, 117, 116, 40]⟩ : ByteArray), partB e 0, (⟨#[44, 32]⟩ : ByteArray), partB e 1, (⟨#[41, 59]⟩ : ByteArray)])
    else if op = (⟨#[105, 102]⟩ : ByteArray) then lineB d [op, (⟨#[32]⟩ : ByteArray), partB e 0, ⟨#[32, 123]⟩] ++ (stmtsB (d + 1) a ++ ((if 0 < b.length then lineB d [⟨#[125, 32, 101, 108, 115, 101, 32, 123]⟩] ++ stmtsB (d + 1) b else []) ++ lineB d [⟨#[125]⟩]))
    else if op = (⟨#[119, 104, 105, 108, 101]⟩ : ByteArray) then lineB d [op, (⟨#[32]⟩ : ByteArray), partB e 0, ⟨#[32, 123]⟩] ++ (stmtsB (d + 1) a ++ lineB d [⟨#[125]⟩])
    else if op = (⟨#[97, 115, 115, 101, 114, 116]⟩ : ByteArray) ∨ op = (⟨#[97, 115, 115, 117, 109, 101]⟩ : ByteArray) then lineB d [op, (⟨#[32]⟩ : ByteArray), partB e 0, (⟨#[59]⟩ : ByteArray)]
    else if op = (⟨#[99, 97, 108, 108]⟩ : ByteArray) then lineB d [(⟨#[99, 97, 108, 108, 32]⟩ : ByteArray), nm, (⟨#[59]⟩ : ByteArray)]
    else lineB d [op, (⟨#[59]⟩ : ByteArray)]
def stmtsB (d : Nat) : List St → List UInt8
  | [] => []
  | x :: xs => stmtB d x ++ stmtsB d xs
end
def manyB (n : Int) : ByteArray := if 0 < n then strOf ([91] ++ Lib.itoa n ++ [93]) else ⟨#[]⟩
def listB (l : List ByteArray) : ByteArray := strOf (Lib.join (l.map (·.data.toList)) [44, 32])
def enumB (e : En) : List UInt8 := lineB 0 [(⟨#[101, 110, 117, 109, 32]⟩ : ByteArray), e.name, ⟨#[32, 123, 32]⟩, listB e.l, ⟨#[32, 125]⟩]
def varB (v : Vr) : List UInt8 := lineB 0 [(⟨#[118, 97, 114, 32]⟩ : ByteArray), v.name, (⟨#[58, 32]⟩ : ByteArray), v.type, manyB v.len, (⟨#[59]⟩ : ByteArray)]
def procB (x : Pc) : List UInt8 := lineB 0 [(⟨#[112, 114, 111, 99, 32]⟩ : ByteArray), x.name, ⟨#[32, 123]⟩] ++ (stmtsB 1 x.body ++ lineB 0 [⟨#[125]⟩])
def flatB {α : Type} (f : α → List UInt8) : List α → List UInt8
  | [] => []
  | x :: xs => f x ++ flatB f xs
def printB (p : Pg) : List UInt8 := flatB enumB p.enums ++ (flatB varB p.vars ++ (flatB procB p.procs ++ (lineB 0 [⟨#[109, 97, 105, 110, 32, 123]⟩] ++ (stmtsB 1 p.main ++ lineB 0 [⟨#[125]⟩]))))
theorem lineB_ne (d : Nat) (ws : List ByteArray) : lineB d ws ≠ [] := by simp [lineB]
end Go.Proofs.YtfgoedndpcblpaaGreatDoor.Ps
end
section
namespace Go.Proofs.YtfgoedndpcblpaaGreatDoor.Pv
open Go Go.Proofs Go.Proofs.YtfgoedndpcblpaaGreatDoor.Lx Go.Proofs.YtfgoedndpcblpaaGreatDoor.Ps
set_option linter.unusedSimpArgs false
set_option linter.unusedVariables false
variable {L : Lib} {σ : Sto}
@[simp] def textFs : List FuncId := [44, 114, 115, 97, 165, 104, 86]
theorem str_add (a b : List UInt8) : strOf a ++ strOf b = strOf (a ++ b) := by
  simp only [strOf]
  apply ByteArray.ext
  simp
theorem sadd {P : Program} {t : TypeId} {a b : List UInt8} (h : a.length + b.length ≤ 9223372036854775807) : binE P t .add (.im (.string (strOf a))) (.im (.string (strOf b))) = some (.im (.string (strOf (a ++ b)))) := by
  rw [bin_sadd (by rw [strOf_size, strOf_size]; exact h), str_add]
theorem saddl {P : Program} {t : TypeId} {b : List UInt8} (a : ByteArray) (h : a.size + b.length ≤ 9223372036854775807) : binE P t .add (.im (.string a)) (.im (.string (strOf b))) = some (.im (.string (strOf (a.data.toList ++ b)))) := by
  have := sadd (P := P) (t := t) (a := a.data.toList) (b := b) (by rw [size_toList]; exact h)
  rwa [strOf_self] at this
theorem saddr {P : Program} {t : TypeId} {a : List UInt8} (b : ByteArray) (h : a.length + b.size ≤ 9223372036854775807) : binE P t .add (.im (.string (strOf a))) (.im (.string b)) = some (.im (.string (strOf (a ++ b.data.toList)))) := by
  have := sadd (P := P) (t := t) (a := a) (b := b.data.toList) (by rw [size_toList]; exact h)
  rwa [strOf_self] at this
def TextOk (L : Lib) (e : Ex) : Prop := ∀ σ, callE (EV Tryz.prog L) 44 [.agg (exC e)] σ = some (str (strOf (textE e)), σ)
theorem part_ok (hl : Free L textFs) (l : List Ex) (k : Nat) (hk : k < 4) (hn : l.length < 274877906944) (h : ∀ x ∈ l, TextOk L x) : ∀ σ, callE (EV Tryz.prog L) 114 [.sl (l.map exR) .unk, int k] σ = some (str (strOf (partF (textsE l) k)), σ) := by
  intro σ
  refine call_fn (ids := []) (hl _ (by simp)) Tryz.func114 Tryz.ntmps114 Tryz.results114 (by simp) rfl rfl ⟨_, rfl, by kernel_rfl, ?_⟩
  by_cases hlt : k < l.length
  · have hx : l[k]? = some l[k] := List.getElem?_eq_getElem hlt
    have hT := h l[k] (List.getElem_mem hlt)
    have hp : partF (textsE l) k = textE l[k] := by unfold partF; rw [textsE_get, hx]; rfl
    have hix := row_idx (R := exR) hx (m := 5) (exR_len _)
    have hd : decide (l.length ≤ k) = false := by simp; omega
    rw [hp]
    generalize l[k] = x at *
    unfold TextOk at hT
    rw [exC_l] at hT
    simp (maxSteps := 1000000) (contextual := true) (implicitDefEqProofs := false) [-decide_eq_true_eq, -decide_eq_false_iff_not, -Bool.not_and, -Bool.not_or, -Bool.and_eq_false_imp, -Int.natCast_add, -setAt, -List.map_take, setAt_eq, hd, hix, hT, exR_l]
  · have hp : partF (textsE l) k = [] := by unfold partF; rw [textsE_get, List.getElem?_eq_none (by omega)]; rfl
    have hd : decide (l.length ≤ k) = true := by simp; omega
    rw [hp]
    simp (maxSteps := 1000000) (contextual := true) (implicitDefEqProofs := false) [-decide_eq_true_eq, -decide_eq_false_iff_not, -Bool.not_and, -Bool.not_or, -Bool.and_eq_false_imp, -Int.natCast_add, -setAt, -List.map_take, setAt_eq, hd]
    rfl
def bareB : List ByteArray := [(⟨#[110, 117, 109]⟩ : ByteArray), (⟨#[110, 97, 109, 101]⟩ : ByteArray), (⟨#[97, 116]⟩ : ByteArray), (⟨#[116, 114, 117, 101]⟩ : ByteArray), (⟨#[102, 97, 108, 115, 101]⟩ : ByteArray)]
theorem bare_eq (x : Ex) : memB x.opB bareB = bareL.contains x.op := by
  cases x with
  | mk op n m l a =>
    show memB op bareB = bareL.contains op.data.toList
    rw [Bool.eq_iff_iff, memB_iff]
    have hq : bareL = bareB.map (·.data.toList) := rfl
    rw [hq]
    simp only [List.contains_iff_mem, List.mem_map]
    exact ⟨fun h => ⟨op, h, rfl⟩, fun ⟨y, h, e⟩ => by rw [← strOf_self op, ← e, strOf_self]; exact h⟩
theorem closed_ok (hl : Free L textFs) (l : List Ex) (k : Nat) (hk : k < 4) (hn : l.length < 274877906944) (h : ∀ x ∈ l, TextOk L x) (hz : (partF (textsE l) k).length < 274877906944) : ∀ σ, callE (EV Tryz.prog L) 115 [.sl (l.map exR) .unk, int k] σ = some (str (strOf (closedF (textsE l) k)), σ) := by
  intro σ
  have hp := part_ok hl l k hk hn h
  refine call_fn (ids := []) (hl _ (by simp)) Tryz.func115 Tryz.ntmps115 Tryz.results115 (by simp) rfl rfl ⟨_, rfl, by kernel_rfl, ?_⟩
  by_cases hlt : k < l.length
  · have hx : l[k]? = some l[k] := List.getElem?_eq_getElem hlt
    have hix := row_idx (R := exR) hx (m := 5) (exR_len _)
    have hd : decide (l.length ≤ k) = false := by simp; omega
    have hc : closedF (textsE l) k = if bareL.contains l[k].op = true then partF (textsE l) k else [40] ++ partF (textsE l) k ++ [41] := by
      unfold closedF partF; rw [textsE_get, hx]; rfl
    rw [hc]
    generalize l[k] = x at *
    have hm := contains_okV (L := L) (hl.sub (by simp)) bareB x.opB (by decide) .full
    rw [bare_eq] at hm
    simp only [bareB, List.map_cons, List.map_nil, strR] at hm
    by_cases hb : bareL.contains x.op = true
    · rw [if_pos hb]
      rw [hb] at hm
      simp (maxSteps := 1000000) (contextual := true) (implicitDefEqProofs := false) [-decide_eq_true_eq, -decide_eq_false_iff_not, -Bool.not_and, -Bool.not_or, -Bool.and_eq_false_imp, -Int.natCast_add, -setAt, -List.map_take, setAt_eq, hp, hd, hix, exR_l, hm]
    · rw [if_neg hb]
      rw [Bool.not_eq_true] at hb
      rw [hb] at hm
      have a1 := fun t => saddl (P := Tryz.prog) (t := t) (b := partF (textsE l) k) ⟨#[40]⟩ (by show 1 + _ ≤ _; omega)
      have a2 := fun t => saddr (P := Tryz.prog) (t := t) (a := 40 :: partF (textsE l) k) ⟨#[41]⟩ (by show _ + 1 ≤ _; simp only [List.length_cons]; omega)
      simp (maxSteps := 1000000) (contextual := true) (implicitDefEqProofs := false) [-decide_eq_true_eq, -decide_eq_false_iff_not, -Bool.not_and, -Bool.not_or, -Bool.and_eq_false_imp, -Int.natCast_add, -setAt, -List.map_take, setAt_eq, hp, hd, hix, exR_l, hm, a1, a2]
  · have hc : closedF (textsE l) k = [] := by unfold closedF; rw [textsE_get, List.getElem?_eq_none (by omega)]; rfl
    have hpp : partF (textsE l) k = [] := by unfold partF; rw [textsE_get, List.getElem?_eq_none (by omega)]; rfl
    rw [hpp] at hp
    have hd : decide (l.length ≤ k) = true := by simp; omega
    rw [hc]
    simp (maxSteps := 1000000) (contextual := true) (implicitDefEqProofs := false) [-decide_eq_true_eq, -decide_eq_false_iff_not, -Bool.not_and, -Bool.not_or, -Bool.and_eq_false_imp, -Int.natCast_add, -setAt, -List.map_take, setAt_eq, hp, hd]
@[simp] theorem ib_fmt : isBody Tryz.prog 205 = true := isBody_of Tryz.func205 rfl (by kernel_rfl)
@[simp] theorem kt_fmt : keepT 205 = false := by decide
@[simp] theorem ib_ito : isBody Tryz.prog 165 = true := isBody_of Tryz.func165 rfl (by kernel_rfl)
@[simp] theorem kt_ito : keepT 165 = false := by decide
theorem itoa_ok (hl : Free L [97, 165]) (hF : L 205 = some formatH) (n : Int) (hn : -9223372036854775808 ≤ n ∧ n ≤ 9223372036854775807) : ∀ σ, callE (EV Tryz.prog L) 97 [int n] σ = some (str (strOf (Lib.itoa n)), σ) := by
  have h0 : ∀ σ, callE (EV Tryz.prog L) 205 [int n, int 10] σ = some (str (strOf (Lib.itoa n)), σ) := fun σ => by
    have := call_pure (σ := σ) (H := EV Tryz.prog L) (f := 205) (args := [int n, int 10]) (r := str (strOf (Lib.itoa n))) (σ1 := ⟨[], []⟩) rfl (EV_lib hF (by
      show (if (10 : Int) = 10 ∧ -9223372036854775808 ≤ n ∧ n ≤ 9223372036854775807 then some (PV.im (.string (Lx.strOf (Lib.itoa n))), (⟨[], []⟩ : Sto)) else none) = _
      rw [if_pos ⟨rfl, hn⟩])) rfl
    exact this
  have h1 : ∀ σ, callE (EV Tryz.prog L) 165 [int n] σ = some (str (strOf (Lib.itoa n)), σ) := fun σ => by
    refine call_fn (ids := []) (hl _ (by simp)) Tryz.func165 Tryz.ntmps165 Tryz.results165 (by simp) rfl rfl ⟨_, rfl, by kernel_rfl, ?_⟩
    simp (maxSteps := 1000000) (contextual := true) (implicitDefEqProofs := false) [-decide_eq_true_eq, -decide_eq_false_iff_not, -Bool.not_and, -Bool.not_or, -Bool.and_eq_false_imp, -Int.natCast_add, -setAt, -List.map_take, setAt_eq, h0]
  intro σ
  refine call_fn (ids := []) (hl _ (by simp)) Tryz.func97 Tryz.ntmps97 Tryz.results97 (by simp) rfl rfl ⟨_, rfl, by kernel_rfl, ?_⟩
  simp (maxSteps := 1000000) (contextual := true) (implicitDefEqProofs := false) [-decide_eq_true_eq, -decide_eq_false_iff_not, -Bool.not_and, -Bool.not_or, -Bool.and_eq_false_imp, -Int.natCast_add, -setAt, -List.map_take, setAt_eq, h1]
theorem text_ok (hl : Free L textFs) (hF : L 205 = some formatH) : ∀ e : Ex, okX e → lnE e < 274877906944 → TextOk L e := by
  refine Ex.all fun op name n l a ih => ?_
  intro ho hb
  have hlen0 := text_len _ ho
  rw [okX] at ho
  rw [lnE] at hb
  have hlen : l.length ≤ lnEs l := by
    clear hb ih ho hlen0
    induction l with
    | nil => exact Nat.zero_le _
    | cons x xs ih => rw [lnEs, List.length_cons]; omega
  have hL : ∀ x ∈ l, (textE x).length ≤ lnE x := fun x hx => text_len x (okXs_mem ho.2 x hx)
  have hT : ∀ x ∈ l, TextOk L x := fun x hx => ih x hx (okXs_mem ho.2 x hx) (by have := lnEs_mem hx; omega)
  have hq0 := part_len (k := 0) hL
  have hq1 := part_len (k := 1) hL
  have hq2 := closed_two hL
  have hp := part_ok hl l 0 (by omega) (by omega) hT
  have hc0 := closed_ok hl l 0 (by omega) (by omega) hT (by omega)
  have hc1 := closed_ok hl l 1 (by omega) (by omega) hT (by omega)
  have hi := itoa_ok (L := L) (hl.sub (by simp)) hF n ho.1
  have sz1 := size_toList op
  have sz2 := size_toList name
  intro σ
  simp only [Int.natCast_zero, Int.natCast_one] at hp hc0 hc1
  have hop : ∀ w : List UInt8, ¬ op.data.toList = w → decide (op = strOf w) = false := fun w h => decide_eq_false fun e => h (by rw [e, strOf_list])
  rw [textE, exC_l]
  simp only [Ex.opB, Ex.nm, Ex.num, Ex.l, Ex.pos]
  unfold textF
  have so : op = strOf op.data.toList := (strOf_self op).symm
  refine call_fn (ids := []) (hl _ (by simp)) Tryz.func44 Tryz.ntmps44 Tryz.results44 (by simp) rfl rfl ⟨_, rfl, by kernel_rfl, ?_⟩
  by_cases h1 : op.data.toList = [110, 117, 109]
  · rw [h1] at so
    subst so
    simp (maxSteps := 1000000) (contextual := true) (implicitDefEqProofs := false) [-decide_eq_true_eq, -decide_eq_false_iff_not, -Bool.not_and, -Bool.not_or, -Bool.and_eq_false_imp, -Int.natCast_add, -setAt, -List.map_take, setAt_eq, hi, strOf]
  by_cases h2 : op.data.toList = [110, 97, 109, 101]
  · rw [h2] at so
    subst so
    simp (maxSteps := 1000000) (contextual := true) (implicitDefEqProofs := false) [-decide_eq_true_eq, -decide_eq_false_iff_not, -Bool.not_and, -Bool.not_or, -Bool.and_eq_false_imp, -Int.natCast_add, -setAt, -List.map_take, setAt_eq, strOf]
  by_cases h3 : op.data.toList = [97, 116]
  · rw [h3] at so
    subst so
    have a1 := fun t => bin_sadd (P := Tryz.prog) (t := t) (a := name) (b := ⟨#[91]⟩) (by show _ + 1 ≤ _; omega)
    have e1 : name ++ ⟨#[91]⟩ = strOf (name.data.toList ++ [91]) := by rw [← str_add, strOf_self]; rfl
    have a2 := fun t => sadd (P := Tryz.prog) (t := t) (a := name.data.toList ++ [91]) (b := partF (textsE l) 0) (by simp only [List.length_append, List.length_cons, List.length_nil]; omega)
    have a3 := fun t => saddr (P := Tryz.prog) (t := t) (a := name.data.toList ++ [91] ++ partF (textsE l) 0) ⟨#[93]⟩ (by show _ + 1 ≤ _; simp only [List.length_append, List.length_cons, List.length_nil]; omega)
    rw [strOf_list, if_neg (by decide), if_neg (by decide), if_pos rfl]
    generalize hq : strOf [97, 116] = o2 at *
    have hq : o2 = ⟨#[97, 116]⟩ := by rw [← hq]; rfl
    subst hq
    simp only [e1] at a1
    simp (maxSteps := 1000000) (contextual := true) (implicitDefEqProofs := false) [-decide_eq_true_eq, -decide_eq_false_iff_not, -Bool.not_and, -Bool.not_or, -Bool.and_eq_false_imp, -Int.natCast_add, -setAt, -List.map_take, setAt_eq, -List.append_assoc, hp, a1, a2, a3]
  by_cases h4 : op.data.toList = [116, 114, 117, 101]
  · rw [h4] at so
    subst so
    simp (maxSteps := 1000000) (contextual := true) (implicitDefEqProofs := false) [-decide_eq_true_eq, -decide_eq_false_iff_not, -Bool.not_and, -Bool.not_or, -Bool.and_eq_false_imp, -Int.natCast_add, -setAt, -List.map_take, setAt_eq, strOf]
  by_cases h5 : op.data.toList = [102, 97, 108, 115, 101]
  · rw [h5] at so
    subst so
    simp (maxSteps := 1000000) (contextual := true) (implicitDefEqProofs := false) [-decide_eq_true_eq, -decide_eq_false_iff_not, -Bool.not_and, -Bool.not_or, -Bool.and_eq_false_imp, -Int.natCast_add, -setAt, -List.map_take, setAt_eq, strOf]
  by_cases h6 : op.data.toList = [110, 101, 103]
  · rw [h6] at so
    subst so
    have a1 := fun t => saddl (P := Tryz.prog) (t := t) (b := closedF (textsE l) 0) ⟨#[45]⟩ (by show 1 + _ ≤ _; omega)
    rw [strOf_list, if_neg (by decide), if_neg (by decide), if_neg (by decide), if_neg (by decide), if_pos rfl]
    generalize hq : strOf [110, 101, 103] = o2 at *
    have hq : o2 = ⟨#[110, 101, 103]⟩ := by rw [← hq]; rfl
    subst hq
    simp (maxSteps := 1000000) (contextual := true) (implicitDefEqProofs := false) [-decide_eq_true_eq, -decide_eq_false_iff_not, -Bool.not_and, -Bool.not_or, -Bool.and_eq_false_imp, -Int.natCast_add, -setAt, -List.map_take, setAt_eq, hc0, a1]
  by_cases h7 : op.data.toList = [110, 111, 116]
  · rw [h7] at so
    subst so
    have a1 := fun t => saddl (P := Tryz.prog) (t := t) (b := closedF (textsE l) 0) ⟨#[33]⟩ (by show 1 + _ ≤ _; omega)
    rw [strOf_list, if_neg (by decide), if_neg (by decide), if_neg (by decide), if_neg (by decide), if_neg (by decide), if_pos rfl]
    generalize hq : strOf [110, 111, 116] = o2 at *
    have hq : o2 = ⟨#[110, 111, 116]⟩ := by rw [← hq]; rfl
    subst hq
    simp (maxSteps := 1000000) (contextual := true) (implicitDefEqProofs := false) [-decide_eq_true_eq, -decide_eq_false_iff_not, -Bool.not_and, -Bool.not_or, -Bool.and_eq_false_imp, -Int.natCast_add, -setAt, -List.map_take, setAt_eq, hc0, a1]
  rw [if_neg h1, if_neg h2, if_neg h3, if_neg (by simp [h4, h5]), if_neg h6, if_neg h7]
  have d1 : decide (op = (⟨#[110, 117, 109]⟩ : ByteArray)) = false := hop _ h1
  have d2 : decide (op = (⟨#[110, 97, 109, 101]⟩ : ByteArray)) = false := hop _ h2
  have d3 : decide (op = (⟨#[97, 116]⟩ : ByteArray)) = false := hop _ h3
  have d4 : decide (op = (⟨#[116, 114, 117, 101]⟩ : ByteArray)) = false := hop _ h4
  have d5 : decide (op = (⟨#[102, 97, 108, 115, 101]⟩ : ByteArray)) = false := hop _ h5
  have d6 : decide (op = (⟨#[110, 101, 103]⟩ : ByteArray)) = false := hop _ h6
  have d7 : decide (op = (⟨#[110, 111, 116]⟩ : ByteArray)) = false := hop _ h7
  have a1 : ∀ t, binE Tryz.prog t .add (.im (.string (strOf (closedF (textsE l) 0)))) (.im (.string ⟨#[32]⟩)) = some (.im (.string (strOf (closedF (textsE l) 0 ++ [32])))) := fun t => saddr ⟨#[32]⟩ (by show _ + 1 ≤ _; omega)
  have a2 := fun t => saddr (P := Tryz.prog) (t := t) (a := closedF (textsE l) 0 ++ [32]) op (by simp only [List.length_append, List.length_cons, List.length_nil]; omega)
  have a3 : ∀ t, binE Tryz.prog t .add (.im (.string (strOf (closedF (textsE l) 0 ++ [32] ++ op.data.toList)))) (.im (.string ⟨#[32]⟩)) = some (.im (.string (strOf (closedF (textsE l) 0 ++ [32] ++ op.data.toList ++ [32])))) := fun t => saddr ⟨#[32]⟩ (by show _ + 1 ≤ _; simp only [List.length_append, List.length_cons, List.length_nil]; omega)
  have a4 := fun t => sadd (P := Tryz.prog) (t := t) (a := closedF (textsE l) 0 ++ [32] ++ op.data.toList ++ [32]) (b := closedF (textsE l) 1) (by simp only [List.length_append, List.length_cons, List.length_nil]; omega)
  simp (maxSteps := 1000000) (contextual := true) (implicitDefEqProofs := false) [-decide_eq_true_eq, -decide_eq_false_iff_not, -Bool.not_and, -Bool.not_or, -Bool.and_eq_false_imp, -Int.natCast_add, -setAt, -List.map_take, setAt_eq, -List.append_assoc, hc0, hc1, d1, d2, d3, d4, d5, d6, d7, a1, a2, a3, a4]
end Go.Proofs.YtfgoedndpcblpaaGreatDoor.Pv
end
section
namespace Go.Proofs.YtfgoedndpcblpaaGreatDoor.Pv
open Go Go.Proofs Go.Proofs.YtfgoedndpcblpaaGreatDoor.Lx Go.Proofs.YtfgoedndpcblpaaGreatDoor.Ps
set_option linter.unusedSimpArgs false
set_option linter.unusedVariables false
variable {L : Lib} {σ : Sto}
def rowsU (t : List UInt8) : List (List FV) := t.map fun b => [.im (.int .u8 b.toNat)]
def tagP (t : List UInt8) (g : Nat) : Tag := if t = [] then .full else .grow g
def ptrP (u : Bool) (b : Nat) : PV := if u = true then .ptr b 0 else .im (.pointer none)
def prC (u : Bool) (b g : Nat) (t : List UInt8) (d : Int) : List PV := [ptrP u b, .sl (rowsU t) (tagP t g), int d]
def grP (t : List UInt8) : List (Nat × Nat) := if t = [] then [] else [(t.length, 0)]
def prG (t : List UInt8) (gr : List (Nat × Nat)) (g : Nat) : Nat := if t = [] then gr.length else g
def prR (t t' : List UInt8) (gr : List (Nat × Nat)) (g : Nat) : List (Nat × Nat) := if t' = [] then gr else if t = [] then gr ++ [(t'.length, 0)] else gr.set g (t'.length, 0)
def PrOk (t : List UInt8) (gr : List (Nat × Nat)) (g : Nat) : Prop := t ≠ [] → gr[g]? = some (t.length, 0)
theorem PrOk.next {t t' : List UInt8} {gr : List (Nat × Nat)} {g : Nat} (h : PrOk t gr g) : PrOk t' (prR t t' gr g) (prG t gr g) := by
  intro hn
  unfold prR prG
  rw [if_neg hn]
  by_cases ht : t = []
  · rw [if_pos ht, if_pos ht]; simp
  · rw [if_neg ht, if_neg ht]
    have := (List.getElem?_eq_some_iff.1 (h ht)).1
    simp [List.getElem?_set, this]
theorem prR_same {t : List UInt8} {gr : List (Nat × Nat)} {g : Nat} (h : PrOk t gr g) : prR t t gr g = gr := by
  unfold prR
  by_cases ht : t = []
  · rw [if_pos ht]
  · rw [if_neg ht, if_neg ht]
    apply List.ext_getElem?
    intro j
    have := (List.getElem?_eq_some_iff.1 (h ht)).1
    rw [List.getElem?_set]
    split
    · rename_i e; subst e; rw [h ht]; first | done | simp [this]
    · rfl
theorem grP_ok (t : List UInt8) : PrOk t (grP t) 0 := by
  intro h; unfold grP; rw [if_neg h]; rfl
theorem prG_zero (t : List UInt8) : prG t (grP t) 0 = 0 := by
  unfold prG grP; split <;> rfl
@[simp] theorem prC_len (u : Bool) (b g : Nat) (t : List UInt8) (d : Int) : (prC u b g t d).length = 3 := rfl
@[simp high] theorem prC_at0 (u : Bool) (b g : Nat) (t : List UInt8) (d : Int) : (prC u b g t d)[0]? = some (ptrP u b) := rfl
@[simp high] theorem prC_at1 (u : Bool) (b g : Nat) (t : List UInt8) (d : Int) : (prC u b g t d)[1]? = some (.sl (rowsU t) (tagP t g)) := rfl
@[simp high] theorem prC_at2 (u : Bool) (b g : Nat) (t : List UInt8) (d : Int) : (prC u b g t d)[2]? = some (int d) := rfl
@[simp high] theorem prC_set2 (u : Bool) (b g : Nat) (t : List UInt8) (d e : Int) : setAt (prC u b g t d) 2 [int e] = prC u b g t e := rfl
@[simp high] theorem prC_set1 (u : Bool) (b g g' : Nat) (t t' : List UInt8) (d : Int) : setAt (prC u b g t d) 1 [.sl (rowsU t') (tagP t' g')] = prC u b g' t' d := rfl
@[simp] theorem prC_flag (u : Bool) (b g : Nat) (t : List UInt8) (d : Int) : flagged (prC u b g t d) = !u := by cases u <;> rfl
theorem prC_ptrs (u : Bool) (b g : Nat) (t : List UInt8) (d : Int) : ∀ c ∈ ptrsL (prC u b g t d), c = b := by
  intro c hc
  cases u <;> simp [prC, ptrP, ptrsL, PV.ptrs] at hc
  exact hc
theorem prC_tags (u : Bool) (b g : Nat) (t : List UInt8) (d : Int) : tagsL (prC u b g t d) = if t = [] then [] else [g] := by
  by_cases ht : t = [] <;> cases u <;> simp [prC, ptrP, tagP, ht, tagsL, PV.tags, Tag.rows]
theorem prC_ren (u : Bool) (b g : Nat) (t : List UInt8) (d : Int) (ρ : Nat → Option Nat) (τ : Tag → Tag) {b' g' : Nat} (hb : ρ b = some b') (h1 : τ .full = .full) (h2 : t ≠ [] → τ (.grow g) = .grow g') : renL ρ τ (prC u b g t d) = some (prC u b' g' t d) := by
  by_cases ht : t = [] <;> cases u <;> simp [prC, ptrP, tagP, ht, renL, PV.ren, hb, h1]
  · exact h2 ht
  · exact h2 ht
def PrM (L : Lib) (f : FuncId) (args : List PV) (u : Bool) (t : List UInt8) (d : Int) (v : PV) (u' : Bool) (t' : List UInt8) (d' : Int) : Prop :=
  ∃ r k more gr', r.ptrs = [] ∧ r.era = v ∧ EV Tryz.prog L f (.ptr 0 0 :: args) ⟨[.cells (prC u 0 0 t d)], grP t⟩ = some (r, ⟨.cells (prC u' 0 k t' d') :: more, gr'⟩) ∧ (t' ≠ [] → gr'[k]? = some (t'.length, 0)) ∧ (t ≠ [] → t' ≠ [] ∧ k = 0)
theorem gather_one {bx : List Bx} {b : Nat} {todo : List Nat} (h : ∀ c ∈ ptrsAt bx b, c = b) (ht : ∀ c ∈ todo, c = b) : gather bx 64 (b :: todo) [] = [b] := by
  show (if b ∈ [] then gather bx 63 todo [] else gather bx 63 (ptrsAt bx b ++ todo) ([] ++ [b])) = [b]
  rw [if_neg List.not_mem_nil]
  exact gather_known bx 63 _ _ (fun c hc => by rcases List.mem_append.1 hc with h' | h'; exact List.mem_singleton.2 (h c h'); exact List.mem_singleton.2 (ht c h'))
theorem PrM.call {f : FuncId} {args args' : List PV} {u u' : Bool} {t t' : List UInt8} {d d' : Int} {v : PV} (h : PrM L f args' u t d v u' t' d') (ha : ptrsL args = []) (he : eraL args = args') {bx : List Bx} {gr : List (Nat × Nat)} {b g : Nat} (hb : bx[b]? = some (.cells (prC u b g t d))) (hg : PrOk t gr g) :
    callE (EV Tryz.prog L) f (.ptr b 0 :: args) ⟨bx, gr⟩ = some (v, ⟨bx.set b (.cells (prC u' b (prG t gr g) t' d')), prR t t' gr g⟩) := by
  obtain ⟨r, k, more, gr', hr, hv, h, h1, h2⟩ := h
  have hlt : b < bx.length := (List.getElem?_eq_some_iff.1 hb).1
  have a1 : ptrsAt bx b = ptrsL (prC u b g t d) := by unfold ptrsAt; rw [hb]; rfl
  have a2 : tagsAt bx b = tagsL (prC u b g t d) := by unfold tagsAt; rw [hb]; rfl
  have e0 : gather bx 64 (ptrsL (.ptr b 0 :: args)) [] = [b] := by
    show gather bx 64 (b :: ptrsL args) [] = [b]
    rw [ha]
    exact gather_one (by rw [a1]; exact prC_ptrs u b g t d) (fun c h => absurd h List.not_mem_nil)
  have e2 : renL (find [b]) (fun _ => .unk) (.ptr b 0 :: args) = some (.ptr 0 0 :: args') := by
    have := (renL_era (ρ := find [b]) ha).1
    rw [he] at this
    have f0 : find [b] b = some 0 := by simp [find]
    simp only [renL, PV.ren, this, f0]
    rfl
  have f0 : find [b] b = some 0 := by simp [find]
  have e4 : ∀ (k : Nat) (m : List Bx), gather (.cells (prC u' 0 k t' d') :: m) 64 (r.ptrs ++ ptrsUpto (.cells (prC u' 0 k t' d') :: m) [b].length) (iota [b].length) = [0] := by
    intro k m
    refine gather_known _ _ _ _ (fun c hc => ?_)
    rw [hr, List.nil_append] at hc
    have : c ∈ ptrsL (prC u' 0 k t' d') := hc
    have := prC_ptrs u' 0 k t' d' c this
    subst this; simp [iota]
  have e5 : (r.ren (find [0]) fun _ => .unk) = some v := by rw [← hv]; exact (ren_era hr).1
  have e6 : ∀ ρ, (v.ren ρ fun _ => .unk) = some v := by
    intro ρ
    have h3 := ren_era (ρ := ρ) hr
    rw [hv] at h3
    have h4 := ren_era (ρ := ρ) h3.2.1
    rw [h3.2.2] at h4
    exact h4.1
  unfold callE
  rw [e0]
  have et : tagsB bx [b] = tagsL (prC u b g t d) := by simp [tagsB, a2]
  rw [et, prC_tags]
  have ep : pickL bx [b] = some [.cells (prC u b g t d)] := by simp [pickL, hb]
  have eb0 : backB [b] bx.length 1 0 = some b := by simp [backB]
  by_cases ht : t = []
  · rw [if_pos ht]
    simp only [dd]
    have e3 : selE ⟨bx, gr⟩ [b] [] = some ⟨[.cells (prC u 0 0 t d)], grP t⟩ := by
      unfold selE
      simp only [ep, show pickL gr [] = some [] from rfl]
      simp only [renBs, Bx.ren, prC_ren u b g t d (find [b]) (Tag.sel []) (b' := 0) (g' := 0) f0 rfl (fun h => absurd ht h)]
      simp [grP, ht]
    unfold callIn
    rw [e2, e3]
    simp only [h]
    rw [e4]
    have e7 : tagsB (.cells (prC u' 0 k t' d') :: more) [0] = if t' = [] then [] else [k] := by
      simp only [tagsB, tagsAt, List.getElem?_cons_zero, Bx.tags, prC_tags]; simp
    rw [e7]
    unfold callBack
    rw [e5]
    by_cases ht' : t' = []
    · rw [if_pos ht']
      have e8 : selE ⟨.cells (prC u' 0 k t' d') :: more, gr'⟩ [0] (dd [] (iota ([] : List Nat).length)) = some ⟨[.cells (prC u' 0 0 t' d')], []⟩ := by
        unfold selE
        simp only [show pickL (.cells (prC u' 0 k t' d') :: more) [0] = some [.cells (prC u' 0 k t' d')] from rfl, show pickL gr' (dd [] (iota ([] : List Nat).length)) = some [] from rfl]
        simp only [renBs, Bx.ren, prC_ren u' 0 k t' d' (find [0]) (Tag.sel (dd [] (iota ([] : List Nat).length))) (b' := 0) (g' := 0) rfl rfl (fun h => absurd ht' h)]
        rfl
      rw [e8]
      simp only [e6, List.length_cons, List.length_nil, Nat.zero_add]
      simp only [renBs, Bx.ren, prC_ren u' 0 0 t' d' (backB [b] bx.length 1) (Tag.back [] gr.length 0) (b' := b) (g' := prG t gr g) eb0 rfl (fun h => absurd ht' h)]
      simp [backL, putMany, prR, ht']
    · rw [if_neg ht']
      have e9 : dd [k] (iota ([] : List Nat).length) = [k] := by simp [dd, iota]
      rw [e9]
      have e8 : selE ⟨.cells (prC u' 0 k t' d') :: more, gr'⟩ [0] [k] = some ⟨[.cells (prC u' 0 0 t' d')], [(t'.length, 0)]⟩ := by
        unfold selE
        simp only [show pickL (.cells (prC u' 0 k t' d') :: more) [0] = some [.cells (prC u' 0 k t' d')] from rfl, show pickL gr' [k] = some [(t'.length, 0)] from by simp [pickL, h1 ht']]
        simp only [renBs, Bx.ren, prC_ren u' 0 k t' d' (find [0]) (Tag.sel [k]) (b' := 0) (g' := 0) rfl rfl (fun h => by simp [Tag.sel, find])]
        rfl
      rw [e8]
      simp only [e6, List.length_cons, List.length_nil, Nat.zero_add]
      simp only [renBs, Bx.ren, prC_ren u' 0 0 t' d' (backB [b] bx.length 1) (Tag.back [] gr.length 1) (b' := b) (g' := prG t gr g) eb0 rfl (fun h => by simp [Tag.back, backB, prG, ht])]
      simp [backL, putMany, prR, ht', ht]
  · rw [if_neg ht]
    obtain ⟨ht', rfl⟩ := h2 ht
    have ed : dd [g] [] = [g] := by simp [dd]
    rw [ed]
    have e3 : selE ⟨bx, gr⟩ [b] [g] = some ⟨[.cells (prC u 0 0 t d)], grP t⟩ := by
      unfold selE
      simp only [ep, show pickL gr [g] = some [(t.length, 0)] from by simp [pickL, hg ht]]
      simp only [renBs, Bx.ren, prC_ren u b g t d (find [b]) (Tag.sel [g]) (b' := 0) f0 rfl (g' := 0) (fun h => by simp [Tag.sel, find])]
      simp [grP, ht]
    unfold callIn
    rw [e2, e3]
    simp only [h]
    rw [e4]
    have e7 : tagsB (.cells (prC u' 0 0 t' d') :: more) [0] = [0] := by
      simp only [tagsB, tagsAt, List.getElem?_cons_zero, Bx.tags, prC_tags]; simp [ht']
    rw [e7]
    unfold callBack
    rw [e5]
    have e9 : dd [0] (iota [g].length) = [0] := by simp [dd, iota]
    rw [e9]
    have e8 : selE ⟨.cells (prC u' 0 0 t' d') :: more, gr'⟩ [0] [0] = some ⟨[.cells (prC u' 0 0 t' d')], [(t'.length, 0)]⟩ := by
      unfold selE
      simp only [show pickL (.cells (prC u' 0 0 t' d') :: more) [0] = some [.cells (prC u' 0 0 t' d')] from rfl, show pickL gr' [0] = some [(t'.length, 0)] from by simp [pickL, h1 ht']]
      simp only [renBs, Bx.ren, prC_ren u' 0 0 t' d' (find [0]) (Tag.sel [0]) (b' := 0) (g' := 0) rfl rfl (fun h => by simp [Tag.sel, find])]
      rfl
    rw [e8]
    simp only [e6, List.length_cons, List.length_nil, Nat.zero_add]
    simp only [renBs, Bx.ren, prC_ren u' 0 0 t' d' (backB [b] bx.length 1) (Tag.back [g] gr.length 1) (b' := b) (g' := prG t gr g) eb0 rfl (fun h => by simp [Tag.back, backB, prG, ht])]
    simp [backL, putMany, prR, ht', ht]
theorem pr_fn {f : FuncId} {fn : Func} {n : Nat} {ids : List Nat} {rs : Array ResultVar} {args : List PV} {u u' : Bool} {t t' : List UInt8} {d d' : Int} {v : PV} (hl : L f = none) (hf : Tryz.prog.funcs[f]? = some fn) (hn : fn.ntmps = n) (hrs : fn.results = rs) (hlen : (PV.ptr 0 0 :: args).length ≤ n)
    (h : ∃ c, fn.body = some c ∧ statOk Tryz.prog ids c = true ∧ WP Tryz.prog L n ids c ⟨initE (.ptr 0 0 :: args), ⟨[.cells (prC u 0 0 t d)], grP t⟩⟩ fun ctl s => (ctl = .next ∨ ctl = .ret) ∧ Run (outE Tryz.prog s.env s.sto rs.toList) fun r => r.ptrs = [] ∧ r.era = v ∧ ∃ k more, s.sto.bx = .cells (prC u' 0 k t' d') :: more ∧ (t' ≠ [] → s.sto.gr[k]? = some (t'.length, 0)) ∧ (t ≠ [] → t' ≠ [] ∧ k = 0)) : PrM L f args u t d v u' t' d' := by
  obtain ⟨c, hb, hst, k, ctl, s', h1, h2, r', h3, h4, h5, k', more, h6, h7, h8⟩ := h
  subst hn; subst hrs
  refine ⟨r', k', more, s'.sto.gr, h4, h5, EV_fn hl hf hb hst hlen ⟨k, ctl, s', h1, h2, h3, ?_⟩, h7, h8⟩
  rw [← h6]
theorem append_str {P : Program} {t u e : TypeId} {i : TypeInfo} {bx : List Bx} {gr : List (Nat × Nat)} {g : Nat} {w : List UInt8} {s : ByteArray} (h : appInfoS P t u = some (e, i)) (h1 : i.size = 1) (h2 : i.bytes = 1) (h3 : e = byteT) (hg : PrOk w gr g) (hz : w.length + s.size ≤ 70368744177664) :
    appendE P t u ⟨bx, gr⟩ (.sl (rowsU w) (tagP w g)) (.im (.string s)) = some (.sl (rowsU (w ++ s.data.toList)) (tagP (w ++ s.data.toList) (prG w gr g)), ⟨bx, prR w (w ++ s.data.toList) gr g⟩) := by
  have hs : strRows s = rowsU s.data.toList := rfl
  have hsz : ∀ l : List UInt8, sized 1 (rowsU l) = true := fun l => sized_map (fun _ => rfl)
  have hln : ∀ l : List UInt8, (rowsU l).length = l.length := fun l => List.length_map ..
  have hap : ∀ l m : List UInt8, rowsU (l ++ m) = rowsU l ++ rowsU m := fun l m => List.map_append ..
  have h4 := size_toList s
  unfold appendE
  simp only [h, if_pos h3, h1, h2, hs]
  generalize s.data.toList = l at *
  unfold appG
  rw [if_pos ⟨hsz _, hsz _, by rw [hln, hln]; omega⟩]
  by_cases hl : l = []
  · subst hl
    rw [if_pos (show (rowsU []).length = 0 from rfl), List.append_nil, prR_same hg]
    congr 3
    unfold tagP prG
    split <;> rfl
  · have hl' : ¬ (rowsU l).length = 0 := by rw [hln]; simpa using hl
    rw [if_neg hl']
    have hne : w ++ l ≠ [] := by simp [hl]
    by_cases hw : w = []
    · subst hw
      simp [tagP, prG, prR, hl, rowsU]
    · simp only [tagP, prG, prR, if_neg hw, if_neg hne, hap, hln]
      rw [if_pos ⟨hg hw, by rw [← hln]; exact hl'⟩]
      simp
theorem copy_pr (hC : L 201 = some copyH) (u : Bool) (t : List UInt8) (d : Int) : PrM L 201 [] u t d (.tup []) true t d := by
  refine ⟨.tup [], 0, [], grP t, rfl, rfl, EV_lib hC ?_, grP_ok t, fun h => ⟨h, rfl⟩⟩
  cases u <;> simp [copyH, prC, ptrP]
theorem write_ok (hl : Free L [162]) (hC : L 201 = some copyH) (u : Bool) (t : List UInt8) (d : Int) (s : ByteArray) (hz : t.length + s.size ≤ 70368744177664) : PrM L 162 [str s] u t d (.tup [int s.size, .im .nilIface]) true (t ++ s.data.toList) d := by
  refine pr_fn (ids := []) (hl _ (by simp)) Tryz.func162 Tryz.ntmps162 Tryz.results162 (by simp) ⟨_, rfl, by kernel_rfl, ?_⟩
  have hc : callE (EV Tryz.prog L) 201 [.ptr 0 0] ⟨[.cells (prC u 0 0 t d)], grP t⟩ = some (.tup [], ⟨[.cells (prC true 0 0 t d)], grP t⟩) := by
    have := (copy_pr hC u t d).call (args := []) rfl rfl (bx := [.cells (prC u 0 0 t d)]) (gr := grP t) (b := 0) (g := 0) rfl (grP_ok t)
    rwa [prR_same (grP_ok t), prG_zero] at this
  have ha : ∀ bx, appendE Tryz.prog 141 9 ⟨bx, grP t⟩ (.sl (rowsU t) (tagP t 0)) (str s) = some (.sl (rowsU (t ++ s.data.toList)) (tagP (t ++ s.data.toList) 0), ⟨bx, prR t (t ++ s.data.toList) (grP t) 0⟩) := fun bx => by
    obtain ⟨⟨e, i⟩, h1, h2⟩ := Option.map_eq_some_iff.1 (show (appInfoS Tryz.prog 141 9).map (fun x => (x.1, x.2.size, x.2.bytes)) = some (5, 1, 1) by kernel_rfl)
    simp only [Prod.mk.injEq] at h2
    have := append_str (bx := bx) (s := s) h1 h2.2.1 h2.2.2 h2.1 (grP_ok t) hz
    rwa [prG_zero] at this
  have hk : t ++ s.data.toList ≠ [] → (prR t (t ++ s.data.toList) (grP t) 0)[0]? = some ((t ++ s.data.toList).length, 0) := by
    have := (grP_ok t).next (t' := t ++ s.data.toList)
    rwa [prG_zero] at this
  simp (maxSteps := 1000000) (contextual := true) (implicitDefEqProofs := false) [-decide_eq_true_eq, -decide_eq_false_iff_not, -Bool.not_and, -Bool.not_or, -Bool.and_eq_false_imp, -Int.natCast_add, -setAt, -List.map_take, setAt_eq, -List.length_append, hc, ha]
  exact ⟨rfl, rfl, 0, rfl, fun h => hk (by simpa using h), fun _ => rfl⟩
theorem told_str {f : FuncId} {h : List PV → Sto → Option (PV × Sto)} {args : List PV} {r : ByteArray} (hl : L f = some h) (ha : ptrsL args = []) (he : ∀ σ, h (eraL args) σ = some (str r, σ)) : ∀ σ, callE (EV Tryz.prog L) f args σ = some (str r, σ) := fun σ =>
  call_pure (r := str r) ha (EV_lib hl (he ⟨[], []⟩)) rfl
theorem rowsStr_map (l : List ByteArray) : rowsStr (l.map strR) = some l := by
  induction l with
  | nil => rfl
  | cons x xs ih => simp only [List.map_cons, rowsStr, strR, rowStr, ih]
theorem join_told (hJ : L 96 = some joinH) (ws : List ByteArray) (tag : Tag) (sep : ByteArray) (h1 : (joinF ws sep).length ≤ 140737488355328) (h2 : ws.length ≤ 140737488355328) : ∀ σ, callE (EV Tryz.prog L) 96 [.sl (ws.map strR) tag, str sep] σ = some (str (strOf (joinF ws sep)), σ) :=
  told_str hJ rfl fun σ => by
    show (match rowsStr (ws.map strR) with
      | some l => if (joinF l sep).length ≤ 140737488355328 ∧ l.length ≤ 140737488355328 then some (PV.im (.string (Lx.strOf (joinF l sep))), σ) else none
      | none => none) = _
    rw [rowsStr_map]
    simp only [h1, h2, and_self, if_true]
theorem rep_told (hR : L 163 = some repeatH) (s : ByteArray) (n : Nat) (h1 : s.size * n ≤ 140737488355328) (h2 : n ≤ 9223372036854775807) : ∀ σ, callE (EV Tryz.prog L) 163 [str s, int n] σ = some (str (strOf (Lib.repeatL s.data.toList n)), σ) :=
  told_str hR rfl fun σ => by
    show (if 0 ≤ (n : Int) ∧ (n : Int) ≤ 9223372036854775807 ∧ s.size * (n : Int).toNat ≤ 140737488355328 then some (PV.im (.string (Lx.strOf (Lib.repeatL s.data.toList (n : Int).toNat))), σ) else none) = _
    rw [Int.toNat_natCast, if_pos ⟨Int.natCast_nonneg n, by omega, h1⟩]
theorem rep_len (l : List UInt8) (n : Nat) : (Lib.repeatL l n).length = l.length * n := by
  induction n with
  | zero => rfl
  | succ n ih => rw [Lib.repeatL, List.length_append, ih, Nat.mul_succ]; omega
@[simp] theorem ib_rep : isBody Tryz.prog 163 = true := isBody_of Tryz.func163 rfl (by kernel_rfl)
@[simp] theorem kt_rep : keepT 163 = false := by decide
@[simp] def prnFs : List FuncId := [162, 95]
structure PrnT (L : Lib) : Prop where
  copy : L 201 = some copyH
  join : L 96 = some joinH
  rep : L 163 = some repeatH
  fmt : L 205 = some formatH
  str : L 99 = some stringH
theorem line_ok (hl : Free L prnFs) (hT : PrnT L) (u : Bool) (t : List UInt8) (d : Nat) (ws : List ByteArray) (tag : Tag) (hz : t.length + (lineB d ws).length ≤ 274877906944) (hw : ws.length ≤ 100) : PrM L 95 [.sl (ws.map strR) tag] u t d (.tup []) true (t ++ lineB d ws) d := by
  have hlen : (lineB d ws).length = 2 * d + (catB ws).length + 1 := by
    unfold lineB; simp only [List.length_append, rep_len, List.length_cons, List.length_nil]
  have hcat : joinF ws ⟨#[]⟩ = catB ws := rfl
  have hR := rep_told hT.rep ⟨#[32, 32]⟩ d (by show 2 * d ≤ _; omega) (by omega)
  have hJ := join_told hT.join ws tag ⟨#[]⟩ (by rw [hcat]; omega) (by omega)
  rw [hcat] at hJ
  have hR : ∀ σ, callE (EV Tryz.prog L) 163 [str ⟨#[32, 32]⟩, int d] σ = some (str (strOf (Lib.repeatL [32, 32] d)), σ) := hR
  have a1 := fun t => sadd (P := Tryz.prog) (t := t) (a := Lib.repeatL [32, 32] d) (b := catB ws) (by rw [rep_len]; simp only [List.length_cons, List.length_nil]; omega)
  have a2 : ∀ t, binE Tryz.prog t .add (.im (.string (strOf (Lib.repeatL [32, 32] d ++ catB ws)))) (.im (.string ⟨#[10]⟩)) = some (.im (.string (strOf (lineB d ws)))) := fun t => saddr ⟨#[10]⟩ (by show _ + 1 ≤ _; simp only [List.length_append, rep_len, List.length_cons, List.length_nil]; omega)
  have hW := (write_ok (L := L) (hl.sub (by simp)) hT.copy u t d (strOf (lineB d ws)) (by rw [strOf_size]; omega)).call (args := [str (strOf (lineB d ws))]) rfl rfl (bx := [.cells (prC u 0 0 t d)]) (gr := grP t) (b := 0) (g := 0) rfl (grP_ok t)
  rw [prG_zero, strOf_list] at hW
  simp only [List.set_cons_zero] at hW
  have hk : t ++ lineB d ws ≠ [] → (prR t (t ++ lineB d ws) (grP t) 0)[0]? = some ((t ++ lineB d ws).length, 0) := by
    have := (grP_ok t).next (t' := t ++ lineB d ws)
    rwa [prG_zero] at this
  have hne : t ++ lineB d ws ≠ [] := by simp [lineB_ne]
  refine pr_fn (ids := [0]) (hl _ (by simp)) Tryz.func95 Tryz.ntmps95 Tryz.results95 (by simp) ⟨_, rfl, by kernel_rfl, ?_⟩
  simp (maxSteps := 1000000) (contextual := true) (implicitDefEqProofs := false) [-decide_eq_true_eq, -decide_eq_false_iff_not, -Bool.not_and, -Bool.not_or, -Bool.and_eq_false_imp, -Int.natCast_add, -setAt, -List.map_take, setAt_eq, -List.length_append, -List.append_assoc, hR, hJ, a1, a2, hW]
  have hgt : gather [.cells (prC u 0 0 t d)] 64 [0] [] = [0] := gather_one (fun c hc => prC_ptrs u 0 0 t d c hc) (fun c h => absurd h List.not_mem_nil)
  refine ⟨?_, 0, rfl, fun _ => hk hne, fun _ => rfl⟩
  rw [hgt]
  decide
end Go.Proofs.YtfgoedndpcblpaaGreatDoor.Pv
end
section
namespace Go.Proofs.YtfgoedndpcblpaaGreatDoor.Pv
open Go Go.Proofs Go.Proofs.YtfgoedndpcblpaaGreatDoor.Lx Go.Proofs.YtfgoedndpcblpaaGreatDoor.Ps
set_option linter.unusedSimpArgs false
set_option linter.unusedVariables false
variable {L : Lib} {σ : Sto}
@[simp] def prFs : List FuncId := prnFs ++ textFs ++ [98, 166]
abbrev prB (t : List UInt8) (d : Int) : Bx := .cells (prC true 0 0 t d)
theorem PrM.use {f : FuncId} {args args' : List PV} {t t' : List UInt8} {d d' : Int} {v : PV} (h : PrM L f args' true t d v true t' d') (ht : t ≠ []) (ht' : t' ≠ []) (ha : ptrsL args = []) (he : eraL args = args') (rest : List Bx) :
    callE (EV Tryz.prog L) f (.ptr 0 0 :: args) ⟨prB t d :: rest, [(t.length, 0)]⟩ = some (v, ⟨prB t' d' :: rest, [(t'.length, 0)]⟩) := by
  have := h.call ha he (bx := prB t d :: rest) (gr := [(t.length, 0)]) (b := 0) (g := 0) rfl (fun _ => rfl)
  rw [this]
  simp [prG, prR, ht, ht']
theorem app_ne {a b : List UInt8} (h : a ≠ []) : a ++ b ≠ [] := by simp [h]
theorem line_use (hl : Free L prFs) (hT : PrnT L) {t : List UInt8} (ht : t ≠ []) (d : Nat) (ws : List ByteArray) (tag : Tag) (hz : t.length + (lineB d ws).length ≤ 274877906944) (hw : ws.length ≤ 100) (rest : List Bx) :
    callE (EV Tryz.prog L) 95 (.ptr 0 0 :: [.sl (ws.map strR) tag]) ⟨prB t d :: rest, [(t.length, 0)]⟩ = some (.tup [], ⟨prB (t ++ lineB d ws) d :: rest, [((t ++ lineB d ws).length, 0)]⟩) :=
  (line_ok (hl.sub (by simp)) hT true t d ws .unk hz hw).use (args := [.sl (ws.map strR) tag]) ht (app_ne ht) rfl rfl rest
theorem pr_ok {f : FuncId} {fn : Func} {n : Nat} {ids : List Nat} {rs : Array ResultVar} {args : List PV} {t t' : List UInt8} {d d' : Int} (ht : t ≠ []) (ht' : t' ≠ []) (hl : L f = none) (hf : Tryz.prog.funcs[f]? = some fn) (hn : fn.ntmps = n) (hrs : fn.results = rs) (hlen : (PV.ptr 0 0 :: args).length ≤ n)
    (h : ∃ c, fn.body = some c ∧ statOk Tryz.prog ids c = true ∧ WP Tryz.prog L n ids c ⟨initE (.ptr 0 0 :: args), ⟨[prB t d], [(t.length, 0)]⟩⟩ fun ctl s => (ctl = .next ∨ ctl = .ret) ∧ Run (outE Tryz.prog s.env s.sto rs.toList) fun r => r.ptrs = [] ∧ r.era = .tup [] ∧ ∃ more, s.sto.bx = prB t' d' :: more ∧ s.sto.gr = [(t'.length, 0)]) : PrM L f args true t d (.tup []) true t' d' := by
  obtain ⟨c, h1, h2, h3⟩ := h
  refine pr_fn (ids := ids) hl hf hn hrs hlen ?_
  have hg : grP t = [(t.length, 0)] := if_neg ht
  rw [hg]
  refine ⟨c, h1, h2, h3.mono fun ctl s hq => ⟨hq.1, ?_⟩⟩
  obtain ⟨r, h4, h5, h6, more, h7, h8⟩ := hq.2
  exact ⟨r, h4, h5, h6, 0, more, h7, fun _ => by rw [h8]; rfl, fun _ => ⟨ht', rfl⟩⟩
def BlkOk (L : Lib) (l : List Ps.St) : Prop := ∀ (t : List UInt8) (d : Nat), t ≠ [] → d + lnTs l < 549755813888 → t.length + (stmtsB (d + 1) l).length ≤ 274877906944 → PrM L 98 [.sl (l.map stR) .unk] true t d (.tup []) true (t ++ stmtsB (d + 1) l) d
set_option maxHeartbeats 2000000 in
theorem pstmt_ok (hl : Free L prFs) (hT : PrnT L) (s : Ps.St) (ho : okT s) (hb : lnT s < 274877906944) (hA : BlkOk L s.a) (hB : BlkOk L s.b) (t : List UInt8) (d : Nat) (ht : t ≠ []) (hd : d + lnT s ≤ 549755813888) (hz : t.length + (stmtB d s).length ≤ 274877906944) : PrM L 166 [.agg (stC s)] true t d (.tup []) true (t ++ stmtB d s) d := by
  obtain ⟨op, nm, e, a, b, i⟩ := s
  rw [okT] at ho
  rw [lnT] at hb hd
  simp only [Ps.St.a, Ps.St.b] at hA hB
  have he := lnEs_len e
  have hbl := lnTs_len b
  have hT0 : ∀ x ∈ e, TextOk L x := fun x hx => text_ok (hl.sub (by simp)) hT.fmt x (okXs_mem ho.1 x hx) (by have := lnEs_mem hx; omega)
  have hp0 := part_ok (L := L) (hl.sub (by simp)) e 0 (by omega) (by omega) hT0
  have hp1 := part_ok (L := L) (hl.sub (by simp)) e 1 (by omega) (by omega) hT0
  simp only [Int.natCast_zero, Int.natCast_one] at hp0 hp1
  have hp0 : ∀ σ, callE (EV Tryz.prog L) 114 [.sl (e.map exR) .unk, int 0] σ = some (str (partB e 0), σ) := hp0
  have hp1 : ∀ σ, callE (EV Tryz.prog L) 114 [.sl (e.map exR) .unk, int 1] σ = some (str (partB e 1), σ) := hp1
  rw [stmtB] at hz ⊢
  generalize partB e 0 = p0 at *
  generalize partB e 1 = p1 at *
  have hL := fun (t : List UInt8) (ht : t ≠ []) (ws : List ByteArray) (hz : t.length + (lineB d ws).length ≤ 274877906944) (hw : ws.length ≤ 100) (rest : List Bx) => line_use hl hT ht d ws .full hz hw rest
  refine pr_ok (ids := []) ht (app_ne ht) (hl _ (by simp)) Tryz.func166 Tryz.ntmps166 Tryz.results166 (by simp) ⟨_, rfl, by kernel_rfl, ?_⟩
  rw [stC_l]
  simp only [Ps.St.opB, Ps.St.nm, Ps.St.e, Ps.St.a, Ps.St.b, Ps.St.pos]
  have hL1 := fun (t : List UInt8) (ht : t ≠ []) (a : ByteArray) (hz : t.length + (lineB d [a]).length ≤ 274877906944) (rest : List Bx) => hL t ht [a] hz (by simp) rest
  simp only [List.map_cons, List.map_nil, strR] at hL1
  by_cases h1 : op = (⟨#[115, 101, 116]⟩ : ByteArray)
  · rw [if_pos h1] at hz ⊢
    subst h1
    have hl1 := fun rest => hL t ht _ hz (by simp) rest
    generalize lineB d _ = ln at *
    simp only [List.map_cons, List.map_nil, strR] at hl1
    simp (maxSteps := 1000000) (contextual := true) (implicitDefEqProofs := false) [-decide_eq_true_eq, -decide_eq_false_iff_not, -Bool.not_and, -Bool.not_or, -Bool.and_eq_false_imp, -Int.natCast_add, -setAt, -List.map_take, setAt_eq, -List.length_append, hp0, hl1]
  by_cases h2 : op = (⟨#[112, 117, 116]⟩ : ByteArray)
  · rw [if_neg h1, if_pos h2] at hz ⊢
    subst h2
    have hl1 := fun rest => hL t ht _ hz (by simp) rest
    generalize lineB d _ = ln at *
    simp only [List.map_cons, List.map_nil, strR] at hl1
    simp (maxSteps := 1000000) (contextual := true) (implicitDefEqProofs := false) [-decide_eq_true_eq, -decide_eq_false_iff_not, -Bool.not_and, -Bool.not_or, -Bool.and_eq_false_imp, -Int.natCast_add, -setAt, -List.map_take, setAt_eq, -List.length_append, hp0, hp1, hl1]
  by_cases h3 : op = (⟨#[105, 110, 112, 117, 116]⟩ : ByteArray)
  · rw [if_neg h1, if_neg h2, if_pos h3] at hz ⊢
    subst h3
    by_cases hen : e.length = 0
    · rw [if_pos hen] at hz ⊢
      have hl1 := fun rest => hL t ht _ hz (by simp) rest
      generalize lineB d _ = ln at *
      simp only [List.map_cons, List.map_nil, strR] at hl1
      simp (maxSteps := 1000000) (contextual := true) (implicitDefEqProofs := false) [-decide_eq_true_eq, -decide_eq_false_iff_not, -Bool.not_and, -Bool.not_or, -Bool.and_eq_false_imp, -Int.natCast_add, -setAt, -List.map_take, setAt_eq, -List.length_append, hen, hl1]
    · rw [if_neg hen] at hz ⊢
      have hl1 := fun rest => hL t ht _ hz (by simp) rest
      generalize lineB d _ = ln at *
      simp only [List.map_cons, List.map_nil, strR] at hl1
      simp (maxSteps := 1000000) (contextual := true) (implicitDefEqProofs := false) [-decide_eq_true_eq, -decide_eq_false_iff_not, -Bool.not_and, -Bool.not_or, -Bool.and_eq_false_imp, -Int.natCast_add, -setAt, -List.map_take, setAt_eq, -List.length_append, hen, hp0, hp1, hl1]
  by_cases h4 : op = (⟨#[105, 102]⟩ : ByteArray)
  · rw [if_neg h1, if_neg h2, if_neg h3, if_pos h4] at hz ⊢
    subst h4
    simp only [List.length_append] at hz
    have hl1 := fun rest => hL t ht [(⟨#[105, 102]⟩ : ByteArray), (⟨#[32]⟩ : ByteArray), p0, ⟨#[32, 123]⟩] (by omega) (by simp) rest
    simp only [List.map_cons, List.map_nil, strR] at hl1
    generalize lineB d [(⟨#[105, 102]⟩ : ByteArray), (⟨#[32]⟩ : ByteArray), p0, ⟨#[32, 123]⟩] = l1 at *
    have hA1 := fun rest => (hA (t ++ l1) d (app_ne ht) (by omega) (by simp only [List.length_append]; omega)).use (args := [.sl (a.map stR) .unk]) (app_ne ht) (app_ne (app_ne ht)) rfl rfl rest
    generalize stmtsB (d + 1) a = sa at *
    by_cases hbn : 0 < b.length
    · rw [if_pos hbn] at hz ⊢
      simp only [List.length_append] at hz
      have hl2 := fun rest => hL1 (t ++ l1 ++ sa) (app_ne (app_ne ht)) ⟨#[125, 32, 101, 108, 115, 101, 32, 123]⟩ (by simp only [List.length_append]; omega) rest
      generalize lineB d [⟨#[125, 32, 101, 108, 115, 101, 32, 123]⟩] = l2 at *
      have hB1 := fun rest => (hB (t ++ l1 ++ sa ++ l2) d (app_ne (app_ne (app_ne ht))) (by omega) (by simp only [List.length_append]; omega)).use (args := [.sl (b.map stR) .unk]) (app_ne (app_ne (app_ne ht))) (app_ne (app_ne (app_ne (app_ne ht)))) rfl rfl rest
      generalize stmtsB (d + 1) b = sb at *
      have hl3 := fun rest => hL1 (t ++ l1 ++ sa ++ l2 ++ sb) (app_ne (app_ne (app_ne (app_ne ht)))) ⟨#[125]⟩ (by simp only [List.length_append]; omega) rest
      generalize lineB d [⟨#[125]⟩] = l3 at *
      have e1 : t ++ (l1 ++ (sa ++ (l2 ++ sb ++ l3))) = t ++ l1 ++ sa ++ l2 ++ sb ++ l3 := by simp only [List.append_assoc]
      rw [e1]
      have hd1 : decide (0 < b.length) = true := decide_eq_true hbn
      simp (maxSteps := 1000000) (contextual := true) (implicitDefEqProofs := false) [-decide_eq_true_eq, -decide_eq_false_iff_not, -Bool.not_and, -Bool.not_or, -Bool.and_eq_false_imp, -Int.natCast_add, -setAt, -List.map_take, setAt_eq, -List.length_append, -List.append_assoc, hp0, hl1, hA1, hl2, hB1, hl3, hd1]
    · rw [if_neg hbn] at hz ⊢
      simp only [List.length_nil] at hz
      have hl3 := fun rest => hL1 (t ++ l1 ++ sa) (app_ne (app_ne ht)) ⟨#[125]⟩ (by simp only [List.length_append]; omega) rest
      generalize lineB d [⟨#[125]⟩] = l3 at *
      have e1 : t ++ (l1 ++ (sa ++ ([] ++ l3))) = t ++ l1 ++ sa ++ l3 := by simp only [List.append_assoc, List.nil_append]
      rw [e1]
      have hd1 : decide (0 < b.length) = false := decide_eq_false hbn
      simp (maxSteps := 1000000) (contextual := true) (implicitDefEqProofs := false) [-decide_eq_true_eq, -decide_eq_false_iff_not, -Bool.not_and, -Bool.not_or, -Bool.and_eq_false_imp, -Int.natCast_add, -setAt, -List.map_take, setAt_eq, -List.length_append, -List.append_assoc, hp0, hl1, hA1, hl3, hd1]
  by_cases h5 : op = (⟨#[119, 104, 105, 108, 101]⟩ : ByteArray)
  · rw [if_neg h1, if_neg h2, if_neg h3, if_neg h4, if_pos h5] at hz ⊢
    subst h5
    simp only [List.length_append] at hz
    have hl1 := fun rest => hL t ht [(⟨#[119, 104, 105, 108, 101]⟩ : ByteArray), (⟨#[32]⟩ : ByteArray), p0, ⟨#[32, 123]⟩] (by omega) (by simp) rest
    simp only [List.map_cons, List.map_nil, strR] at hl1
    generalize lineB d [(⟨#[119, 104, 105, 108, 101]⟩ : ByteArray), (⟨#[32]⟩ : ByteArray), p0, ⟨#[32, 123]⟩] = l1 at *
    have hA1 := fun rest => (hA (t ++ l1) d (app_ne ht) (by omega) (by simp only [List.length_append]; omega)).use (args := [.sl (a.map stR) .unk]) (app_ne ht) (app_ne (app_ne ht)) rfl rfl rest
    generalize stmtsB (d + 1) a = sa at *
    have hl3 := fun rest => hL1 (t ++ l1 ++ sa) (app_ne (app_ne ht)) ⟨#[125]⟩ (by simp only [List.length_append]; omega) rest
    generalize lineB d [⟨#[125]⟩] = l3 at *
    have e1 : t ++ (l1 ++ (sa ++ l3)) = t ++ l1 ++ sa ++ l3 := by simp only [List.append_assoc]
    rw [e1]
    simp (maxSteps := 1000000) (contextual := true) (implicitDefEqProofs := false) [-decide_eq_true_eq, -decide_eq_false_iff_not, -Bool.not_and, -Bool.not_or, -Bool.and_eq_false_imp, -Int.natCast_add, -setAt, -List.map_take, setAt_eq, -List.length_append, -List.append_assoc, hp0, hl1, hA1, hl3]
  rw [if_neg h1, if_neg h2, if_neg h3, if_neg h4, if_neg h5] at hz ⊢
  by_cases h6 : op = (⟨#[97, 115, 115, 101, 114, 116]⟩ : ByteArray)
  · rw [if_pos (.inl h6)] at hz ⊢
    subst h6
    have hl1 := fun rest => hL t ht _ hz (by simp) rest
    generalize lineB d _ = ln at *
    simp only [List.map_cons, List.map_nil, strR] at hl1
    simp (maxSteps := 1000000) (contextual := true) (implicitDefEqProofs := false) [-decide_eq_true_eq, -decide_eq_false_iff_not, -Bool.not_and, -Bool.not_or, -Bool.and_eq_false_imp, -Int.natCast_add, -setAt, -List.map_take, setAt_eq, -List.length_append, hp0, hl1]
  by_cases h7 : op = (⟨#[97, 115, 115, 117, 109, 101]⟩ : ByteArray)
  · rw [if_pos (.inr h7)] at hz ⊢
    subst h7
    have hl1 := fun rest => hL t ht _ hz (by simp) rest
    generalize lineB d _ = ln at *
    simp only [List.map_cons, List.map_nil, strR] at hl1
    simp (maxSteps := 1000000) (contextual := true) (implicitDefEqProofs := false) [-decide_eq_true_eq, -decide_eq_false_iff_not, -Bool.not_and, -Bool.not_or, -Bool.and_eq_false_imp, -Int.natCast_add, -setAt, -List.map_take, setAt_eq, -List.length_append, hp0, hl1]
  rw [if_neg (by simp [h6, h7])] at hz ⊢
  by_cases h8 : op = (⟨#[99, 97, 108, 108]⟩ : ByteArray)
  · rw [if_pos h8] at hz ⊢
    subst h8
    have hl1 := fun rest => hL t ht _ hz (by simp) rest
    generalize lineB d _ = ln at *
    simp only [List.map_cons, List.map_nil, strR] at hl1
    simp (maxSteps := 1000000) (contextual := true) (implicitDefEqProofs := false) [-decide_eq_true_eq, -decide_eq_false_iff_not, -Bool.not_and, -Bool.not_or, -Bool.and_eq_false_imp, -Int.natCast_add, -setAt, -List.map_take, setAt_eq, -List.length_append, hl1]
  rw [if_neg h8] at hz ⊢
  have hl1 := fun rest => hL t ht _ hz (by simp) rest
  generalize lineB d _ = ln at *
  simp only [List.map_cons, List.map_nil, strR] at hl1
  have d1 : decide (op = (⟨#[115, 101, 116]⟩ : ByteArray)) = false := decide_eq_false h1
  have d2 : decide (op = (⟨#[112, 117, 116]⟩ : ByteArray)) = false := decide_eq_false h2
  have d3 : decide (op = (⟨#[105, 110, 112, 117, 116]⟩ : ByteArray)) = false := decide_eq_false h3
  have d4 : decide (op = (⟨#[105, 102]⟩ : ByteArray)) = false := decide_eq_false h4
  have d5 : decide (op = (⟨#[119, 104, 105, 108, 101]⟩ : ByteArray)) = false := decide_eq_false h5
  have d6 : decide (op = (⟨#[97, 115, 115, 101, 114, 116]⟩ : ByteArray)) = false := decide_eq_false h6
  have d7 : decide (op = (⟨#[97, 115, 115, 117, 109, 101]⟩ : ByteArray)) = false := decide_eq_false h7
  have d8 : decide (op = (⟨#[99, 97, 108, 108]⟩ : ByteArray)) = false := decide_eq_false h8
  simp (maxSteps := 1000000) (contextual := true) (implicitDefEqProofs := false) [-decide_eq_true_eq, -decide_eq_false_iff_not, -Bool.not_and, -Bool.not_or, -Bool.and_eq_false_imp, -Int.natCast_add, -setAt, -List.map_take, setAt_eq, -List.length_append, hl1, d1, d2, d3, d4, d5, d6, d7, d8]
end Go.Proofs.YtfgoedndpcblpaaGreatDoor.Pv
end
section
namespace Go.Proofs.YtfgoedndpcblpaaGreatDoor.Pv
open Go Go.Proofs Go.Proofs.YtfgoedndpcblpaaGreatDoor.Lx Go.Proofs.YtfgoedndpcblpaaGreatDoor.Ps
set_option linter.unusedSimpArgs false
set_option linter.unusedVariables false
variable {L : Lib} {σ : Sto}
theorem block_ok (hl : Free L prFs) (hT : PrnT L) : ∀ (n : Nat) (l : List Ps.St), lnTs l < n → n ≤ 274877906944 → okTs l → BlkOk L l := by
  intro n
  induction n with
  | zero => intro l h; omega
  | succ n ih =>
    intro l h hn ho t d ht hd hz
    have hlen := lnTs_len l
    have hmm : ∀ x ∈ l, lnT x ≤ lnTs l := fun x hx => lnTs_mem x hx
    have hS : ∀ x ∈ l, ∀ (t : List UInt8) (d : Nat), t ≠ [] → d + lnT x ≤ 549755813888 → t.length + (stmtB d x).length ≤ 274877906944 → PrM L 166 [.agg (stC x)] true t d (.tup []) true (t ++ stmtB d x) d := by
      intro x hx t d ht hd hz
      have hm := lnTs_mem x hx
      have hox := okTs_mem ho x hx
      refine pstmt_ok hl hT x hox (by omega) ?_ ?_ t d ht hd hz
      · cases x with
        | mk op nm e a b i => rw [lnT] at hm; rw [okT] at hox; exact ih a (by omega) (by omega) hox.2.1
      · cases x with
        | mk op nm e a b i => rw [lnT] at hm; rw [okT] at hox; exact ih b (by omega) (by omega) hox.2.2
    have w1 : IntKind.wrap .i64 ((d : Int) + 1) = ((d + 1 : Nat) : Int) := wrap_succ (by omega)
    have w2 : IntKind.wrap .i64 (((d + 1 : Nat) : Int) - 1) = (d : Int) := by rw [wrap_of (by omega)]; omega
    refine pr_ok (ids := []) ht (app_ne ht) (hl _ (by simp)) Tryz.func98 Tryz.ntmps98 Tryz.results98 (by simp) ⟨_, rfl, by kernel_rfl, ?_⟩
    simp (maxSteps := 1000000) (contextual := true) (implicitDefEqProofs := false) [-decide_eq_true_eq, -decide_eq_false_iff_not, -Bool.not_and, -Bool.not_or, -Bool.and_eq_false_imp, -Int.natCast_add, -setAt, -List.map_take, setAt_eq, -List.length_append, w1]
    refine WP.each l (fun rest i s' => ∃ (w : List UInt8) (junk : List Bx), s'.sto = ⟨prB w (d + 1 : Nat) :: junk, [(w.length, 0)]⟩ ∧ w ≠ [] ∧ w ++ stmtsB (d + 1) rest = t ++ stmtsB (d + 1) l ∧ s'.env 0 = .ptr 0 0 ∧ s'.env 13 = .sl (l.map stR) .unk ∧ s'.env 14 = int l.length ∧ s'.env 15 = int i) ⟨t, [], by simp, ht, rfl, by simp, by simp, by simp, by simp⟩ ?_ ?_
    · rintro x xs i ⟨env, τ⟩ hx hi hxs ⟨w, junk, h1, hw0, hw, h3, h4, h5, h6⟩
      simp only at h1 h3 h4 h5 h6
      subst h1
      have hix := row_idx (R := stR) hx (stR_len x)
      have hlt : decide (i < l.length) = true := by simp [hi]
      have hwi : IntKind.wrap .i64 ((i : Int) + 1) = ((i + 1 : Nat) : Int) := wrap_succ (by omega)
      rw [stmtsB] at hw
      have hlw : w.length + ((stmtB (d + 1) x).length + (stmtsB (d + 1) xs).length) = t.length + (stmtsB (d + 1) l).length := by
        have := congrArg List.length hw
        simpa only [List.length_append] using this
      have hc := fun rest => (hS x (List.mem_of_getElem? hx) w (d + 1) hw0 (by have := hmm x (List.mem_of_getElem? hx); omega) (by omega)).use (args := [.agg (stC x)]) hw0 (app_ne hw0) (by simp [ptrsL, PV.ptrs, (stC_row x).2.1]) (by simp [eraL, PV.era, (stC_row x).2.2]) rest
      rw [stC_l] at hc
      simp (maxSteps := 1000000) (contextual := true) (implicitDefEqProofs := false) [-decide_eq_true_eq, -decide_eq_false_iff_not, -Bool.not_and, -Bool.not_or, -Bool.and_eq_false_imp, -Int.natCast_add, -setAt, -List.map_take, setAt_eq, -List.length_append, h3, h4, h5, h6, hlt, hix, hwi, stR_l, hc]
      exact ⟨_, ⟨rfl, rfl⟩, app_ne hw0, by rw [List.append_assoc]; exact hw⟩
    · rintro ⟨env, τ⟩ ⟨w, junk, h1, hw0, hw, h3, h4, h5, h6⟩
      simp only at h1 h3 h4 h5 h6
      subst h1
      rw [stmtsB, List.append_nil] at hw
      simp (maxSteps := 1000000) (contextual := true) (implicitDefEqProofs := false) [-decide_eq_true_eq, -decide_eq_false_iff_not, -Bool.not_and, -Bool.not_or, -Bool.and_eq_false_imp, -Int.natCast_add, -setAt, -List.map_take, setAt_eq, -List.length_append, h3, h4, h5, h6, w2]
      rw [hw]
      exact ⟨rfl, rfl⟩
theorem string_pr (hS : L 99 = some stringH) (t : List UInt8) (d : Int) (ht : t ≠ []) (hz : t.length ≤ 274877906944) : PrM L 99 [] true t d (str (strOf t)) true t d := by
  refine ⟨str (strOf t), 0, [], grP t, rfl, rfl, EV_lib hS ?_, grP_ok t, fun h => ⟨h, rfl⟩⟩
  have hb : rowsByte (rowsU t) = some t := rowsByte_str (strOf t)
  have hg := grP_ok t ht
  have hc : prC true 0 0 t d = [.ptr 0 0, .sl (rowsU t) (.grow 0), int d] := by simp [prC, ptrP, tagP, ht]
  rw [hc]
  show (match rowsByte (rowsU t) with
      | some l => if l ≠ [] ∧ l.length ≤ 9223372036854775807 ∧ (grP t)[0]? = some (l.length, 0) then some (PV.im (.string (Lx.strOf l)), (⟨[.cells [.ptr 0 0, .sl (rowsU t) (.grow 0), int d]], grP t⟩ : Sto)) else none
      | none => none) = _
  rw [hb]
  simp only
  rw [if_pos ⟨ht, by omega, hg⟩]
theorem cat_cons (x : ByteArray) (xs : List ByteArray) : catB (x :: xs) = x.data.toList ++ catB xs := by
  unfold catB Lib.join
  cases xs with
  | nil => simp [List.intercalate]
  | cons y ys => simp [List.intercalate]
theorem cat_mem : ∀ (ws : List ByteArray), ∀ w ∈ ws, w.size ≤ (catB ws).length
  | [], w, h => by cases h
  | x :: xs, w, h => by
    rw [cat_cons, List.length_append, size_toList]
    rcases List.mem_cons.1 h with rfl | h
    · omega
    · have := cat_mem xs w h; omega
theorem line_mem (d : Nat) (ws : List ByteArray) : ∀ w ∈ ws, w.size < (lineB d ws).length := fun w h => by
  have := cat_mem ws w h
  unfold lineB; simp only [List.length_append, List.length_cons, List.length_nil]; omega
structure PrSm (p : Pg) : Prop where
  ok : okG p
  len : (printB p).length ≤ 274877906944
  e : p.enums.length < 274877906944
  v : p.vars.length < 274877906944
  x : p.procs.length < 274877906944
  el : ∀ e ∈ p.enums, e.l.length < 274877906944
  m : lnTs p.main < 274877906944
  b : ∀ x ∈ p.procs, lnTs x.body < 274877906944
@[simp] def printFs : List FuncId := prFs ++ [35]
set_option maxHeartbeats 2000000 in
theorem Print_ok (hl : Free L printFs) (hT : PrnT L) (p : Pg) (hp : PrSm p) : ∀ σ, callE (EV Tryz.prog L) 35 [.agg (pgC p)] σ = some (str (strOf (printB p)), σ) := by
  intro σ
  obtain ⟨ho, hlen, h1_, h2_, h3_, h4_, h5_, h6_⟩ := hp
  have hlen0 := hlen
  unfold printB at hlen
  simp only [List.length_append] at hlen
  have hL := fun (u : Bool) (t : List UInt8) (gr : List (Nat × Nat)) (g : Nat) (hg : PrOk t gr g) (ws : List ByteArray) (hz : t.length + (lineB 0 ws).length ≤ 274877906944) (hw : ws.length ≤ 100) (rest : List Bx) =>
    (line_ok (hl.sub (by simp)) hT u t 0 ws .unk hz hw).call (args := [.sl (ws.map strR) .full]) rfl rfl (bx := .cells (pgC p) :: .cells (prC u 1 g t (0 : Nat)) :: rest) (b := 1) (g := g) rfl hg
  have hK := fun (t : List UInt8) (gr : List (Nat × Nat)) (g : Nat) (hg : PrOk t gr g) (ht : t ≠ []) (l : List Ps.St) (hlt : lnTs l < 274877906944) (hol : okTs l) (hz : t.length + (stmtsB 1 l).length ≤ 274877906944) (rest : List Bx) =>
    (block_ok (hl.sub (by simp)) hT (lnTs l + 1) l (by omega) (by omega) hol t 0 ht (by omega) hz).call (args := [.sl (l.map stR) .unk]) rfl rfl (bx := .cells (pgC p) :: .cells (prC true 1 g t (0 : Nat)) :: rest) (b := 1) (g := g) rfl hg
  simp only [List.set_cons_succ, List.set_cons_zero, Nat.zero_add, pgC, Int.natCast_zero] at hL hK
  have hlies : liesB 145 3 = true := by kernel_rfl
  generalize hP : printB p = P at *
  unfold printB at hP
  refine call_fn (ids := []) (hl _ (by simp)) Tryz.func35 Tryz.ntmps35 Tryz.results35 (by simp) rfl rfl ⟨_, rfl, by kernel_rfl, ?_⟩
  simp (maxSteps := 1000000) (contextual := true) (implicitDefEqProofs := false) [-decide_eq_true_eq, -decide_eq_false_iff_not, -Bool.not_and, -Bool.not_or, -Bool.and_eq_false_imp, -Int.natCast_add, -setAt, -List.map_take, setAt_eq, pgC, hlies]
  refine WP.each p.enums (fun rest i s' => ∃ (u : Bool) (t : List UInt8) (g : Nat) (gr : List (Nat × Nat)) (junk : List Bx), s'.sto = ⟨.cells (pgC p) :: .cells (prC u 1 g t 0) :: junk, gr⟩ ∧ PrOk t gr g ∧ t ++ flatB enumB rest = flatB enumB p.enums ∧ s'.env 1 = .ptr 0 0 ∧ s'.env 3 = .ptr 1 0 ∧ s'.env 14 = .sl (p.enums.map enR) .unk ∧ s'.env 15 = int p.enums.length ∧ s'.env 16 = int i) ⟨false, [], 0, [], [], by simp [pgC, prC, ptrP, tagP, rowsU], fun h => absurd rfl h, rfl, by simp, by simp, by simp, by simp, by simp⟩ ?_ ?_
  · rintro x xs i ⟨env, τ⟩ hx hi hxs ⟨u, t, g, gr, junk, h1, hg, ht, h2, h3, h4, h5, h6⟩
    simp only at h1 h2 h3 h4 h5 h6
    subst h1
    have hix := row_idx (R := enR) hx (m := 2) rfl
    have hlt : decide (i < p.enums.length) = true := by simp [hi]
    have hw : IntKind.wrap .i64 ((i : Int) + 1) = ((i + 1 : Nat) : Int) := wrap_succ (by omega)
    rw [flatB] at ht
    have htl : t.length + ((enumB x).length + (flatB enumB xs).length) = (flatB enumB p.enums).length := by
      have := congrArg List.length ht
      simpa only [List.length_append] using this
    have hlm : (listB x.l).size < (enumB x).length := line_mem 0 _ _ (by simp)
    have hj := join_told (L := L) hT.join x.l .unk ⟨#[44, 32]⟩ (by
      have : (joinF x.l ⟨#[44, 32]⟩).length = (listB x.l).size := by unfold listB; rw [strOf_size]; rfl
      omega) (by have := h4_ x (List.mem_of_getElem? hx); omega)
    have hj : ∀ σ, callE (EV Tryz.prog L) 96 [.sl (x.l.map strR) .unk, str ⟨#[44, 32]⟩] σ = some (str (listB x.l), σ) := hj
    have hl1 := fun rest => hL u t gr g hg [(⟨#[101, 110, 117, 109, 32]⟩ : ByteArray), x.name, ⟨#[32, 123, 32]⟩, listB x.l, ⟨#[32, 125]⟩] (by
      have : (lineB 0 [(⟨#[101, 110, 117, 109, 32]⟩ : ByteArray), x.name, ⟨#[32, 123, 32]⟩, listB x.l, ⟨#[32, 125]⟩]).length = (enumB x).length := rfl
      omega) (by simp) rest
    have hge : lineB 0 [(⟨#[101, 110, 117, 109, 32]⟩ : ByteArray), x.name, ⟨#[32, 123, 32]⟩, listB x.l, ⟨#[32, 125]⟩] = enumB x := rfl
    rw [hge] at hl1
    simp only [List.map_cons, List.map_nil, strR] at hl1
    have hge2 : enR x = [.im (.string x.name), .sl (x.l.map strR)] := rfl
    simp (maxSteps := 1000000) (contextual := true) (implicitDefEqProofs := false) [-decide_eq_true_eq, -decide_eq_false_iff_not, -Bool.not_and, -Bool.not_or, -Bool.and_eq_false_imp, -Int.natCast_add, -setAt, -List.map_take, setAt_eq, -List.length_append, pgC, h2, h3, h4, h5, h6, hlt, hix, hw, hge2, hj, hl1]
    exact .inr ⟨_, _, _, ⟨rfl, rfl⟩, hg.next, by rw [List.append_assoc]; exact ht⟩
  · rintro ⟨env, τ⟩ ⟨u, t, g, gr, junk, h1, hg, ht, h2, h3, h4, h5, h6⟩
    simp only at h1 h2 h3 h4 h5 h6
    subst h1
    rw [flatB, List.append_nil] at ht
    simp (maxSteps := 1000000) (contextual := true) (implicitDefEqProofs := false) [-decide_eq_true_eq, -decide_eq_false_iff_not, -Bool.not_and, -Bool.not_or, -Bool.and_eq_false_imp, -Int.natCast_add, -setAt, -List.map_take, setAt_eq, -List.length_append, pgC, h2, h3, h4, h5, h6]
    refine WP.each p.vars (fun rest i s' => ∃ (u : Bool) (t : List UInt8) (g : Nat) (gr : List (Nat × Nat)) (junk : List Bx), s'.sto = ⟨.cells (pgC p) :: .cells (prC u 1 g t 0) :: junk, gr⟩ ∧ PrOk t gr g ∧ t ++ flatB varB rest = flatB enumB p.enums ++ flatB varB p.vars ∧ s'.env 1 = .ptr 0 0 ∧ s'.env 3 = .ptr 1 0 ∧ s'.env 30 = .sl (p.vars.map vrR) .unk ∧ s'.env 31 = int p.vars.length ∧ s'.env 32 = int i) ⟨u, t, g, gr, junk, by simp [pgC], hg, by rw [ht], by simp [h2], by simp [h3], by simp, by simp, by simp⟩ ?_ ?_
    · clear hg ht h2 h3 h4 h5 h6
      rintro x xs i ⟨env, τ⟩ hx hi hxs ⟨u, t, g, gr, junk, h1, hg, ht, h2, h3, h4, h5, h6⟩
      simp only at h1 h2 h3 h4 h5 h6
      subst h1
      have hix := row_idx (R := vrR) hx (m := 3) rfl
      have hlt : decide (i < p.vars.length) = true := by simp [hi]
      have hw : IntKind.wrap .i64 ((i : Int) + 1) = ((i + 1 : Nat) : Int) := wrap_succ (by omega)
      have hov := ho.2.2 x (List.mem_of_getElem? hx)
      rw [flatB] at ht
      have htl : t.length + ((varB x).length + (flatB varB xs).length) = (flatB enumB p.enums).length + (flatB varB p.vars).length := by
        have := congrArg List.length ht
        simpa only [List.length_append] using this
      have hit := itoa_ok (L := L) (hl.sub (by simp)) hT.fmt x.len hov
      have hil := Lib.itoa_length_le x.len hov.1 hov.2
      have a1 : ∀ t, binE Tryz.prog t .add (.im (.string ⟨#[91]⟩)) (.im (.string (strOf (Lib.itoa x.len)))) = some (.im (.string (strOf ([91] ++ Lib.itoa x.len)))) := fun t => saddl ⟨#[91]⟩ (by show 1 + _ ≤ _; omega)
      have a2 : ∀ t, binE Tryz.prog t .add (.im (.string (strOf ([91] ++ Lib.itoa x.len)))) (.im (.string ⟨#[93]⟩)) = some (.im (.string (strOf ([91] ++ Lib.itoa x.len ++ [93])))) := fun t => saddr ⟨#[93]⟩ (by show _ + 1 ≤ _; simp only [List.length_append, List.length_cons, List.length_nil]; omega)
      generalize hs1 : strOf ([91] ++ Lib.itoa x.len) = s1 at a1 a2
      generalize hs2 : strOf ([91] ++ Lib.itoa x.len ++ [93]) = s2 at a2
      have hl1 := fun rest => hL u t gr g hg [(⟨#[118, 97, 114, 32]⟩ : ByteArray), x.name, (⟨#[58, 32]⟩ : ByteArray), x.type, manyB x.len, (⟨#[59]⟩ : ByteArray)] (by
        have : (lineB 0 [(⟨#[118, 97, 114, 32]⟩ : ByteArray), x.name, (⟨#[58, 32]⟩ : ByteArray), x.type, manyB x.len, (⟨#[59]⟩ : ByteArray)]).length = (varB x).length := rfl
        omega) (by simp) rest
      have hge : lineB 0 [(⟨#[118, 97, 114, 32]⟩ : ByteArray), x.name, (⟨#[58, 32]⟩ : ByteArray), x.type, manyB x.len, (⟨#[59]⟩ : ByteArray)] = varB x := rfl
      rw [hge] at hl1
      simp only [List.map_cons, List.map_nil, strR] at hl1
      by_cases hpos : 0 < x.len
      · have hm : manyB x.len = s2 := by unfold manyB; rw [if_pos hpos]; exact hs2
        rw [hm] at hl1
        have hd1 : decide (0 < x.len) = true := decide_eq_true hpos
        simp (maxSteps := 1000000) (contextual := true) (implicitDefEqProofs := false) [-decide_eq_true_eq, -decide_eq_false_iff_not, -Bool.not_and, -Bool.not_or, -Bool.and_eq_false_imp, -Int.natCast_add, -setAt, -List.map_take, setAt_eq, -List.length_append, pgC, h2, h3, h4, h5, h6, hlt, hix, hw, vrR, hl1, hit, a1, a2, hd1]
        exact .inr ⟨_, _, _, ⟨rfl, rfl⟩, hg.next, by rw [List.append_assoc]; exact ht⟩
      · have hm : manyB x.len = ⟨#[]⟩ := by unfold manyB; rw [if_neg hpos]
        rw [hm] at hl1
        have hd1 : decide (0 < x.len) = false := decide_eq_false hpos
        simp (maxSteps := 1000000) (contextual := true) (implicitDefEqProofs := false) [-decide_eq_true_eq, -decide_eq_false_iff_not, -Bool.not_and, -Bool.not_or, -Bool.and_eq_false_imp, -Int.natCast_add, -setAt, -List.map_take, setAt_eq, -List.length_append, pgC, h2, h3, h4, h5, h6, hlt, hix, hw, vrR, hl1, hd1]
        exact .inr ⟨_, _, _, ⟨rfl, rfl⟩, hg.next, by rw [List.append_assoc]; exact ht⟩
    · clear hg ht h2 h3 h4 h5 h6
      rintro ⟨env, τ⟩ ⟨u, t, g, gr, junk, h1, hg, ht, h2, h3, h4, h5, h6⟩
      simp only at h1 h2 h3 h4 h5 h6
      subst h1
      rw [flatB, List.append_nil] at ht
      simp (maxSteps := 1000000) (contextual := true) (implicitDefEqProofs := false) [-decide_eq_true_eq, -decide_eq_false_iff_not, -Bool.not_and, -Bool.not_or, -Bool.and_eq_false_imp, -Int.natCast_add, -setAt, -List.map_take, setAt_eq, -List.length_append, pgC, h2, h3, h4, h5, h6]
      refine WP.each p.procs (fun rest i s' => ∃ (u : Bool) (t : List UInt8) (g : Nat) (gr : List (Nat × Nat)) (junk : List Bx), s'.sto = ⟨.cells (pgC p) :: .cells (prC u 1 g t 0) :: junk, gr⟩ ∧ PrOk t gr g ∧ t ++ flatB procB rest = flatB enumB p.enums ++ (flatB varB p.vars ++ flatB procB p.procs) ∧ s'.env 1 = .ptr 0 0 ∧ s'.env 3 = .ptr 1 0 ∧ s'.env 54 = .sl (p.procs.map pcR) .unk ∧ s'.env 55 = int p.procs.length ∧ s'.env 56 = int i) ⟨u, t, g, gr, junk, by simp [pgC], hg, by rw [ht, List.append_assoc], by simp [h2], by simp [h3], by simp, by simp, by simp⟩ ?_ ?_
      · clear hg ht h2 h3 h4 h5 h6
        rintro x xs i ⟨env, τ⟩ hx hi hxs ⟨u, t, g, gr, junk, h1, hg, ht, h2, h3, h4, h5, h6⟩
        simp only at h1 h2 h3 h4 h5 h6
        subst h1
        have hix := row_idx (R := pcR) hx (m := 2) rfl
        have hlt : decide (i < p.procs.length) = true := by simp [hi]
        have hw : IntKind.wrap .i64 ((i : Int) + 1) = ((i + 1 : Nat) : Int) := wrap_succ (by omega)
        rw [flatB, procB] at ht
        have htl : t.length + ((lineB 0 [(⟨#[112, 114, 111, 99, 32]⟩ : ByteArray), x.name, ⟨#[32, 123]⟩]).length + ((stmtsB 1 x.body).length + (lineB 0 [⟨#[125]⟩]).length) + (flatB procB xs).length) = (flatB enumB p.enums).length + ((flatB varB p.vars).length + (flatB procB p.procs).length) := by
          have := congrArg List.length ht
          simpa only [List.length_append] using this
        have hl1 := fun rest => hL u t gr g hg [(⟨#[112, 114, 111, 99, 32]⟩ : ByteArray), x.name, ⟨#[32, 123]⟩] (by omega) (by simp) rest
        simp only [List.map_cons, List.map_nil, strR] at hl1
        generalize hq1 : lineB 0 [(⟨#[112, 114, 111, 99, 32]⟩ : ByteArray), x.name, ⟨#[32, 123]⟩] = l1 at *
        have hn1 : t ++ l1 ≠ [] := by rw [← hq1]; simp [lineB_ne]
        have hg1 := hg.next (t' := t ++ l1)
        generalize prR t (t ++ l1) gr g = gr1 at *
        generalize prG t gr g = g1 at *
        have hk1 := fun rest => hK (t ++ l1) gr1 g1 hg1 hn1 x.body (h6_ x (List.mem_of_getElem? hx)) (ho.2.1 x (List.mem_of_getElem? hx)) (by simp only [List.length_append]; omega) rest
        generalize stmtsB 1 x.body = sb at *
        have hg2 := hg1.next (t' := t ++ l1 ++ sb)
        generalize prR (t ++ l1) (t ++ l1 ++ sb) gr1 g1 = gr2 at *
        generalize prG (t ++ l1) gr1 g1 = g2 at *
        have hl3 := fun rest => hL true (t ++ l1 ++ sb) gr2 g2 hg2 [⟨#[125]⟩] (by simp only [List.length_append]; omega) (by simp) rest
        simp only [List.map_cons, List.map_nil, strR] at hl3
        rw [← stRs_map] at hk1
        simp (maxSteps := 1000000) (contextual := true) (implicitDefEqProofs := false) [-decide_eq_true_eq, -decide_eq_false_iff_not, -Bool.not_and, -Bool.not_or, -Bool.and_eq_false_imp, -Int.natCast_add, -setAt, -List.map_take, setAt_eq, -List.length_append, -List.append_assoc, pgC, h2, h3, h4, h5, h6, hlt, hix, hw, pcR, hl1, hk1, hl3]
        exact .inr ⟨_, _, _, ⟨rfl, rfl⟩, hg2.next, by rw [← ht]; simp only [List.append_assoc]⟩
      · clear hg ht h2 h3 h4 h5 h6
        rintro ⟨env, τ⟩ ⟨u, t, g, gr, junk, h1, hg, ht, h2, h3, h4, h5, h6⟩
        simp only at h1 h2 h3 h4 h5 h6
        subst h1
        rw [flatB, List.append_nil] at ht
        have htl : t.length = (flatB enumB p.enums).length + ((flatB varB p.vars).length + (flatB procB p.procs).length) := by
          have := congrArg List.length ht
          simpa only [List.length_append] using this
        have hl1 := fun rest => hL u t gr g hg [⟨#[109, 97, 105, 110, 32, 123]⟩] (by omega) (by simp) rest
        simp only [List.map_cons, List.map_nil, strR] at hl1
        generalize hq1 : lineB 0 [⟨#[109, 97, 105, 110, 32, 123]⟩] = l1 at *
        have hn1 : t ++ l1 ≠ [] := by rw [← hq1]; simp [lineB_ne]
        have hg1 := hg.next (t' := t ++ l1)
        generalize prR t (t ++ l1) gr g = gr1 at *
        generalize prG t gr g = g1 at *
        have hk1 := fun rest => hK (t ++ l1) gr1 g1 hg1 hn1 p.main h5_ ho.1 (by simp only [List.length_append]; omega) rest
        generalize stmtsB 1 p.main = sb at *
        have hg2 := hg1.next (t' := t ++ l1 ++ sb)
        have hn2 : t ++ l1 ++ sb ≠ [] := app_ne hn1
        generalize prR (t ++ l1) (t ++ l1 ++ sb) gr1 g1 = gr2 at *
        generalize prG (t ++ l1) gr1 g1 = g2 at *
        have hl3 := fun rest => hL true (t ++ l1 ++ sb) gr2 g2 hg2 [⟨#[125]⟩] (by simp only [List.length_append]; omega) (by simp) rest
        simp only [List.map_cons, List.map_nil, strR] at hl3
        generalize lineB 0 [⟨#[125]⟩] = l3 at *
        have hg3 := hg2.next (t' := t ++ l1 ++ sb ++ l3)
        have hn3 : t ++ l1 ++ sb ++ l3 ≠ [] := app_ne hn2
        generalize prR (t ++ l1 ++ sb) (t ++ l1 ++ sb ++ l3) gr2 g2 = gr3 at *
        generalize prG (t ++ l1 ++ sb) gr2 g2 = g3 at *
        have he : t ++ l1 ++ sb ++ l3 = P := by rw [← hP, ht]; simp only [List.append_assoc]
        have hst := fun rest => (string_pr hT.str (t ++ l1 ++ sb ++ l3) 0 hn3 (by rw [he]; exact hlen0)).call (args := []) rfl rfl (bx := .cells (pgC p) :: .cells (prC true 1 g3 (t ++ l1 ++ sb ++ l3) 0) :: rest) (b := 1) (g := g3) rfl hg3
        simp only [pgC] at hst
        rw [← stRs_map] at hk1
        rw [← he]
        simp (maxSteps := 1000000) (contextual := true) (implicitDefEqProofs := false) [-decide_eq_true_eq, -decide_eq_false_iff_not, -Bool.not_and, -Bool.not_or, -Bool.and_eq_false_imp, -Int.natCast_add, -setAt, -List.map_take, setAt_eq, -List.length_append, -List.append_assoc, pgC, h2, h3, h4, h5, h6, hl1, hk1, hl3, hst]
end Go.Proofs.YtfgoedndpcblpaaGreatDoor.Pv
end
section
namespace Go.Proofs.YtfgoedndpcblpaaGreatDoor.Pv
open Go Go.Proofs Go.Proofs.YtfgoedndpcblpaaGreatDoor.Lx Go.Proofs.YtfgoedndpcblpaaGreatDoor.Ps
set_option linter.unusedSimpArgs false
set_option linter.unusedVariables false
variable {L : Lib} {σ : Sto}
theorem strR_len (s : ByteArray) : (strR s).length = 1 := rfl
theorem equalStr_ok (hl : L 53 = none) (l l2 : List ByteArray) (t t2 : Tag) (hn : l.length < 274877906944) (hn2 : l2.length < 274877906944) : ∀ σ, callE (EV Tryz.prog L) 53 [.sl (l.map strR) t, .sl (l2.map strR) t2] σ = some (boo (decide (l = l2)), σ) := by
  intro σ
  rw [callE_era rfl]
  show callE (EV Tryz.prog L) 53 [.sl (l.map strR) .unk, .sl (l2.map strR) .unk] σ = _
  by_cases he : l.length = l2.length
  · have hd : decide ((l.length : Int) = l2.length) = true := by simp [he]
    refine call_fn (ids := []) hl Tryz.func53 Tryz.ntmps53 Tryz.results53 (by simp) rfl rfl ⟨_, rfl, by kernel_rfl, ?_⟩
    simp (maxSteps := 1000000) (contextual := true) (implicitDefEqProofs := false) [-decide_eq_true_eq, -decide_eq_false_iff_not, -Bool.not_and, -Bool.not_or, -Bool.and_eq_false_imp, -Int.natCast_add, -setAt, -List.map_take, setAt_eq, he]
    refine WP.each l (fun rest i s' => s'.sto = ⟨[], []⟩ ∧ s'.env 0 = .sl (l.map strR) .unk ∧ s'.env 1 = .sl (l2.map strR) .unk ∧ s'.env 12 = int l.length ∧ s'.env 13 = int i ∧ decide (rest = l2.drop i) = decide (l = l2)) ⟨rfl, by simp, by simp, by simp [he], by simp, by simp⟩ ?_ ?_
    · rintro x xs i ⟨env, τ⟩ hx hi hxs ⟨h1, h2, h3, h4, h5, h6⟩
      simp only at h1 h2 h3 h4 h5
      subst h1
      have hi2 : i < l2.length := by omega
      have hy : l2[i]? = some l2[i] := List.getElem?_eq_getElem hi2
      rw [List.drop_eq_getElem_cons hi2] at h6
      generalize l2[i] = y at *
      have hix := row_idx (R := strR) hx (strR_len x)
      have hiy := row_idx (R := strR) hy (strR_len y)
      have hlt : decide (i < l.length) = true := by simp [hi]
      have hw : IntKind.wrap .i64 ((i : Int) + 1) = ((i + 1 : Nat) : Int) := wrap_succ (by omega)
      simp (maxSteps := 1000000) (contextual := true) (implicitDefEqProofs := false) [-decide_eq_true_eq, -decide_eq_false_iff_not, -Bool.not_and, -Bool.not_or, -Bool.and_eq_false_imp, -Int.natCast_add, -setAt, -List.map_take, setAt_eq, h2, h3, h4, h5, hlt, hix, hiy, hw, strR]
      refine ⟨fun h => ?_, fun h => ?_⟩
      · have hne : ¬ x = y := of_decide_eq_true (by simpa using h)
        have e : decide (x :: xs = y :: l2.drop (i + 1)) = false := by simp [hne]
        rw [e] at h6; exact of_decide_eq_false h6.symm
      · have hxy : x = y := by simpa using h
        subst hxy
        simpa using h6
    · rintro ⟨env, τ⟩ ⟨h1, h2, h3, h4, h5, h6⟩
      simp only at h1 h2 h3 h4 h5
      subst h1
      have e : decide (([] : List ByteArray) = l2.drop l.length) = true := by rw [List.drop_eq_nil_of_le (by omega)]; rfl
      rw [e] at h6
      simp (maxSteps := 1000000) (contextual := true) (implicitDefEqProofs := false) [-decide_eq_true_eq, -decide_eq_false_iff_not, -Bool.not_and, -Bool.not_or, -Bool.and_eq_false_imp, -Int.natCast_add, -setAt, -List.map_take, setAt_eq, h2, h3, h4, h5]
      exact of_decide_eq_true h6.symm
  · have hd : decide ((l.length : Int) = l2.length) = false := by simp; omega
    have hne : decide (l = l2) = false := by simp; exact fun e => he (by rw [e])
    rw [hne]
    refine call_fn (ids := []) hl Tryz.func53 Tryz.ntmps53 Tryz.results53 (by simp) rfl rfl ⟨_, rfl, by kernel_rfl, ?_⟩
    simp (maxSteps := 1000000) (contextual := true) (implicitDefEqProofs := false) [-decide_eq_true_eq, -decide_eq_false_iff_not, -Bool.not_and, -Bool.not_or, -Bool.and_eq_false_imp, -Int.natCast_add, -setAt, -List.map_take, setAt_eq, hd]
def ruleV (t : Tag) (l : List ByteArray) (o : ByteArray) : PV := .agg [.sl (l.map strR) t, str o]
def ruleM : List (ByteArray × PV) := [((⟨#[116, 114, 117, 101]⟩ : ByteArray), ruleV .full [] (⟨#[98, 111, 111, 108]⟩ : ByteArray)), ((⟨#[102, 97, 108, 115, 101]⟩ : ByteArray), ruleV .full [] (⟨#[98, 111, 111, 108]⟩ : ByteArray)), ((⟨#[110, 101, 103]⟩ : ByteArray), ruleV .unk [(⟨#[105, 110, 116]⟩ : ByteArray)] (⟨#[105, 110, 116]⟩ : ByteArray)), ((⟨#[110, 111, 116]⟩ : ByteArray), ruleV .unk [(⟨#[98, 111, 111, 108]⟩ : ByteArray)] (⟨#[98, 111, 111, 108]⟩ : ByteArray)), ((⟨#[97, 116]⟩ : ByteArray), ruleV .unk [(⟨#[105, 110, 116]⟩ : ByteArray)] (⟨#[105, 110, 116]⟩ : ByteArray)),
  ((⟨#[43]⟩ : ByteArray), ruleV .full [(⟨#[105, 110, 116]⟩ : ByteArray), (⟨#[105, 110, 116]⟩ : ByteArray)] (⟨#[105, 110, 116]⟩ : ByteArray)), ((⟨#[45]⟩ : ByteArray), ruleV .full [(⟨#[105, 110, 116]⟩ : ByteArray), (⟨#[105, 110, 116]⟩ : ByteArray)] (⟨#[105, 110, 116]⟩ : ByteArray)), ((⟨#[42]⟩ : ByteArray), ruleV .full [(⟨#[105, 110, 116]⟩ : ByteArray), (⟨#[105, 110, 116]⟩ : ByteArray)] (⟨#[105, 110, 116]⟩ : ByteArray)), ((⟨#[47]⟩ : ByteArray), ruleV .full [(⟨#[105, 110, 116]⟩ : ByteArray), (⟨#[105, 110, 116]⟩ : ByteArray)] (⟨#[105, 110, 116]⟩ : ByteArray)),
  ((⟨#[60]⟩ : ByteArray), ruleV .full [(⟨#[105, 110, 116]⟩ : ByteArray), (⟨#[105, 110, 116]⟩ : ByteArray)] (⟨#[98, 111, 111, 108]⟩ : ByteArray)), ((⟨#[60, 61]⟩ : ByteArray), ruleV .full [(⟨#[105, 110, 116]⟩ : ByteArray), (⟨#[105, 110, 116]⟩ : ByteArray)] (⟨#[98, 111, 111, 108]⟩ : ByteArray)), ((⟨#[62]⟩ : ByteArray), ruleV .full [(⟨#[105, 110, 116]⟩ : ByteArray), (⟨#[105, 110, 116]⟩ : ByteArray)] (⟨#[98, 111, 111, 108]⟩ : ByteArray)), ((⟨#[62, 61]⟩ : ByteArray), ruleV .full [(⟨#[105, 110, 116]⟩ : ByteArray), (⟨#[105, 110, 116]⟩ : ByteArray)] (⟨#[98, 111, 111, 108]⟩ : ByteArray)),
  ((⟨#[38, 38]⟩ : ByteArray), ruleV .full [(⟨#[98, 111, 111, 108]⟩ : ByteArray), (⟨#[98, 111, 111, 108]⟩ : ByteArray)] (⟨#[98, 111, 111, 108]⟩ : ByteArray)), ((⟨#[124, 124]⟩ : ByteArray), ruleV .full [(⟨#[98, 111, 111, 108]⟩ : ByteArray), (⟨#[98, 111, 111, 108]⟩ : ByteArray)] (⟨#[98, 111, 111, 108]⟩ : ByteArray))]
set_option maxRecDepth 100000 in
theorem rules_ok (hl : L 184 = none) (bx : List Bx) (gr : List (Nat × Nat)) : callE (EV Tryz.prog L) 184 [] ⟨bx, gr⟩ = some (.mp bx.length, ⟨bx ++ [.map (strM ruleM)], gr⟩) := by
  have h : EV Tryz.prog L 184 [] ⟨[], []⟩ = some (.mp 0, ⟨[.map (strM ruleM)], []⟩) := EV_iff.2 ⟨30, by
    show (match L 184 with | some h => h | none => bodyE Tryz.prog (evF Tryz.prog L 29) 29 184) [] ⟨[], []⟩ = _
    rw [hl]
    kernel_rfl⟩
  unfold callE
  have e0 : gather bx 64 (ptrsL []) [] = [] := rfl
  rw [e0]
  simp only [tagsB, dd]
  unfold callIn
  have e1 : renL (find []) (fun _ => .unk) [] = some [] := rfl
  have e2 : selE ⟨bx, gr⟩ [] [] = some ⟨[], []⟩ := rfl
  rw [e1, e2]
  simp only [h]
  unfold callBack
  have e4 : gather [.map (strM ruleM)] 64 ((PV.mp 0).ptrs ++ ptrsUpto [.map (strM ruleM)] ([] : List Nat).length) (iota ([] : List Nat).length) = [0] := rfl
  rw [e4]
  have e5 : tagsB [.map (strM ruleM)] [0] = [] := rfl
  rw [e5]
  have e6 : selE ⟨[.map (strM ruleM)], []⟩ [0] (dd [] (iota ([] : List Nat).length)) = some ⟨[.map (strM ruleM)], []⟩ := rfl
  rw [e6]
  have e7 : PV.ren (find [0]) (fun _ => Tag.unk) (PV.mp 0) = some (.mp 0) := rfl
  rw [e7]
  have e8 : ∀ ρ, renBs ρ (Tag.back [] gr.length 0) [.map (strM ruleM)] = some [.map (strM ruleM)] := fun ρ => rfl
  simp [PV.ren, backB, e8, backL, putMany]
theorem ruleV_look (s : ByteArray) : (lookS s ruleM = none ∧ ruleF s = none) ∨ ∃ t l o, lookS s ruleM = some (ruleV t l o) ∧ ruleF s = some (l, o) ∧ l.length < 274877906944 := by
  simp only [ruleM, lookS, ruleF]
  by_cases h1 : s = (⟨#[116, 114, 117, 101]⟩ : ByteArray)
  · exact .inr ⟨_, _, _, by rw [if_pos h1], by rw [if_pos h1], by decide⟩
  rw [if_neg h1, if_neg h1]
  by_cases h2 : s = (⟨#[102, 97, 108, 115, 101]⟩ : ByteArray)
  · exact .inr ⟨_, _, _, by rw [if_pos h2], by rw [if_pos h2], by decide⟩
  rw [if_neg h2, if_neg h2]
  by_cases h3 : s = (⟨#[110, 101, 103]⟩ : ByteArray)
  · exact .inr ⟨_, _, _, by rw [if_pos h3], by rw [if_pos h3], by decide⟩
  rw [if_neg h3, if_neg h3]
  by_cases h4 : s = (⟨#[110, 111, 116]⟩ : ByteArray)
  · exact .inr ⟨_, _, _, by rw [if_pos h4], by rw [if_pos h4], by decide⟩
  rw [if_neg h4, if_neg h4]
  by_cases h5 : s = (⟨#[97, 116]⟩ : ByteArray)
  · exact .inr ⟨_, _, _, by rw [if_pos h5], by rw [if_pos h5], by decide⟩
  rw [if_neg h5, if_neg h5]
  by_cases g1 : s = (⟨#[43]⟩ : ByteArray)
  · exact .inr ⟨_, _, _, by rw [if_pos g1], by rw [if_pos g1], by decide⟩
  rw [if_neg g1, if_neg g1]
  by_cases g2 : s = (⟨#[45]⟩ : ByteArray)
  · exact .inr ⟨_, _, _, by rw [if_pos g2], by rw [if_pos g2], by decide⟩
  rw [if_neg g2, if_neg g2]
  by_cases g3 : s = (⟨#[42]⟩ : ByteArray)
  · exact .inr ⟨_, _, _, by rw [if_pos g3], by rw [if_pos g3], by decide⟩
  rw [if_neg g3, if_neg g3]
  by_cases g4 : s = (⟨#[47]⟩ : ByteArray)
  · exact .inr ⟨_, _, _, by rw [if_pos g4], by rw [if_pos g4], by decide⟩
  rw [if_neg g4, if_neg g4]
  by_cases k1 : s = (⟨#[60]⟩ : ByteArray)
  · exact .inr ⟨_, _, _, by rw [if_pos k1], by rw [if_pos k1], by decide⟩
  rw [if_neg k1, if_neg k1]
  by_cases k2 : s = (⟨#[60, 61]⟩ : ByteArray)
  · exact .inr ⟨_, _, _, by rw [if_pos k2], by rw [if_pos k2], by decide⟩
  rw [if_neg k2, if_neg k2]
  by_cases k3 : s = (⟨#[62]⟩ : ByteArray)
  · exact .inr ⟨_, _, _, by rw [if_pos k3], by rw [if_pos k3], by decide⟩
  rw [if_neg k3, if_neg k3]
  by_cases k4 : s = (⟨#[62, 61]⟩ : ByteArray)
  · exact .inr ⟨_, _, _, by rw [if_pos k4], by rw [if_pos k4], by decide⟩
  rw [if_neg k4, if_neg k4]
  by_cases b1 : s = (⟨#[38, 38]⟩ : ByteArray)
  · exact .inr ⟨_, _, _, by rw [if_pos b1], by rw [if_pos b1], by decide⟩
  rw [if_neg b1, if_neg b1]
  by_cases b2 : s = (⟨#[124, 124]⟩ : ByteArray)
  · exact .inr ⟨_, _, _, by rw [if_pos b2], by rw [if_pos b2], by decide⟩
  rw [if_neg b2, if_neg b2]
  exact .inl ⟨rfl, rfl⟩
@[simp] def joinedFs : List FuncId := namedFs ++ [53, 184, 142]
def joinedR (p : Pg) (e : Ex) (l : List ByteArray) (σ : Sto) : Option (PV × Sto) := some (.tup [str (joinedF p e.opB e.nm e.num l).1, int (joinedF p e.opB e.nm e.num l).2], σ)
structure JoinK (L : Lib) (p : Pg) (e : Ex) (l : List ByteArray) : Prop where
  hl : Free L joinedFs
  hr : ∀ bx gr, callE (EV Tryz.prog L) 184 [] ⟨bx, gr⟩ = some (.mp bx.length, ⟨bx ++ [.map (strM ruleM)], gr⟩)
  hnm : ∀ σ, callE (EV Tryz.prog L) 185 [.agg (pgC p), .agg (exC e)] σ = some (.tup [str (namedF p e.opB e.nm).1, int (namedF p e.opB e.nm).2], σ)
  hq : ∀ (l1 : List ByteArray) (t1 : Tag) (h1 : l1.length < 274877906944) (σ : Sto), callE (EV Tryz.prog L) 53 [.sl (l1.map strR) t1, .sl (l.map strR) .unk] σ = some (boo (decide (l1 = l)), σ)
  hk : ∀ x0 x1 gr, lookupE Tryz.prog ⟨[x0, x1, .map (strM ruleM)], gr⟩ 245 (.mp 2) (str e.opB) true = some (match lookS e.opB ruleM with | some v => .tup [v, boo true] | none => .tup [.agg [.sl [] .full, str ⟨#[]⟩], boo false])
theorem idx20 (x y : FV) : idx 1 [[x], [y]] 0 = some (.el [x] 0) := rfl
theorem idx21 (x y : FV) : idx 1 [[x], [y]] 1 = some (.el [y] 0) := rfl
theorem gather_nil (bx : List Bx) : gather bx 64 [] [] = [] := rfl
theorem newB_one : newB 2 3 = [2] := by decide
set_option maxHeartbeats 4000000 in
theorem joined_num (p : Pg) (e : Ex) (l : List ByteArray) (hlen : l.length < 274877906944) (h : JoinK L p e l) (ho : e.opB = (⟨#[110, 117, 109]⟩ : ByteArray)) : callE (EV Tryz.prog L) 142 [.agg (pgC p), .agg (exC e), .sl (l.map strR) .unk] σ = joinedR p e l σ := by
  obtain ⟨hl, hr, hnm, hq, hk⟩ := h
  have hlk : lookS e.opB ruleM = none := by rw [ho]; rfl
  rw [hlk] at hk
  unfold joinedR
  simp only [exC_l, ho] at hk hnm ⊢
  have hrf : ruleF (⟨#[110, 117, 109]⟩ : ByteArray) = none := by decide
  have n1 : ¬ (⟨#[110, 117, 109]⟩ : ByteArray) = (⟨#[110, 97, 109, 101]⟩ : ByteArray) := by decide
  have n2 : ¬ (⟨#[110, 117, 109]⟩ : ByteArray) = (⟨#[97, 116]⟩ : ByteArray) := by decide
  have n3 : ¬ (⟨#[110, 117, 109]⟩ : ByteArray) = (⟨#[61, 61]⟩ : ByteArray) := by decide
  have n4 : ¬ (⟨#[110, 117, 109]⟩ : ByteArray) = (⟨#[33, 61]⟩ : ByteArray) := by decide
  by_cases hc : e.nm = ⟨#[]⟩
  · cases l with
    | nil =>
      by_cases hc2 : e.num < 0
      · have e0 : joinedF p (⟨#[110, 117, 109]⟩ : ByteArray) e.nm e.num [] = (⟨#[]⟩, 142) := by simp [joinedF, hc, hc2, hasN]
        rw [e0]
        refine call_fn (ids := [1]) (hl _ (by simp)) Tryz.func142 Tryz.ntmps142 Tryz.results142 (by simp) rfl rfl ⟨_, rfl, by kernel_rfl, ?_⟩
        simp (maxSteps := 1000000) (contextual := true) (implicitDefEqProofs := false) [-decide_eq_true_eq, -decide_eq_false_iff_not, -Bool.not_and, -Bool.not_or, -Bool.and_eq_false_imp, -Int.natCast_add, -setAt, -List.map_take, setAt_eq, pgC, gather_nil, newB_one, hr, hk, hc, hc2]
        decide
      · by_cases hc3 : 1152921504606846976 < e.num
        · have e0 : joinedF p (⟨#[110, 117, 109]⟩ : ByteArray) e.nm e.num [] = (⟨#[]⟩, 142) := by simp [joinedF, hc, hc3, hasN]
          rw [e0]
          refine call_fn (ids := [1]) (hl _ (by simp)) Tryz.func142 Tryz.ntmps142 Tryz.results142 (by simp) rfl rfl ⟨_, rfl, by kernel_rfl, ?_⟩
          simp (maxSteps := 1000000) (contextual := true) (implicitDefEqProofs := false) [-decide_eq_true_eq, -decide_eq_false_iff_not, -Bool.not_and, -Bool.not_or, -Bool.and_eq_false_imp, -Int.natCast_add, -setAt, -List.map_take, setAt_eq, pgC, gather_nil, newB_one, hr, hk, hc, hc2, hc3]
          decide
        · have e0 : joinedF p (⟨#[110, 117, 109]⟩ : ByteArray) e.nm e.num [] = ((⟨#[105, 110, 116]⟩ : ByteArray), 0) := by unfold joinedF; rw [if_neg (by simp [hc, hasN]), if_pos ⟨rfl, rfl⟩, if_neg (by omega)]
          rw [e0]
          refine call_fn (ids := [1]) (hl _ (by simp)) Tryz.func142 Tryz.ntmps142 Tryz.results142 (by simp) rfl rfl ⟨_, rfl, by kernel_rfl, ?_⟩
          simp (maxSteps := 1000000) (contextual := true) (implicitDefEqProofs := false) [-decide_eq_true_eq, -decide_eq_false_iff_not, -Bool.not_and, -Bool.not_or, -Bool.and_eq_false_imp, -Int.natCast_add, -setAt, -List.map_take, setAt_eq, pgC, gather_nil, newB_one, hr, hk, hc, hc2, hc3]
          decide
    | cons x xs =>
      have e0 : joinedF p (⟨#[110, 117, 109]⟩ : ByteArray) e.nm e.num (x :: xs) = (⟨#[]⟩, 141) := by simp [joinedF, hc, hasN, hrf, n1, n3, n4]
      rw [e0]
      have hd : decide (((xs.length + 1 : Nat) : Int) = 0) = false := by simp; omega
      refine call_fn (ids := [1]) (hl _ (by simp)) Tryz.func142 Tryz.ntmps142 Tryz.results142 (by simp) rfl rfl ⟨_, rfl, by kernel_rfl, ?_⟩
      simp (maxSteps := 1000000) (contextual := true) (implicitDefEqProofs := false) [-decide_eq_true_eq, -decide_eq_false_iff_not, -Bool.not_and, -Bool.not_or, -Bool.and_eq_false_imp, -Int.natCast_add, -setAt, -List.map_take, setAt_eq, pgC, gather_nil, newB_one, hr, hk, hc, hd]
      decide
  · have e0 : joinedF p (⟨#[110, 117, 109]⟩ : ByteArray) e.nm e.num l = (⟨#[]⟩, 141) := by simp [joinedF, hc, hasN, n1, n2]
    rw [e0]
    refine call_fn (ids := [1]) (hl _ (by simp)) Tryz.func142 Tryz.ntmps142 Tryz.results142 (by simp) rfl rfl ⟨_, rfl, by kernel_rfl, ?_⟩
    simp (maxSteps := 1000000) (contextual := true) (implicitDefEqProofs := false) [-decide_eq_true_eq, -decide_eq_false_iff_not, -Bool.not_and, -Bool.not_or, -Bool.and_eq_false_imp, -Int.natCast_add, -setAt, -List.map_take, setAt_eq, pgC, gather_nil, newB_one, hr, hk, hc]
    decide
set_option maxHeartbeats 4000000 in
theorem joined_name (p : Pg) (e : Ex) (l : List ByteArray) (hlen : l.length < 274877906944) (h : JoinK L p e l) (ho : e.opB = (⟨#[110, 97, 109, 101]⟩ : ByteArray)) : callE (EV Tryz.prog L) 142 [.agg (pgC p), .agg (exC e), .sl (l.map strR) .unk] σ = joinedR p e l σ := by
  obtain ⟨hl, hr, hnm, hq, hk⟩ := h
  have hlk : lookS e.opB ruleM = none := by rw [ho]; rfl
  rw [hlk] at hk
  unfold joinedR
  simp only [exC_l, ho, pgC] at hk hnm ⊢
  have hrf : ruleF (⟨#[110, 97, 109, 101]⟩ : ByteArray) = none := by decide
  have n1 : ¬ (⟨#[110, 97, 109, 101]⟩ : ByteArray) = (⟨#[110, 117, 109]⟩ : ByteArray) := by decide
  have n2 : ¬ (⟨#[110, 97, 109, 101]⟩ : ByteArray) = (⟨#[97, 116]⟩ : ByteArray) := by decide
  have n3 : ¬ (⟨#[110, 97, 109, 101]⟩ : ByteArray) = (⟨#[61, 61]⟩ : ByteArray) := by decide
  have n4 : ¬ (⟨#[110, 97, 109, 101]⟩ : ByteArray) = (⟨#[33, 61]⟩ : ByteArray) := by decide
  by_cases hc : e.num = 0
  · cases l with
    | nil =>
      have e0 : joinedF p (⟨#[110, 97, 109, 101]⟩ : ByteArray) e.nm e.num [] = namedF p (⟨#[110, 97, 109, 101]⟩ : ByteArray) e.nm := by unfold joinedF; rw [if_neg (by simp [hc, hasN]), if_neg (by simp [n1]), if_pos ⟨rfl, rfl⟩]
      rw [e0]
      simp only [hc] at hnm
      refine call_fn (ids := [1]) (hl _ (by simp)) Tryz.func142 Tryz.ntmps142 Tryz.results142 (by simp) rfl rfl ⟨_, rfl, by kernel_rfl, ?_⟩
      simp (maxSteps := 1000000) (contextual := true) (implicitDefEqProofs := false) [-decide_eq_true_eq, -decide_eq_false_iff_not, -Bool.not_and, -Bool.not_or, -Bool.and_eq_false_imp, -Int.natCast_add, -setAt, -List.map_take, setAt_eq, gather_nil, newB_one, hr, hk, hc, hnm]
      decide
    | cons x xs =>
      have e0 : joinedF p (⟨#[110, 97, 109, 101]⟩ : ByteArray) e.nm e.num (x :: xs) = (⟨#[]⟩, 141) := by simp [joinedF, hc, hasN, hrf, n1, n3, n4]
      rw [e0]
      have hd : decide (((xs.length + 1 : Nat) : Int) = 0) = false := by simp; omega
      refine call_fn (ids := [1]) (hl _ (by simp)) Tryz.func142 Tryz.ntmps142 Tryz.results142 (by simp) rfl rfl ⟨_, rfl, by kernel_rfl, ?_⟩
      simp (maxSteps := 1000000) (contextual := true) (implicitDefEqProofs := false) [-decide_eq_true_eq, -decide_eq_false_iff_not, -Bool.not_and, -Bool.not_or, -Bool.and_eq_false_imp, -Int.natCast_add, -setAt, -List.map_take, setAt_eq, gather_nil, newB_one, hr, hk, hc, hd]
      decide
  · have e0 : joinedF p (⟨#[110, 97, 109, 101]⟩ : ByteArray) e.nm e.num l = (⟨#[]⟩, 141) := by simp [joinedF, hc, hasN, n1, n2]
    rw [e0]
    by_cases hq : e.nm = ⟨#[]⟩
    · refine call_fn (ids := [1]) (hl _ (by simp)) Tryz.func142 Tryz.ntmps142 Tryz.results142 (by simp) rfl rfl ⟨_, rfl, by kernel_rfl, ?_⟩
      simp (maxSteps := 1000000) (contextual := true) (implicitDefEqProofs := false) [-decide_eq_true_eq, -decide_eq_false_iff_not, -Bool.not_and, -Bool.not_or, -Bool.and_eq_false_imp, -Int.natCast_add, -setAt, -List.map_take, setAt_eq, gather_nil, newB_one, hr, hk, hc, hq]
      decide
    · refine call_fn (ids := [1]) (hl _ (by simp)) Tryz.func142 Tryz.ntmps142 Tryz.results142 (by simp) rfl rfl ⟨_, rfl, by kernel_rfl, ?_⟩
      simp (maxSteps := 1000000) (contextual := true) (implicitDefEqProofs := false) [-decide_eq_true_eq, -decide_eq_false_iff_not, -Bool.not_and, -Bool.not_or, -Bool.and_eq_false_imp, -Int.natCast_add, -setAt, -List.map_take, setAt_eq, gather_nil, newB_one, hr, hk, hc, hq]
      decide
set_option maxHeartbeats 4000000 in
theorem joined_at (p : Pg) (e : Ex) (l : List ByteArray) (hlen : l.length < 274877906944) (h : JoinK L p e l) (ho : e.opB = (⟨#[97, 116]⟩ : ByteArray)) : callE (EV Tryz.prog L) 142 [.agg (pgC p), .agg (exC e), .sl (l.map strR) .unk] σ = joinedR p e l σ := by
  obtain ⟨hl, hr, hnm, hq, hk⟩ := h
  have hlk : lookS e.opB ruleM = some (ruleV .unk [(⟨#[105, 110, 116]⟩ : ByteArray)] (⟨#[105, 110, 116]⟩ : ByteArray)) := by rw [ho]; rfl
  rw [hlk] at hk
  have hq1 := hq [(⟨#[105, 110, 116]⟩ : ByteArray)] .unk (by decide)
  unfold joinedR
  simp only [exC_l, ho, pgC] at hk hnm ⊢
  have hrf : ruleF (⟨#[97, 116]⟩ : ByteArray) = some ([(⟨#[105, 110, 116]⟩ : ByteArray)], (⟨#[105, 110, 116]⟩ : ByteArray)) := by decide
  have n1 : ¬ (⟨#[97, 116]⟩ : ByteArray) = (⟨#[110, 117, 109]⟩ : ByteArray) := by decide
  have n2 : ¬ (⟨#[97, 116]⟩ : ByteArray) = (⟨#[110, 97, 109, 101]⟩ : ByteArray) := by decide
  have n3 : ¬ (⟨#[97, 116]⟩ : ByteArray) = (⟨#[61, 61]⟩ : ByteArray) := by decide
  have n4 : ¬ (⟨#[97, 116]⟩ : ByteArray) = (⟨#[33, 61]⟩ : ByteArray) := by decide
  by_cases hc : e.num = 0
  · by_cases hli : [(⟨#[105, 110, 116]⟩ : ByteArray)] = l
    · have e0 : joinedF p (⟨#[97, 116]⟩ : ByteArray) e.nm e.num l = namedF p (⟨#[97, 116]⟩ : ByteArray) e.nm := by simp [joinedF, hc, hasN, hrf, n1, n2, n3, n4, hli]
      rw [e0]
      subst hli
      simp only [hc] at hnm
      simp only [List.map_cons, List.map_nil, strR] at hq1
      by_cases hq : e.nm = ⟨#[]⟩
      · simp only [hq] at hnm ⊢
        refine call_fn (ids := [1]) (hl _ (by simp)) Tryz.func142 Tryz.ntmps142 Tryz.results142 (by simp) rfl rfl ⟨_, rfl, by kernel_rfl, ?_⟩
        simp (maxSteps := 1000000) (contextual := true) (implicitDefEqProofs := false) [-decide_eq_true_eq, -decide_eq_false_iff_not, -Bool.not_and, -Bool.not_or, -Bool.and_eq_false_imp, -Int.natCast_add, -setAt, -List.map_take, setAt_eq, gather_nil, newB_one, hr, hk, hc, hnm, ruleV, hq1, strR, hq]
        decide
      · refine call_fn (ids := [1]) (hl _ (by simp)) Tryz.func142 Tryz.ntmps142 Tryz.results142 (by simp) rfl rfl ⟨_, rfl, by kernel_rfl, ?_⟩
        simp (maxSteps := 1000000) (contextual := true) (implicitDefEqProofs := false) [-decide_eq_true_eq, -decide_eq_false_iff_not, -Bool.not_and, -Bool.not_or, -Bool.and_eq_false_imp, -Int.natCast_add, -setAt, -List.map_take, setAt_eq, gather_nil, newB_one, hr, hk, hc, hnm, ruleV, hq1, strR, hq]
        decide
    · have e0 : joinedF p (⟨#[97, 116]⟩ : ByteArray) e.nm e.num l = (⟨#[]⟩, 141) := by simp [joinedF, hc, hasN, hrf, n1, n2, n3, n4, hli]
      rw [e0]
      simp only [List.map_cons, List.map_nil, strR] at hq1
      by_cases hq : e.nm = ⟨#[]⟩
      · refine call_fn (ids := [1]) (hl _ (by simp)) Tryz.func142 Tryz.ntmps142 Tryz.results142 (by simp) rfl rfl ⟨_, rfl, by kernel_rfl, ?_⟩
        simp (maxSteps := 1000000) (contextual := true) (implicitDefEqProofs := false) [-decide_eq_true_eq, -decide_eq_false_iff_not, -Bool.not_and, -Bool.not_or, -Bool.and_eq_false_imp, -Int.natCast_add, -setAt, -List.map_take, setAt_eq, gather_nil, newB_one, hr, hk, hc, ruleV, hq1, hli, hq, strR]
        decide
      · refine call_fn (ids := [1]) (hl _ (by simp)) Tryz.func142 Tryz.ntmps142 Tryz.results142 (by simp) rfl rfl ⟨_, rfl, by kernel_rfl, ?_⟩
        simp (maxSteps := 1000000) (contextual := true) (implicitDefEqProofs := false) [-decide_eq_true_eq, -decide_eq_false_iff_not, -Bool.not_and, -Bool.not_or, -Bool.and_eq_false_imp, -Int.natCast_add, -setAt, -List.map_take, setAt_eq, gather_nil, newB_one, hr, hk, hc, ruleV, hq1, hli, hq, strR]
        decide
  · have e0 : joinedF p (⟨#[97, 116]⟩ : ByteArray) e.nm e.num l = (⟨#[]⟩, 141) := by simp [joinedF, hc, hasN, n1, n2]
    rw [e0]
    by_cases hq : e.nm = ⟨#[]⟩
    · refine call_fn (ids := [1]) (hl _ (by simp)) Tryz.func142 Tryz.ntmps142 Tryz.results142 (by simp) rfl rfl ⟨_, rfl, by kernel_rfl, ?_⟩
      simp (maxSteps := 1000000) (contextual := true) (implicitDefEqProofs := false) [-decide_eq_true_eq, -decide_eq_false_iff_not, -Bool.not_and, -Bool.not_or, -Bool.and_eq_false_imp, -Int.natCast_add, -setAt, -List.map_take, setAt_eq, gather_nil, newB_one, hr, hk, hc, hq, ruleV]
      decide
    · refine call_fn (ids := [1]) (hl _ (by simp)) Tryz.func142 Tryz.ntmps142 Tryz.results142 (by simp) rfl rfl ⟨_, rfl, by kernel_rfl, ?_⟩
      simp (maxSteps := 1000000) (contextual := true) (implicitDefEqProofs := false) [-decide_eq_true_eq, -decide_eq_false_iff_not, -Bool.not_and, -Bool.not_or, -Bool.and_eq_false_imp, -Int.natCast_add, -setAt, -List.map_take, setAt_eq, gather_nil, newB_one, hr, hk, hc, hq, ruleV]
      decide
set_option maxHeartbeats 8000000 in
theorem joined_eq (p : Pg) (e : Ex) (l : List ByteArray) (hlen : l.length < 274877906944) (h : JoinK L p e l) (ho : e.opB = (⟨#[61, 61]⟩ : ByteArray) ∨ e.opB = (⟨#[33, 61]⟩ : ByteArray)) : callE (EV Tryz.prog L) 142 [.agg (pgC p), .agg (exC e), .sl (l.map strR) .unk] σ = joinedR p e l σ := by
  obtain ⟨hl, hr, hnm, hq, hk⟩ := h
  have hlk : lookS e.opB ruleM = none := by rcases ho with ho | ho <;> (rw [ho]; rfl)
  rw [hlk] at hk
  unfold joinedR
  have hrf : ruleF e.opB = none := by rcases ho with ho | ho <;> (rw [ho]; decide)
  have n1 : ¬ e.opB = (⟨#[110, 117, 109]⟩ : ByteArray) := by rcases ho with ho | ho <;> (rw [ho]; decide)
  have n2 : ¬ e.opB = (⟨#[110, 97, 109, 101]⟩ : ByteArray) := by rcases ho with ho | ho <;> (rw [ho]; decide)
  have n3 : ¬ e.opB = (⟨#[97, 116]⟩ : ByteArray) := by rcases ho with ho | ho <;> (rw [ho]; decide)
  have n4 : (e.opB = (⟨#[61, 61]⟩ : ByteArray) ∨ e.opB = (⟨#[33, 61]⟩ : ByteArray)) ↔ True := ⟨fun _ => trivial, fun _ => ho⟩
  have hb : (decide (e.opB = (⟨#[61, 61]⟩ : ByteArray)) = true) ∨ (decide (e.opB = (⟨#[61, 61]⟩ : ByteArray)) = false ∧ decide (e.opB = (⟨#[33, 61]⟩ : ByteArray)) = true) := by
    rcases ho with ho | ho
    · exact .inl (by simp [ho])
    · exact .inr (by rw [ho]; decide)
  simp only [exC_l, pgC] at hk ⊢
  by_cases hc : e.nm = ⟨#[]⟩
  · by_cases hc2 : e.num = 0
    · by_cases hp : pairF l = true
      · have e0 : joinedF p e.opB e.nm e.num l = ((⟨#[98, 111, 111, 108]⟩ : ByteArray), 0) := by simp [joinedF, hc, hc2, n1, n2, n4, hp]
        rw [e0]
        obtain ⟨a, rfl, ha⟩ : ∃ a, l = [a, a] ∧ a ≠ (⟨#[98, 111, 111, 108]⟩ : ByteArray) := by
          unfold pairF at hp
          split at hp
          · simp only [Bool.and_eq_true, decide_eq_true_eq, Bool.not_eq_true', decide_eq_false_iff_not] at hp
            obtain ⟨rfl, h2⟩ := hp
            exact ⟨_, rfl, h2⟩
          · cases hp
        rcases hb with hb | ⟨hb, hb2⟩
        · refine call_fn (ids := [1]) (hl _ (by simp)) Tryz.func142 Tryz.ntmps142 Tryz.results142 (by simp) rfl rfl ⟨_, rfl, by kernel_rfl, ?_⟩
          simp (maxSteps := 1000000) (contextual := true) (implicitDefEqProofs := false) [-decide_eq_true_eq, -decide_eq_false_iff_not, -Bool.not_and, -Bool.not_or, -Bool.and_eq_false_imp, -Int.natCast_add, -setAt, -List.map_take, setAt_eq, idx20, idx21, gather_nil, newB_one, hr, hk, hc, hc2, hb, n1, n2, n3, ha, strR]
          decide
        · refine call_fn (ids := [1]) (hl _ (by simp)) Tryz.func142 Tryz.ntmps142 Tryz.results142 (by simp) rfl rfl ⟨_, rfl, by kernel_rfl, ?_⟩
          simp (maxSteps := 1000000) (contextual := true) (implicitDefEqProofs := false) [-decide_eq_true_eq, -decide_eq_false_iff_not, -Bool.not_and, -Bool.not_or, -Bool.and_eq_false_imp, -Int.natCast_add, -setAt, -List.map_take, setAt_eq, idx20, idx21, gather_nil, newB_one, hr, hk, hc, hc2, hb, hb2, n1, n2, n3, ha, strR]
          decide
      · have e0 : joinedF p e.opB e.nm e.num l = (⟨#[]⟩, 141) := by simp [joinedF, hc, hc2, n1, n2, n4, hp, hrf]
        rw [e0]
        match l, hp, hlen with
        | [], _, _ =>
          rcases hb with hb | ⟨hb, hb2⟩
          · refine call_fn (ids := [1]) (hl _ (by simp)) Tryz.func142 Tryz.ntmps142 Tryz.results142 (by simp) rfl rfl ⟨_, rfl, by kernel_rfl, ?_⟩
            simp (maxSteps := 1000000) (contextual := true) (implicitDefEqProofs := false) [-decide_eq_true_eq, -decide_eq_false_iff_not, -Bool.not_and, -Bool.not_or, -Bool.and_eq_false_imp, -Int.natCast_add, -setAt, -List.map_take, setAt_eq, idx20, idx21, gather_nil, newB_one, hr, hk, hc, hc2, hb, n1, n2, n3, strR]
            decide
          · refine call_fn (ids := [1]) (hl _ (by simp)) Tryz.func142 Tryz.ntmps142 Tryz.results142 (by simp) rfl rfl ⟨_, rfl, by kernel_rfl, ?_⟩
            simp (maxSteps := 1000000) (contextual := true) (implicitDefEqProofs := false) [-decide_eq_true_eq, -decide_eq_false_iff_not, -Bool.not_and, -Bool.not_or, -Bool.and_eq_false_imp, -Int.natCast_add, -setAt, -List.map_take, setAt_eq, idx20, idx21, gather_nil, newB_one, hr, hk, hc, hc2, hb, hb2, n1, n2, n3, strR]
            decide
        | [x], _, _ =>
          rcases hb with hb | ⟨hb, hb2⟩
          · refine call_fn (ids := [1]) (hl _ (by simp)) Tryz.func142 Tryz.ntmps142 Tryz.results142 (by simp) rfl rfl ⟨_, rfl, by kernel_rfl, ?_⟩
            simp (maxSteps := 1000000) (contextual := true) (implicitDefEqProofs := false) [-decide_eq_true_eq, -decide_eq_false_iff_not, -Bool.not_and, -Bool.not_or, -Bool.and_eq_false_imp, -Int.natCast_add, -setAt, -List.map_take, setAt_eq, idx20, idx21, gather_nil, newB_one, hr, hk, hc, hc2, hb, n1, n2, n3, strR]
            decide
          · refine call_fn (ids := [1]) (hl _ (by simp)) Tryz.func142 Tryz.ntmps142 Tryz.results142 (by simp) rfl rfl ⟨_, rfl, by kernel_rfl, ?_⟩
            simp (maxSteps := 1000000) (contextual := true) (implicitDefEqProofs := false) [-decide_eq_true_eq, -decide_eq_false_iff_not, -Bool.not_and, -Bool.not_or, -Bool.and_eq_false_imp, -Int.natCast_add, -setAt, -List.map_take, setAt_eq, idx20, idx21, gather_nil, newB_one, hr, hk, hc, hc2, hb, hb2, n1, n2, n3, strR]
            decide
        | [x, y], hp, _ =>
          by_cases hxy : x = y
          · subst hxy
            have hx : x = (⟨#[98, 111, 111, 108]⟩ : ByteArray) := by
              apply Classical.byContradiction
              intro hx; exact hp (by simp [pairF, hx])
            rcases hb with hb | ⟨hb, hb2⟩
            · refine call_fn (ids := [1]) (hl _ (by simp)) Tryz.func142 Tryz.ntmps142 Tryz.results142 (by simp) rfl rfl ⟨_, rfl, by kernel_rfl, ?_⟩
              simp (maxSteps := 1000000) (contextual := true) (implicitDefEqProofs := false) [-decide_eq_true_eq, -decide_eq_false_iff_not, -Bool.not_and, -Bool.not_or, -Bool.and_eq_false_imp, -Int.natCast_add, -setAt, -List.map_take, setAt_eq, idx20, idx21, gather_nil, newB_one, hr, hk, hc, hc2, hb, n1, n2, n3, strR, hx]
              decide
            · refine call_fn (ids := [1]) (hl _ (by simp)) Tryz.func142 Tryz.ntmps142 Tryz.results142 (by simp) rfl rfl ⟨_, rfl, by kernel_rfl, ?_⟩
              simp (maxSteps := 1000000) (contextual := true) (implicitDefEqProofs := false) [-decide_eq_true_eq, -decide_eq_false_iff_not, -Bool.not_and, -Bool.not_or, -Bool.and_eq_false_imp, -Int.natCast_add, -setAt, -List.map_take, setAt_eq, idx20, idx21, gather_nil, newB_one, hr, hk, hc, hc2, hb, hb2, n1, n2, n3, strR, hx]
              decide
          · rcases hb with hb | ⟨hb, hb2⟩
            · refine call_fn (ids := [1]) (hl _ (by simp)) Tryz.func142 Tryz.ntmps142 Tryz.results142 (by simp) rfl rfl ⟨_, rfl, by kernel_rfl, ?_⟩
              simp (maxSteps := 1000000) (contextual := true) (implicitDefEqProofs := false) [-decide_eq_true_eq, -decide_eq_false_iff_not, -Bool.not_and, -Bool.not_or, -Bool.and_eq_false_imp, -Int.natCast_add, -setAt, -List.map_take, setAt_eq, idx20, idx21, gather_nil, newB_one, hr, hk, hc, hc2, hb, n1, n2, n3, strR, hxy]
              decide
            · refine call_fn (ids := [1]) (hl _ (by simp)) Tryz.func142 Tryz.ntmps142 Tryz.results142 (by simp) rfl rfl ⟨_, rfl, by kernel_rfl, ?_⟩
              simp (maxSteps := 1000000) (contextual := true) (implicitDefEqProofs := false) [-decide_eq_true_eq, -decide_eq_false_iff_not, -Bool.not_and, -Bool.not_or, -Bool.and_eq_false_imp, -Int.natCast_add, -setAt, -List.map_take, setAt_eq, idx20, idx21, gather_nil, newB_one, hr, hk, hc, hc2, hb, hb2, n1, n2, n3, strR, hxy]
              decide
        | x :: y :: z :: r, _, hlen =>
          have hd : decide (((r.length + 1 + 1 + 1 : Nat) : Int) = 2) = false := by simp; omega
          rcases hb with hb | ⟨hb, hb2⟩
          · refine call_fn (ids := [1]) (hl _ (by simp)) Tryz.func142 Tryz.ntmps142 Tryz.results142 (by simp) rfl rfl ⟨_, rfl, by kernel_rfl, ?_⟩
            simp (maxSteps := 1000000) (contextual := true) (implicitDefEqProofs := false) [-decide_eq_true_eq, -decide_eq_false_iff_not, -Bool.not_and, -Bool.not_or, -Bool.and_eq_false_imp, -Int.natCast_add, -setAt, -List.map_take, setAt_eq, idx20, idx21, gather_nil, newB_one, hr, hk, hc, hc2, hb, n1, n2, n3, strR, hd]
            decide
          · refine call_fn (ids := [1]) (hl _ (by simp)) Tryz.func142 Tryz.ntmps142 Tryz.results142 (by simp) rfl rfl ⟨_, rfl, by kernel_rfl, ?_⟩
            simp (maxSteps := 1000000) (contextual := true) (implicitDefEqProofs := false) [-decide_eq_true_eq, -decide_eq_false_iff_not, -Bool.not_and, -Bool.not_or, -Bool.and_eq_false_imp, -Int.natCast_add, -setAt, -List.map_take, setAt_eq, idx20, idx21, gather_nil, newB_one, hr, hk, hc, hc2, hb, hb2, n1, n2, n3, strR, hd]
            decide
    · have e0 : joinedF p e.opB e.nm e.num l = (⟨#[]⟩, 141) := by simp [joinedF, hc2, n1]
      rw [e0]
      refine call_fn (ids := [1]) (hl _ (by simp)) Tryz.func142 Tryz.ntmps142 Tryz.results142 (by simp) rfl rfl ⟨_, rfl, by kernel_rfl, ?_⟩
      simp (maxSteps := 1000000) (contextual := true) (implicitDefEqProofs := false) [-decide_eq_true_eq, -decide_eq_false_iff_not, -Bool.not_and, -Bool.not_or, -Bool.and_eq_false_imp, -Int.natCast_add, -setAt, -List.map_take, setAt_eq, idx20, idx21, gather_nil, newB_one, hr, hk, hc, hc2, n1, n2, n3]
      decide
  · have e0 : joinedF p e.opB e.nm e.num l = (⟨#[]⟩, 141) := by simp [joinedF, hc, hasN, n2, n3]
    rw [e0]
    refine call_fn (ids := [1]) (hl _ (by simp)) Tryz.func142 Tryz.ntmps142 Tryz.results142 (by simp) rfl rfl ⟨_, rfl, by kernel_rfl, ?_⟩
    simp (maxSteps := 1000000) (contextual := true) (implicitDefEqProofs := false) [-decide_eq_true_eq, -decide_eq_false_iff_not, -Bool.not_and, -Bool.not_or, -Bool.and_eq_false_imp, -Int.natCast_add, -setAt, -List.map_take, setAt_eq, idx20, idx21, gather_nil, newB_one, hr, hk, hc, n1, n2, n3]
    decide
set_option maxHeartbeats 8000000 in
theorem joined_other (p : Pg) (e : Ex) (l : List ByteArray) (hlen : l.length < 274877906944) (h : JoinK L p e l) (n1 : ¬ e.opB = (⟨#[110, 117, 109]⟩ : ByteArray)) (n2 : ¬ e.opB = (⟨#[110, 97, 109, 101]⟩ : ByteArray)) (n3 : ¬ e.opB = (⟨#[97, 116]⟩ : ByteArray)) (n4 : ¬ e.opB = (⟨#[61, 61]⟩ : ByteArray)) (n5 : ¬ e.opB = (⟨#[33, 61]⟩ : ByteArray)) : callE (EV Tryz.prog L) 142 [.agg (pgC p), .agg (exC e), .sl (l.map strR) .unk] σ = joinedR p e l σ := by
  obtain ⟨hl, hr, hnm, hq, hk⟩ := h
  unfold joinedR
  by_cases hc : e.nm = ⟨#[]⟩
  · by_cases hc2 : e.num = 0
    · rcases ruleV_look e.opB with ⟨h1, h2⟩ | ⟨t, l', o, h1, h2, h3⟩
      · have e0 : joinedF p e.opB e.nm e.num l = (⟨#[]⟩, 141) := by simp [joinedF, hc, hc2, n1, n2, n4, n5, h2]
        rw [e0]
        rw [h1] at hk
        simp only [exC_l, pgC] at hk ⊢
        refine call_fn (ids := [1]) (hl _ (by simp)) Tryz.func142 Tryz.ntmps142 Tryz.results142 (by simp) rfl rfl ⟨_, rfl, by kernel_rfl, ?_⟩
        simp (maxSteps := 1000000) (contextual := true) (implicitDefEqProofs := false) [-decide_eq_true_eq, -decide_eq_false_iff_not, -Bool.not_and, -Bool.not_or, -Bool.and_eq_false_imp, -Int.natCast_add, -setAt, -List.map_take, setAt_eq, gather_nil, newB_one, hr, hk, hc, hc2, n1, n2, n3, n4, n5]
        decide
      · rw [h1] at hk
        have hq1 := hq l' t h3
        simp only [exC_l, pgC, ruleV] at hk ⊢
        by_cases hli : l' = l
        · have e0 : joinedF p e.opB e.nm e.num l = (o, 0) := by simp [joinedF, hc, hc2, n1, n2, n3, n4, n5, h2, hli]
          rw [e0]
          subst hli
          refine call_fn (ids := [1]) (hl _ (by simp)) Tryz.func142 Tryz.ntmps142 Tryz.results142 (by simp) rfl rfl ⟨_, rfl, by kernel_rfl, ?_⟩
          simp (maxSteps := 1000000) (contextual := true) (implicitDefEqProofs := false) [-decide_eq_true_eq, -decide_eq_false_iff_not, -Bool.not_and, -Bool.not_or, -Bool.and_eq_false_imp, -Int.natCast_add, -setAt, -List.map_take, setAt_eq, gather_nil, newB_one, hr, hk, hc, hc2, n1, n2, n3, n4, n5, hq1]
          decide
        · have e0 : joinedF p e.opB e.nm e.num l = (⟨#[]⟩, 141) := by simp [joinedF, hc, hc2, n1, n2, n3, n4, n5, h2, hli]
          rw [e0]
          refine call_fn (ids := [1]) (hl _ (by simp)) Tryz.func142 Tryz.ntmps142 Tryz.results142 (by simp) rfl rfl ⟨_, rfl, by kernel_rfl, ?_⟩
          simp (maxSteps := 1000000) (contextual := true) (implicitDefEqProofs := false) [-decide_eq_true_eq, -decide_eq_false_iff_not, -Bool.not_and, -Bool.not_or, -Bool.and_eq_false_imp, -Int.natCast_add, -setAt, -List.map_take, setAt_eq, gather_nil, newB_one, hr, hk, hc, hc2, n1, n2, n3, n4, n5, hq1, hli]
          decide
    · have e0 : joinedF p e.opB e.nm e.num l = (⟨#[]⟩, 141) := by simp [joinedF, hc2, n1]
      rw [e0]
      rcases ruleV_look e.opB with ⟨h1, h2⟩ | ⟨t, l', o, h1, h2, h3⟩
      · rw [h1] at hk
        simp only [exC_l, pgC] at hk ⊢
        refine call_fn (ids := [1]) (hl _ (by simp)) Tryz.func142 Tryz.ntmps142 Tryz.results142 (by simp) rfl rfl ⟨_, rfl, by kernel_rfl, ?_⟩
        simp (maxSteps := 1000000) (contextual := true) (implicitDefEqProofs := false) [-decide_eq_true_eq, -decide_eq_false_iff_not, -Bool.not_and, -Bool.not_or, -Bool.and_eq_false_imp, -Int.natCast_add, -setAt, -List.map_take, setAt_eq, gather_nil, newB_one, hr, hk, hc, hc2, n1, n2, n3]
        decide
      · rw [h1] at hk
        simp only [exC_l, pgC, ruleV] at hk ⊢
        refine call_fn (ids := [1]) (hl _ (by simp)) Tryz.func142 Tryz.ntmps142 Tryz.results142 (by simp) rfl rfl ⟨_, rfl, by kernel_rfl, ?_⟩
        simp (maxSteps := 1000000) (contextual := true) (implicitDefEqProofs := false) [-decide_eq_true_eq, -decide_eq_false_iff_not, -Bool.not_and, -Bool.not_or, -Bool.and_eq_false_imp, -Int.natCast_add, -setAt, -List.map_take, setAt_eq, gather_nil, newB_one, hr, hk, hc, hc2, n1, n2, n3]
        decide
  · have e0 : joinedF p e.opB e.nm e.num l = (⟨#[]⟩, 141) := by simp [joinedF, hc, hasN, n2, n3]
    rw [e0]
    rcases ruleV_look e.opB with ⟨h1, h2⟩ | ⟨t, l', o, h1, h2, h3⟩
    · rw [h1] at hk
      simp only [exC_l, pgC] at hk ⊢
      refine call_fn (ids := [1]) (hl _ (by simp)) Tryz.func142 Tryz.ntmps142 Tryz.results142 (by simp) rfl rfl ⟨_, rfl, by kernel_rfl, ?_⟩
      simp (maxSteps := 1000000) (contextual := true) (implicitDefEqProofs := false) [-decide_eq_true_eq, -decide_eq_false_iff_not, -Bool.not_and, -Bool.not_or, -Bool.and_eq_false_imp, -Int.natCast_add, -setAt, -List.map_take, setAt_eq, gather_nil, newB_one, hr, hk, hc, n1, n2, n3]
      decide
    · rw [h1] at hk
      simp only [exC_l, pgC, ruleV] at hk ⊢
      refine call_fn (ids := [1]) (hl _ (by simp)) Tryz.func142 Tryz.ntmps142 Tryz.results142 (by simp) rfl rfl ⟨_, rfl, by kernel_rfl, ?_⟩
      simp (maxSteps := 1000000) (contextual := true) (implicitDefEqProofs := false) [-decide_eq_true_eq, -decide_eq_false_iff_not, -Bool.not_and, -Bool.not_or, -Bool.and_eq_false_imp, -Int.natCast_add, -setAt, -List.map_take, setAt_eq, gather_nil, newB_one, hr, hk, hc, n1, n2, n3]
      decide
theorem joined_ok (hl : Free L joinedFs) (p : Pg) (hp : smallP p) (e : Ex) (l : List ByteArray) (hn : l.length < 274877906944) (tag : Tag) : ∀ σ, callE (EV Tryz.prog L) 142 [.agg (pgC p), .agg (exC e), .sl (l.map strR) tag] σ = joinedR p e l σ := by
  intro σ
  rw [callE_era (by simp [ptrsL, PV.ptrs, pgC, exC_l])]
  have hee : eraL [.agg (pgC p), .agg (exC e), .sl (l.map strR) tag] = [.agg (pgC p), .agg (exC e), .sl (l.map strR) .unk] := by simp [eraL, PV.era, pgC, exC_l]
  rw [hee]
  have u1 : Tryz.prog.underlying 245 = some (.map 9 243) := by kernel_rfl
  have u2 : Tryz.prog.underlying 9 = some .string := by kernel_rfl
  have u3 : zeroV Tryz.prog 243 = some (.agg [.sl [] .full, str ⟨#[]⟩]) := by kernel_rfl
  have h : JoinK L p e l := ⟨hl, fun bx gr => rules_ok (L := L) (hl _ (by simp)) bx gr, fun σ => named_ok (L := L) (hl.sub (by simp)) p hp e σ, fun l1 t1 h1 σ => equalStr_ok (L := L) (hl _ (by simp)) l1 l t1 .unk h1 hn σ, fun x0 x1 gr => look_str (σ := ⟨[x0, x1, .map (strM ruleM)], gr⟩) (b := 2) (ok := true) u1 u2 u3 rfl⟩
  by_cases h1 : e.opB = (⟨#[110, 117, 109]⟩ : ByteArray)
  · exact joined_num p e l hn h h1
  by_cases h2 : e.opB = (⟨#[110, 97, 109, 101]⟩ : ByteArray)
  · exact joined_name p e l hn h h2
  by_cases h3 : e.opB = (⟨#[97, 116]⟩ : ByteArray)
  · exact joined_at p e l hn h h3
  by_cases h4 : e.opB = (⟨#[61, 61]⟩ : ByteArray)
  · exact joined_eq p e l hn h (.inl h4)
  by_cases h5 : e.opB = (⟨#[33, 61]⟩ : ByteArray)
  · exact joined_eq p e l hn h (.inr h5)
  exact joined_other p e l hn h h1 h2 h3 h4 h5
end Go.Proofs.YtfgoedndpcblpaaGreatDoor.Pv
end
section
namespace Go.Proofs.YtfgoedndpcblpaaGreatDoor.Pv
open Go Go.Proofs Go.Proofs.YtfgoedndpcblpaaGreatDoor.Lx Go.Proofs.YtfgoedndpcblpaaGreatDoor.Ps
set_option linter.unusedSimpArgs false
set_option linter.unusedVariables false
variable {L : Lib} {σ : Sto}
theorem str_snoc {l : List ByteArray} {x : ByteArray} {tag : Tag} {gr : List (Nat × Nat)} (ho : Own 1 gr (l.map strR) tag) (hb : l.length < 274877906944) :
    ∃ tag' gr', (∀ bx, appL 1 16 ⟨bx, gr⟩ (l.map strR) tag [strR x] = some (.sl ((l ++ [x]).map strR) tag', ⟨bx, gr'⟩)) ∧ Own 1 gr' ((l ++ [x]).map strR) tag' ∧ ∀ m' rows' t', m' ≠ 1 → Own m' gr rows' t' → Own m' gr' rows' t' := by
  obtain ⟨tag', gr', h2, h3, h4⟩ := app_own2 (b := 16) (xs := [strR x]) ho (sized_map strR_len) (by simp [sized, strR]) (by simp; omega) (by simp)
  rw [List.map_append]
  exact ⟨tag', gr', h2, h3, h4⟩
theorem typeF_l (p : Pg) (e : Ex) : typeF p e = if (typesF p e.l).2.2 = 0 then (if (joinedF p e.opB e.nm e.num (typesF p e.l).1).2 = 0 then ((joinedF p e.opB e.nm e.num (typesF p e.l).1).1, 0, 0) else (⟨#[]⟩, e.pos, (joinedF p e.opB e.nm e.num (typesF p e.l).1).2)) else (⟨#[]⟩, (typesF p e.l).2.1, (typesF p e.l).2.2) := by
  cases e; simp only [typeF]; rfl
@[simp] def typeFs : List FuncId := joinedFs ++ [66]
set_option maxHeartbeats 2000000 in
theorem Type_ok (hl : Free L typeFs) (p : Pg) (hp : smallP p) : ∀ (n : Nat) (e : Ex), exN e < n → n < 274877906944 → ∀ σ, callE (EV Tryz.prog L) 66 [.agg (pgC p), .agg (exC e)] σ = some (.tup [str (typeF p e).1, int (typeF p e).2.1, int (typeF p e).2.2], σ) := by
  intro n
  induction n with
  | zero => intro e h; omega
  | succ n ih =>
    intro e h hn σ
    rw [exN_l] at h
    have hlen := exs_len e.l
    have hj := fun (l : List ByteArray) (h : l.length < 274877906944) (t : Tag) (σ : Sto) => joined_ok (L := L) (hl.sub (by simp)) p hp e l h t σ
    simp only [exC_l, pgC, joinedR] at hj ⊢
    refine call_fn (ids := []) (hl _ (by simp)) Tryz.func66 Tryz.ntmps66 Tryz.results66 (by simp) rfl rfl ⟨_, rfl, by kernel_rfl, ?_⟩
    simp (maxSteps := 1000000) (contextual := true) (implicitDefEqProofs := false) [-decide_eq_true_eq, -decide_eq_false_iff_not, -Bool.not_and, -Bool.not_or, -Bool.and_eq_false_imp, -Int.natCast_add, -setAt, -List.map_take, setAt_eq]
    refine WP.each e.l (fun rest i s' => ∃ (tl : List ByteArray) (tag : Tag) (gr : List (Nat × Nat)) (junk : List Bx), s'.sto = ⟨.cells (pgC p) :: .cells (exC e) :: junk, gr⟩ ∧ Own 1 gr (tl.map strR) tag ∧ tl.length = i ∧ typesF p e.l = (tl ++ (typesF p rest).1, (typesF p rest).2.1, (typesF p rest).2.2) ∧ s'.env 2 = .ptr 0 0 ∧ s'.env 3 = .ptr 1 0 ∧ s'.env 7 = .sl (tl.map strR) tag ∧ s'.env 16 = .sl (e.l.map exR) .unk ∧ s'.env 17 = int e.l.length ∧ s'.env 18 = int i) ⟨[], .full, [], [], by simp [pgC, exC_l], .nil, rfl, rfl, by simp, by simp, by simp, by simp, by simp, by simp⟩ ?_ ?_
    · rintro x xs i ⟨env, τ⟩ hx hi hxs ⟨tl, tag, gr, junk, h1, ho, htl, hts, h2, h3, h4, h5, h6, h7⟩
      simp only at h1 h2 h3 h4 h5 h6 h7
      subst h1
      have hix := row_idx (R := exR) hx (exR_len x)
      have hlt : decide (i < e.l.length) = true := by simp [hi]
      have hm := exs_mem e.l x (List.mem_of_getElem? hx)
      have hI := fun σ => ih x (by omega) (by omega) σ
      obtain ⟨tag', gr', ha, ho', _⟩ := str_snoc (x := (typeF p x).1) ho (by omega)
      simp only [exC_l, pgC] at hI
      simp only [strR] at ha
      have hw : IntKind.wrap .i64 ((i : Int) + 1) = ((i + 1 : Nat) : Int) := wrap_succ (by omega)
      simp only [typesF] at hts
      by_cases hno : (typeF p x).2.2 = 0
      · rw [if_pos hno] at hts
        simp (maxSteps := 1000000) (contextual := true) (implicitDefEqProofs := false) [-decide_eq_true_eq, -decide_eq_false_iff_not, -Bool.not_and, -Bool.not_or, -Bool.and_eq_false_imp, -Int.natCast_add, -setAt, -List.map_take, setAt_eq, pgC, exC_l e, h2, h3, h4, h5, h6, h7, hlt, hix, hw, exR_l x, hI, ha, hno]
        exact ⟨tl ++ [(typeF p x).1], tag', ho', by simp [htl], by rw [hts]; simp, by simp [strR], rfl⟩
      · rw [if_neg hno] at hts
        simp (maxSteps := 1000000) (contextual := true) (implicitDefEqProofs := false) [-decide_eq_true_eq, -decide_eq_false_iff_not, -Bool.not_and, -Bool.not_or, -Bool.and_eq_false_imp, -Int.natCast_add, -setAt, -List.map_take, setAt_eq, pgC, exC_l e, h2, h3, h4, h5, h6, h7, hlt, hix, hw, exR_l x, hI, ha, hno]
        have he : typeF p e = (⟨#[]⟩, (typeF p x).2.1, (typeF p x).2.2) := by rw [typeF_l, hts]; simp only; rw [if_neg hno]
        rw [he]
        exact ⟨rfl, rfl, rfl⟩
    · rintro ⟨env, τ⟩ ⟨tl, tag, gr, junk, h1, ho, htl, hts, h2, h3, h4, h5, h6, h7⟩
      simp only at h1 h2 h3 h4 h5 h6 h7
      subst h1
      simp only [typesF, List.append_nil] at hts
      have hjj := hj tl (by omega) tag
      rw [typeF_l, hts]
      by_cases hno : (joinedF p e.opB e.nm e.num tl).2 = 0
      · simp (maxSteps := 1000000) (contextual := true) (implicitDefEqProofs := false) [-decide_eq_true_eq, -decide_eq_false_iff_not, -Bool.not_and, -Bool.not_or, -Bool.and_eq_false_imp, -Int.natCast_add, -setAt, -List.map_take, setAt_eq, pgC, exC_l e, h2, h3, h4, h5, h6, h7, hjj, hno]
      · simp (maxSteps := 1000000) (contextual := true) (implicitDefEqProofs := false) [-decide_eq_true_eq, -decide_eq_false_iff_not, -Bool.not_and, -Bool.not_or, -Bool.and_eq_false_imp, -Int.natCast_add, -setAt, -List.map_take, setAt_eq, pgC, exC_l e, h2, h3, h4, h5, h6, h7, hjj, hno]
theorem stC_lone2 (x : Ps.St) : Lone (stC x) := by
  rw [stC_l]
  exact ⟨rfl, rfl, fun ρ τ h1 h2 => by simp [renL, PV.ren, h1]⟩
@[simp] def fitsFs : List FuncId := namedFs ++ [231, 192, 148, 194, 195, 193, 101, 105, 167]
theorem all_not {l : List ByteArray} {o : ByteArray} : (l.any fun t => !decide (t = o)) = !(l.all fun t => decide (t = o)) := by
  induction l with
  | nil => rfl
  | cons x xs ih => simp only [List.any_cons, List.all_cons, ih, Bool.not_and]
set_option maxHeartbeats 4000000 in
theorem fits_ok (hl : Free L fitsFs) (p : Pg) (hp : smallP p) (s : Ps.St) (l : List ByteArray) (hn : l.length < 274877906944) (tag : Tag) (he : s.opB = (⟨#[105, 110, 112, 117, 116]⟩ : ByteArray) → s.e.length ≠ 1) : ∀ σ, callE (EV Tryz.prog L) 148 [.agg (pgC p), .agg (stC s), .sl (l.map strR) tag] σ = some (int (fitsF p s l), σ) := by
  intro σ
  rw [callE_era (by simp [ptrsL, PV.ptrs, pgC, stC_l])]
  have hee : eraL [.agg (pgC p), .agg (stC s), .sl (l.map strR) tag] = [.agg (pgC p), .agg (stC s), .sl (l.map strR) .unk] := by simp [eraL, PV.era, pgC, stC_l]
  rw [hee]
  obtain ⟨_, _, hpl⟩ := hp.lens
  have hv := fun σ => variable_ok (L := L) (hl.sub (by simp)) p hp s.nm σ
  have hc2 : ∀ of (x : ByteArray), callE (EV Tryz.prog L) 195 [str x, .ptr 0 0] ⟨[.cells [str of]], []⟩ = some (boo (!decide (x = of)), ⟨[.cells [str of]], []⟩) := fun of x => by
    refine call_keep (more := []) (gr := []) (args' := [str x, .ptr 0 0]) rfl ⟨rfl, rfl, fun _ _ _ _ => rfl⟩ ⟨[], rfl, fun c h => absurd h (by simp)⟩ rfl rfl rfl ?_
    refine EV_fn (ids := []) (hl _ (by simp)) Tryz.func195 rfl (by kernel_rfl) (by rw [Tryz.ntmps195]; simp) ?_
    rw [Tryz.ntmps195, Tryz.results195]
    simp (maxSteps := 1000000) (contextual := true) (implicitDefEqProofs := false) [-decide_eq_true_eq, -decide_eq_false_iff_not, -Bool.not_and, -Bool.not_or, -Bool.and_eq_false_imp, -Int.natCast_add, -setAt, -List.map_take, setAt_eq]
  have hq := fun (of : ByteArray) (σ : Sto) (b : Nat) (hb : σ.bx[b]? = some (.cells [str of])) => cfStr_at1 (L := L) (R := strR) (S := fun x => x) (σ := σ) strR_len (fun _ => rfl) (hl.sub (by simp)) l (by omega) (tag := .unk) (h := fun t => !decide (t = of)) (C := 195) (b := b) hb ⟨rfl, rfl, fun _ _ _ _ => rfl⟩ (by kernel_rfl) (fun x _ => hc2 of x)
  simp only [all_not] at hq
  have hc1 : ∀ x : Pc, callE (EV Tryz.prog L) 194 [.agg ((pcR x).map FV.up), .ptr 0 0] ⟨[.cells (stC s)], []⟩ = some (boo (decide (x.name = s.nm)), ⟨[.cells (stC s)], []⟩) := fun x => by
    refine call_keep (more := [.cells [str x.name, .sl (stRs x.body) .unk]]) (gr := []) (args' := [.agg [str x.name, .sl (stRs x.body) .unk], .ptr 0 0]) rfl (stC_lone2 s) ⟨[], rfl, fun c h => absurd h (by simp)⟩ rfl rfl rfl ?_
    rw [stC_l]
    refine EV_fn (ids := []) (hl _ (by simp)) Tryz.func194 rfl (by kernel_rfl) (by rw [Tryz.ntmps194]; simp) ?_
    rw [Tryz.ntmps194, Tryz.results194]
    simp (maxSteps := 1000000) (contextual := true) (implicitDefEqProofs := false) [-decide_eq_true_eq, -decide_eq_false_iff_not, -Bool.not_and, -Bool.not_or, -Bool.and_eq_false_imp, -Int.natCast_add, -setAt, -List.map_take, setAt_eq]
  have hr := fun (σ : Sto) (b : Nat) (hb : σ.bx[b]? = some (.cells (stC s))) => cfPc_at1 (L := L) (R := pcR) (σ := σ) pcR_len (hl.sub (by simp)) p.procs (by omega) (tag := .unk) (h := fun x => decide (x.name = s.nm)) (C := 194) (b := b) hb (stC_lone2 s) (by kernel_rfl) (fun x _ => hc1 x)
  have hen := fun v (h : v.type = (⟨#[105, 110, 116]⟩ : ByteArray) → s.e.length ≠ 1) σ => ends_ok (L := L) (hl.sub (by simp)) v s.e h σ
  simp only [stC_l] at hr ⊢
  simp only [pgC] at hv ⊢
  unfold fitsF
  by_cases o1 : s.opB = (⟨#[115, 101, 116]⟩ : ByteArray)
  · rw [if_pos (.inl o1)]
    have n1 : ¬ s.opB = (⟨#[105, 110, 112, 117, 116]⟩ : ByteArray) := by rw [o1]; decide
    simp only [o1] at hr ⊢
    cases hvar : variableF p s.nm with
    | none =>
      rw [hvar] at hv
      refine call_fn (ids := []) (hl _ (by simp)) Tryz.func148 Tryz.ntmps148 Tryz.results148 (by simp) rfl rfl ⟨_, rfl, by kernel_rfl, ?_⟩
      simp (maxSteps := 1000000) (contextual := true) (implicitDefEqProofs := false) [-decide_eq_true_eq, -decide_eq_false_iff_not, -Bool.not_and, -Bool.not_or, -Bool.and_eq_false_imp, -Int.natCast_add, -setAt, -List.map_take, setAt_eq, hv, vrC]
    | some v =>
      rw [hvar] at hv
      have hq1 := hq v.type
      by_cases hz : 0 < v.len
      · refine call_fn (ids := []) (hl _ (by simp)) Tryz.func148 Tryz.ntmps148 Tryz.results148 (by simp) rfl rfl ⟨_, rfl, by kernel_rfl, ?_⟩
        simp (maxSteps := 1000000) (contextual := true) (implicitDefEqProofs := false) [-decide_eq_true_eq, -decide_eq_false_iff_not, -Bool.not_and, -Bool.not_or, -Bool.and_eq_false_imp, -Int.natCast_add, -setAt, -List.map_take, setAt_eq, hv, vrC, hz]
      · by_cases ha : (l.all fun t => decide (t = v.type)) = true
        · rw [ha] at hq1
          refine call_fn (ids := []) (hl _ (by simp)) Tryz.func148 Tryz.ntmps148 Tryz.results148 (by simp) rfl rfl ⟨_, rfl, by kernel_rfl, ?_⟩
          simp (maxSteps := 1000000) (contextual := true) (implicitDefEqProofs := false) [-decide_eq_true_eq, -decide_eq_false_iff_not, -Bool.not_and, -Bool.not_or, -Bool.and_eq_false_imp, -Int.natCast_add, -setAt, -List.map_take, setAt_eq, hv, vrC, hz, hq1, ha]
        · rw [Bool.not_eq_true] at ha
          rw [ha] at hq1
          refine call_fn (ids := []) (hl _ (by simp)) Tryz.func148 Tryz.ntmps148 Tryz.results148 (by simp) rfl rfl ⟨_, rfl, by kernel_rfl, ?_⟩
          simp (maxSteps := 1000000) (contextual := true) (implicitDefEqProofs := false) [-decide_eq_true_eq, -decide_eq_false_iff_not, -Bool.not_and, -Bool.not_or, -Bool.and_eq_false_imp, -Int.natCast_add, -setAt, -List.map_take, setAt_eq, hv, vrC, hz, hq1, ha]
  · by_cases o2 : s.opB = (⟨#[105, 110, 112, 117, 116]⟩ : ByteArray)
    · rw [if_pos (.inr o2)]
      have hlen := he o2
      simp only [o2] at hr ⊢
      cases hvar : variableF p s.nm with
      | none =>
        rw [hvar] at hv
        refine call_fn (ids := []) (hl _ (by simp)) Tryz.func148 Tryz.ntmps148 Tryz.results148 (by simp) rfl rfl ⟨_, rfl, by kernel_rfl, ?_⟩
        simp (maxSteps := 1000000) (contextual := true) (implicitDefEqProofs := false) [-decide_eq_true_eq, -decide_eq_false_iff_not, -Bool.not_and, -Bool.not_or, -Bool.and_eq_false_imp, -Int.natCast_add, -setAt, -List.map_take, setAt_eq, hv, vrC]
      | some v =>
        rw [hvar] at hv
        have hen1 := hen v (fun _ => hlen)
        by_cases hz : 0 < v.len
        · refine call_fn (ids := []) (hl _ (by simp)) Tryz.func148 Tryz.ntmps148 Tryz.results148 (by simp) rfl rfl ⟨_, rfl, by kernel_rfl, ?_⟩
          simp (maxSteps := 1000000) (contextual := true) (implicitDefEqProofs := false) [-decide_eq_true_eq, -decide_eq_false_iff_not, -Bool.not_and, -Bool.not_or, -Bool.and_eq_false_imp, -Int.natCast_add, -setAt, -List.map_take, setAt_eq, hv, vrC, hz]
        · refine call_fn (ids := []) (hl _ (by simp)) Tryz.func148 Tryz.ntmps148 Tryz.results148 (by simp) rfl rfl ⟨_, rfl, by kernel_rfl, ?_⟩
          simp (maxSteps := 1000000) (contextual := true) (implicitDefEqProofs := false) [-decide_eq_true_eq, -decide_eq_false_iff_not, -Bool.not_and, -Bool.not_or, -Bool.and_eq_false_imp, -Int.natCast_add, -setAt, -List.map_take, setAt_eq, hv, vrC, hz, hen1]
    · rw [if_neg (by rintro (h | h); exact o1 h; exact o2 h)]
      by_cases o3 : s.opB = (⟨#[112, 117, 116]⟩ : ByteArray)
      · rw [if_pos o3]
        simp only [o3] at hr ⊢
        cases hvar : variableF p s.nm with
        | none =>
          rw [hvar] at hv
          refine call_fn (ids := []) (hl _ (by simp)) Tryz.func148 Tryz.ntmps148 Tryz.results148 (by simp) rfl rfl ⟨_, rfl, by kernel_rfl, ?_⟩
          simp (maxSteps := 1000000) (contextual := true) (implicitDefEqProofs := false) [-decide_eq_true_eq, -decide_eq_false_iff_not, -Bool.not_and, -Bool.not_or, -Bool.and_eq_false_imp, -Int.natCast_add, -setAt, -List.map_take, setAt_eq, hv, vrC]
        | some v =>
          rw [hvar] at hv
          have hq1 := hq (⟨#[105, 110, 116]⟩ : ByteArray)
          by_cases hz : v.len ≤ 0
          · refine call_fn (ids := []) (hl _ (by simp)) Tryz.func148 Tryz.ntmps148 Tryz.results148 (by simp) rfl rfl ⟨_, rfl, by kernel_rfl, ?_⟩
            simp (maxSteps := 1000000) (contextual := true) (implicitDefEqProofs := false) [-decide_eq_true_eq, -decide_eq_false_iff_not, -Bool.not_and, -Bool.not_or, -Bool.and_eq_false_imp, -Int.natCast_add, -setAt, -List.map_take, setAt_eq, hv, vrC, hz]
          · by_cases ha : (l.all fun t => decide (t = (⟨#[105, 110, 116]⟩ : ByteArray))) = true
            · rw [ha] at hq1
              refine call_fn (ids := []) (hl _ (by simp)) Tryz.func148 Tryz.ntmps148 Tryz.results148 (by simp) rfl rfl ⟨_, rfl, by kernel_rfl, ?_⟩
              simp (maxSteps := 1000000) (contextual := true) (implicitDefEqProofs := false) [-decide_eq_true_eq, -decide_eq_false_iff_not, -Bool.not_and, -Bool.not_or, -Bool.and_eq_false_imp, -Int.natCast_add, -setAt, -List.map_take, setAt_eq, hv, vrC, hz, hq1, ha]
            · rw [Bool.not_eq_true] at ha
              rw [ha] at hq1
              refine call_fn (ids := []) (hl _ (by simp)) Tryz.func148 Tryz.ntmps148 Tryz.results148 (by simp) rfl rfl ⟨_, rfl, by kernel_rfl, ?_⟩
              simp (maxSteps := 1000000) (contextual := true) (implicitDefEqProofs := false) [-decide_eq_true_eq, -decide_eq_false_iff_not, -Bool.not_and, -Bool.not_or, -Bool.and_eq_false_imp, -Int.natCast_add, -setAt, -List.map_take, setAt_eq, hv, vrC, hz, hq1, ha]
      · rw [if_neg o3]
        by_cases o4 : s.opB = (⟨#[99, 97, 108, 108]⟩ : ByteArray)
        · rw [if_pos o4]
          have hq1 := hq ⟨#[]⟩
          simp only [o4] at hr ⊢
          by_cases hp1 : (p.procs.any fun x => decide (x.name = s.nm)) = true
          · rw [hp1] at hr
            by_cases ha : (l.all fun t => decide (t = ⟨#[]⟩)) = true
            · rw [ha] at hq1
              cases hvar : variableF p s.nm with
              | none =>
                rw [hvar] at hv
                refine call_fn (ids := []) (hl _ (by simp)) Tryz.func148 Tryz.ntmps148 Tryz.results148 (by simp) rfl rfl ⟨_, rfl, by kernel_rfl, ?_⟩
                simp (maxSteps := 1000000) (contextual := true) (implicitDefEqProofs := false) [-decide_eq_true_eq, -decide_eq_false_iff_not, -Bool.not_and, -Bool.not_or, -Bool.and_eq_false_imp, -Int.natCast_add, -setAt, -List.map_take, setAt_eq, hv, vrC, hr, hq1, ha, hp1]
              | some v =>
                rw [hvar] at hv
                refine call_fn (ids := []) (hl _ (by simp)) Tryz.func148 Tryz.ntmps148 Tryz.results148 (by simp) rfl rfl ⟨_, rfl, by kernel_rfl, ?_⟩
                simp (maxSteps := 1000000) (contextual := true) (implicitDefEqProofs := false) [-decide_eq_true_eq, -decide_eq_false_iff_not, -Bool.not_and, -Bool.not_or, -Bool.and_eq_false_imp, -Int.natCast_add, -setAt, -List.map_take, setAt_eq, hv, vrC, hr, hq1, ha, hp1]
            · rw [Bool.not_eq_true] at ha
              rw [ha] at hq1
              cases hvar : variableF p s.nm with
              | none =>
                rw [hvar] at hv
                refine call_fn (ids := []) (hl _ (by simp)) Tryz.func148 Tryz.ntmps148 Tryz.results148 (by simp) rfl rfl ⟨_, rfl, by kernel_rfl, ?_⟩
                simp (maxSteps := 1000000) (contextual := true) (implicitDefEqProofs := false) [-decide_eq_true_eq, -decide_eq_false_iff_not, -Bool.not_and, -Bool.not_or, -Bool.and_eq_false_imp, -Int.natCast_add, -setAt, -List.map_take, setAt_eq, hv, vrC, hr, hq1, ha, hp1]
              | some v =>
                rw [hvar] at hv
                refine call_fn (ids := []) (hl _ (by simp)) Tryz.func148 Tryz.ntmps148 Tryz.results148 (by simp) rfl rfl ⟨_, rfl, by kernel_rfl, ?_⟩
                simp (maxSteps := 1000000) (contextual := true) (implicitDefEqProofs := false) [-decide_eq_true_eq, -decide_eq_false_iff_not, -Bool.not_and, -Bool.not_or, -Bool.and_eq_false_imp, -Int.natCast_add, -setAt, -List.map_take, setAt_eq, hv, vrC, hr, hq1, ha, hp1]
          · rw [Bool.not_eq_true] at hp1
            rw [hp1] at hr
            cases hvar : variableF p s.nm with
            | none =>
              rw [hvar] at hv
              refine call_fn (ids := []) (hl _ (by simp)) Tryz.func148 Tryz.ntmps148 Tryz.results148 (by simp) rfl rfl ⟨_, rfl, by kernel_rfl, ?_⟩
              simp (maxSteps := 1000000) (contextual := true) (implicitDefEqProofs := false) [-decide_eq_true_eq, -decide_eq_false_iff_not, -Bool.not_and, -Bool.not_or, -Bool.and_eq_false_imp, -Int.natCast_add, -setAt, -List.map_take, setAt_eq, hv, vrC, hr, hp1]
            | some v =>
              rw [hvar] at hv
              refine call_fn (ids := []) (hl _ (by simp)) Tryz.func148 Tryz.ntmps148 Tryz.results148 (by simp) rfl rfl ⟨_, rfl, by kernel_rfl, ?_⟩
              simp (maxSteps := 1000000) (contextual := true) (implicitDefEqProofs := false) [-decide_eq_true_eq, -decide_eq_false_iff_not, -Bool.not_and, -Bool.not_or, -Bool.and_eq_false_imp, -Int.natCast_add, -setAt, -List.map_take, setAt_eq, hv, vrC, hr, hp1]
        · rw [if_neg o4]
          have hq1 := hq (⟨#[98, 111, 111, 108]⟩ : ByteArray)
          by_cases ha : (l.all fun t => decide (t = (⟨#[98, 111, 111, 108]⟩ : ByteArray))) = true
          · rw [ha] at hq1
            cases hvar : variableF p s.nm with
            | none =>
              rw [hvar] at hv
              refine call_fn (ids := []) (hl _ (by simp)) Tryz.func148 Tryz.ntmps148 Tryz.results148 (by simp) rfl rfl ⟨_, rfl, by kernel_rfl, ?_⟩
              simp (maxSteps := 1000000) (contextual := true) (implicitDefEqProofs := false) [-decide_eq_true_eq, -decide_eq_false_iff_not, -Bool.not_and, -Bool.not_or, -Bool.and_eq_false_imp, -Int.natCast_add, -setAt, -List.map_take, setAt_eq, hv, vrC, hq1, ha, o1, o2, o3, o4]
            | some v =>
              rw [hvar] at hv
              refine call_fn (ids := []) (hl _ (by simp)) Tryz.func148 Tryz.ntmps148 Tryz.results148 (by simp) rfl rfl ⟨_, rfl, by kernel_rfl, ?_⟩
              simp (maxSteps := 1000000) (contextual := true) (implicitDefEqProofs := false) [-decide_eq_true_eq, -decide_eq_false_iff_not, -Bool.not_and, -Bool.not_or, -Bool.and_eq_false_imp, -Int.natCast_add, -setAt, -List.map_take, setAt_eq, hv, vrC, hq1, ha, o1, o2, o3, o4]
          · rw [Bool.not_eq_true] at ha
            rw [ha] at hq1
            cases hvar : variableF p s.nm with
            | none =>
              rw [hvar] at hv
              refine call_fn (ids := []) (hl _ (by simp)) Tryz.func148 Tryz.ntmps148 Tryz.results148 (by simp) rfl rfl ⟨_, rfl, by kernel_rfl, ?_⟩
              simp (maxSteps := 1000000) (contextual := true) (implicitDefEqProofs := false) [-decide_eq_true_eq, -decide_eq_false_iff_not, -Bool.not_and, -Bool.not_or, -Bool.and_eq_false_imp, -Int.natCast_add, -setAt, -List.map_take, setAt_eq, hv, vrC, hq1, ha, o1, o2, o3, o4]
            | some v =>
              rw [hvar] at hv
              refine call_fn (ids := []) (hl _ (by simp)) Tryz.func148 Tryz.ntmps148 Tryz.results148 (by simp) rfl rfl ⟨_, rfl, by kernel_rfl, ?_⟩
              simp (maxSteps := 1000000) (contextual := true) (implicitDefEqProofs := false) [-decide_eq_true_eq, -decide_eq_false_iff_not, -Bool.not_and, -Bool.not_or, -Bool.and_eq_false_imp, -Int.natCast_add, -setAt, -List.map_take, setAt_eq, hv, vrC, hq1, ha, o1, o2, o3, o4]
end Go.Proofs.YtfgoedndpcblpaaGreatDoor.Pv
end
section
namespace Go.Proofs.YtfgoedndpcblpaaGreatDoor.Pv
open Go Go.Proofs Go.Proofs.YtfgoedndpcblpaaGreatDoor.Lx Go.Proofs.YtfgoedndpcblpaaGreatDoor.Ps
set_option linter.unusedSimpArgs false
set_option linter.unusedVariables false
variable {L : Lib} {σ : Sto}
theorem stmtF_l (p : Pg) (s : Ps.St) : stmtF p s = if formedF s = true then (if (typesF p s.e).2.2 = 0 then (if fitsF p s (typesF p s.e).1 = 0 then (if (stmtsF p s.a).2 = 0 then stmtsF p s.b else stmtsF p s.a) else (s.pos, fitsF p s (typesF p s.e).1)) else ((typesF p s.e).2.1, (typesF p s.e).2.2)) else (s.pos, 141) := by
  cases s; simp only [stmtF]; rfl
theorem formed_input {s : Ps.St} (h : formedF s = true) (ho : s.opB = (⟨#[105, 110, 112, 117, 116]⟩ : ByteArray)) : s.e.length ≠ 1 := by
  intro h1
  unfold formedF at h
  have : shapeF s.opB = some (0, 0) := by rw [ho]; decide
  rw [this] at h
  simp [ho, h1] at h
theorem idx30 (x y : List (List FV)) : idx 1 [[.sl x], [.sl y]] 0 = some (.el [.sl x] 0) := rfl
theorem idx31 (x y : List (List FV)) : idx 1 [[.sl x], [.sl y]] 1 = some (.el [.sl y] 0) := rfl
@[simp] def stmtsFs : List FuncId := typeFs ++ fitsFs ++ [76, 147, 104]
set_option maxHeartbeats 4000000 in
theorem stmts_ok (hl : Free L stmtsFs) (p : Pg) (hp : smallP p) : ∀ (n : Nat) (l : List Ps.St), stsN l < n → n < 274877906944 → ∀ σ, callE (EV Tryz.prog L) 76 [.agg (pgC p), .sl (l.map stR) .unk] σ = some (.tup [int (stmtsF p l).1, int (stmtsF p l).2], σ) := by
  intro n
  induction n with
  | zero => intro l h; omega
  | succ n ih =>
    intro l h hn σ
    have hlen := sts_len l
    simp only [pgC] at ih ⊢
    refine call_fn (ids := []) (hl _ (by simp)) Tryz.func76 Tryz.ntmps76 Tryz.results76 (by simp) rfl rfl ⟨_, rfl, by kernel_rfl, ?_⟩
    simp (maxSteps := 1000000) (contextual := true) (implicitDefEqProofs := false) [-decide_eq_true_eq, -decide_eq_false_iff_not, -Bool.not_and, -Bool.not_or, -Bool.and_eq_false_imp, -Int.natCast_add, -setAt, -List.map_take, setAt_eq]
    refine WP.each l (fun rest i s' => ∃ (gr : List (Nat × Nat)) (junk : List Bx), s'.sto = ⟨.cells (pgC p) :: junk, gr⟩ ∧ stmtsF p l = stmtsF p rest ∧ s'.env 2 = .ptr 0 0 ∧ s'.env 19 = .sl (l.map stR) .unk ∧ s'.env 20 = int l.length ∧ s'.env 21 = int i) ⟨[], [], by simp [pgC], rfl, by simp, by simp, by simp, by simp⟩ ?_ ?_
    · rintro x xs i ⟨env, τ⟩ hx hi hxs ⟨gr, junk, h1, hst, h2, h3, h4, h5⟩
      simp only at h1 h2 h3 h4 h5
      subst h1
      have hix := row_idx (R := stR) hx (stR_len x)
      have hlt : decide (i < l.length) = true := by simp [hi]
      have hm := sts_mem l x (List.mem_of_getElem? hx)
      have hm' := stN_l x
      have hw : IntKind.wrap .i64 ((i : Int) + 1) = ((i + 1 : Nat) : Int) := wrap_succ (by omega)
      have hf := fun σ => formed_ok (L := L) (hl.sub (by simp)) x (by omega) σ
      simp only [stC_l] at hf
      simp only [stmtsF] at hst
      by_cases hform : formedF x = true
      · rw [hform] at hf
        have hel := exs_len x.e
        simp (maxSteps := 1000000) (contextual := true) (implicitDefEqProofs := false) [-decide_eq_true_eq, -decide_eq_false_iff_not, -Bool.not_and, -Bool.not_or, -Bool.and_eq_false_imp, -Int.natCast_add, -setAt, -List.map_take, setAt_eq, pgC, h2, h3, h4, h5, hlt, hix, stR_l x, hf]
        refine WP.each x.e (fun rest j s' => ∃ (tl : List ByteArray) (tag : Tag) (gr2 : List (Nat × Nat)) (junk2 : List Bx), s'.sto = ⟨.cells (pgC p) :: (junk ++ .cells (stC x) :: junk2), gr2⟩ ∧ Own 1 gr2 (tl.map strR) tag ∧ tl.length = j ∧ typesF p x.e = (tl ++ (typesF p rest).1, (typesF p rest).2.1, (typesF p rest).2.2) ∧ s'.env 2 = .ptr 0 0 ∧ s'.env 19 = .sl (l.map stR) .unk ∧ s'.env 20 = int l.length ∧ s'.env 21 = int i ∧ s'.env 7 = .ptr (junk.length + 1) 0 ∧ s'.env 8 = .sl (tl.map strR) tag ∧ s'.env 31 = .sl (x.e.map exR) .unk ∧ s'.env 32 = int x.e.length ∧ s'.env 33 = int j) ?_ ?_ ?_
        · exact ⟨[], .full, gr, [], by simp [pgC, stC_l], .nil, rfl, rfl, by simp [h2], by simp [h3], by simp [h4], by simp [h5], by simp, by simp, by simp, by simp, by simp⟩
        · rintro y ys j ⟨env2, τ2⟩ hy hj hys ⟨tl, tag, gr2, junk2, g1, ho, htl, hts, g2, g3, g4, g5, g6, g7, g8, g9, g10⟩
          simp only at g1 g2 g3 g4 g5 g6 g7 g8 g9 g10
          subst g1
          have hiy := row_idx (R := exR) hy (exR_len y)
          have hlj : decide (j < x.e.length) = true := by simp [hj]
          have hmy := exs_mem x.e y (List.mem_of_getElem? hy)
          have hI := fun σ => Type_ok (L := L) (hl.sub (by simp)) p hp (exN y + 1) y (by omega) (by omega) σ
          obtain ⟨tag', gr', ha, ho', _⟩ := str_snoc (x := (typeF p y).1) ho (by omega)
          simp only [exC_l, pgC] at hI
          simp only [strR] at ha
          have hwj : IntKind.wrap .i64 ((j : Int) + 1) = ((j + 1 : Nat) : Int) := wrap_succ (by omega)
          simp only [typesF] at hts
          by_cases hno : (typeF p y).2.2 = 0
          · rw [if_pos hno] at hts
            simp (maxSteps := 1000000) (contextual := true) (implicitDefEqProofs := false) [-decide_eq_true_eq, -decide_eq_false_iff_not, -Bool.not_and, -Bool.not_or, -Bool.and_eq_false_imp, -Int.natCast_add, -setAt, -List.map_take, setAt_eq, pgC, g2, g3, g4, g5, g6, g7, g8, g9, g10, hlj, hiy, hwj, exR_l y, hI, ha, hno]
            exact ⟨tl ++ [(typeF p y).1], tag', ho', by simp [htl], by rw [hts]; simp, by simp [strR], rfl⟩
          · rw [if_neg hno] at hts
            simp (maxSteps := 1000000) (contextual := true) (implicitDefEqProofs := false) [-decide_eq_true_eq, -decide_eq_false_iff_not, -Bool.not_and, -Bool.not_or, -Bool.and_eq_false_imp, -Int.natCast_add, -setAt, -List.map_take, setAt_eq, pgC, g2, g3, g4, g5, g6, g7, g8, g9, g10, hlj, hiy, hwj, exR_l y, hI, ha, hno]
            have he : stmtF p x = ((typeF p y).2.1, (typeF p y).2.2) := by rw [stmtF_l, if_pos hform, hts]; simp only; rw [if_neg hno]
            rw [hst, he]; simp only
            rw [if_neg hno]
            exact ⟨rfl, rfl⟩
        · rintro ⟨env2, τ2⟩ ⟨tl, tag, gr2, junk2, g1, ho, htl, hts, g2, g3, g4, g5, g6, g7, g8, g9, g10⟩
          simp only at g1 g2 g3 g4 g5 g6 g7 g8 g9 g10
          subst g1
          simp only [typesF, List.append_nil] at hts
          have hft := fun σ => fits_ok (L := L) (hl.sub (by simp)) p hp x tl (by omega) tag (formed_input hform) σ
          simp only [pgC, stC_l] at hft
          have hA := fun σ => ih x.a (by omega) (by omega) σ
          have hB := fun σ => ih x.b (by omega) (by omega) σ
          by_cases hfit : fitsF p x tl = 0
          · simp (maxSteps := 1000000) (contextual := true) (implicitDefEqProofs := false) [-decide_eq_true_eq, -decide_eq_false_iff_not, -Bool.not_and, -Bool.not_or, -Bool.and_eq_false_imp, -Int.natCast_add, -setAt, -List.map_take, setAt_eq, pgC, stC_l, g2, g3, g4, g5, g6, g7, g8, g9, g10, hft, hfit]
            have he : stmtF p x = if (stmtsF p x.a).2 = 0 then stmtsF p x.b else stmtsF p x.a := by rw [stmtF_l, if_pos hform, hts]; simp only [if_true]; rw [if_pos hfit]
            refine WP.loop_step ?_
            by_cases hAz : (stmtsF p x.a).2 = 0
            · rw [if_pos hAz] at he
              simp (maxSteps := 1000000) (contextual := true) (implicitDefEqProofs := false) [-decide_eq_true_eq, -decide_eq_false_iff_not, -Bool.not_and, -Bool.not_or, -Bool.and_eq_false_imp, -Int.natCast_add, -setAt, -List.map_take, setAt_eq, pgC, stC_l, g2, g3, g4, g5, g6, g7, g8, g9, g10, hA, hAz, idx30, idx31]
              refine WP.loop_step ?_
              by_cases hBz : (stmtsF p x.b).2 = 0
              · simp (maxSteps := 1000000) (contextual := true) (implicitDefEqProofs := false) [-decide_eq_true_eq, -decide_eq_false_iff_not, -Bool.not_and, -Bool.not_or, -Bool.and_eq_false_imp, -Int.natCast_add, -setAt, -List.map_take, setAt_eq, pgC, stC_l, g2, g3, g4, g5, g6, g7, g8, g9, g10, hB, hBz, idx30, idx31]
                refine WP.loop_step ?_
                simp (maxSteps := 1000000) (contextual := true) (implicitDefEqProofs := false) [-decide_eq_true_eq, -decide_eq_false_iff_not, -Bool.not_and, -Bool.not_or, -Bool.and_eq_false_imp, -Int.natCast_add, -setAt, -List.map_take, setAt_eq, pgC, stC_l, g2, g3, g4, g5, g6, g7, g8, g9, g10, hw]
                rw [hst, he, if_pos hBz]
              · simp (maxSteps := 1000000) (contextual := true) (implicitDefEqProofs := false) [-decide_eq_true_eq, -decide_eq_false_iff_not, -Bool.not_and, -Bool.not_or, -Bool.and_eq_false_imp, -Int.natCast_add, -setAt, -List.map_take, setAt_eq, pgC, stC_l, g2, g3, g4, g5, g6, g7, g8, g9, g10, hB, hBz, idx30, idx31]
                rw [hst, he, if_neg hBz]
                exact ⟨rfl, rfl⟩
            · rw [if_neg hAz] at he
              simp (maxSteps := 1000000) (contextual := true) (implicitDefEqProofs := false) [-decide_eq_true_eq, -decide_eq_false_iff_not, -Bool.not_and, -Bool.not_or, -Bool.and_eq_false_imp, -Int.natCast_add, -setAt, -List.map_take, setAt_eq, pgC, stC_l, g2, g3, g4, g5, g6, g7, g8, g9, g10, hA, hAz, idx30, idx31]
              rw [hst, he, if_neg hAz]
              exact ⟨rfl, rfl⟩
          · simp (maxSteps := 1000000) (contextual := true) (implicitDefEqProofs := false) [-decide_eq_true_eq, -decide_eq_false_iff_not, -Bool.not_and, -Bool.not_or, -Bool.and_eq_false_imp, -Int.natCast_add, -setAt, -List.map_take, setAt_eq, pgC, stC_l, g2, g3, g4, g5, g6, g7, g8, g9, g10, hft, hfit]
            have he : stmtF p x = (x.pos, fitsF p x tl) := by rw [stmtF_l, if_pos hform, hts]; simp only [if_true]; rw [if_neg hfit]
            rw [hst, he]; simp only
            rw [if_neg hfit]
            exact ⟨rfl, rfl⟩
      · rw [Bool.not_eq_true] at hform
        rw [hform] at hf
        simp (maxSteps := 1000000) (contextual := true) (implicitDefEqProofs := false) [-decide_eq_true_eq, -decide_eq_false_iff_not, -Bool.not_and, -Bool.not_or, -Bool.and_eq_false_imp, -Int.natCast_add, -setAt, -List.map_take, setAt_eq, pgC, h2, h3, h4, h5, hlt, hix, stR_l x, hf]
        have he : stmtF p x = (x.pos, 141) := by rw [stmtF_l, if_neg (by rw [hform]; simp)]
        rw [hst, he]; simp only
        rw [if_neg (by decide)]
        exact ⟨rfl, rfl⟩
    · rintro ⟨env, τ⟩ ⟨gr, junk, h1, hst, h2, h3, h4, h5⟩
      simp only at h1 h2 h3 h4 h5
      subst h1
      rw [hst]
      simp (maxSteps := 1000000) (contextual := true) (implicitDefEqProofs := false) [-decide_eq_true_eq, -decide_eq_false_iff_not, -Bool.not_and, -Bool.not_or, -Bool.and_eq_false_imp, -Int.natCast_add, -setAt, -List.map_take, setAt_eq, h2, h3, h4, h5, stmtsF]
end Go.Proofs.YtfgoedndpcblpaaGreatDoor.Pv
end
section
namespace Go.Proofs.YtfgoedndpcblpaaGreatDoor.Pv
open Go Go.Proofs Go.Proofs.YtfgoedndpcblpaaGreatDoor.Lx Go.Proofs.YtfgoedndpcblpaaGreatDoor.Ps
set_option linter.unusedSimpArgs false
set_option linter.unusedVariables false
variable {L : Lib} {σ : Sto}
theorem EV_fnx {P : Program} {L : Lib} {ids : List Nat} {f : FuncId} (hl : L f = none) {fn : Func} {c : Code} {args : List PV} {σ : Sto} (hf : P.funcs[f]? = some fn) (hb : fn.body = some c) (hs : statOk P ids c = true) (hn : args.length ≤ fn.ntmps) {Φ : PV → Sto → Prop}
    (h : WP P L fn.ntmps ids c ⟨initE args, σ⟩ fun ctl s => (ctl = .next ∨ ctl = .ret) ∧ Run (outE P s.env s.sto fn.results.toList) fun r => Φ r s.sto) : ∃ r σ', EV P L f args σ = some (r, σ') ∧ Φ r σ' := by
  obtain ⟨k, ctl, s', h0, h2, r, h3, h4⟩ := h
  exact ⟨r, s'.sto, EV_fn hl hf hb hs hn ⟨k, ctl, s', h0, h2, h3, rfl⟩, h4⟩
theorem app_own3 {m b : Nat} {rows xs : List (List FV)} {tag : Tag} {g0 more : List (Nat × Nat)} (h : Own m (g0 ++ more) rows tag) (hg : ∀ g, tag = .grow g → g0.length ≤ g) (hs : sized m rows = true) (hx : sized m xs = true) (hb : (rows.length + xs.length) * b ≤ 70368744177664) :
    ∃ tag' more', (∀ bx, appL m b ⟨bx, g0 ++ more⟩ rows tag xs = some (.sl (rows ++ xs) tag', ⟨bx, g0 ++ more'⟩)) ∧ Own m (g0 ++ more') (rows ++ xs) tag' ∧ ∀ g, tag' = .grow g → g0.length ≤ g := by
  by_cases hn : xs = []
  · subst hn
    refine ⟨tag, more, fun bx => ?_, by rw [List.append_nil]; exact h, hg⟩
    unfold appL
    rw [if_pos ⟨hs, hx, hb⟩, if_pos List.length_nil, List.append_nil]
  · have hl : xs.length ≠ 0 := by simpa using hn
    rcases h with rfl | ⟨g, rfl, hgr⟩
    · refine ⟨.grow (g0 ++ more).length, more ++ [(rows.length + xs.length, m)], fun bx => ?_, .inr ⟨_, rfl, by rw [← List.append_assoc]; simp⟩, fun g e => by cases e; simp⟩
      unfold appL
      rw [if_pos ⟨hs, hx, hb⟩]
      simp only [if_neg hl, List.append_assoc]
    · have hg' := hg g rfl
      have := (List.getElem?_eq_some_iff.1 hgr).1
      refine ⟨.grow g, more.set (g - g0.length) (rows.length + xs.length, m), fun bx => ?_, .inr ⟨g, rfl, ?_⟩, fun g e => by cases e; exact hg'⟩
      · unfold appL
        rw [if_pos ⟨hs, hx, hb⟩, if_neg hl]
        simp only [hgr, true_and, ne_eq, hl, not_false_iff, if_true]
        rw [List.set_append_right _ _ hg']
      · rw [List.getElem?_append_right hg', List.getElem?_set_self (by simp at this; omega)]; simp
def lenS {α : Type} : List (List α) → Nat
  | [] => 0
  | l :: ls => l.length + lenS ls
def slR {α : Type} (R : α → List FV) (l : List α) : List FV := [.sl (l.map R)]
def Cat (L : Lib) (F : FuncId) {α : Type} (R : α → List FV) (m : Nat) : Prop := ∀ (ls : List (List α)) (tag : Tag) (σ : Sto), lenS ls ≤ 1000000 → ls.length ≤ 1000000 → ∃ tag' more, EV Tryz.prog L F [.sl (ls.map (slR R)) tag] σ = some (.sl (ls.flatten.map R) tag', ⟨σ.bx, σ.gr ++ more⟩) ∧ Own m (σ.gr ++ more) (ls.flatten.map R) tag' ∧ ∀ g, tag' = .grow g → σ.gr.length ≤ g
theorem concatStr_ok (hl : L 106 = none) (hg : L 168 = some (growH 1)) : Cat L 106 strR 1 := by
  intro ls tag σ ht hn
  have hgr : EV Tryz.prog L 168 [.sl [] .full, int (lenS ls : Nat)] σ = some (if lenS ls = 0 then (.sl [] .full, σ) else (.sl [] (.grow σ.gr.length), { σ with gr := σ.gr ++ [(0, 1)] })) := by
    refine EV_lib hg ?_
    show (if (0 : Int) ≤ (lenS ls : Nat) ∧ ((lenS ls : Nat) : Int) ≤ 1000000 then (if ((lenS ls : Nat) : Int) = 0 then some (PV.sl [] .full, σ) else some (.sl [] (.grow σ.gr.length), { σ with gr := σ.gr ++ [(0, 1)] })) else none) = _
    rw [if_pos ⟨by omega, by omega⟩]
    by_cases h0 : lenS ls = 0
    · rw [if_pos (by omega), if_pos h0]
    · rw [if_neg (by omega), if_neg h0]
  have h := EV_fnx (P := Tryz.prog) (L := L) (ids := []) (σ := σ) (args := [.sl (ls.map (slR strR)) tag]) hl Tryz.func106 rfl (by kernel_rfl) (by rw [Tryz.ntmps106]; simp) (Φ := fun r σ' => ∃ tag' more, r = .sl (ls.flatten.map strR) tag' ∧ σ' = ⟨σ.bx, σ.gr ++ more⟩ ∧ Own 1 (σ.gr ++ more) (ls.flatten.map strR) tag' ∧ ∀ g, tag' = .grow g → σ.gr.length ≤ g) ?_
  · obtain ⟨r, σ', h1, tag', more, rfl, rfl, h2, h3⟩ := h
    exact ⟨tag', more, h1, h2, h3⟩
  rw [Tryz.ntmps106, Tryz.results106]
  simp (maxSteps := 1000000) (contextual := true) (implicitDefEqProofs := false) [-decide_eq_true_eq, -decide_eq_false_iff_not, -Bool.not_and, -Bool.not_or, -Bool.and_eq_false_imp, -Int.natCast_add, -setAt, -List.map_take, setAt_eq]
  refine WP.each ls (fun rest i s' => ∃ v : Nat, s'.sto = σ ∧ s'.env 0 = .sl (ls.map (slR strR)) tag ∧ s'.env 3 = int v ∧ s'.env 9 = .sl (ls.map (slR strR)) tag ∧ s'.env 10 = int ls.length ∧ s'.env 11 = int i ∧ v + lenS rest = lenS ls) ⟨0, by simp, by simp, by simp, by simp, by simp, by simp, by simp⟩ ?_ ?_
  · rintro x xs i ⟨env, τ⟩ hx hi hxs ⟨v, h1, h2, h3, h4, h5, h6, h7⟩
    simp only at h1 h2 h3 h4 h5 h6
    subst h1
    have hix := row_idx (R := slR strR) hx (m := 1) rfl
    have hlt : decide (i < ls.length) = true := by simp [hi]
    have hw : IntKind.wrap .i64 ((i : Int) + 1) = ((i + 1 : Nat) : Int) := wrap_succ (by omega)
    simp only [lenS] at h7
    have hw2 : IntKind.wrap .i64 ((v : Int) + ((x.length : Nat) : Int)) = ((v + x.length : Nat) : Int) := wrap_n (by omega)
    have hlz : decide (((v + x.length : Nat) : Int) < 0) = false := by simp; omega
    simp (maxSteps := 1000000) (contextual := true) (implicitDefEqProofs := false) [-decide_eq_true_eq, -decide_eq_false_iff_not, -Bool.not_and, -Bool.not_or, -Bool.and_eq_false_imp, -Int.natCast_add, -setAt, -List.map_take, setAt_eq, h2, h3, h4, h5, h6, hlt, hix, hw, slR, hw2, hlz]
    exact ⟨v + x.length, rfl, by omega⟩
  · rintro ⟨env, τ⟩ ⟨v, h1, h2, h3, h4, h5, h6, h7⟩
    simp only at h1 h2 h3 h4 h5 h6
    subst h1
    simp only [lenS, Nat.add_zero] at h7
    subst h7
    obtain ⟨tag0, more0, hg0, ho0, hs0⟩ : ∃ tag0 more0, EV Tryz.prog L 168 [.sl [] .full, int (lenS ls : Nat)] τ = some (.sl [] tag0, ⟨τ.bx, τ.gr ++ more0⟩) ∧ Own 1 (τ.gr ++ more0) [] tag0 ∧ ∀ g, tag0 = .grow g → τ.gr.length ≤ g := by
      by_cases h0 : lenS ls = 0
      · refine ⟨.full, [], ?_, .nil, fun g e => by cases e⟩
        rw [hgr, if_pos h0, List.append_nil]
      · refine ⟨.grow τ.gr.length, [(0, 1)], ?_, .inr ⟨_, rfl, by simp⟩, fun g e => by cases e; exact Nat.le_refl _⟩
        rw [hgr, if_neg h0]
    simp (maxSteps := 1000000) (contextual := true) (implicitDefEqProofs := false) [-decide_eq_true_eq, -decide_eq_false_iff_not, -Bool.not_and, -Bool.not_or, -Bool.and_eq_false_imp, -Int.natCast_add, -setAt, -List.map_take, setAt_eq, h2, h3, h4, h5, h6, hg0]
    refine WP.each ls (fun rest i s' => ∃ (tg : Tag) (more : List (Nat × Nat)), s'.sto = ⟨τ.bx, τ.gr ++ more⟩ ∧ Own 1 (τ.gr ++ more) ((ls.take i).flatten.map strR) tg ∧ (∀ g, tg = .grow g → τ.gr.length ≤ g) ∧ (ls.take i).flatten.length + lenS rest = lenS ls ∧ s'.env 6 = .sl ((ls.take i).flatten.map strR) tg ∧ s'.env 25 = .sl (ls.map (slR strR)) tag ∧ s'.env 26 = int ls.length ∧ s'.env 27 = int i) ⟨tag0, more0, by simp, by simpa using ho0, hs0, by simp, by simp, by simp [h2], by simp [h2], by simp⟩ ?_ ?_
    · rintro x xs i ⟨env2, τ2⟩ hx hi hxs ⟨tg, more, g1, ho, hs, hlen, g2, g3, g4, g5⟩
      simp only at g1 g2 g3 g4 g5
      subst g1
      have hix := row_idx (R := slR strR) hx (m := 1) rfl
      have hlt : decide (i < ls.length) = true := by simp [hi]
      have hw : IntKind.wrap .i64 ((i : Int) + 1) = ((i + 1 : Nat) : Int) := wrap_succ (by omega)
      simp only [lenS] at hlen
      have htk : (ls.take (i + 1)).flatten = (ls.take i).flatten ++ x := by rw [List.take_add_one, hx]; simp
      obtain ⟨tag', more', ha, ho', hs'⟩ := app_own3 (b := 16) (xs := x.map strR) ho hs (sized_map (fun _ => rfl)) (sized_map (fun _ => rfl)) (by simp only [List.length_map]; omega)
      rw [← List.map_append, ← htk] at ha ho'
      simp (maxSteps := 1000000) (contextual := true) (implicitDefEqProofs := false) [-decide_eq_true_eq, -decide_eq_false_iff_not, -Bool.not_and, -Bool.not_or, -Bool.and_eq_false_imp, -Int.natCast_add, -setAt, -List.map_take, setAt_eq, -List.map_flatten, -List.length_flatten, g2, g3, g4, g5, hlt, hix, hw, slR, ha]
      exact ⟨tag', ho', hs', by rw [htk, List.length_append]; omega, rfl⟩
    · rintro ⟨env2, τ2⟩ ⟨tg, more, g1, ho, hs, hlen, g2, g3, g4, g5⟩
      simp only at g1 g2 g3 g4 g5
      subst g1
      rw [List.take_length] at ho g2
      simp (maxSteps := 1000000) (contextual := true) (implicitDefEqProofs := false) [-decide_eq_true_eq, -decide_eq_false_iff_not, -Bool.not_and, -Bool.not_or, -Bool.and_eq_false_imp, -Int.natCast_add, -setAt, -List.map_take, setAt_eq, -List.map_flatten, g2, g3, g4, g5]
      exact ⟨ho, hs⟩
theorem concatSt_ok (hl : L 77 = none) (hg : L 149 = some (growH 6)) : Cat L 77 stR 6 := by
  intro ls tag σ ht hn
  have hgr : EV Tryz.prog L 149 [.sl [] .full, int (lenS ls : Nat)] σ = some (if lenS ls = 0 then (.sl [] .full, σ) else (.sl [] (.grow σ.gr.length), { σ with gr := σ.gr ++ [(0, 6)] })) := by
    refine EV_lib hg ?_
    show (if (0 : Int) ≤ (lenS ls : Nat) ∧ ((lenS ls : Nat) : Int) ≤ 1000000 then (if ((lenS ls : Nat) : Int) = 0 then some (PV.sl [] .full, σ) else some (.sl [] (.grow σ.gr.length), { σ with gr := σ.gr ++ [(0, 6)] })) else none) = _
    rw [if_pos ⟨by omega, by omega⟩]
    by_cases h0 : lenS ls = 0
    · rw [if_pos (by omega), if_pos h0]
    · rw [if_neg (by omega), if_neg h0]
  have h := EV_fnx (P := Tryz.prog) (L := L) (ids := []) (σ := σ) (args := [.sl (ls.map (slR stR)) tag]) hl Tryz.func77 rfl (by kernel_rfl) (by rw [Tryz.ntmps77]; simp) (Φ := fun r σ' => ∃ tag' more, r = .sl (ls.flatten.map stR) tag' ∧ σ' = ⟨σ.bx, σ.gr ++ more⟩ ∧ Own 6 (σ.gr ++ more) (ls.flatten.map stR) tag' ∧ ∀ g, tag' = .grow g → σ.gr.length ≤ g) ?_
  · obtain ⟨r, σ', h1, tag', more, rfl, rfl, h2, h3⟩ := h
    exact ⟨tag', more, h1, h2, h3⟩
  rw [Tryz.ntmps77, Tryz.results77]
  simp (maxSteps := 1000000) (contextual := true) (implicitDefEqProofs := false) [-decide_eq_true_eq, -decide_eq_false_iff_not, -Bool.not_and, -Bool.not_or, -Bool.and_eq_false_imp, -Int.natCast_add, -setAt, -List.map_take, setAt_eq]
  refine WP.each ls (fun rest i s' => ∃ v : Nat, s'.sto = σ ∧ s'.env 0 = .sl (ls.map (slR stR)) tag ∧ s'.env 3 = int v ∧ s'.env 9 = .sl (ls.map (slR stR)) tag ∧ s'.env 10 = int ls.length ∧ s'.env 11 = int i ∧ v + lenS rest = lenS ls) ⟨0, by simp, by simp, by simp, by simp, by simp, by simp, by simp⟩ ?_ ?_
  · rintro x xs i ⟨env, τ⟩ hx hi hxs ⟨v, h1, h2, h3, h4, h5, h6, h7⟩
    simp only at h1 h2 h3 h4 h5 h6
    subst h1
    have hix := row_idx (R := slR stR) hx (m := 1) rfl
    have hlt : decide (i < ls.length) = true := by simp [hi]
    have hw : IntKind.wrap .i64 ((i : Int) + 1) = ((i + 1 : Nat) : Int) := wrap_succ (by omega)
    simp only [lenS] at h7
    have hw2 : IntKind.wrap .i64 ((v : Int) + ((x.length : Nat) : Int)) = ((v + x.length : Nat) : Int) := wrap_n (by omega)
    have hlz : decide (((v + x.length : Nat) : Int) < 0) = false := by simp; omega
    simp (maxSteps := 1000000) (contextual := true) (implicitDefEqProofs := false) [-decide_eq_true_eq, -decide_eq_false_iff_not, -Bool.not_and, -Bool.not_or, -Bool.and_eq_false_imp, -Int.natCast_add, -setAt, -List.map_take, setAt_eq, h2, h3, h4, h5, h6, hlt, hix, hw, slR, hw2, hlz]
    exact ⟨v + x.length, rfl, by omega⟩
  · rintro ⟨env, τ⟩ ⟨v, h1, h2, h3, h4, h5, h6, h7⟩
    simp only at h1 h2 h3 h4 h5 h6
    subst h1
    simp only [lenS, Nat.add_zero] at h7
    subst h7
    obtain ⟨tag0, more0, hg0, ho0, hs0⟩ : ∃ tag0 more0, EV Tryz.prog L 149 [.sl [] .full, int (lenS ls : Nat)] τ = some (.sl [] tag0, ⟨τ.bx, τ.gr ++ more0⟩) ∧ Own 6 (τ.gr ++ more0) [] tag0 ∧ ∀ g, tag0 = .grow g → τ.gr.length ≤ g := by
      by_cases h0 : lenS ls = 0
      · refine ⟨.full, [], ?_, .nil, fun g e => by cases e⟩
        rw [hgr, if_pos h0, List.append_nil]
      · refine ⟨.grow τ.gr.length, [(0, 6)], ?_, .inr ⟨_, rfl, by simp⟩, fun g e => by cases e; exact Nat.le_refl _⟩
        rw [hgr, if_neg h0]
    simp (maxSteps := 1000000) (contextual := true) (implicitDefEqProofs := false) [-decide_eq_true_eq, -decide_eq_false_iff_not, -Bool.not_and, -Bool.not_or, -Bool.and_eq_false_imp, -Int.natCast_add, -setAt, -List.map_take, setAt_eq, h2, h3, h4, h5, h6, hg0]
    refine WP.each ls (fun rest i s' => ∃ (tg : Tag) (more : List (Nat × Nat)), s'.sto = ⟨τ.bx, τ.gr ++ more⟩ ∧ Own 6 (τ.gr ++ more) ((ls.take i).flatten.map stR) tg ∧ (∀ g, tg = .grow g → τ.gr.length ≤ g) ∧ (ls.take i).flatten.length + lenS rest = lenS ls ∧ s'.env 6 = .sl ((ls.take i).flatten.map stR) tg ∧ s'.env 25 = .sl (ls.map (slR stR)) tag ∧ s'.env 26 = int ls.length ∧ s'.env 27 = int i) ⟨tag0, more0, by simp, by simpa using ho0, hs0, by simp, by simp, by simp [h2], by simp [h2], by simp⟩ ?_ ?_
    · rintro x xs i ⟨env2, τ2⟩ hx hi hxs ⟨tg, more, g1, ho, hs, hlen, g2, g3, g4, g5⟩
      simp only at g1 g2 g3 g4 g5
      subst g1
      have hix := row_idx (R := slR stR) hx (m := 1) rfl
      have hlt : decide (i < ls.length) = true := by simp [hi]
      have hw : IntKind.wrap .i64 ((i : Int) + 1) = ((i + 1 : Nat) : Int) := wrap_succ (by omega)
      simp only [lenS] at hlen
      have htk : (ls.take (i + 1)).flatten = (ls.take i).flatten ++ x := by rw [List.take_add_one, hx]; simp
      obtain ⟨tag', more', ha, ho', hs'⟩ := app_own3 (b := 112) (xs := x.map stR) ho hs (sized_map stR_len) (sized_map stR_len) (by simp only [List.length_map]; omega)
      rw [← List.map_append, ← htk] at ha ho'
      simp (maxSteps := 1000000) (contextual := true) (implicitDefEqProofs := false) [-decide_eq_true_eq, -decide_eq_false_iff_not, -Bool.not_and, -Bool.not_or, -Bool.and_eq_false_imp, -Int.natCast_add, -setAt, -List.map_take, setAt_eq, -List.map_flatten, -List.length_flatten, g2, g3, g4, g5, hlt, hix, hw, slR, ha]
      exact ⟨tag', ho', hs', by rw [htk, List.length_append]; omega, rfl⟩
    · rintro ⟨env2, τ2⟩ ⟨tg, more, g1, ho, hs, hlen, g2, g3, g4, g5⟩
      simp only at g1 g2 g3 g4 g5
      subst g1
      rw [List.take_length] at ho g2
      simp (maxSteps := 1000000) (contextual := true) (implicitDefEqProofs := false) [-decide_eq_true_eq, -decide_eq_false_iff_not, -Bool.not_and, -Bool.not_or, -Bool.and_eq_false_imp, -Int.natCast_add, -setAt, -List.map_take, setAt_eq, -List.map_flatten, g2, g3, g4, g5]
      exact ⟨ho, hs⟩
end Go.Proofs.YtfgoedndpcblpaaGreatDoor.Pv
end
