/- Texts of this claim, joined. -/
import Derived.Test.YtfgoedndpcblpaaGreatDoorRows
import Derived.Test.YtfgoedndpcblpaaGreatDoorProg
import Derived.Lib.LaidU8
import Derived.Lib.LaidTab
import Derived.Lib.LaidIn
import Derived.Lib.Space
import Derived.Lib.AppendIntMem
import Derived.Deep.DeepHandedRow
import Derived.Deep.DeepWitnessRowRef
import Derived.KernelRfl
import Derived.WalkKit
import Derived.ProofKit
import Derived.Tactics
import Derived.Deep.MidRow
import Derived.Laws.Cells
import Derived.BigFrame
import Derived.BigCall
import Derived.Laws.StructEq
import Derived.Laws.CopyRow
import Derived.Deep.AppendSrc
import Derived.Deep.Upon
import Derived.Deep.DeepAppendWide
import Derived.MapKept
import Derived.Deep.LoopGhost
section
namespace Go.Proofs.YtfgoedndpcblpaaGreatDoor
open Go Go.RowKit
theorem own : ownKnob Tryz.prog.godebug = none := by kernel_rfl
theorem gPow : Tryz.prog.globalNamed "internal/strconv.uint64pow10" = some 3 := by kernel_rfl
theorem gPowType : (Tryz.prog.globals[3]?).map (·.type) = some 323 := by kernel_rfl
theorem cellsU64 : Tryz.prog.cellsOf 206 = 1 := by kernel_rfl
theorem cellsPow : Tryz.prog.cellsOf 323 = 20 := by kernel_rfl
theorem gS : Tryz.prog.globalNamed "strings.asciiSpace" = some 0 := by kernel_rfl
theorem gSType : (Tryz.prog.globals[0]?).map (·.type) = some 227 := by kernel_rfl
theorem cellsU8 : Tryz.prog.cellsOf 5 = 1 := by kernel_rfl
theorem cellsS : Tryz.prog.cellsOf 227 = 256 := by kernel_rfl
theorem tabIs_mem {P : Program} {W : World} {name : String} {k : IntKind} {zs : List Int} {l : List (String × DataW Unit)} {g : Nat} {t e : TypeId} {n : Nat}
    (hg : P.globalNamed name = some g) (hty : (P.globals[g]?).map (·.type) = some t) (ht : P.underlying t = some (.array n e)) (he : P.underlying e = some (.int k)) (hce : P.cellsOf e = 1) (hct : P.cellsOf t = n)
    (h : laidMet P l W) (hm : (name, Lib.tabData k zs) ∈ l) : Lib.TabIs P W name k zs := by
  obtain ⟨g', t', cs, fuel, p, hg', ht', hvar, hd⟩ := Lib.laidMet.reads h hm
  obtain rfl := Option.some.inj (hg.symm.trans hg')
  obtain rfl := Option.some.inj (hty.symm.trans ht')
  unfold Lib.TabIs
  rw [hvar, ← Lib.cells_of_tab ht he hce hct hd]
def laidAll : List (String × DataW Unit) := [("math/bits.deBruijn32tab", Rows.laid_math_bits_deBruijn32tab), ("math/bits.deBruijn64tab", Rows.laid_math_bits_deBruijn64tab), ("internal/strconv.uint64pow10", Rows.laid_internal_strconv_uint64pow10), ("unicode.White_Space", Rows.laid_unicode_White_Space), ("strings.asciiSpace", Rows.laid_strings_asciiSpace)]
theorem data_pow : (Rows.laid_internal_strconv_uint64pow10 : DataW Unit) = Lib.tabData .u64 Lib.pow10Tab := by kernel_rfl
theorem data_space : (Rows.laid_strings_asciiSpace : DataW Unit) = Lib.tabData .u8 Lib.asciiSpaceTab := by kernel_rfl
structure TabT (W : World) : Prop where
  space : Lib.TabIs Tryz.prog W "strings.asciiSpace" .u8 Lib.asciiSpaceTab
  pow : Lib.TabIs Tryz.prog W "internal/strconv.uint64pow10" .u64 Lib.pow10Tab
theorem tabs {W : World} (h : laidMetH Tryz.prog laidAll W) : TabT W :=
  ⟨tabIs_mem gS gSType Tryz.underlying227 Tryz.underlying5 cellsU8 cellsS (show laidMet Tryz.prog laidAll W from h) (by rw [← data_space]; simp [laidAll]),
   tabIs_mem gPow gPowType Tryz.underlying323 Tryz.underlying206 cellsU64 cellsPow (show laidMet Tryz.prog laidAll W from h) (by rw [← data_pow]; simp [laidAll])⟩
def datCells : DataW Unit → Array Value
  | .agg l => (l.map fun | .lit (.int k n) => Value.int k n | _ => .bool false).toArray
  | _ => #[]
noncomputable def laidWorld (os : Os) : World :=
  let N := (World.settled Tryz.prog os).heap.size
  let w0 := World.holding Tryz.prog os ⟨#[
    .cells #[.int .u16 9, .int .u16 13, .int .u16 1, .int .u16 32, .int .u16 133, .int .u16 101, .int .u16 160, .int .u16 5760, .int .u16 5600, .int .u16 8192, .int .u16 8202, .int .u16 1, .int .u16 8232, .int .u16 8233, .int .u16 1, .int .u16 8239, .int .u16 8287, .int .u16 48, .int .u16 12288, .int .u16 12288, .int .u16 1] 314,
    .cells #[.slice (some ⟨N, 0, none⟩) 7 7, .slice none 0 0, .int .i64 2] 311], #[], []⟩
  let put (h : Array Obj) (g : Nat) (cs : Array Value) : Array Obj := h.modify g fun
    | .cells _ t frozen => .cells cs t frozen
    | o => o
  let h1 := put w0.heap 4 (datCells Rows.laid_math_bits_deBruijn32tab)
  let h2 := put h1 5 (datCells Rows.laid_math_bits_deBruijn64tab)
  let h3 := put h2 3 (datCells Rows.laid_internal_strconv_uint64pow10)
  let h4 := put h3 0 (Lib.asciiSpaceTab.map fun z => Value.int .u8 z).toArray
  let h5 := put h4 1 #[.pointer (some ⟨N + 1, 0, none⟩)]
  { w0 with heap := h5 }
theorem laid_met (os : Os) (args : Array Value) : laidMet Tryz.prog laidAll ((laidWorld os).forCall (fun _ _ => 0) ⟨#[], args, []⟩).memory :=
  laidMet_of_run' 8 (by kernel_rfl) (by kernel_rfl)
end Go.Proofs.YtfgoedndpcblpaaGreatDoor
end
section
namespace Go.Proofs.YtfgoedndpcblpaaGreatDoor.Pv
open Go
inductive Tag where
  | unk | full | grow (g : Nat)
  deriving DecidableEq
inductive FV where
  | im (v : Value)
  | sl (rows : List (List FV))
  deriving Inhabited
inductive PV where
  | im (v : Value)
  | sl (rows : List (List FV)) (tag : Tag)
  | agg (cells : List PV)
  | tup (vs : List PV)
  | ptr (b o : Nat)
  | el (row : List FV) (o : Nat)
  | fn (f : Fn) (cap : List PV)
  | mp (b : Nat)
  deriving Inhabited
def FV.up : FV → PV
  | .im v => .im v
  | .sl rows => .sl rows .unk
def byteT : TypeId := 5
structure Grow where
  blk : Nat
  elem : TypeId
  sz : Nat
  cap : Nat
  len : Nat
  ok : sz ≠ 0 ∧ (elem = byteT → sz = 1)
def Grow.code (r : Grow) : Nat := if r.elem = byteT then 0 else r.sz
structure Gh where
  fz : Nat → Nat → Option Value
  bx : List Nat
  gr : List Grow
def tagOk (G : Gh) (a : Option Addr) (n cap : Nat) : Tag → Prop
  | .unk => True
  | .full => n = cap
  | .grow g => ∃ r, G.gr[g]? = some r ∧ n ≤ r.len ∧ (n = r.len → a = some ⟨r.blk, 0, none⟩ ∧ cap = r.cap)
inductive RepF (fz : Nat → Nat → Option Value) : FV → Value → Prop
  | im (v : Value) (h : v.oneCell' = true) : RepF fz (.im v) v
  | sl {rows : List (List FV)} {a : Option Addr} {cap : Nat} (sz : Nat) (vs : Nat → Nat → Value) (hcap : rows.length ≤ cap) (hs : ∀ r ∈ rows, r.length = sz)
      (hv : ∀ i, i < rows.length → ∀ j, j < sz → ∃ b o, a = some ⟨b, o, none⟩ ∧ fz b (o + (i * sz + j)) = some (vs i j))
      (hr : ∀ i (hi : i < rows.length) j (hj : j < (rows[i]).length), RepF fz ((rows[i])[j]) (vs i j)) : RepF fz (.sl rows) (.slice a rows.length cap)
inductive Rep (G : Gh) : PV → Value → Prop
  | im (v : Value) : Rep G (.im v) v
  | sl {rows : List (List FV)} {tag : Tag} {a : Option Addr} {cap : Nat} (h : RepF G.fz (.sl rows) (.slice a rows.length cap)) (ht : tagOk G a rows.length cap tag) : Rep G (.sl rows tag) (.slice a rows.length cap)
  | agg {cs : List PV} {vs : Array Value} (hl : cs.length = vs.size) (hr : ∀ i (h : i < cs.length), Rep G cs[i] (vs.getD i undef)) : Rep G (.agg cs) (.agg vs)
  | tup {cs : List PV} {vs : Array Value} (hl : cs.length = vs.size) (hr : ∀ i (h : i < cs.length), Rep G cs[i] (vs.getD i undef)) : Rep G (.tup cs) (.tuple vs)
  | ptr {b o blk : Nat} (h : G.bx[b]? = some blk) : Rep G (.ptr b o) (.pointer (some ⟨blk, o, none⟩))
  | el {row : List FV} {o b base : Nat} (vs : Nat → Value) (hv : ∀ j, j < row.length → G.fz b (base + j) = some (vs j)) (hr : ∀ j (h : j < row.length), RepF G.fz row[j] (vs j)) : Rep G (.el row o) (.pointer (some ⟨b, base + o, none⟩))
  | mp {b blk : Nat} (h : G.bx[b]? = some blk) : Rep G (.mp b) (.map (some blk))
  | fn {f : Fn} {cs : List PV} {vs : Array Value} (hl : cs.length = vs.size) (hr : ∀ i (h : i < cs.length), Rep G cs[i] (vs.getD i undef)) : Rep G (.fn f cs) (.func f #[] vs)
theorem RepF.up {G : Gh} {x : FV} {v : Value} (h : RepF G.fz x v) : Rep G x.up v := by
  cases h with
  | im v h => exact .im v
  | sl sz vs hcap hs hv hr => exact .sl (.sl sz vs hcap hs hv hr) trivial
theorem RepF.mono {fz fz' : Nat → Nat → Option Value} (hf : ∀ b o v, fz b o = some v → fz' b o = some v) {p : FV} {v : Value} (h : RepF fz p v) : RepF fz' p v := by
  induction h with
  | im v h => exact .im v h
  | sl sz vs hcap hs hv hr ih => exact .sl sz vs hcap hs (fun i hi j hj => by obtain ⟨b, o, e, k⟩ := hv i hi j hj; exact ⟨b, o, e, hf _ _ _ k⟩) ih
structure Gh.Le (G G' : Gh) : Prop where
  fz : ∀ b o v, G.fz b o = some v → G'.fz b o = some v
  bx : ∀ i b : Nat, G.bx[i]? = some b → G'.bx[i]? = some b
  gr : ∀ (g : Nat) (r : Grow), G.gr[g]? = some r → ∃ r', G'.gr[g]? = some r' ∧ (r' = r ∨ r.len < r'.len)
theorem Gh.Le.refl (G : Gh) : G.Le G := ⟨fun _ _ _ h => h, fun _ _ h => h, fun _ r h => ⟨r, h, .inl rfl⟩⟩
theorem Gh.Le.trans {G G' G'' : Gh} (h : G.Le G') (k : G'.Le G'') : G.Le G'' :=
  ⟨fun b o v e => k.fz b o v (h.fz b o v e), fun i b e => k.bx i b (h.bx i b e), fun g r e => by
    obtain ⟨r1, e1, h1⟩ := h.gr g r e
    obtain ⟨r2, e2, h2⟩ := k.gr g r1 e1
    refine ⟨r2, e2, ?_⟩
    rcases h1 with rfl | h1
    · exact h2
    · rcases h2 with rfl | h2
      · exact .inr h1
      · exact .inr (Nat.lt_trans h1 h2)⟩
theorem tagOk_mono {G G' : Gh} (hG : G.Le G') {a : Option Addr} {n cap : Nat} {t : Tag} (h : tagOk G a n cap t) : tagOk G' a n cap t := by
  cases t with
  | unk => exact h
  | full => exact h
  | grow g =>
    obtain ⟨r, e, h1, h2⟩ := h
    obtain ⟨r', e', h'⟩ := hG.gr g r e
    refine ⟨r', e', ?_⟩
    rcases h' with rfl | h'
    · exact ⟨h1, h2⟩
    · exact ⟨by omega, fun e => by omega⟩
theorem Rep.mono {G G' : Gh} (hG : G.Le G') {p : PV} {v : Value} (h : Rep G p v) : Rep G' p v := by
  induction h with
  | im v => exact .im v
  | sl h ht => exact .sl (h.mono hG.fz) (tagOk_mono hG ht)
  | agg hl hr ih => exact .agg hl ih
  | tup hl hr ih => exact .tup hl ih
  | ptr h => exact .ptr (hG.bx _ _ h)
  | el vs hv hr => exact .el vs (fun j hj => hG.fz _ _ _ (hv j hj)) (fun j hj => (hr j hj).mono hG.fz)
  | fn hl hr ih => exact .fn hl ih
  | mp h => exact .mp (hG.bx _ _ h)
end Go.Proofs.YtfgoedndpcblpaaGreatDoor.Pv
end
section
namespace Go.Proofs.YtfgoedndpcblpaaGreatDoor.Pv
open Go
noncomputable def liesB (t : TypeId) (n : Nat) : Bool := decide (0 < n) && liesAt Tryz.prog Tryz.prog.depth t (n / Tryz.prog.cellsOf t) 0 143 1
def nilV : PV → Bool
  | .im (.pointer none) => true
  | _ => false
def slV : PV → Bool
  | .sl _ _ => true
  | _ => false
def flagged : List PV → Bool
  | x :: y :: _ => nilV x && slV y
  | _ => false
noncomputable def bldOk (t : TypeId) (cs : List PV) : Bool := !flagged cs || liesB t cs.length
theorem bldOk_of {t : TypeId} {cs : List PV} (h : bldOk t cs = true) : flagged cs = true → liesB t cs.length = true := by
  intro hf
  unfold bldOk at h
  rw [hf] at h
  simpa using h
end Go.Proofs.YtfgoedndpcblpaaGreatDoor.Pv
end
section
namespace Go.Proofs.YtfgoedndpcblpaaGreatDoor.Pv
noncomputable section
open Go
inductive Bx where
  | cells (cs : List PV)
  | iter (s : ByteArray) (pos : Nat)
  | map (es : List (Value × PV))
inductive BxRep (G : Gh) : Bx → Obj → Prop
  | cells {cells : List PV} {cs : Array Value} (t : TypeId) (hl : cs.size = cells.length) (hr : ∀ j (h : j < cells.length), Rep G cells[j] (cs.getD j undef)) (hb : flagged cells = true → liesB t cells.length = true) : BxRep G (.cells cells) (.cells cs t (0, 0))
  | iter (s : ByteArray) (pos : Nat) : BxRep G (.iter s pos) (.stringIter s pos)
  | map {el es : List (Value × PV)} {en : Array MapEntry} (clock : Nat) (hp : es.Perm el) (hu : (el.map (·.1)).Nodup) (hl : en.size = es.length) (hr : ∀ j (h : j < es.length) (k : j < en.size), en[j].key = es[j].1 ∧ Rep G es[j].2 en[j].val) : BxRep G (.map el) (.map en clock)
theorem BxRep.mono {G G' : Gh} (hG : G.Le G') {b : Bx} {o : Obj} (h : BxRep G b o) : BxRep G' b o := by
  cases h with
  | cells t hl hr hb => exact .cells t hl (fun j h => (hr j h).mono hG) hb
  | iter s pos => exact .iter s pos
  | map c hp hu hl hr => exact .map c hp hu hl (fun j h k => ⟨(hr j h k).1, (hr j h k).2.mono hG⟩)
theorem BxRep.perm {G : Gh} {l l' : List (Value × PV)} {o : Obj} (h : BxRep G (.map l) o) (hp : l.Perm l') : BxRep G (.map l') o := by
  cases h with
  | map c hp' hu hl hr => exact .map c (hp'.trans hp) ((hp.map _).nodup_iff.1 hu) hl hr
theorem perm_idx {α : Type} {l : List α} {i : Nat} {x : α} (h : l[i]? = some x) : l.Perm (x :: l.eraseIdx i) := by
  obtain ⟨hi, e⟩ := List.getElem?_eq_some_iff.1 h
  have e1 : l = l.take i ++ x :: l.drop (i + 1) := by
    rw [← e, ← List.drop_eq_getElem_cons hi, List.take_append_drop]
  rw [List.eraseIdx_eq_take_drop_succ]
  exact (List.Perm.of_eq e1).trans List.perm_middle
theorem perm_erase {α : Type} {l l' : List α} {i i' : Nat} {x : α} (h : l'.Perm l) (hi : l[i]? = some x) (hi' : l'[i']? = some x) : (l'.eraseIdx i').Perm (l.eraseIdx i) :=
  ((perm_idx hi').symm.trans (h.trans (perm_idx hi))).cons_inv
theorem perm_set {α : Type} {l l' : List α} {i i' : Nat} {x y : α} (h : l'.Perm l) (hi : l[i]? = some x) (hi' : l'[i']? = some x) : (l'.set i' y).Perm (l.set i y) := by
  have a : (l.set i y).Perm (y :: l.eraseIdx i) := by
    have := perm_idx (l := l.set i y) (i := i) (x := y) (by rw [List.getElem?_set_self (List.getElem?_eq_some_iff.1 hi).1])
    rwa [List.eraseIdx_set_eq] at this
  have a' : (l'.set i' y).Perm (y :: l'.eraseIdx i') := by
    have := perm_idx (l := l'.set i' y) (i := i') (x := y) (by rw [List.getElem?_set_self (List.getElem?_eq_some_iff.1 hi').1])
    rwa [List.eraseIdx_set_eq] at this
  exact a'.trans (((perm_erase h hi hi').cons y).trans a.symm)
structure Sto where
  bx : List Bx
  gr : List (Nat × Nat)
def Gh.M (G : Gh) (b : Nat) : Prop := (∃ i : Nat, G.bx[i]? = some b) ∨ ∃ (g : Nat) (r : Grow), G.gr[g]? = some r ∧ r.blk = b
structure Inv (G : Gh) (σ : Sto) (w : World) : Prop where
  fz : ∀ b o v, G.fz b o = some v → w.cell? ⟨b, o, none⟩ = some v
  bxl : G.bx.length = σ.bx.length
  bxc : ∀ (i blk : Nat) (x : Bx), G.bx[i]? = some blk → σ.bx[i]? = some x → ∃ o, w.heap[blk]? = some o ∧ BxRep G x o
  bxf : ∀ (i blk : Nat) o, G.bx[i]? = some blk → G.fz blk o = none
  bxn : ∀ i j blk : Nat, G.bx[i]? = some blk → G.bx[j]? = some blk → i = j
  grl : G.gr.map (fun r => (r.len, r.code)) = σ.gr
  grc : ∀ (g : Nat) (r : Grow), G.gr[g]? = some r → ∃ cs fr, w.heap[r.blk]? = some (.cells cs r.elem fr) ∧ fr.2 ≤ r.len * r.sz ∧ cs.size = r.cap * r.sz ∧ r.len ≤ r.cap ∧ ∀ o, r.len * r.sz ≤ o → G.fz r.blk o = none
  grn : ∀ (g h : Nat) (r s : Grow), G.gr[g]? = some r → G.gr[h]? = some s → r.blk = s.blk → g = h
  grb : ∀ (g i blk : Nat) (r : Grow), G.gr[g]? = some r → G.bx[i]? = some blk → r.blk ≠ blk
structure Later (G : Gh) (w : World) (G' : Gh) (w' : World) : Prop where
  le : G.Le G'
  size : w.heap.size ≤ w'.heap.size
  same : ∀ b, b < w.heap.size → ¬ G.M b → w'.heap[b]? = w.heap[b]?
  new : ∀ b, G'.M b → G.M b ∨ w.heap.size ≤ b
  fzn : ∀ b o v, G'.fz b o = some v → G.fz b o = some v ∨ G.M b ∨ w.heap.size ≤ b
  io : w'.os = w.os ∧ w'.tape = w.tape ∧ w'.output = w.output
theorem Later.refl (G : Gh) (w : World) : Later G w G w := ⟨.refl G, Nat.le_refl _, fun _ _ _ => rfl, fun _ h => .inl h, fun _ _ _ h => .inl h, rfl, rfl, rfl⟩
theorem Later.trans {G G' G'' : Gh} {w w' w'' : World} (h : Later G w G' w') (k : Later G' w' G'' w'') : Later G w G'' w'' where
  le := h.le.trans k.le
  size := Nat.le_trans h.size k.size
  same b hb hn := by
    rw [k.same b (Nat.lt_of_lt_of_le hb h.size) (fun hm => by rcases h.new b hm with h1 | h1; exact hn h1; omega), h.same b hb hn]
  new b hb := by
    rcases k.new b hb with h1 | h1
    · exact h.new b h1
    · exact .inr (Nat.le_trans h.size h1)
  fzn b o v hv := by
    rcases k.fzn b o v hv with h1 | h1 | h1
    · exact h.fzn b o v h1
    · rcases h.new b h1 with h2 | h2
      · exact .inr (.inl h2)
      · exact .inr (.inr h2)
    · exact .inr (.inr (Nat.le_trans h.size h1))
  io := ⟨k.io.1.trans h.io.1, k.io.2.1.trans h.io.2.1, k.io.2.2.trans h.io.2.2⟩
def constV : Value → PV
  | .slice none 0 0 => .sl [] .full
  | v => .im v
theorem constV_rep (G : Gh) (v : Value) : Rep G (constV v) v := by
  unfold constV
  split
  · exact Rep.sl (rows := []) (.sl 0 (fun _ _ => undef) (Nat.le_refl _) (by simp) (by simp) (by simp)) rfl
  · exact .im _
def opdE (env : Nat → PV) : Operand → PV
  | .tmp t => env t
  | .const v => constV v
  | .global g => .im (.pointer (some ⟨g, 0, none⟩))
  | .func f => .im (.func (.func f) #[] #[])
def EnvRep (G : Gh) (env : Nat → PV) (a : Act) : Prop := ∀ t, Rep G (env t) (a.tmps.getD t undef)
theorem EnvRep.opd {G : Gh} {env : Nat → PV} {a : Act} (h : EnvRep G env a) (x : Operand) : Rep G (opdE env x) (a.eval x) := by
  cases x with
  | tmp t => exact h t
  | const v => exact constV_rep G v
  | global g => exact .im _
  | func f => exact .im _
def upd (env : Nat → PV) (t : Nat) (v : PV) : Nat → PV := fun s => if s = t then v else env s
theorem EnvRep.put {G : Gh} {env : Nat → PV} {a : Act} (h : EnvRep G env a) {t : Nat} (ht : t < a.tmps.size) {p : PV} {v : Value} (hv : Rep G p v) : EnvRep G (upd env t p) (a.put (some t) v) := by
  intro s
  unfold upd
  simp only [Act.put]
  by_cases e : s = t
  · subst e
    rw [if_pos rfl, Array.getD_eq_getD_getElem?, Array.getElem?_setIfInBounds_self_of_lt ht]; exact hv
  · rw [if_neg e, Array.getD_eq_getD_getElem?, Array.getElem?_setIfInBounds_ne (Ne.symm e), ← Array.getD_eq_getD_getElem?]; exact h s
theorem EnvRep.mono {G G' : Gh} (hG : G.Le G') {env : Nat → PV} {a : Act} (h : EnvRep G env a) : EnvRep G' env a := fun t => (h t).mono hG
def eqD : TypeDesc → PV → PV → Option Bool
  | .int _, .im (.int k a), .im (.int k' b) => if k = k' then some (a == b) else none
  | .bool, .im (.bool a), .im (.bool b) => some (a == b)
  | .string, .im (.string a), .im (.string b) => some (a.toList == b.toList)
  | _, _, _ => none
def eqFs (P : Program) (xs ys : List PV) : List Field → Option Bool
  | [] => some true
  | f :: fs => if f.name = "_" then none else
    match P.underlying f.type, xs[f.offset]?, ys[f.offset]? with
    | some d, some x, some y => match eqD d x y, eqFs P xs ys fs with
      | some b, some c => some (b && c)
      | _, _ => none
    | _, _, _ => none
def eqE (P : Program) (t : TypeId) (xs ys : List PV) : Option Bool :=
  match P.underlying t with
  | some (.struct fs) => if P.stoodInHeld t = false ∧ P.eqGuardType P.depth t = false then eqFs P xs ys fs.toList else none
  | _ => none
def binE (P : Program) (t : TypeId) (op : BinOp) : PV → PV → Option PV
  | .im (.int k a), .im (.int k' b) =>
    match op with
    | .shl => if b < 0 then none else some (.im (.int k (k.wrap (a * 2 ^ min b.toNat k.bits))))
    | .shr => if b < 0 then none else some (.im (.int k (a.fdiv (2 ^ min b.toNat k.bits))))
    | _ => if k = k' then
      match op with
      | .and => some (.im (.int k (k.wrap ((BitVec.ofInt k.bits a &&& BitVec.ofInt k.bits b).toNat : Nat))))
      | .or => some (.im (.int k (k.wrap ((BitVec.ofInt k.bits a ||| BitVec.ofInt k.bits b).toNat : Nat))))
      | .xor => some (.im (.int k (k.wrap ((BitVec.ofInt k.bits a ^^^ BitVec.ofInt k.bits b).toNat : Nat))))
      | .andNot => some (.im (.int k (k.wrap ((BitVec.ofInt k.bits a &&& ~~~ BitVec.ofInt k.bits b).toNat : Nat))))
      | .add => some (.im (.int k (k.wrap (a + b))))
      | .sub => some (.im (.int k (k.wrap (a - b))))
      | .mul => some (.im (.int k (k.wrap (a * b))))
      | .quo => if b = 0 then none else some (.im (.int k (k.wrap (a.tdiv b))))
      | .rem => if b = 0 then none else some (.im (.int k (a.tmod b)))
      | .eql => some (.im (.bool (a == b)))
      | .neq => some (.im (.bool (a != b)))
      | .lss => some (.im (.bool (a < b)))
      | .leq => some (.im (.bool (a ≤ b)))
      | .gtr => some (.im (.bool (a > b)))
      | .geq => some (.im (.bool (a ≥ b)))
      | _ => none
    else none
  | .im (.bool a), .im (.bool b) =>
    match P.underlying t, op with
    | some .bool, .eql => some (.im (.bool (a == b)))
    | some .bool, .neq => some (.im (.bool (!(a == b))))
    | _, _ => none
  | .im (.string a), .im (.string b) =>
    match op with
    | .add => if a.size + b.size ≤ 9223372036854775807 then some (.im (.string (a ++ b))) else none
    | .eql => some (.im (.bool (a.toList == b.toList)))
    | .neq => some (.im (.bool (!(a.toList == b.toList))))
    | _ => none
  | .agg xs, .agg ys =>
    match op with
    | .eql => (eqE P t xs ys).map fun b => .im (.bool b)
    | .neq => (eqE P t xs ys).map fun b => .im (.bool (!b))
    | _ => none
  | _, _ => none
def loadE (P : Program) (t : TypeId) (cells : List PV) (o : Nat) : Option PV :=
  match P.underlying t with
  | some (.struct _) | some (.array _ _) => match P.info? t with
    | some i => if o + i.size ≤ cells.length then some (.agg ((cells.drop o).take i.size)) else none
    | none => none
  | some _ => cells[o]?
  | none => none
def addE (p : PV) (n : Nat) : Option PV :=
  match p with
  | .ptr b o => some (.ptr b (o + n))
  | .el row o => some (.el row (o + n))
  | _ => none
def indexE (P : Program) (t : TypeId) (x i : PV) : Option PV :=
  match x, i with
  | .sl rows _, .im (.int _ i) =>
    match P.underlying t with
    | some (.slice e) =>
      if 0 ≤ i ∧ i < rows.length then
        match P.info? e, rows[i.toNat]? with
        | some info, some row => if row.length = info.size ∧ info.size ≠ 0 then some (.el row 0) else none
        | _, _ => none
      else none
    | _ => none
  | _, _ => none
def fieldAddrE (P : Program) (s : TypeId) (x : PV) (f : Nat) : Option PV :=
  match P.underlying s with
  | some (.struct fs) =>
    match fs[f]? with
    | some fd => match P.info? fd.type with
      | some info => if info.size = 0 then none else addE x fd.offset
      | none => none
    | none => none
  | _ => none
def lenE (P : Program) (t : TypeId) (x : PV) : Option PV :=
  match P.underlying t, x with
  | some .string, .im (.string s) => some (.im (.int .i64 s.size))
  | some (.slice _), .sl rows _ => some (.im (.int .i64 rows.length))
  | _, _ => none
def lenP (P : Program) (σ : Sto) (t : TypeId) : PV → Option PV
  | .mp b => match P.underlying t, σ.bx[b]? with
    | some (.map _ _), some (.map es) => some (.im (.int .i64 es.length))
    | _, _ => none
  | p => lenE P t p
def mapTs (P : Program) (ts : Array TypeId) : Bool := ts.toList.any fun t => match P.underlying t with
  | some (.map _ _) => true
  | _ => false
def PV.leaf : PV → Bool
  | .im v => v.oneCell'
  | .agg _ => false
  | .tup _ => false
  | _ => true
def PV.cells? : PV → Option (List PV)
  | .agg cs => if cs.all PV.leaf = true then some cs else none
  | .tup _ => none
  | p => if p.leaf = true then some [p] else none
def zeroE (P : Program) (t : TypeId) : Option (List PV) :=
  match P.info? t with
  | some i => match i.zero with
    | some v => if (v.cells.toList.all fun c => c.oneCell') = true then some (v.cells.toList.map constV) else none
    | none => none
  | none => none
def setAt (cells : List PV) (o : Nat) (vs : List PV) : List PV := cells.take o ++ (vs ++ cells.drop (o + vs.length))
def fillE (place : Nat → Option (Nat × Nat)) : List PV → List (Nat × PV) → Option (List PV)
  | cells, [] => some cells
  | cells, (i, v) :: rest => match place i, v.cells? with
    | some (off, size), some vs => if vs.length = size ∧ off + vs.length ≤ cells.length then fillE place (setAt cells off vs) rest else none
    | _, _ => none
def PV.toF : PV → Option FV
  | .im v => if v.oneCell' = true then some (.im v) else none
  | .sl rows _ => some (.sl rows)
  | _ => none
def toFs : List PV → Option (List FV)
  | [] => some []
  | x :: xs => match x.toF, toFs xs with
    | some y, some ys => some (y :: ys)
    | _, _ => none
def placesE (P : Program) : List Field → Option (List (Nat × Nat))
  | [] => some []
  | f :: fs => match P.info? f.type, placesE P fs with
    | some i, some ps => some ((f.offset, i.size) :: ps)
    | _, _ => none
def buildE (P : Program) (t : TypeId) (parts : List (Nat × PV)) : Option PV :=
  match P.underlying t with
  | some (.struct fs) => match placesE P fs.toList, zeroE P t with
    | some ps, some zs => (fillE (fun i => ps[i]?) zs parts).map .agg
    | _, _ => none
  | _ => none
def chunks (size len : Nat) (fs : List FV) : List (List FV) := (List.range len).map fun k => (fs.drop (k * size)).take size
def buildSliceE (P : Program) (t : TypeId) (len : Nat) (parts : List (Nat × PV)) : Option PV :=
  match P.underlying t with
  | some (.slice e) => match P.info? e, zeroE P e with
    | some i, some zs =>
      if zs.length = i.size ∧ i.size ≠ 0 ∧ len * i.size ≤ 16777216 then
        match fillE (fun k => some (k * i.size, i.size)) ((List.range (len * i.size)).map fun k => zs.getD (k % i.size) (.im undef)) parts with
        | some cells => (toFs cells).map fun fs => .sl (chunks i.size len fs) .full
        | none => none
      else none
    | _, _ => none
  | _ => none
def sized (size : Nat) (rows : List (List FV)) : Bool := rows.all fun r => r.length == size
def appInfo (P : Program) (t u : TypeId) : Option (TypeId × TypeInfo) :=
  match P.underlying t, P.underlying u with
  | some (.slice e), some (.slice _) => match P.info? e, zeroE P e with
    | some i, some zs => if zs.length = i.size ∧ i.size ≠ 0 ∧ i.bytes ≤ 1073741824 ∧ i.bytes ≠ 0 then some (e, i) else none
    | _, _ => none
  | _, _ => none
def appInfoS (P : Program) (t u : TypeId) : Option (TypeId × TypeInfo) :=
  match P.underlying t, P.underlying u with
  | some (.slice e), some .string => match P.info? e, zeroE P e with
    | some i, some zs => if zs.length = i.size ∧ i.size = 1 ∧ i.bytes ≤ 1073741824 ∧ i.bytes ≠ 0 then some (e, i) else none
    | _, _ => none
  | _, _ => none
def appG (size code bytes : Nat) (σ : Sto) (rows : List (List FV)) (tag : Tag) (xs : List (List FV)) : Option (PV × Sto) :=
  if sized size rows = true ∧ sized size xs = true ∧ (rows.length + xs.length) * bytes ≤ 70368744177664 then
    if xs.length = 0 then some (.sl rows tag, σ) else match tag with
    | .full => if xs.length = 0 then none else some (.sl (rows ++ xs) (.grow σ.gr.length), { σ with gr := σ.gr ++ [(rows.length + xs.length, code)] })
    | .grow g => if σ.gr[g]? = some (rows.length, code) ∧ xs.length ≠ 0 then some (.sl (rows ++ xs) (.grow g), { σ with gr := σ.gr.set g (rows.length + xs.length, code) }) else none
    | .unk => none
  else none
def strRows (s : ByteArray) : List (List FV) := s.data.toList.map fun b => [.im (.int .u8 b.toNat)]
def appendE (P : Program) (t u : TypeId) (σ : Sto) : PV → PV → Option (PV × Sto)
  | .sl rows tag, .sl xs _ => match appInfo P t u with
    | some (e, i) => if e = byteT then none else appG i.size i.size i.bytes σ rows tag xs
    | none => none
  | .sl rows tag, .im (.string s) => match appInfoS P t u with
    | some (e, i) => if e = byteT then appG i.size 0 i.bytes σ rows tag (strRows s) else none
    | none => none
  | _, _ => none
def strIndexE (P : Program) (t : TypeId) (x i : PV) : Option PV :=
  match P.underlying t, x, i with
  | some .string, .im (.string s), .im (.int _ i) => match (if 0 ≤ i then s[i.toNat]? else none) with
    | some b => some (.im (.int .u8 b.toNat))
    | none => none
  | _, _, _ => none
def fieldE (P : Program) (t : TypeId) (x : PV) (f : Nat) : Option PV :=
  match P.underlying t, x with
  | some (.struct fs), .agg cs => match fs[f]? with
    | some fd => loadE P fd.type cs fd.offset
    | none => none
  | _, _ => none
def convE (P : Program) (src dst : TypeId) (x : PV) : Option PV :=
  match P.underlying src, P.underlying dst, x with
  | some _, some (.int k), .im (.int _ n) => some (.im (.int k (k.wrap n)))
  | some _, some .string, .im (.string s) => some (.im (.string s))
  | some _, some .string, .im (.int _ n) => some (.im (.string (Utf8.encode n)))
  | _, _, _ => none
def boundE (x : Option PV) (y d : Nat) : Option Nat :=
  match x with
  | none => some d
  | some (.im (.int _ i)) => if 0 ≤ i ∧ i ≤ y then some i.toNat else none
  | some _ => none
def sliceE (P : Program) (t : TypeId) (x : PV) (lo hi mx : Option PV) : Option PV :=
  match P.underlying t, x with
  | some .string, .im (.string s) => if mx.isSome = true then none else
    match boundE hi s.size s.size with
    | some h => match boundE lo h 0 with
      | some l => some (.im (.string (s.extract l h)))
      | none => none
    | none => none
  | some (.slice e), .sl rows tag => match P.info? e with
    | some i =>
      match mx with
      | none => match boundE hi rows.length rows.length with
        | some h => match boundE lo h 0 with
          | some l => if l = 0 ∨ sized i.size rows = true then some (.sl ((rows.drop l).take (h - l)) (if hi.isNone = true ∧ tag = .full then .full else .unk)) else none
          | none => none
        | none => none
      | some m => match boundE (some m) rows.length 0 with
        | some m => if hi.isNone = true then none else match boundE hi m m with
          | some h => match boundE lo h 0 with
            | some l => if l = 0 ∨ sized i.size rows = true then some (.sl ((rows.drop l).take (h - l)) (if h = m then .full else .unk)) else none
            | none => none
          | none => none
        | none => none
    | none => none
  | _, _ => none
def keyOk : TypeDesc → Value → Bool
  | .bool, .bool _ => true
  | .int k, .int k' _ => k' = k
  | .string, .string _ => true
  | _, _ => false
def keyEq : Value → Value → Bool
  | .bool a, .bool b => a == b
  | .int _ a, .int _ b => a == b
  | .string a, .string b => a.toList == b.toList
  | _, _ => false
def mfind : List (Value × PV) → Value → Nat → Option (Nat × PV)
  | [], _, _ => none
  | e :: es, k, i => if keyEq k e.1 = true then some (i, e.2) else mfind es k (i + 1)
def entriesE (σ : Sto) : PV → Option (List (Value × PV))
  | .im (.map none) => some []
  | .mp b => match σ.bx[b]? with
    | some (.map es) => some es
    | _ => none
  | _ => none
def zeroV (P : Program) (t : TypeId) : Option PV := match P.info? t with
  | some i => match i.zero with
    | some (.agg vs) => some (.agg (vs.toList.map constV))
    | some v => some (constV v)
    | none => none
  | none => none
def lookupE (P : Program) (σ : Sto) (t : TypeId) (x i : PV) (ok : Bool) : Option PV :=
  match P.underlying t, entriesE σ x, i with
  | some (.map key elem), some es, .im k => match P.underlying key with
    | some d => if keyOk d k = true ∧ (es.all fun e => keyOk d e.1) = true then
        match mfind es k 0 with
        | some (_, v) => some (if ok = true then .tup [v, .im (.bool true)] else v)
        | none => (zeroV P elem).map fun v => if ok = true then .tup [v, .im (.bool false)] else v
      else none
    | none => none
  | _, _, _ => none
def insertE (P : Program) (σ : Sto) (t : TypeId) (x i v : PV) : Option Sto :=
  match P.underlying t, x, i with
  | some (.map key _), .mp b, .im k => match P.underlying key, σ.bx[b]? with
    | some d, some (.map es) => if keyOk d k = true ∧ (es.all fun e => keyOk d e.1) = true then
        match mfind es k 0 with
        | some (j, _) => some { σ with bx := σ.bx.set b (.map (es.set j (k, v))) }
        | none => some { σ with bx := σ.bx.set b (.map (es ++ [(k, v)])) }
      else none
    | _, _ => none
  | _, _, _ => none
def deleteE (P : Program) (σ : Sto) (t : TypeId) (x i : PV) : Option Sto :=
  match P.underlying t, x, i with
  | some (.map key _), .mp b, .im k => match P.underlying key, σ.bx[b]? with
    | some d, some (.map es) => if keyOk d k = true ∧ (es.all fun e => keyOk d e.1) = true then
        match mfind es k 0 with
        | some (j, _) => some { σ with bx := σ.bx.set b (.map (es.eraseIdx j)) }
        | none => some { σ with bx := σ.bx.set b (.map es) }
      else none
    | _, _ => none
  | _, _, _ => none
def rangeE (P : Program) (t : TypeId) (x : PV) : Option Bx :=
  match P.underlying t, x with
  | some .string, .im (.string s) => some (.iter s 0)
  | _, _ => none
def min2E : PV → PV → Option PV
  | .im (.int k x), .im (.int _ y) => some (.im (.int k (if y < x then y else x)))
  | _, _ => none
def max2E : PV → PV → Option PV
  | .im (.int k x), .im (.int _ y) => some (.im (.int k (if x < y then y else x)))
  | _, _ => none
def unE (op : UnOp) : PV → Option PV
  | .im (.bool b) => match op with
    | .not => some (.im (.bool (!b)))
    | _ => none
  | .im (.int k n) => match op with
    | .neg => some (.im (.int k (k.wrap (0 - n))))
    | _ => none
  | _ => none
def opE (P : Program) (env : Nat → PV) (σ : Sto) (o : Op) : Option (PV × Sto) :=
  match o with
  | .move x | .assign x => some (opdE env x, σ)
  | .binOp op t x y _ => (binE P t op (opdE env x) (opdE env y)).map (·, σ)
  | .load t a =>
    match opdE env a with
    | .ptr b o => match σ.bx[b]? with
      | some (.cells cells) => (loadE P t cells o).map (·, σ)
      | _ => none
    | .el row o => (loadE P t (row.map FV.up) o).map (·, σ)
    | _ => none
  | .store t a x =>
    match opdE env a with
    | .ptr b o => match σ.bx[b]?, (opdE env x).cells?, P.info? t with
      | some (.cells cells), some vs, some i => if vs.length = i.size ∧ o + vs.length ≤ cells.length ∧ (!flagged (setAt cells o vs) || flagged cells) = true then some (.im undef, { σ with bx := σ.bx.set b (.cells (setAt cells o vs)) }) else none
      | _, _, _ => none
    | _ => none
  | .build t parts => (buildE P t (parts.toList.map fun p => (p.1, opdE env p.2))).map (·, σ)
  | .buildSlice t len parts => (buildSliceE P t len (parts.toList.map fun p => (p.1, opdE env p.2))).map (·, σ)
  | .alloc t => (zeroE P t).bind fun cs => if bldOk t cs = true then some (.ptr σ.bx.length 0, { σ with bx := σ.bx ++ [.cells cs] }) else none
  | .box t x => (opdE env x).cells?.bind fun cs => if bldOk t cs = true then some (.ptr σ.bx.length 0, { σ with bx := σ.bx ++ [.cells cs] }) else none
  | .pick c a b => match opdE env c with
    | .im (.bool true) => some (opdE env a, σ)
    | .im (.bool false) => some (opdE env b, σ)
    | _ => none
  | .unOp op _ x => (unE op (opdE env x)).map (·, σ)
  | .extract t i => match opdE env t with
    | .tup vs => (vs[i]?).map (·, σ)
    | _ => none
  | .nilCheck x => match opdE env x with
    | .ptr b o => some (.ptr b o, σ)
    | .el row o => some (.el row o, σ)
    | _ => none
  | .makeFunc f first cap => if first.size = 0 then some (.fn f (cap.toList.map (opdE env)), σ) else none
  | .fieldAddr s x f => (fieldAddrE P s (opdE env x) f).map (·, σ)
  | .indexAddr t x i => (indexE P t (opdE env x) (opdE env i)).map (·, σ)
  | .index t x i => (strIndexE P t (opdE env x) (opdE env i)).map (·, σ)
  | .field t x f => (fieldE P t (opdE env x) f).map (·, σ)
  | .convert s d x => (convE P s d (opdE env x)).map (·, σ)
  | .slice t x lo hi mx => (sliceE P t (opdE env x) (lo.map (opdE env)) (hi.map (opdE env)) (mx.map (opdE env))).map (·, σ)
  | .lookup t x i ok => (lookupE P σ t (opdE env x) (opdE env i) ok).map (·, σ)
  | .makeMap _ none => some (.mp σ.bx.length, { σ with bx := σ.bx ++ [.map []] })
  | .insert t m k v => (insertE P σ t (opdE env m) (opdE env k) (opdE env v)).map (.im undef, ·)
  | .mapUpdate t m k v => (insertE P σ t (opdE env m) (opdE env k) (opdE env v)).map (.im undef, ·)
  | .range t x => (rangeE P t (opdE env x)).map fun b => (.ptr σ.bx.length 0, { σ with bx := σ.bx ++ [b] })
  | .next it true => match opdE env it with
    | .ptr b 0 => match σ.bx[b]? with
      | some (.iter s pos) => if pos < s.size then some (.tup [.im (.bool true), .im (.int .i64 pos), .im (.int .i32 (Utf8.decode s pos).1)], { σ with bx := σ.bx.set b (.iter s (pos + (Utf8.decode s pos).2)) }) else some (.tup [.im (.bool false)], σ)
      | _ => none
    | _ => none
  | .call { callee := .builtin .min, args := args, .. } =>
    match args.toList with
    | [x, y] => (min2E (opdE env x) (opdE env y)).map (·, σ)
    | [x, y, z] => ((min2E (opdE env x) (opdE env y)).bind fun p => min2E p (opdE env z)).map (·, σ)
    | _ => none
  | .call { callee := .builtin .max, args := args, .. } =>
    match args.toList with
    | [x, y] => (max2E (opdE env x) (opdE env y)).map (·, σ)
    | [x, y, z] => ((max2E (opdE env x) (opdE env y)).bind fun p => max2E p (opdE env z)).map (·, σ)
    | _ => none
  | .call { callee := .builtin .append, args := args, argTypes := ts } =>
    match args.toList, ts.toList with
    | [x, y], [t, u] => appendE P t u σ (opdE env x) (opdE env y)
    | _, _ => none
  | .call { callee := .builtin .len, args := args, argTypes := ts } =>
    match args.toList, ts.toList with
    | [x], [t] => (lenP P σ t (opdE env x)).map (·, σ)
    | _, _ => none
  | .call { callee := .builtin .delete, args := args, argTypes := ts } =>
    match args.toList, ts.toList with
    | [m, k], [t, _] => (deleteE P σ t (opdE env m) (opdE env k)).map (.tup [], ·)
    | _, _ => none
  | _ => none
end
end Go.Proofs.YtfgoedndpcblpaaGreatDoor.Pv
end
section
namespace Go.Proofs.YtfgoedndpcblpaaGreatDoor.Pv
open Go
set_option linter.unusedSimpArgs false
set_option linter.unusedVariables false
def CellsAt (G : Gh) (w : World) (cells : List PV) (blk base : Nat) : Prop :=
  ∃ vs : Nat → Value, (∀ j, j < cells.length → w.cell? ⟨blk, base + j, none⟩ = some (vs j)) ∧ ∀ j (h : j < cells.length), Rep G cells[j] (vs j)
theorem Inv.box {G : Gh} {σ : Sto} {w : World} (hI : Inv G σ w) {b blk : Nat} {cells : List PV} (hb : G.bx[b]? = some blk) (hc : σ.bx[b]? = some (.cells cells)) : CellsAt G w cells blk 0 := by
  obtain ⟨_, h1, hx⟩ := hI.bxc b blk _ hb hc
  cases hx with
  | @cells _ cs t h2 h3 hbl =>
  refine ⟨fun j => cs.getD j undef, fun j hj => ?_, h3⟩
  have hj' : j < cs.size := by omega
  simp [World.cell?, h1, Array.getD_eq_getD_getElem?, Array.getElem?_eq_getElem hj']
theorem Inv.row {G : Gh} {σ : Sto} {w : World} (hI : Inv G σ w) {row : List FV} {b base : Nat} {vs : Nat → Value} (hv : ∀ j, j < row.length → G.fz b (base + j) = some (vs j)) (hr : ∀ j (h : j < row.length), RepF G.fz row[j] (vs j)) : CellsAt G w (row.map FV.up) b base :=
  ⟨vs, fun j hj => hI.fz _ _ _ (hv j (by simpa using hj)), fun j hj => by simpa using (hr j (by simpa using hj)).up⟩
theorem load_sound {P : Program} {G : Gh} {w : World} {cells : List PV} {blk base o : Nat} (h : CellsAt G w cells blk base) {t : TypeId} {p : PV} (hl : loadE P t cells o = some p) :
    ∃ v, (Instr.loadAt t (.pointer (some ⟨blk, base + o, none⟩))).run P w = .ok v w ∧ Rep G p v := by
  obtain ⟨vs, h1, h2⟩ := h
  unfold loadE at hl
  have agg : ∀ d, P.underlying t = some d → d.isRow = true → (match P.info? t with | some i => if o + i.size ≤ cells.length then some (PV.agg ((cells.drop o).take i.size)) else none | none => none) = some p → ∃ v, (Instr.loadAt t (.pointer (some ⟨blk, base + o, none⟩))).run P w = .ok v w ∧ Rep G p v := by
    intro d hd hrow hm
    cases hi : P.info? t with
    | none => rw [hi] at hm; cases hm
    | some i =>
      rw [hi] at hm
      simp only at hm
      split at hm
      · rename_i hle
        obtain rfl := Option.some.inj hm
        have hlen : ((List.range i.size).map fun j => vs (o + j)).length = i.size := by simp
        refine ⟨_, run_loadAt_mid w blk (base + o) t ((List.range i.size).map fun j => vs (o + j)) d (fun j v hv => ?_) hd hrow (by rw [hi, hlen]; rfl), ?_⟩
        · have hj : j < i.size := by
            have := (List.getElem?_eq_some_iff.1 hv).1
            rwa [hlen] at this
          rw [List.getElem?_map, List.getElem?_range hj] at hv
          obtain rfl := Option.some.inj hv
          rw [Nat.add_assoc]
          exact h1 (o + j) (by omega)
        · refine Rep.agg (by simp; omega) (fun j hj => ?_)
          have hj' : j < i.size := by simp at hj; omega
          have e1 : ((cells.drop o).take i.size)[j] = cells[o + j]'(by omega) := by simp
          rw [e1, Array.getD_eq_getD_getElem?]
          simp only [List.getElem?_toArray, List.getElem?_map, List.getElem?_range hj', Option.map_some, Option.getD_some]
          exact h2 (o + j) (by omega)
      · cases hm
  have one : ∀ d, P.underlying t = some d → d.isRow = false → cells[o]? = some p → ∃ v, (Instr.loadAt t (.pointer (some ⟨blk, base + o, none⟩))).run P w = .ok v w ∧ Rep G p v := by
    intro d hd hrow hp
    obtain ⟨ho, rfl⟩ := List.getElem?_eq_some_iff.1 hp
    refine ⟨vs o, ?_, h2 o ho⟩
    have hc := h1 o ho
    have hL : (load ⟨blk, base + o, none⟩).run P w = .ok (vs o) w := by simp [run_load, hc]
    have hA : (isAgg t).run P w = .ok false w := by
      unfold isAgg
      rw [Sem.run_bind, run_underlying hd w]
      cases d <;> simp_all
    simp [Instr.loadAt, Instr.sureAddr, loadVar, Sem.run_bind, hA, hL, hc]
  split at hl
  · rename_i fs hu; exact agg _ hu rfl hl
  · rename_i n e hu; exact agg _ hu rfl hl
  · rename_i d hn1 hn2 hu
    refine one d hu ?_ hl
    cases d <;> simp_all [TypeDesc.isRow]
  · cases hl
theorem eqD_sound {P : Program} {G : Gh} {w : World} {t : TypeId} {d : TypeDesc} {x y : PV} {a b : Value} {r : Bool} (hd : P.underlying t = some d) (ha : Rep G x a) (hb : Rep G y b) (h : eqD d x y = some r) (n : Nat) : (Op.equalIn (n + 1) t a b).run P w = .ok r w ∧ d.isRow = false := by
  unfold eqD at h
  split at h
  · cases ha; cases hb
    split at h
    · rename_i hk
      subst hk
      cases h
      exact ⟨run_equalIn_int w n t _ _ _ _ hd, rfl⟩
    · cases h
  · cases ha; cases hb; cases h
    exact ⟨run_equalIn_bool' w n t _ _ hd, rfl⟩
  · cases ha; cases hb; cases h
    exact ⟨run_equalIn_string w n t _ _ hd, rfl⟩
  · cases h
theorem part_one {P : Program} {w : World} {t : TypeId} {d : TypeDesc} (hd : P.underlying t = some d) (hr : d.isRow = false) {vs : Array Value} {o : Nat} (ho : o < vs.size) : (part t vs o).run P w = .ok (vs.getD o undef) w := by
  have hA : (isAgg t).run P w = .ok false w := by
    unfold isAgg
    rw [Sem.run_bind, run_underlying hd w]
    cases d <;> simp_all [TypeDesc.isRow]
  simp [part, Sem.run_bind, hA, Array.getElem?_eq_getElem ho, Array.getD_eq_getD_getElem?]
theorem eqFs_sound {P : Program} {G : Gh} {w : World} {xs ys : List PV} {vx vy : Array Value} (hx : xs.length = vx.size) (hy : ys.length = vy.size) (rx : ∀ i (h : i < xs.length), Rep G xs[i] (vx.getD i undef)) (ry : ∀ i (h : i < ys.length), Rep G ys[i] (vy.getD i undef)) (n : Nat) :
    ∀ {fs : List Field} {r : Bool}, eqFs P xs ys fs = some r → (Op.eqFields (n + 1) vx vy fs).run P w = .ok r w
  | [], r, h => by cases h; rfl
  | f :: fs, r, h => by
    simp only [eqFs] at h
    split at h
    · cases h
    · rename_i hn
      split at h
      · rename_i d x y hd h1 h2
        split at h
        · rename_i b c h3 h4
          cases h
          obtain ⟨k1, rfl⟩ := List.getElem?_eq_some_iff.1 h1
          obtain ⟨k2, rfl⟩ := List.getElem?_eq_some_iff.1 h2
          obtain ⟨k3, k4⟩ := eqD_sound (w := w) hd (rx _ k1) (ry _ k2) h3 n
          have ih := eqFs_sound (w := w) hx hy rx ry n h4
          simp only [Op.eqFields, hn, ne_eq, not_false_eq_true, if_true, Sem.run_bind, part_one hd k4 (hx ▸ k1), part_one hd k4 (hy ▸ k2), Result.andThen_ok, k3]
          cases b
          · simp
          · simp [ih]
        · cases h
      · cases h
theorem eqE_sound {P : Program} {G : Gh} {w : World} {t : TypeId} {xs ys : List PV} {a b : Value} {r : Bool} (ha : Rep G (.agg xs) a) (hb : Rep G (.agg ys) b) (h : eqE P t xs ys = some r) (op : BinOp) (x y : Operand) :
    (∃ vx vy, a = .agg vx ∧ b = .agg vy) ∧ (eqGuard op t x y a b).run P w = .ok () w ∧ (Op.equal t a b).run P w = .ok r w := by
  unfold eqE at h
  split at h
  · rename_i fs hu
    split at h
    · rename_i hs
      cases ha with
      | agg hx rx =>
        cases hb with
        | agg hy ry =>
          refine ⟨⟨_, _, rfl, rfl⟩, run_eqGuard_agg w op t x y _ _ hs.2, ?_⟩
          have hf : P.fieldsOf t = fs := by unfold Program.fieldsOf; rw [hu]
          unfold Op.equal Op.maxDepth
          rw [run_equalIn_agg (P := P) w 9999 t _ _ (by rw [hf]; exact hu) hs.1, hf]
          exact eqFs_sound hx hy rx ry 9998 h
    · cases h
  · cases h
theorem bin_sound {P : Program} {G : Gh} {w : World} {op : BinOp} {t : TypeId} {x y : Operand} {px py p : PV} {a b : Value} (ha : Rep G px a) (hb : Rep G py b) (h : binE P t op px py = some p) :
    ∃ v, (do eqGuard op t x y a b; binOp op t a b : Sem Value).run P w = .ok v w ∧ Rep G p v := by
  unfold binE at h
  split at h
  · cases ha; cases hb
    split at h
    · split at h
      · cases h
      · rename_i hn
        obtain rfl := Option.some.inj h
        exact ⟨_, by simp [eqGuard, binOp, Op.shift, hn, go_sem], .im _⟩
    · split at h
      · cases h
      · rename_i hn
        obtain rfl := Option.some.inj h
        exact ⟨_, by simp [eqGuard, binOp, Op.shift, hn, go_sem], .im _⟩
    rename_i hs1 hs2
    split at h
    · rename_i hk
      subst hk
      split at h <;> first | (cases h; done) | (obtain rfl := Option.some.inj h; exact ⟨_, by simp [eqGuard, binOp, Op.intBits, go_sem]; rfl, .im _⟩) | (split at h; cases h; rename_i hz; obtain rfl := Option.some.inj h; exact ⟨_, by simp [eqGuard, binOp, Op.intDiv, hz, go_sem]; rfl, .im _⟩) | (split at h; cases h; rename_i hz; obtain rfl := Option.some.inj h; exact ⟨_, by simp [eqGuard, binOp, Op.intDiv, hz, go_sem], .im _⟩) | (obtain rfl := Option.some.inj h; exact ⟨_, by simp [eqGuard, binOp, Op.intArith, Op.intCmp, go_sem]; rfl, .im _⟩) | (obtain rfl := Option.some.inj h; exact ⟨_, by simp [eqGuard, binOp, Op.intArith, Op.intCmp, go_sem], .im _⟩)
    · cases h
  · rename_i a b
    cases ha; cases hb
    have eq : ∀ hu : P.underlying t = some .bool, (Op.equal t (.bool a) (.bool b)).run P w = .ok (a == b) w := by
      intro hu
      have key : ∀ d, (Op.equalIn (d + 1) t (.bool a) (.bool b)).run P w = .ok (a == b) w := by
        intro d
        simp only [Op.equalIn]
        rw [Sem.run_bind, run_underlying hu w]
        rfl
      exact key 9999
    split at h
    · rename_i hu
      obtain rfl := Option.some.inj h
      exact ⟨_, by simp [eqGuard, binOp, Sem.run_bind, eq hu], .im _⟩
    · rename_i hu
      obtain rfl := Option.some.inj h
      exact ⟨_, by simp [eqGuard, binOp, Sem.run_bind, eq hu], .im _⟩
    · cases h
  · cases ha; cases hb
    split at h
    · split at h
      · rename_i hs
        obtain rfl := Option.some.inj h
        refine ⟨_, ?_, .im _⟩
        simp [eqGuard, binOp, Op.stringOp, go_sem]
        omega
      · cases h
    · obtain rfl := Option.some.inj h
      exact ⟨_, by simp [eqGuard, binOp, Op.stringOp, go_sem], .im _⟩
    · obtain rfl := Option.some.inj h
      exact ⟨_, by simp [eqGuard, binOp, Op.stringOp, go_sem], .im _⟩
    · cases h
  · rename_i xs ys
    split at h
    · simp only [Option.map_eq_some_iff] at h
      obtain ⟨r, h1, rfl⟩ := h
      obtain ⟨⟨vx, vy, rfl, rfl⟩, h2, h3⟩ := eqE_sound (w := w) ha hb h1 .eql x y
      exact ⟨_, by simp [Sem.run_bind, h2, binOp, h3], .im _⟩
    · simp only [Option.map_eq_some_iff] at h
      obtain ⟨r, h1, rfl⟩ := h
      obtain ⟨⟨vx, vy, rfl, rfl⟩, h2, h3⟩ := eqE_sound (w := w) ha hb h1 .neq x y
      exact ⟨_, by simp [Sem.run_bind, h2, binOp, h3], .im _⟩
    · cases h
  · cases h
end Go.Proofs.YtfgoedndpcblpaaGreatDoor.Pv
end
section
namespace Go.Proofs.YtfgoedndpcblpaaGreatDoor.Pv
open Go
set_option linter.unusedSimpArgs false
set_option linter.unusedVariables false
theorem heap_lt {w : World} {b : Nat} {o : Obj} (e : w.heap[b]? = some o) : b < w.heap.size := (Array.getElem?_eq_some_iff.1 e).1
theorem cell_lt {w : World} {a : Addr} {v : Value} (h : w.cell? a = some v) : a.block < w.heap.size := by
  unfold World.cell? at h
  split at h
  · rename_i c t f e; exact heap_lt e
  · cases h
theorem Inv.fz_lt {G : Gh} {σ : Sto} {w : World} (h : Inv G σ w) {b o : Nat} {v : Value} (e : G.fz b o = some v) : b < w.heap.size := cell_lt (h.fz b o v e)
theorem Inv.bx_lt {G : Gh} {σ : Sto} {w : World} (h : Inv G σ w) {i b : Nat} (e : G.bx[i]? = some b) : b < w.heap.size := by
  have hi : i < G.bx.length := (List.getElem?_eq_some_iff.1 e).1
  obtain ⟨o, h2, _⟩ := h.bxc i b (σ.bx[i]'(h.bxl ▸ hi)) e (List.getElem?_eq_getElem _)
  exact heap_lt h2
theorem Inv.gr_lt {G : Gh} {σ : Sto} {w : World} (h : Inv G σ w) {g : Nat} {r : Grow} (e : G.gr[g]? = some r) : r.blk < w.heap.size := by
  obtain ⟨cs, _, h2, _⟩ := h.grc g r e
  exact heap_lt h2
theorem alloc_get {w : World} (o : Obj) {b : Nat} (hb : b < w.heap.size) : (w.alloc o).heap[b]? = w.heap[b]? := by
  show (w.heap.push o)[b]? = _
  rw [Array.getElem?_push, if_neg (Nat.ne_of_lt hb)]
theorem alloc_new {w : World} (o : Obj) : (w.alloc o).heap[w.heap.size]? = some o := by
  show (w.heap.push o)[w.heap.size]? = _
  rw [Array.getElem?_push, if_pos rfl]
theorem alloc_size {w : World} (o : Obj) : (w.alloc o).heap.size = w.heap.size + 1 := by
  show (w.heap.push o).size = _
  rw [Array.size_push]
theorem alloc_cell {w : World} (o : Obj) {a : Addr} {v : Value} (h : w.cell? a = some v) : (w.alloc o).cell? a = some v := by
  have := cell_lt h
  unfold World.cell? at h ⊢
  rw [alloc_get o this]; exact h
theorem Inv.grown {G : Gh} {σ : Sto} {w : World} (h : Inv G σ w) (o : Obj) : Inv G σ (w.alloc o) where
  fz b o' v e := alloc_cell o (h.fz b o' v e)
  bxl := h.bxl
  bxc i blk cells e1 e2 := by
    obtain ⟨o', h2, h3⟩ := h.bxc i blk cells e1 e2
    exact ⟨o', (alloc_get o (heap_lt h2)).trans h2, h3⟩
  bxf := h.bxf
  bxn := h.bxn
  grl := h.grl
  grc g r e := by
    obtain ⟨cs, fr, h2, h3⟩ := h.grc g r e
    exact ⟨cs, fr, (alloc_get o (heap_lt h2)).trans h2, h3⟩
  grn := h.grn
  grb := h.grb
theorem Later.grown (G : Gh) (w : World) (o : Obj) : Later G w G (w.alloc o) := ⟨.refl G, by rw [alloc_size]; omega, fun b hb _ => alloc_get o hb, fun _ h => .inl h, fun _ _ _ h => .inl h, rfl, rfl, rfl⟩
theorem Inv.newBox {G : Gh} {σ : Sto} {w : World} (h : Inv G σ w) {o : Obj} {cells : Bx} (hr : BxRep G cells o) :
    Inv { G with bx := G.bx ++ [w.heap.size] } { σ with bx := σ.bx ++ [cells] } (w.alloc o) ∧ Later G w { G with bx := G.bx ++ [w.heap.size] } (w.alloc o) := by
  have hle : G.Le { G with bx := G.bx ++ [w.heap.size] } := ⟨fun _ _ _ e => e, fun i b e => by
    show (G.bx ++ [w.heap.size])[i]? = some b
    rw [List.getElem?_append_left (List.getElem?_eq_some_iff.1 e).1]; exact e, fun _ r e => ⟨r, e, .inl rfl⟩⟩
  have hg := h.grown o
  have old : ∀ {i b : Nat}, (G.bx ++ [w.heap.size])[i]? = some b → (G.bx[i]? = some b ∧ i < G.bx.length) ∨ (i = G.bx.length ∧ b = w.heap.size) := by
    intro i b e
    by_cases hi : i < G.bx.length
    · rw [List.getElem?_append_left hi] at e; exact .inl ⟨e, hi⟩
    · rw [List.getElem?_append_right (by omega)] at e
      have := (List.getElem?_eq_some_iff.1 e).1
      simp only [List.length_singleton] at this
      have hi2 : i = G.bx.length := by omega
      subst hi2
      simp at e
      exact .inr ⟨rfl, e.symm⟩
  refine ⟨⟨hg.fz, ?_, ?_, ?_, ?_, hg.grl, ?_, hg.grn, ?_⟩, ⟨hle, by rw [alloc_size]; omega, fun b hb _ => alloc_get _ hb, ?_, fun _ _ _ e => .inl e, rfl, rfl, rfl⟩⟩
  · show (G.bx ++ [w.heap.size]).length = (σ.bx ++ [cells]).length
    simp [h.bxl]
  · intro i blk cells' e1 e2
    rcases old e1 with ⟨e, hi⟩ | ⟨rfl, rfl⟩
    · have e2' : σ.bx[i]? = some cells' := by
        have : (σ.bx ++ [cells])[i]? = some cells' := e2
        rwa [List.getElem?_append_left (by rw [← h.bxl]; exact hi)] at this
      obtain ⟨o', h2, h3⟩ := hg.bxc i blk cells' e e2'
      exact ⟨o', h2, h3.mono hle⟩
    · have e2' : cells' = cells := by
        have : (σ.bx ++ [cells])[G.bx.length]? = some cells' := e2
        rw [h.bxl, List.getElem?_append_right (Nat.le_refl _), Nat.sub_self] at this
        simpa using this.symm
      subst e2'
      exact ⟨o, alloc_new _, hr.mono hle⟩
  · intro i blk o1 e
    rcases old e with ⟨e, hi⟩ | ⟨rfl, rfl⟩
    · exact h.bxf i blk o1 e
    · cases hq : G.fz w.heap.size o1 with
      | none => rfl
      | some v => exact absurd (h.fz_lt hq) (Nat.lt_irrefl _)
  · intro i j blk e1 e2
    rcases old e1 with ⟨e1, hi⟩ | ⟨rfl, rfl⟩
    · rcases old e2 with ⟨e2, hj⟩ | ⟨rfl, rfl⟩
      · exact h.bxn i j blk e1 e2
      · exact absurd (h.bx_lt e1) (Nat.lt_irrefl _)
    · rcases old e2 with ⟨e2, hj⟩ | ⟨rfl, _⟩
      · exact absurd (h.bx_lt e2) (Nat.lt_irrefl _)
      · rfl
  · intro g r e
    exact hg.grc g r e
  · intro g i blk r e1 e2
    rcases old e2 with ⟨e2, hi⟩ | ⟨rfl, rfl⟩
    · exact h.grb g i blk r e1 e2
    · exact Nat.ne_of_lt (h.gr_lt e1)
  · intro b hb
    rcases hb with ⟨i, e⟩ | ⟨g, r, e, rfl⟩
    · rcases old e with ⟨e, hi⟩ | ⟨_, rfl⟩
      · exact .inl (.inl ⟨i, e⟩)
      · exact .inr (Nat.le_refl _)
    · exact .inl (.inr ⟨g, r, e, rfl⟩)
def Gh.freeze (G : Gh) (blk : Nat) (cs : Array Value) : Gh := { G with fz := fun b o => if b = blk then cs[o]? else G.fz b o }
theorem Inv.newRow {G : Gh} {σ : Sto} {w : World} (h : Inv G σ w) (cs : Array Value) (t : TypeId) :
    Inv (G.freeze w.heap.size cs) σ (w.alloc (.cells cs t (0, 0))) ∧ Later G w (G.freeze w.heap.size cs) (w.alloc (.cells cs t (0, 0))) := by
  have hle : G.Le (G.freeze w.heap.size cs) := ⟨fun b o v e => by
    show (if b = w.heap.size then cs[o]? else G.fz b o) = some v
    rw [if_neg (Nat.ne_of_lt (h.fz_lt e))]; exact e, fun _ _ e => e, fun _ r e => ⟨r, e, .inl rfl⟩⟩
  have hg := h.grown (.cells cs t (0, 0))
  have keep : ∀ {b : Nat} (o : Nat), b < w.heap.size → (G.freeze w.heap.size cs).fz b o = G.fz b o := fun o hb => if_neg (Nat.ne_of_lt hb)
  refine ⟨⟨?_, hg.bxl, ?_, ?_, hg.bxn, hg.grl, ?_, hg.grn, hg.grb⟩, ⟨hle, by rw [alloc_size]; omega, fun b hb _ => alloc_get _ hb, fun _ hb => .inl hb, ?_, rfl, rfl, rfl⟩⟩
  · intro b o v e
    by_cases hb : b = w.heap.size
    · subst hb
      have e' : cs[o]? = some v := by
        have : (if w.heap.size = w.heap.size then cs[o]? else G.fz w.heap.size o) = some v := e
        rwa [if_pos rfl] at this
      unfold World.cell?
      rw [show (⟨w.heap.size, o, none⟩ : Addr).block = w.heap.size from rfl, alloc_new]
      exact e'
    · have e' : G.fz b o = some v := by
        have : (if b = w.heap.size then cs[o]? else G.fz b o) = some v := e
        rwa [if_neg hb] at this
      exact hg.fz b o v e'
  · intro i blk cells e1 e2
    obtain ⟨o', h2, h3⟩ := hg.bxc i blk cells e1 e2
    exact ⟨o', h2, h3.mono hle⟩
  · intro i blk o e
    rw [keep o (h.bx_lt e)]; exact h.bxf i blk o e
  · intro g r e
    obtain ⟨cs', fr, h2, h6, h3, h4, h5⟩ := hg.grc g r e
    exact ⟨cs', fr, h2, h6, h3, h4, fun o ho => by rw [keep o (h.gr_lt e)]; exact h5 o ho⟩
  · intro b o v e
    by_cases hb : b = w.heap.size
    · exact .inr (.inr (by omega))
    · have : (if b = w.heap.size then cs[o]? else G.fz b o) = some v := e
      rw [if_neg hb] at this; exact .inl this
theorem setRow_get {w : World} {g b : Nat} (cs : Array Value) (hne : b ≠ g) : (w.setRow g cs).heap[b]? = w.heap[b]? := by
  simp [World.setRow, Array.getElem?_modify, hne.symm]
theorem Inv.setBoxW {G : Gh} {σ : Sto} {w w' : World} (h : Inv G σ w) {b blk : Nat} {x x' : Bx} (hb : G.bx[b]? = some blk) (hc : σ.bx[b]? = some x) {o' : Obj} (hs : w'.heap[blk]? = some o') (hr : BxRep G x' o') (hsz : w'.heap.size = w.heap.size) (hoth : ∀ k, k ≠ blk → w'.heap[k]? = w.heap[k]?) (hio : w'.os = w.os ∧ w'.tape = w.tape ∧ w'.output = w.output) :
    Inv G { σ with bx := σ.bx.set b x' } w' ∧ Later G w G w' := by
  refine ⟨⟨?_, ?_, ?_, h.bxf, h.bxn, h.grl, ?_, h.grn, h.grb⟩, ⟨.refl G, by omega, fun b' hb' hn => hoth b' (fun e => hn (.inl ⟨b, e ▸ hb⟩)), fun _ e => .inl e, fun _ _ _ e => .inl e, hio⟩⟩
  · intro b' o v e
    have hne : b' ≠ blk := fun e' => by subst e'; rw [h.bxf b _ o hb] at e; cases e
    have := h.fz b' o v e
    unfold World.cell? at this ⊢
    rw [show (⟨b', o, none⟩ : Addr).block = b' from rfl] at this ⊢
    rw [hoth b' hne]; exact this
  · show G.bx.length = (σ.bx.set b x').length
    rw [List.length_set]; exact h.bxl
  · intro i blk' x'' e1 e2
    by_cases hi : i = b
    · subst hi
      rw [hb] at e1
      cases e1
      have hlt : i < σ.bx.length := (List.getElem?_eq_some_iff.1 hc).1
      have : (σ.bx.set i x')[i]? = some x'' := e2
      rw [List.getElem?_set_self hlt] at this
      cases this
      exact ⟨o', hs, hr⟩
    · have : (σ.bx.set b x')[i]? = some x'' := e2
      rw [List.getElem?_set_ne (Ne.symm hi)] at this
      obtain ⟨o2, k2, k3⟩ := h.bxc i blk' x'' e1 this
      have hne : blk' ≠ blk := fun e' => hi (h.bxn i b blk' e1 (e' ▸ hb))
      exact ⟨o2, (hoth _ hne).trans k2, k3⟩
  · intro g r e
    obtain ⟨cs2, fr, k2, k3⟩ := h.grc g r e
    exact ⟨cs2, fr, (hoth _ (h.grb g b blk r e hb)).trans k2, k3⟩
theorem Inv.setBox {G : Gh} {σ : Sto} {w : World} (h : Inv G σ w) {b blk : Nat} {cells cells' : List PV} (hb : G.bx[b]? = some blk) (hc : σ.bx[b]? = some (.cells cells)) (hlen : cells'.length = cells.length) (hfl : flagged cells' = true → flagged cells = true) {cs' : Array Value} (hl : cs'.size = cells'.length) (hr : ∀ j (h : j < cells'.length), Rep G cells'[j] (cs'.getD j undef)) :
    Inv G { σ with bx := σ.bx.set b (.cells cells') } (w.setRow blk cs') ∧ Later G w G (w.setRow blk cs') := by
  obtain ⟨o, h2, hx⟩ := h.bxc b blk _ hb hc
  cases hx with
  | cells t h3 h4 h5 =>
    rename_i cs
    exact h.setBoxW hb hc (setRow_heap w blk cs cs' t (0, 0) h2) (.cells t hl hr (fun hf => by rw [hlen]; exact h5 (hfl hf))) (by simp [World.setRow]) (fun k hk => setRow_get cs' hk) ⟨rfl, rfl, rfl⟩
end Go.Proofs.YtfgoedndpcblpaaGreatDoor.Pv
end
section
namespace Go.Proofs.YtfgoedndpcblpaaGreatDoor.Pv
open Go
set_option linter.unusedSimpArgs false
set_option linter.unusedVariables false
def CellsRep (G : Gh) (cells : List PV) (arr : Array Value) : Prop := cells.length = arr.size ∧ ∀ j (h : j < cells.length), Rep G cells[j] (arr.getD j undef)
theorem leaf_sound {G : Gh} {p : PV} {v : Value} (h : Rep G p v) (e : p.leaf = true) : v.oneCell' = true := by
  cases h <;> first | exact e | rfl | cases e
theorem cells_sound {G : Gh} {p : PV} {cs : List PV} {v : Value} (h : Rep G p v) (e : p.cells? = some cs) : cs.length = v.cells.size ∧ (∀ j (h : j < cs.length), Rep G cs[j] (v.cells.getD j undef)) ∧ ∀ u ∈ v.cells.toList, u.oneCell' = true := by
  have one : p.leaf = true → cs = [p] → cs.length = v.cells.size ∧ (∀ j (h : j < cs.length), Rep G cs[j] (v.cells.getD j undef)) ∧ ∀ u ∈ v.cells.toList, u.oneCell' = true := by
    intro hp hc
    subst hc
    have h1 := leaf_sound h hp
    have hv : v.cells = #[v] := by cases v <;> first | rfl | cases h1
    rw [hv]
    refine ⟨rfl, fun j hj => ?_, fun u hu => ?_⟩
    · have : j = 0 := by simpa using hj
      subst this; exact h
    · simp at hu; subst hu; exact h1
  unfold PV.cells? at e
  split at e
  · rename_i ds
    split at e
    · rename_i hall
      cases e
      cases h with
      | agg hl hr =>
        rename_i vs
        refine ⟨hl, hr, fun u hu => ?_⟩
        have hu' : u ∈ vs.toList := hu
        obtain ⟨j, hj, rfl⟩ := List.getElem_of_mem hu'
        have hj' : j < cs.length := by rw [hl]; simpa using hj
        have h1 := hr j hj'
        have h2 := List.all_eq_true.1 hall cs[j] (List.getElem_mem hj')
        have h3 := leaf_sound h1 h2
        have hj2 : j < vs.size := by simpa using hj
        rw [Array.getD_eq_getD_getElem?, Array.getElem?_eq_getElem hj2] at h3
        simpa using h3
    · cases e
  · cases e
  · split at e
    · rename_i hp; cases e; exact one hp rfl
    · cases e
theorem zero_sound {P : Program} (G : Gh) {t : TypeId} {cs : List PV} (h : zeroE P t = some cs) : ∃ v : Value, (∀ w, (zeroValue t).run P w = .ok v w) ∧ cs.length = v.cells.size ∧ (∀ j (h : j < cs.length), Rep G cs[j] (v.cells.getD j undef)) := by
  unfold zeroE at h
  split at h
  · rename_i i hi
    split at h
    · rename_i v hz
      split at h
      · cases h
        refine ⟨v, fun w => by simp [zeroValue, typeInfo, hi, hz, go_sem], by simp, fun j hj => ?_⟩
        have hj' : j < v.cells.size := by simpa using hj
        rw [List.getElem_map, Array.getD_eq_getD_getElem?, Array.getElem?_eq_getElem hj']
        exact constV_rep G _
      · cases h
    · cases h
  · cases h
theorem setAt_length {cells vs : List PV} {o : Nat} (h : o + vs.length ≤ cells.length) : (setAt cells o vs).length = cells.length := by
  unfold setAt; simp; omega
theorem setAt_get {cells vs : List PV} {o : Nat} (h : o + vs.length ≤ cells.length) (j : Nat) : (setAt cells o vs)[j]? = if j < o then cells[j]? else if j < o + vs.length then vs[j - o]? else cells[j]? := by
  unfold setAt
  have ho : (cells.take o).length = o := by simp; omega
  split
  · rename_i hlt; rw [List.getElem?_append_left (by omega), List.getElem?_take_of_lt hlt]
  · rename_i hge
    rw [List.getElem?_append_right (by omega), ho]
    split
    · rename_i hlt; rw [List.getElem?_append_left (by omega)]
    · rename_i hge2
      rw [List.getElem?_append_right (by omega), List.getElem?_drop]
      congr 1; omega
theorem foldSet (off : Nat) : ∀ (l : List Value) (s : Nat) (arr : Array Value), off + s + l.length ≤ arr.size →
    ((l.zipIdx s).foldl (fun cs (p : Value × Nat) => cs.setIfInBounds (off + p.2) p.1) arr).size = arr.size ∧ ∀ k, ((l.zipIdx s).foldl (fun cs (p : Value × Nat) => cs.setIfInBounds (off + p.2) p.1) arr)[k]? = if off + s ≤ k ∧ k < off + s + l.length then l[k - off - s]? else arr[k]?
  | [], s, arr, h => ⟨rfl, fun k => by rw [if_neg (by simp only [List.length_nil]; omega)]; rfl⟩
  | v :: l, s, arr, h => by
    have h' : off + (s + 1) + l.length ≤ (arr.setIfInBounds (off + s) v).size := by simp at h ⊢; omega
    obtain ⟨h1, h2⟩ := foldSet off l (s + 1) (arr.setIfInBounds (off + s) v) h'
    rw [List.zipIdx_cons, List.foldl_cons]
    refine ⟨by rw [h1]; simp, fun k => ?_⟩
    rw [h2 k]
    simp only [List.length_cons] at h ⊢
    by_cases hk : k = off + s
    · subst hk
      rw [if_neg (by omega), if_pos (by omega), Array.getElem?_setIfInBounds_self_of_lt (by omega)]
      simp
    · by_cases hk2 : off + (s + 1) ≤ k ∧ k < off + (s + 1) + l.length
      · rw [if_pos hk2, if_pos (by omega), show k - off - s = (k - off - (s + 1)) + 1 by omega, List.getElem?_cons_succ]
      · rw [if_neg hk2, if_neg (by omega), Array.getElem?_setIfInBounds_ne (by omega)]
theorem setRep {G : Gh} {cells vs : List PV} {arr : Array Value} {v : Value} {off : Nat} (h : CellsRep G cells arr) (hv : vs.length = v.cells.size ∧ (∀ j (h : j < vs.length), Rep G vs[j] (v.cells.getD j undef))) (hle : off + vs.length ≤ cells.length) :
    CellsRep G (setAt cells off vs) (v.cells.zipIdx.foldl (fun cs (p : Value × Nat) => cs.setIfInBounds (off + p.2) p.1) arr) := by
  have e : v.cells.zipIdx.foldl (fun cs (p : Value × Nat) => cs.setIfInBounds (off + p.2) p.1) arr = (v.cells.toList.zipIdx 0).foldl (fun cs (p : Value × Nat) => cs.setIfInBounds (off + p.2) p.1) arr := by
    rw [← Array.foldl_toList, Array.toList_zipIdx]
  obtain ⟨h1, h2⟩ := foldSet off v.cells.toList 0 arr (by have := h.1; simp; omega)
  rw [e]
  refine ⟨by rw [setAt_length hle, h1]; exact h.1, fun j hj => ?_⟩
  rw [setAt_length hle] at hj
  have hg : (setAt cells off vs)[j]? = some ((setAt cells off vs)[j]'(by rw [setAt_length hle]; exact hj)) := List.getElem?_eq_getElem _
  rw [setAt_get hle] at hg
  rw [Array.getD_eq_getD_getElem?, h2 j]
  simp only [Nat.add_zero, Nat.sub_zero, Array.length_toList]
  split at hg
  · rename_i hlt
    rw [if_neg (by omega)]
    have := h.2 j hj
    rw [List.getElem?_eq_getElem hj] at hg
    rw [← Option.some.inj hg, ← Array.getD_eq_getD_getElem?]; exact this
  · rename_i hge
    split at hg
    · rename_i hlt
      rw [if_pos (by omega)]
      have hj2 : j - off < vs.length := by omega
      rw [List.getElem?_eq_getElem hj2] at hg
      rw [← Option.some.inj hg, Array.getElem?_toList, ← Array.getD_eq_getD_getElem?]
      exact hv.2 (j - off) hj2
    · rename_i hge2
      rw [if_neg (by omega)]
      have := h.2 j hj
      rw [List.getElem?_eq_getElem hj] at hg
      rw [← Option.some.inj hg, ← Array.getD_eq_getD_getElem?]; exact this
theorem fill_sound {G : Gh} {place : Nat → Option (Nat × Nat)} : ∀ {parts : List (Nat × PV)} {vals : List (Nat × Value)} {cells out : List PV} {arr : Array Value}, parts.length = vals.length → (∀ i (h : i < parts.length) (k : i < vals.length), parts[i].1 = vals[i].1 ∧ Rep G parts[i].2 vals[i].2) → CellsRep G cells arr → fillE place cells parts = some out →
    ∃ arr', Instr.fill place arr vals = some arr' ∧ CellsRep G out arr'
  | [], [], cells, out, arr, _, _, hc, h => by cases h; exact ⟨arr, rfl, hc⟩
  | (i, p) :: parts, (k, v) :: vals, cells, out, arr, hl, hr, hc, h => by
    obtain ⟨e1, e2⟩ := hr 0 (by simp) (by simp)
    simp only [List.getElem_cons_zero] at e1 e2
    subst e1
    simp only [fillE] at h
    split at h
    · rename_i off size vs hp hvs
      split at h
      · rename_i hle
        obtain ⟨h1, h2, _⟩ := cells_sound e2 hvs
        have hs := setRep hc ⟨h1, h2⟩ hle.2
        obtain ⟨arr', h3, h4⟩ := fill_sound (by simpa using hl) (fun j hj hk => by have := hr (j + 1) (by simpa using hj) (by simpa using hk); simpa using this) hs h
        refine ⟨arr', ?_, h4⟩
        unfold Instr.fill
        rw [hp]
        simp only
        rw [if_neg (by
          have := hc.1
          simp only [Bool.or_eq_true, decide_eq_true_eq, bne_iff_ne, ne_eq, not_or, Decidable.not_not]
          omega)]
        exact h3
      · cases h
    · cases h
theorem toF_sound {G : Gh} {p : PV} {f : FV} {v : Value} (h : Rep G p v) (e : p.toF = some f) : RepF G.fz f v := by
  cases h <;> simp only [PV.toF] at e <;> first | (cases e; done) | skip
  · split at e
    · rename_i h1; cases e; exact .im _ h1
    · cases e
  · rename_i h ht; cases e; exact h
theorem toFs_spec : ∀ {cs : List PV} {fs : List FV}, toFs cs = some fs → cs.length = fs.length ∧ ∀ i (h : i < cs.length) (k : i < fs.length), cs[i].toF = some fs[i]
  | [], fs, e => by cases e; exact ⟨rfl, fun i h => absurd h (Nat.not_lt_zero _)⟩
  | x :: xs, fs, e => by
    simp only [toFs] at e
    split at e
    · rename_i y ys h1 h2
      cases e
      obtain ⟨h3, h4⟩ := toFs_spec h2
      refine ⟨by simp [h3], fun i h k => ?_⟩
      cases i with
      | zero => exact h1
      | succ i => exact h4 i (by simpa using h) (by simpa using k)
    · cases e
theorem places_sound {P : Program} (w : World) : ∀ {fs : List Field} {ps : List (Nat × Nat)}, placesE P fs = some ps → (fs.mapM fun f => (do pure (f.offset, ← sizeOf f.type) : Sem (Nat × Nat))).run P w = .ok ps w
  | [], ps, h => by cases h; rfl
  | f :: fs, ps, h => by
    simp only [placesE] at h
    split at h
    · rename_i i qs hi hq
      cases h
      have hS : (sizeOf f.type).run P w = .ok i.size w := by simp [sizeOf, typeInfo, hi, go_sem]
      rw [List.mapM_cons]
      simp only [Sem.run_bind, hS, Result.andThen_ok, places_sound w hq, Sem.run_pure]
    · cases h
theorem parts_rep {G : Gh} {env : Nat → PV} {a : Act} (hE : EnvRep G env a) (parts : Array (Nat × Operand)) : (parts.toList.map fun p => (p.1, opdE env p.2)).length = (parts.map fun p => (p.1, a.eval p.2)).toList.length ∧ ∀ i (h : i < (parts.toList.map fun p => (p.1, opdE env p.2)).length) (k : i < (parts.map fun p => (p.1, a.eval p.2)).toList.length), ((parts.toList.map fun p => (p.1, opdE env p.2))[i]).1 = ((parts.map fun p => (p.1, a.eval p.2)).toList[i]).1 ∧ Rep G ((parts.toList.map fun p => (p.1, opdE env p.2))[i]).2 ((parts.map fun p => (p.1, a.eval p.2)).toList[i]).2 := by
  refine ⟨by simp, fun i h k => ?_⟩
  simp only [List.getElem_map, Array.getElem_toList, Array.getElem_map]
  exact ⟨trivial, hE.opd _⟩
theorem build_sound {P : Program} {G : Gh} {w : World} {t : TypeId} {parts : List (Nat × PV)} {vals : Array (Nat × Value)} {p : PV} (hl : parts.length = vals.toList.length) (hr : ∀ i (h : i < parts.length) (k : i < vals.toList.length), parts[i].1 = vals.toList[i].1 ∧ Rep G parts[i].2 vals.toList[i].2) (h : buildE P t parts = some p) :
    ∃ v, (Instr.build t vals).run P w = .ok v w ∧ Rep G p v := by
  unfold buildE at h
  split at h
  · rename_i fs hu
    split at h
    · rename_i ps zs hp hz
      obtain ⟨out, h1, rfl⟩ := Option.map_eq_some_iff.1 h
      obtain ⟨zv, hzr, hzl, hzz⟩ := zero_sound G hz
      obtain ⟨arr, h2, h3⟩ := fill_sound hl hr ⟨hzl, hzz⟩ h1
      refine ⟨.agg arr, ?_, .agg h3.1 h3.2⟩
      have hpl := places_sound w hp
      have hpl2 : (fs.mapM fun f => (do pure (f.offset, ← sizeOf f.type) : Sem (Nat × Nat))).run P w = .ok ps.toArray w := by
        rw [← Array.toArray_toList (xs := fs), List.mapM_toArray]
        simp only [map_eq_pure_bind, Sem.run_bind, hpl, Result.andThen_ok, Sem.run_pure]
      have hf : Instr.fill (fun i => ps.toArray[i]?) zv.cells vals.toList = some arr := by simpa using h2
      simp only [Instr.build, Sem.run_bind, hzr w, Result.andThen_ok, run_underlying hu w, hpl2, hf, Sem.run_pure]
    · cases h
  · cases h
theorem newRow_run (P : Program) (t : TypeId) (cs : Array Value) (w : World) : (Go.newRow t cs).run P w = .ok ⟨w.heap.size, 0, none⟩ (w.alloc (.cells cs t (0, 0))) := rfl
theorem row_rep {fz : Nat → Nat → Option Value} {blk size len : Nat} {arr : Array Value} {fs : List FV} (hfz : ∀ o, o < len * size → fz blk o = arr[o]?) (hlen : fs.length = len * size) (hle : len * size ≤ arr.size) (hr : ∀ j (h : j < fs.length), RepF fz fs[j] (arr.getD j undef)) (cap : Nat) (hcap : len ≤ cap) :
    RepF fz (.sl (chunks size len fs)) (.slice (some ⟨blk, 0, none⟩) len cap) := by
  have hcl : (chunks size len fs).length = len := by simp [chunks]
  have hlt : ∀ {i j : Nat}, i < len → j < size → i * size + j < len * size := by
    intro i j hi hj
    have : (i + 1) * size ≤ len * size := Nat.mul_le_mul_right _ hi
    rw [Nat.add_mul, Nat.one_mul] at this
    omega
  have hget : ∀ i (hi : i < (chunks size len fs).length), (chunks size len fs)[i] = (fs.drop (i * size)).take size := by
    intro i hi; simp [chunks]
  have hsz : ∀ i, i < len → ((fs.drop (i * size)).take size).length = size := by
    intro i hi
    have : (i + 1) * size ≤ len * size := Nat.mul_le_mul_right _ hi
    rw [Nat.add_mul, Nat.one_mul] at this
    simp; omega
  have := RepF.sl (fz := fz) (rows := chunks size len fs) (a := some ⟨blk, 0, none⟩) (cap := cap) size (fun i j => arr.getD (i * size + j) undef) (by rw [hcl]; exact hcap) (fun r hr' => by
      obtain ⟨i, hi, rfl⟩ := List.getElem_of_mem hr'
      rw [hget i hi]; exact hsz i (by rw [← hcl]; exact hi)) (fun i hi j hj => ⟨blk, 0, rfl, by
      rw [hcl] at hi
      have h1 := hlt hi hj
      rw [Nat.zero_add, hfz _ h1, Array.getD_eq_getD_getElem?, Array.getElem?_eq_getElem (by omega)]; rfl⟩) (fun i hi j hj => by
      have hi2 : i < len := by rw [← hcl]; exact hi
      have hj2 : j < size := by
        have := hj
        rw [hget i hi, hsz i hi2] at this; exact this
      have h1 := hlt hi2 hj2
      have e : ((chunks size len fs)[i])[j] = fs[i * size + j]'(by omega) := by
        simp only [hget i hi, List.getElem_take, List.getElem_drop]
      rw [e]
      exact hr _ (by omega))
  rw [hcl] at this
  exact this
theorem buildSlice_sound {P : Program} {G : Gh} {σ : Sto} {w : World} (hI : Inv G σ w) {t : TypeId} {len : Nat} {parts : List (Nat × PV)} {vals : Array (Nat × Value)} {p : PV} (hl : parts.length = vals.toList.length) (hr : ∀ i (h : i < parts.length) (k : i < vals.toList.length), parts[i].1 = vals.toList[i].1 ∧ Rep G parts[i].2 vals.toList[i].2) (h : buildSliceE P t len parts = some p) :
    ∃ v w' G', (Instr.buildSlice t len vals).run P w = .ok v w' ∧ Inv G' σ w' ∧ Rep G' p v ∧ Later G w G' w' := by
  unfold buildSliceE at h
  split at h
  · rename_i e hu
    split at h
    · rename_i i zs hi hz
      split at h
      · rename_i hc
        split at h
        · rename_i cells hf
          obtain ⟨fs, h1, rfl⟩ := Option.map_eq_some_iff.1 h
          obtain ⟨zv, hzr, hzl, hzz⟩ := zero_sound G hz
          have hzs : zv.cells.size = i.size := by rw [← hzl]; exact hc.1
          have hc0 : CellsRep G ((List.range (len * i.size)).map fun k => zs.getD (k % i.size) (.im undef)) ((Array.range (len * i.size)).map fun k => zv.cells[k % zv.cells.size]!) := by
            refine ⟨by simp, fun j hj => ?_⟩
            have hj' : j < len * i.size := by simpa using hj
            have hm : j % i.size < i.size := Nat.mod_lt _ (Nat.pos_of_ne_zero hc.2.1)
            rw [List.getElem_map, List.getElem_range, Array.getD_eq_getD_getElem?, Array.getElem?_map, Array.getElem?_range]
            rw [if_pos hj', Option.map_some, Option.getD_some, hzs, getElem!_pos zv.cells (j % i.size) (by omega)]
            have := hzz (j % i.size) (by rw [hzl, hzs]; exact hm)
            rw [Array.getD_eq_getD_getElem?, Array.getElem?_eq_getElem (by omega)] at this
            rw [List.getD_eq_getElem?_getD, List.getElem?_eq_getElem (by rw [hzl, hzs]; exact hm)]
            exact this
          obtain ⟨arr, h2, h3⟩ := fill_sound hl hr hc0 hf
          obtain ⟨hI', hL⟩ := hI.newRow arr e
          have hcl : cells.length = len * i.size := by
            have : ∀ {parts : List (Nat × PV)} {c out : List PV}, fillE (fun k => some (k * i.size, i.size)) c parts = some out → out.length = c.length := by
              intro parts
              induction parts with
              | nil => intro c out h; cases h; rfl
              | cons q parts ih =>
                intro c out h
                obtain ⟨k, x⟩ := q
                simp only [fillE] at h
                split at h
                · split at h
                  · rename_i hle; rw [ih h, setAt_length hle.2]
                  · cases h
                · cases h
            rw [this hf]; simp
          have hasz : arr.size = len * i.size := by rw [← h3.1]; exact hcl
          obtain ⟨h4, h5⟩ := toFs_spec h1
          refine ⟨.slice (some ⟨w.heap.size, 0, none⟩) len len, _, _, ?_, hI', ?_, hL⟩
          · have hS : (sizeOf e).run P w = .ok i.size w := by simp [sizeOf, typeInfo, hi, go_sem]
            have hng : ¬ (len * i.size > 2 ^ 24) := by have := hc.2.2; omega
            by_cases h0 : len * i.size = 0
            · have e1 : ∀ f g : Nat → Value, (Array.range (len * i.size)).map f = (Array.range (len * i.size)).map g := by intro f g; rw [h0]; simp
              have hF : Instr.fill (fun k => some (k * i.size, i.size)) ((Array.range (len * i.size)).map fun k => (#[] : Array Value)[k % (#[] : Array Value).size]!) vals.toList = some arr := by
                rw [e1 _ (fun k => zv.cells[k % zv.cells.size]!)]; exact h2
              simp only [Instr.buildSlice, Sem.run_bind, run_underlying hu w, Result.andThen_ok, hS, if_neg hng, if_pos h0, pure_bind, hF, newRow_run, Sem.run_pure]
            · simp only [Instr.buildSlice, Sem.run_bind, run_underlying hu w, Result.andThen_ok, hS, if_neg hng, if_neg h0, hzr w, pure_bind, h2, newRow_run, Sem.run_pure]
          · have hrow := row_rep (fz := (G.freeze w.heap.size arr).fz) (blk := w.heap.size) (size := i.size) (len := len) (arr := arr) (fs := fs) (fun o ho => if_pos rfl) (by rw [← h4]; exact hcl) (by omega) (fun j hj => by
              have hj' : j < cells.length := by omega
              exact (toF_sound (h3.2 j hj') (h5 j hj' hj)).mono hL.le.fz) len (Nat.le_refl _)
            have e1 : (chunks i.size len fs).length = len := by simp [chunks]
            have := Rep.sl (G := G.freeze w.heap.size arr) (tag := .full) (a := some ⟨w.heap.size, 0, none⟩) (cap := len) (rows := chunks i.size len fs) (by rw [e1]; exact hrow) e1
            rw [e1] at this
            exact this
        · cases h
      · cases h
    · cases h
  · cases h
end Go.Proofs.YtfgoedndpcblpaaGreatDoor.Pv
end
section
namespace Go.Proofs.YtfgoedndpcblpaaGreatDoor.Pv
open Go
set_option linter.unusedSimpArgs false
set_option linter.unusedVariables false
theorem Inv.heap {G : Gh} {σ : Sto} {w w' : World} (h : Inv G σ w) (e : w'.heap = w.heap) : Inv G σ w' := by
  obtain ⟨h1, h2, h3, h4, h5, h6, h7, h8, h9⟩ := h
  refine ⟨fun b o v k => ?_, h2, fun i blk cells k1 k2 => ?_, h4, h5, h6, fun g r k => ?_, h8, h9⟩
  · have := h1 b o v k
    unfold World.cell? at this ⊢
    rw [e]; exact this
  · rw [e]; exact h3 i blk cells k1 k2
  · rw [e]; exact h7 g r k
theorem Later.heap (G : Gh) {w w' : World} (e : w'.heap = w.heap) (hio : w'.os = w.os ∧ w'.tape = w.tape ∧ w'.output = w.output) : Later G w G w' := ⟨.refl G, by rw [e]; exact Nat.le_refl _, fun b _ _ => by rw [e], fun _ h => .inl h, fun _ _ _ h => .inl h, hio⟩
theorem RepF.one {fz : Nat → Nat → Option Value} {p : FV} {v : Value} (h : RepF fz p v) : v.oneCell' = true := by
  cases h with
  | im v h => exact h
  | sl => rfl
structure Flat (fz : Nat → Nat → Option Value) (rows : List (List FV)) (size : Nat) (a : Option Addr) (f : Nat → Value) : Prop where
  at_ : ∀ k, k < rows.length * size → ∃ b o, a = some ⟨b, o, none⟩ ∧ fz b (o + k) = some (f k)
  rep : ∀ i (hi : i < rows.length) j (hj : j < (rows[i]).length), RepF fz ((rows[i])[j]) (f (i * size + j))
theorem divmod {i j size : Nat} (h : j < size) : (i * size + j) / size = i ∧ (i * size + j) % size = j := by
  constructor
  · rw [Nat.mul_comm, Nat.mul_add_div (by omega), Nat.div_eq_of_lt h]; omega
  · rw [Nat.mul_comm, Nat.mul_add_mod]; exact Nat.mod_eq_of_lt h
theorem RepF.flat {fz : Nat → Nat → Option Value} {rows : List (List FV)} {a : Option Addr} {n cap size : Nat} (h : RepF fz (.sl rows) (.slice a n cap)) (hs : sized size rows = true) (hz : size ≠ 0) : n = rows.length ∧ n ≤ cap ∧ ∃ f, Flat fz rows size a f := by
  cases h with
  | sl sz vs hcap hs2 hv hr =>
    have hall : ∀ r ∈ rows, r.length = size := fun r hr => by have := List.all_eq_true.1 hs r hr; simpa using this
    refine ⟨rfl, hcap, fun k => vs (k / size) (k % size), ?_, ?_⟩
    · intro k hk
      have hi : k / size < rows.length := Nat.div_lt_of_lt_mul (by rw [Nat.mul_comm]; exact hk)
      have hj : k % size < size := Nat.mod_lt _ (Nat.pos_of_ne_zero hz)
      have hsz : sz = size := by rw [← hs2 _ (List.getElem_mem hi)]; exact hall _ (List.getElem_mem hi)
      obtain ⟨b, o, e, e2⟩ := hv (k / size) hi (k % size) (by rw [hsz]; exact hj)
      refine ⟨b, o, e, ?_⟩
      rw [hsz, Nat.mul_comm, Nat.div_add_mod] at e2
      exact e2
    · intro i hi j hj
      have hj2 : j < size := by rw [← hall _ (List.getElem_mem hi)]; exact hj
      obtain ⟨e1, e2⟩ := divmod (i := i) hj2
      simp only [e1, e2]
      exact hr i hi j hj
theorem RepF.ofFlat {fz : Nat → Nat → Option Value} {rows : List (List FV)} {b o cap size : Nat} {f : Nat → Value} (hs : sized size rows = true) (hc : rows.length ≤ cap) (ha : ∀ k, k < rows.length * size → fz b (o + k) = some (f k)) (hr : ∀ i (hi : i < rows.length) j (hj : j < (rows[i]).length), RepF fz ((rows[i])[j]) (f (i * size + j))) : RepF fz (.sl rows) (.slice (some ⟨b, o, none⟩) rows.length cap) := by
  have hall : ∀ r ∈ rows, r.length = size := fun r hr => by have := List.all_eq_true.1 hs r hr; simpa using this
  refine RepF.sl size (fun i j => f (i * size + j)) hc hall (fun i hi j hj => ⟨b, o, rfl, ha _ ?_⟩) hr
  have : (i + 1) * size ≤ rows.length * size := Nat.mul_le_mul_right _ hi
  rw [Nat.add_mul, Nat.one_mul] at this
  omega
theorem Inv.growNew {G : Gh} {σ : Sto} {w : World} (h : Inv G σ w) {arr : Array Value} {e : TypeId} {size cap need : Nat} (hsz : arr.size = cap * size) (hle : need ≤ cap) (g0 : Nat) (gr' : List Grow) (hok : size ≠ 0 ∧ (e = byteT → size = 1)) (hnew : gr'[g0]? = some ⟨w.heap.size, e, size, cap, need, hok⟩)
    (hold : ∀ (g : Nat) (r : Grow), gr'[g]? = some r → g = g0 ∨ G.gr[g]? = some r) (hmono : ∀ (g : Nat) (r : Grow), G.gr[g]? = some r → ∃ r', gr'[g]? = some r' ∧ (r' = r ∨ r.len < r'.len)) :
    Inv ⟨fun b o => if b = w.heap.size then (if o < need * size then arr[o]? else none) else G.fz b o, G.bx, gr'⟩ { σ with gr := gr'.map fun r => (r.len, r.code) } (w.alloc (.cells arr e (0, 0))) ∧
    Later G w ⟨fun b o => if b = w.heap.size then (if o < need * size then arr[o]? else none) else G.fz b o, G.bx, gr'⟩ (w.alloc (.cells arr e (0, 0))) := by
  have hg := h.grown (.cells arr e (0, 0))
  have hle2 : G.Le ⟨fun b o => if b = w.heap.size then (if o < need * size then arr[o]? else none) else G.fz b o, G.bx, gr'⟩ := ⟨fun b o v k => by
    show (if b = w.heap.size then _ else G.fz b o) = some v
    rw [if_neg (Nat.ne_of_lt (h.fz_lt k))]; exact k, fun _ _ k => k, hmono⟩
  refine ⟨⟨?_, hg.bxl, ?_, ?_, hg.bxn, rfl, ?_, ?_, ?_⟩, ⟨hle2, by rw [alloc_size]; omega, fun b hb _ => alloc_get _ hb, ?_, ?_, rfl, rfl, rfl⟩⟩
  · intro b o v k
    by_cases hb : b = w.heap.size
    · subst hb
      have k' : (if o < need * size then arr[o]? else none) = some v := by
        have : (if w.heap.size = w.heap.size then (if o < need * size then arr[o]? else none) else G.fz w.heap.size o) = some v := k
        rwa [if_pos rfl] at this
      split at k'
      · unfold World.cell?
        rw [show (⟨w.heap.size, o, none⟩ : Addr).block = w.heap.size from rfl, alloc_new]
        exact k'
      · cases k'
    · have : (if b = w.heap.size then (if o < need * size then arr[o]? else none) else G.fz b o) = some v := k
      rw [if_neg hb] at this
      exact hg.fz b o v this
  · intro i blk cells e1 e2
    obtain ⟨o', h2, h3⟩ := hg.bxc i blk cells e1 e2
    exact ⟨o', h2, h3.mono hle2⟩
  · intro i blk o k
    show (if blk = w.heap.size then _ else G.fz blk o) = none
    rw [if_neg (Nat.ne_of_lt (h.bx_lt k))]; exact h.bxf i blk o k
  · intro g r k
    rcases hold g r k with rfl | k2
    · rw [hnew] at k; cases k
      exact ⟨arr, (0, 0), alloc_new _, Nat.zero_le _, hsz, hle, fun o ho => by
        show (if w.heap.size = w.heap.size then (if o < need * size then arr[o]? else none) else G.fz w.heap.size o) = none
        rw [if_pos rfl, if_neg (Nat.not_lt.2 ho)]⟩
    · obtain ⟨cs', fr, h2, h6, h3, h4, h5⟩ := hg.grc g r k2
      exact ⟨cs', fr, h2, h6, h3, h4, fun o ho => by
        show (if r.blk = w.heap.size then _ else G.fz r.blk o) = none
        rw [if_neg (Nat.ne_of_lt (h.gr_lt k2))]; exact h5 o ho⟩
  · intro g k r s hr hs hb
    rcases hold g r hr with rfl | hr2
    · rcases hold k s hs with rfl | hs2
      · rfl
      · rw [hnew] at hr; cases hr
        exact absurd hb (Nat.ne_of_gt (h.gr_lt hs2))
    · rcases hold k s hs with rfl | hs2
      · rw [hnew] at hs; cases hs
        exact absurd hb (Nat.ne_of_lt (h.gr_lt hr2))
      · exact h.grn g k r s hr2 hs2 hb
  · intro g i blk r hr hi
    rcases hold g r hr with rfl | hr2
    · rw [hnew] at hr; cases hr
      exact Nat.ne_of_gt (h.bx_lt hi)
    · exact h.grb g i blk r hr2 hi
  · intro b hb
    rcases hb with ⟨i, k⟩ | ⟨g, r, k, rfl⟩
    · exact .inl (.inl ⟨i, k⟩)
    · rcases hold g r k with rfl | k2
      · rw [hnew] at k; cases k; exact .inr (Nat.le_refl _)
      · exact .inl (.inr ⟨g, r, k2, rfl⟩)
  · intro b o v k
    by_cases hb : b = w.heap.size
    · exact .inr (.inr (by omega))
    · have : (if b = w.heap.size then (if o < need * size then arr[o]? else none) else G.fz b o) = some v := k
      rw [if_neg hb] at this; exact .inl this
theorem setRow_self {b : Nat} {e : TypeId} {fr : Nat × Nat} {cs : Array Value} {w : World} (h : w.heap[b]? = some (.cells cs e fr)) : w.setRow b cs = w := by
  have key : (w.setRow b cs).heap = w.heap := by
    apply Array.ext_getElem?
    intro i
    by_cases hi : i = b
    · subst hi; rw [setRow_heap w i cs cs e fr h, h]
    · exact setRow_get cs hi
  show ({ w with heap := (w.setRow b cs).heap } : World) = w
  rw [key]
theorem setRow_two {b : Nat} {w : World} (cs ds : Array Value) : (w.setRow b cs).setRow b ds = w.setRow b ds := by
  unfold World.setRow
  congr 1
  apply Array.ext_getElem?
  intro i
  rw [Array.getElem?_modify, Array.getElem?_modify, Array.getElem?_modify]
  split
  · cases w.heap[i]? with
    | none => rfl
    | some o => cases o <;> rfl
  · rfl
theorem setCell_row {b o : Nat} {e : TypeId} {fr : Nat × Nat} {cs : Array Value} {w : World} (h : w.heap[b]? = some (.cells cs e fr)) (v : Value) : w.setCell ⟨b, o, none⟩ v = w.setRow b (cs.setIfInBounds o v) := by
  unfold World.setCell World.setRow
  congr 1
  apply Array.ext_getElem?
  intro i
  rw [Array.getElem?_modify, Array.getElem?_modify]
  split
  · rename_i e'; subst e'; rw [h]; rfl
  · rfl
theorem setCells_row (b : Nat) (e : TypeId) (fr : Nat × Nat) : ∀ (vs : List Value) (o : Nat) (cs : Array Value) (w : World), w.heap[b]? = some (.cells cs e fr) → o + vs.length ≤ cs.size → w.setCells b o vs = w.setRow b (cs.toList.take o ++ vs ++ cs.toList.drop (o + vs.length)).toArray
  | [], o, cs, w, h, hle => by
    rw [World.setCells]
    have : (cs.toList.take o ++ [] ++ cs.toList.drop (o + ([] : List Value).length)).toArray = cs := by simp
    rw [this, setRow_self h]
  | v :: r, o, cs, w, h, hle => by
    rw [World.setCells, setCell_row h, setCells_row b e fr r (o + 1) (cs.setIfInBounds o v) _ (setRow_heap w b cs _ e fr h) (by rw [Array.size_setIfInBounds]; simp only [List.length_cons] at hle; omega), setRow_two]
    congr 2
    simp only [List.length_cons] at hle
    have ho : o < cs.toList.length := by rw [Array.length_toList]; omega
    rw [Array.toList_setIfInBounds]
    apply List.ext_getElem?
    intro i
    have l1 : (cs.toList.set o v).length = cs.size := by simp
    rw [List.append_assoc, List.append_assoc]
    by_cases h1 : i < o
    · rw [List.getElem?_append_left (by rw [List.length_take, l1]; omega), List.getElem?_append_left (by rw [List.length_take, Array.length_toList]; omega), List.getElem?_take_of_lt (by omega), List.getElem?_take_of_lt h1, List.getElem?_set_ne (by omega)]
    · by_cases h2 : i = o
      · subst h2
        rw [List.getElem?_append_left (by rw [List.length_take, l1]; omega), List.getElem?_take_of_lt (by omega), List.getElem?_set_self ho, List.getElem?_append_right (by rw [List.length_take]; omega), List.length_take, Nat.min_eq_left (Nat.le_of_lt ho), Nat.sub_self]
        rfl
      · refine Eq.trans (List.getElem?_append_right (by rw [List.length_take, l1]; omega)) (Eq.trans ?_ (List.getElem?_append_right (by rw [List.length_take]; omega)).symm)
        rw [List.length_take, List.length_take, l1, Nat.min_eq_left (by omega), Nat.min_eq_left (Nat.le_of_lt ho)]
        rw [show i - o = (i - (o + 1)) + 1 by omega, List.cons_append, List.getElem?_cons_succ]
        congr 1
        congr 1
        rw [List.length_cons, show o + 1 + r.length = o + (r.length + 1) by omega]
        apply List.ext_getElem?
        intro k
        rw [List.getElem?_drop, List.getElem?_drop, List.getElem?_set_ne (by omega)]
theorem Inv.growRoom {G : Gh} {σ : Sto} {w : World} (h : Inv G σ w) {g0 : Nat} {r : Grow} (hr0 : G.gr[g0]? = some r) {cs' : Array Value} {need : Nat} (hlt : r.len < need) (hle : need ≤ r.cap) (hsz : cs'.size = r.cap * r.sz)
    (hkeep : ∀ cs fr, w.heap[r.blk]? = some (.cells cs r.elem fr) → ∀ o, o < r.len * r.sz → cs'[o]? = cs[o]?) :
    Inv ⟨fun b o => if b = r.blk ∧ r.len * r.sz ≤ o then (if o < need * r.sz then cs'[o]? else none) else G.fz b o, G.bx, G.gr.set g0 { r with len := need }⟩ { σ with gr := (G.gr.set g0 { r with len := need }).map fun r => (r.len, r.code) } (w.setRow r.blk cs') ∧
    Later G w ⟨fun b o => if b = r.blk ∧ r.len * r.sz ≤ o then (if o < need * r.sz then cs'[o]? else none) else G.fz b o, G.bx, G.gr.set g0 { r with len := need }⟩ (w.setRow r.blk cs') := by
  obtain ⟨cs, fr, hc1, hfr, hc2, hc3, hc4⟩ := h.grc g0 r hr0
  have hs := setRow_heap w r.blk cs cs' r.elem fr hc1
  have hsize : (w.setRow r.blk cs').heap.size = w.heap.size := by simp [World.setRow]
  have hg0 : g0 < G.gr.length := (List.getElem?_eq_some_iff.1 hr0).1
  have hle2 : G.Le ⟨fun b o => if b = r.blk ∧ r.len * r.sz ≤ o then (if o < need * r.sz then cs'[o]? else none) else G.fz b o, G.bx, G.gr.set g0 { r with len := need }⟩ := by
    refine ⟨fun b o v k => ?_, fun _ _ k => k, fun g s k => ?_⟩
    · show (if b = r.blk ∧ r.len * r.sz ≤ o then _ else G.fz b o) = some v
      rw [if_neg]; exact k
      rintro ⟨rfl, ho⟩
      rw [hc4 o ho] at k; cases k
    · show ∃ r', (G.gr.set g0 { r with len := need })[g]? = some r' ∧ _
      by_cases hg : g = g0
      · subst hg
        rw [hr0] at k; cases k
        exact ⟨_, List.getElem?_set_self hg0, .inr hlt⟩
      · exact ⟨s, by rw [List.getElem?_set_ne (Ne.symm hg)]; exact k, .inl rfl⟩
  have hold : ∀ (g : Nat) (s : Grow), (G.gr.set g0 { r with len := need })[g]? = some s → (g = g0 ∧ s = { r with len := need }) ∨ (g ≠ g0 ∧ G.gr[g]? = some s) := by
    intro g s k
    by_cases hg : g = g0
    · subst hg; rw [List.getElem?_set_self hg0] at k; exact .inl ⟨rfl, (Option.some.inj k).symm⟩
    · rw [List.getElem?_set_ne (Ne.symm hg)] at k; exact .inr ⟨hg, k⟩
  refine ⟨⟨?_, h.bxl, ?_, ?_, h.bxn, rfl, ?_, ?_, ?_⟩, ⟨hle2, by omega, fun b hb hn => setRow_get cs' (fun e => hn (.inr ⟨g0, r, hr0, e.symm⟩)), ?_, ?_, rfl, rfl, rfl⟩⟩
  · intro b o v k
    have k' : (if b = r.blk ∧ r.len * r.sz ≤ o then (if o < need * r.sz then cs'[o]? else none) else G.fz b o) = some v := k
    by_cases hb : b = r.blk
    · subst hb
      unfold World.cell?
      rw [show (⟨r.blk, o, none⟩ : Addr).block = r.blk from rfl, hs]
      show cs'[o]? = some v
      by_cases ho : r.len * r.sz ≤ o
      · rw [if_pos ⟨rfl, ho⟩] at k'
        split at k'
        · exact k'
        · cases k'
      · rw [if_neg (fun x => ho x.2)] at k'
        have := h.fz r.blk o v k'
        unfold World.cell? at this
        rw [show (⟨r.blk, o, none⟩ : Addr).block = r.blk from rfl, hc1] at this
        rw [hkeep cs fr hc1 o (by omega)]
        exact this
    · rw [if_neg (fun x => hb x.1)] at k'
      have := h.fz b o v k'
      unfold World.cell? at this ⊢
      rw [show (⟨b, o, none⟩ : Addr).block = b from rfl] at this ⊢
      rw [setRow_get cs' hb]; exact this
  · intro i blk cells e1 e2
    obtain ⟨o2, k2, k3⟩ := h.bxc i blk cells e1 e2
    exact ⟨o2, (setRow_get cs' (fun e => h.grb g0 i blk r hr0 e1 e.symm)).trans k2, k3.mono hle2⟩
  · intro i blk o k
    show (if blk = r.blk ∧ r.len * r.sz ≤ o then _ else G.fz blk o) = none
    rw [if_neg (fun x => h.grb g0 i blk r hr0 k x.1.symm)]; exact h.bxf i blk o k
  · intro g s k
    rcases hold g s k with ⟨rfl, rfl⟩ | ⟨hg, k2⟩
    · exact ⟨cs', fr, hs, Nat.le_trans hfr (Nat.mul_le_mul_right _ (Nat.le_of_lt hlt)), hsz, hle, fun o ho => by
        show (if r.blk = r.blk ∧ r.len * r.sz ≤ o then (if o < need * r.sz then cs'[o]? else none) else G.fz r.blk o) = none
        have h1 : r.len * r.sz ≤ need * r.sz := Nat.mul_le_mul_right _ (Nat.le_of_lt hlt)
        have h2 : need * r.sz ≤ o := ho
        rw [if_pos ⟨rfl, by omega⟩, if_neg (by omega)]⟩
    · obtain ⟨cs2, fr2, k3, k7, k4, k5, k6⟩ := h.grc g s k2
      have hne : s.blk ≠ r.blk := fun e => hg (h.grn g g0 s r k2 hr0 e)
      exact ⟨cs2, fr2, (setRow_get cs' hne).trans k3, k7, k4, k5, fun o ho => by
        show (if s.blk = r.blk ∧ r.len * r.sz ≤ o then _ else G.fz s.blk o) = none
        rw [if_neg (fun x => hne x.1)]; exact k6 o ho⟩
  · intro g k s t hs' ht' hb
    have key : ∀ (g : Nat) (s : Grow), (G.gr.set g0 { r with len := need })[g]? = some s → ∃ s', G.gr[g]? = some s' ∧ s'.blk = s.blk := by
      intro g s k
      rcases hold g s k with ⟨rfl, rfl⟩ | ⟨_, k2⟩
      · exact ⟨r, hr0, rfl⟩
      · exact ⟨s, k2, rfl⟩
    obtain ⟨s1, h1, h2⟩ := key g s hs'
    obtain ⟨t1, h3, h4⟩ := key k t ht'
    exact h.grn g k s1 t1 h1 h3 (by rw [h2, h4]; exact hb)
  · intro g i blk s k hi
    rcases hold g s k with ⟨rfl, rfl⟩ | ⟨_, k2⟩
    · exact h.grb g i blk r hr0 hi
    · exact h.grb g i blk s k2 hi
  · intro b hb
    rcases hb with ⟨i, k⟩ | ⟨g, s, k, rfl⟩
    · exact .inl (.inl ⟨i, k⟩)
    · rcases hold g s k with ⟨rfl, rfl⟩ | ⟨_, k2⟩
      · exact .inl (.inr ⟨g, r, hr0, rfl⟩)
      · exact .inl (.inr ⟨g, s, k2, rfl⟩)
  · intro b o v k
    have k' : (if b = r.blk ∧ r.len * r.sz ≤ o then (if o < need * r.sz then cs'[o]? else none) else G.fz b o) = some v := k
    by_cases hb : b = r.blk
    · exact .inr (.inl (.inr ⟨g0, r, hr0, hb.symm⟩))
    · rw [if_neg (fun x => hb x.1)] at k'; exact .inl k'
theorem sized_append {size : Nat} {rows xs : List (List FV)} (h : sized size rows = true) (k : sized size xs = true) : sized size (rows ++ xs) = true := by
  unfold sized at *; rw [List.all_append, h, k]; rfl
def flatL (f : Nat → Value) (n : Nat) : List Value := (List.range n).map f
theorem flatL_len (f : Nat → Value) (n : Nat) : (flatL f n).length = n := by simp [flatL]
theorem flatL_get {f : Nat → Value} {n k : Nat} (h : k < n) : (flatL f n)[k]? = some (f k) := by simp [flatL, List.getElem?_range h]
theorem Flat.src {P : Program} {G : Gh} {σ : Sto} {w : World} (hI : Inv G σ w) {rows : List (List FV)} {size cap : Nat} {a : Option Addr} {f : Nat → Value} (h : Flat G.fz rows size a f) (hs : sized size rows = true) (hz : size ≠ 0) {u e' : TypeId} (hu : P.underlying u = some (.slice e')) :
    Src P size u (.slice a rows.length cap) rows.length (flatL f (rows.length * size)) w := by
  have hone : ∀ k, k < rows.length * size → (f k).oneCell' = true := by
    intro k hk
    have hi : k / size < rows.length := Nat.div_lt_of_lt_mul (by rw [Nat.mul_comm]; exact hk)
    have hall : ∀ r ∈ rows, r.length = size := fun r hr => by have := List.all_eq_true.1 hs r hr; simpa using this
    have hj : k % size < (rows[k / size]).length := by rw [hall _ (List.getElem_mem hi)]; exact Nat.mod_lt _ (Nat.pos_of_ne_zero hz)
    have := (h.rep (k / size) hi (k % size) hj).one
    rwa [Nat.mul_comm, Nat.div_add_mod] at this
  cases a with
  | none =>
    have h0 : rows.length * size = 0 := by
      cases hq : rows.length * size with
      | zero => rfl
      | succ k => obtain ⟨b, o, e, _⟩ := h.at_ 0 (by omega); cases e
    have hr0 : rows.length = 0 := by rcases Nat.mul_eq_zero.1 h0 with h | h; exact h; exact absurd h hz
    rw [hr0, Nat.zero_mul]
    exact Src.ofNil w hu cap
  | some ad =>
    refine Src.ofSlice w hu ad rows.length cap _ (flatL_len f _) (fun j v hv => ?_) (fun v hv => ?_)
    · have hj : j < rows.length * size := by
        have := (List.getElem?_eq_some_iff.1 hv).1
        rwa [flatL_len] at this
      rw [flatL_get hj] at hv
      cases hv
      obtain ⟨b, o, e, k⟩ := h.at_ j hj
      cases e
      rw [Addr.add_mid]
      exact hI.fz _ _ _ k
    · obtain ⟨j, hj, rfl⟩ := List.getElem_of_mem hv
      have hj' : j < rows.length * size := by rwa [flatL_len] at hj
      have := flatL_get (f := f) hj'
      rw [List.getElem?_eq_getElem hj] at this
      rw [Option.some.inj this]; exact hone j hj'
theorem Flat.app {fz fz' : Nat → Nat → Option Value} {rows xs : List (List FV)} {size blk : Nat} {a : Option Addr} {f g : Nat → Value} (h : Flat fz rows size a f) (krep : ∀ i (hi : i < xs.length) j (hj : j < (xs[i]).length), RepF fz ((xs[i])[j]) (g (i * size + j))) (hm : ∀ b o v, fz b o = some v → fz' b o = some v) (hs : sized size rows = true) (ks : sized size xs = true)
    (h1 : ∀ j, j < rows.length * size → fz' blk j = some (f j)) (h2 : ∀ j, j < xs.length * size → fz' blk (rows.length * size + j) = some (g j)) (cap : Nat) (hc : rows.length + xs.length ≤ cap) :
    RepF fz' (.sl (rows ++ xs)) (.slice (some ⟨blk, 0, none⟩) (rows.length + xs.length) cap) := by
  have hall : ∀ r ∈ rows, r.length = size := fun r hr => by have := List.all_eq_true.1 hs r hr; simpa using this
  have kall : ∀ r ∈ xs, r.length = size := fun r hr => by have := List.all_eq_true.1 ks r hr; simpa using this
  have := RepF.ofFlat (fz := fz') (rows := rows ++ xs) (b := blk) (o := 0) (cap := cap) (size := size) (f := fun j => if j < rows.length * size then f j else g (j - rows.length * size)) (sized_append hs ks) (by rw [List.length_append]; exact hc) (fun j hj => by
      rw [List.length_append, Nat.add_mul] at hj
      rw [Nat.zero_add]
      split
      · rename_i hlt; exact h1 j hlt
      · rename_i hge
        have := h2 (j - rows.length * size) (by omega)
        rwa [show rows.length * size + (j - rows.length * size) = j by omega] at this) (fun i hi j hj => by
      by_cases hlt : i < rows.length
      · have e : (rows ++ xs)[i] = rows[i] := List.getElem_append_left hlt
        have hj2 : j < (rows[i]).length := by rw [← e]; exact hj
        have hb : i * size + j < rows.length * size := by
          have : (i + 1) * size ≤ rows.length * size := Nat.mul_le_mul_right _ hlt
          rw [Nat.add_mul, Nat.one_mul] at this
          have := hall _ (List.getElem_mem hlt)
          omega
        rw [if_pos hb]
        have := (h.rep i hlt j hj2).mono hm
        simpa only [e] using this
      · have hi2 : i - rows.length < xs.length := by rw [List.length_append] at hi; omega
        have e : (rows ++ xs)[i] = xs[i - rows.length] := List.getElem_append_right (by omega)
        have hj2 : j < (xs[i - rows.length]).length := by rw [← e]; exact hj
        have hm2 : i * size = rows.length * size + (i - rows.length) * size := by rw [← Nat.add_mul]; congr 1; omega
        rw [if_neg (by omega), show i * size + j - rows.length * size = (i - rows.length) * size + j by omega]
        have := (krep (i - rows.length) hi2 j hj2).mono hm
        simpa only [e] using this)
  rw [List.length_append] at this
  exact this
theorem grown_block {P : Program} {G : Gh} {σ : Sto} {w : World} (hI : Inv G σ w) {t u ty e : TypeId} {i : TypeInfo} {zv : Value} {rows xs : List (List FV)} {a : Option Addr} {cap : Nat} {f g : Nat → Value} {vx : Value} (hu : P.underlying t = some (.slice e)) (hi : P.info? e = some i) (hz : i.zero = some zv) (hzs : zv.cells.size = i.size) (hnz : i.size ≠ 0)
    (hs : sized i.size rows = true) (ks : sized i.size xs = true) (hF : Flat G.fz rows i.size a f) (hsrc : Src P i.size u vx xs.length (flatL g (xs.length * i.size)) w) (krep : ∀ k (hk : k < xs.length) j (hj : j < (xs[k]).length), RepF G.fz ((xs[k])[j]) (g (k * i.size + j))) (hb : i.bytes ≤ 1073741824) (hb0 : i.bytes ≠ 0) (h8 : e = byteT → i.size = 1) (hlim : (rows.length + xs.length) * i.bytes ≤ 70368744177664) (hcap : rows.length ≤ cap) (hg : cap < rows.length + xs.length)
    (g0 : Nat) (mk : Grow → List Grow) (hnew : ∀ r, (mk r)[g0]? = some r) (hold : ∀ (r : Grow) (g : Nat) (s : Grow), (mk r)[g]? = some s → g = g0 ∨ G.gr[g]? = some s) (hmono : ∀ (r : Grow), r.len = rows.length + xs.length → ∀ (g : Nat) (s : Grow), G.gr[g]? = some s → ∃ r', (mk r)[g]? = some r' ∧ (r' = s ∨ s.len < r'.len)) :
    ∃ v w' G', (Builtin.append_ #[t, u] ty #[.slice a rows.length cap, vx]).run P w = .ok v w' ∧ (∃ r : Grow, r.len = rows.length + xs.length ∧ r.code = (if e = byteT then 0 else i.size) ∧ Inv G' { σ with gr := (mk r).map fun r => (r.len, r.code) } w') ∧ Rep G' (.sl (rows ++ xs) (.grow g0)) v ∧ Later G w G' w' := by
  have hIold : Inv G σ w.drew := hI.heap rfl
  have hold2 := (hF.src (P := P) (cap := cap) hIold hs hnz hu).cells
  have hbig : (rows.length + xs.length) * 1 ≤ 70368744177664 := Nat.le_trans (Nat.mul_le_mul_left _ (Nat.pos_of_ne_zero hb0)) hlim
  have hfit := growslice_fits_wide (bytes := i.bytes) hg (by
    rw [Nat.add_mul, Nat.add_mul]
    have h1 : (rows.length + xs.length) / 4 * i.bytes ≤ (rows.length + xs.length) * i.bytes := Nat.mul_le_mul_right _ (Nat.div_le_self _ _)
    have h2 : 192 * i.bytes ≤ 192 * 1073741824 := Nat.mul_le_mul_left _ hb
    omega)
  have hrun := run_append_grow_src w t u ty e i zv hu hi hz a rows.length cap _ hold2 _ _ _ hsrc hg (by omega) hfit
  have hge := grownCap_ge w (rows.length + xs.length) cap e
  let arr : Array Value := (flatL f (rows.length * i.size) ++ flatL g (xs.length * i.size)).toArray ++ Builtin.zeroCells zv.cells (grownCap w (rows.length + xs.length) cap e - (rows.length + xs.length))
  have harr : arr.size = grownCap w (rows.length + xs.length) cap e * i.size := by
    show ((flatL f (rows.length * i.size) ++ flatL g (xs.length * i.size)).toArray ++ Builtin.zeroCells zv.cells _).size = _
    rw [Array.size_append, List.size_toArray, List.length_append, flatL_len, flatL_len, size_zeroCells, hzs, ← Nat.add_mul, ← Nat.add_mul]
    congr 1; omega
  have hget1 : ∀ j, j < rows.length * i.size → arr[j]? = some (f j) := by
    intro j hj
    show ((flatL f (rows.length * i.size) ++ flatL g (xs.length * i.size)).toArray ++ Builtin.zeroCells zv.cells _)[j]? = _
    rw [Array.getElem?_append_left (by rw [List.size_toArray, List.length_append, flatL_len]; omega), List.getElem?_toArray, List.getElem?_append_left (by rw [flatL_len]; exact hj), flatL_get hj]
  have hget2 : ∀ j, j < xs.length * i.size → arr[rows.length * i.size + j]? = some (g j) := by
    intro j hj
    show ((flatL f (rows.length * i.size) ++ flatL g (xs.length * i.size)).toArray ++ Builtin.zeroCells zv.cells _)[rows.length * i.size + j]? = _
    rw [Array.getElem?_append_left (by rw [List.size_toArray, List.length_append, flatL_len, flatL_len]; omega), List.getElem?_toArray, List.getElem?_append_right (by rw [flatL_len]; omega), flatL_len, Nat.add_sub_cancel_left, flatL_get hj]
  obtain ⟨h1, h2⟩ := hIold.growNew (arr := arr) (e := e) (size := i.size) (cap := grownCap w (rows.length + xs.length) cap e) (need := rows.length + xs.length) harr hge g0 (mk ⟨w.drew.heap.size, e, i.size, grownCap w (rows.length + xs.length) cap e, rows.length + xs.length, hnz, h8⟩) ⟨hnz, h8⟩ (hnew _) (hold _) (hmono _ rfl)
  refine ⟨_, _, _, hrun, ⟨_, rfl, rfl, h1⟩, ?_, (Later.heap (w := w) (w' := w.drew) G rfl ⟨rfl, rfl, rfl⟩).trans h2⟩
  have hrep := hF.app (fz' := fun b o => if b = w.drew.heap.size then (if o < (rows.length + xs.length) * i.size then arr[o]? else none) else G.fz b o) (blk := w.heap.size) krep h2.le.fz hs ks (fun j hj => by
      show (if w.heap.size = w.heap.size then (if j < (rows.length + xs.length) * i.size then arr[j]? else none) else G.fz w.heap.size j) = _
      rw [if_pos rfl, if_pos (by rw [Nat.add_mul]; omega)]; exact hget1 j hj) (fun j hj => by
      show (if w.heap.size = w.heap.size then (if rows.length * i.size + j < (rows.length + xs.length) * i.size then arr[rows.length * i.size + j]? else none) else G.fz w.heap.size (rows.length * i.size + j)) = _
      rw [if_pos rfl, if_pos (by rw [Nat.add_mul]; omega)]; exact hget2 j hj) (grownCap w (rows.length + xs.length) cap e) hge
  have e1 : (rows ++ xs).length = rows.length + xs.length := List.length_append
  have := Rep.sl (G := ⟨fun b o => if b = w.drew.heap.size then (if o < (rows.length + xs.length) * i.size then arr[o]? else none) else G.fz b o, G.bx, mk ⟨w.drew.heap.size, e, i.size, grownCap w (rows.length + xs.length) cap e, rows.length + xs.length, hnz, h8⟩⟩) (rows := rows ++ xs) (tag := .grow g0) (a := some ⟨w.heap.size, 0, none⟩) (cap := grownCap w (rows.length + xs.length) cap e) (by rw [e1]; exact hrep) ⟨_, hnew _, by rw [e1]; exact Nat.le_refl _, fun _ => ⟨rfl, rfl⟩⟩
  rw [e1] at this
  exact this
theorem appInfo_spec {P : Program} {t u e : TypeId} {i : TypeInfo} (h : appInfo P t u = some (e, i)) : P.underlying t = some (.slice e) ∧ (∃ e', P.underlying u = some (.slice e')) ∧ P.info? e = some i ∧ (∃ zv, i.zero = some zv ∧ zv.cells.size = i.size) ∧ i.size ≠ 0 ∧ i.bytes ≤ 1073741824 ∧ i.bytes ≠ 0 := by
  unfold appInfo at h
  split at h
  · rename_i e1 e2 hu hu2
    split at h
    · rename_i i1 zs hi hz
      split at h
      · rename_i hc
        cases h
        unfold zeroE at hz
        rw [hi] at hz
        simp only at hz
        split at hz
        · rename_i v hv
          split at hz
          · cases hz
            exact ⟨hu, ⟨_, hu2⟩, hi, ⟨v, hv, by have := hc.1; simpa using this⟩, hc.2⟩
          · cases hz
        · cases hz
      · cases h
    · cases h
  · cases h
theorem appG_sound {P : Program} {G : Gh} {σ σ' : Sto} {w : World} (hI : Inv G σ w) {t u ty e : TypeId} {i : TypeInfo} {zv : Value} {rows xs : List (List FV)} {tag : Tag} {a : Option Addr} {cap : Nat} {g : Nat → Value} {p : PV} {vx : Value} {code : Nat} (h : appG i.size code i.bytes σ rows tag xs = some (p, σ')) (hcd : code = if e = byteT then 0 else i.size) (h8 : e = byteT → i.size = 1)
    (hu : P.underlying t = some (.slice e)) (hi : P.info? e = some i) (hz : i.zero = some zv) (hzs : zv.cells.size = i.size) (hnz : i.size ≠ 0) (hb : i.bytes ≤ 1073741824) (hb0 : i.bytes ≠ 0) (hF : RepF G.fz (.sl rows) (.slice a rows.length cap)) (ht : tagOk G a rows.length cap tag)
    (hsrc : Src P i.size u vx xs.length (flatL g (xs.length * i.size)) w) (krep : ∀ k (hk : k < xs.length) j (hj : j < (xs[k]).length), RepF G.fz ((xs[k])[j]) (g (k * i.size + j))) :
    ∃ v w' G', (Builtin.append_ #[t, u] ty #[.slice a rows.length cap, vx]).run P w = .ok v w' ∧ Inv G' σ' w' ∧ Rep G' p v ∧ Later G w G' w' := by
  unfold appG at h
  split at h
  · rename_i hc
    obtain ⟨hs1, hs2, hlim⟩ := hc
    obtain ⟨_, hcap, f, hFl⟩ := hF.flat hs1 hnz
    split at h
    · rename_i h0
      cases h
      rw [h0, Nat.zero_mul] at hsrc
      exact ⟨_, w, G, run_append_nothing w t u ty e i hu hi a rows.length cap hcap vx hsrc, hI, .sl hF ht, .refl _ _⟩
    rename_i hne
    split at h
    · skip
      · first | rw [if_neg hne] at h | skip
        cases h
        have hfull : rows.length = cap := ht
        obtain ⟨v, w', G', h1, ⟨r, hr1, hr2, h2⟩, h3, h4⟩ := grown_block (P := P) (ty := ty) hI hu hi hz hzs hnz hs1 hs2 hFl hsrc krep hb hb0 h8 hlim hcap (by omega) G.gr.length (fun r => G.gr ++ [r]) (fun r => by rw [List.getElem?_append_right (Nat.le_refl _), Nat.sub_self]; rfl) (fun r g s k => by
            by_cases hg : g < G.gr.length
            · rw [List.getElem?_append_left hg] at k; exact .inr k
            · have := (List.getElem?_eq_some_iff.1 k).1
              rw [List.length_append, List.length_singleton] at this
              exact .inl (by omega)) (fun r _ g s k => ⟨s, by rw [List.getElem?_append_left (List.getElem?_eq_some_iff.1 k).1]; exact k, .inl rfl⟩)
        have hgl : G.gr.length = σ.gr.length := by rw [← hI.grl, List.length_map]
        refine ⟨v, w', G', h1, ?_, by rw [← hgl]; exact h3, h4⟩
        have e2 : (G.gr ++ [r]).map (fun r => (r.len, r.code)) = σ.gr ++ [(rows.length + xs.length, code)] := by
          rw [List.map_append, hI.grl, List.map_cons, List.map_nil, hr1, hr2, hcd]
        rw [e2] at h2
        exact h2
    · rename_i g0
      split at h
      · rename_i hc2
        cases h
        obtain ⟨hgr, hne⟩ := hc2
        obtain ⟨r, hr0, hrl, hrc⟩ := ht
        have hr2 : (r.len, r.code) = (rows.length, code) := by
          have e3 : σ.gr[g0]? = some (r.len, r.code) := by rw [← hI.grl, List.getElem?_map, hr0]; rfl
          rw [hgr] at e3; exact (Option.some.inj e3).symm
        have hlen : r.len = rows.length := congrArg Prod.fst hr2
        have hcode : r.code = code := congrArg Prod.snd hr2
        have hsz : r.sz = i.size := by
          rw [hcd] at hcode
          unfold Grow.code at hcode
          by_cases he : r.elem = byteT
          · rw [if_pos he] at hcode
            by_cases he2 : e = byteT
            · rw [r.ok.2 he, h8 he2]
            · rw [if_neg he2] at hcode; exact absurd hcode.symm hnz
          · rw [if_neg he] at hcode
            by_cases he2 : e = byteT
            · rw [if_pos he2] at hcode; exact absurd hcode r.ok.1
            · rw [if_neg he2] at hcode; exact hcode
        obtain ⟨ha, hcp⟩ := hrc hlen.symm
        have hg0 : g0 < G.gr.length := (List.getElem?_eq_some_iff.1 hr0).1
        by_cases hroom : rows.length + xs.length ≤ cap
        ·
          subst ha
          obtain ⟨cs, fr, hc1, hfr, hc3, hc4, hc5⟩ := hI.grc g0 r hr0
          have hcs : cs.size = cap * i.size := by rw [hc3, ← hcp, hsz]
          have hfits : rows.length * i.size + xs.length * i.size ≤ cs.size := by rw [hcs, ← Nat.add_mul]; exact Nat.mul_le_mul_right _ hroom
          have hrun := run_append_room_src w t u ty e i hu hi r.blk 0 rows.length cap _ _ _ hsrc hroom (fun j hj => by
              rw [flatL_len] at hj
              unfold World.cell?
              rw [show (⟨r.blk, 0 + rows.length * i.size + j, none⟩ : Addr).block = r.blk from rfl, hc1]
              show (cs[0 + rows.length * i.size + j]?).isSome = true
              rw [Array.getElem?_eq_getElem (by omega)]; rfl) (fun j hj => by
              unfold World.frozen?
              rw [show (⟨r.blk, 0 + rows.length * i.size + j, none⟩ : Addr).block = r.blk from rfl, hc1]
              obtain ⟨lo, hi⟩ := fr
              simp only [hlen, hsz] at hfr
              simp only [Bool.and_eq_false_iff, decide_eq_false_iff_not]
              exact .inr (by omega))
          rw [Nat.zero_add] at hrun
          have hset : w.setCells r.blk (rows.length * i.size) (flatL g (xs.length * i.size)) = w.setRow r.blk (cs.toList.take (rows.length * i.size) ++ flatL g (xs.length * i.size) ++ cs.toList.drop (rows.length * i.size + xs.length * i.size)).toArray := by
            have e1 := setCells_row r.blk r.elem fr (flatL g (xs.length * i.size)) (rows.length * i.size) cs w hc1 (by rw [flatL_len]; omega)
            rw [flatL_len] at e1
            exact e1
          rw [hset] at hrun
          let cs' : Array Value := (cs.toList.take (rows.length * i.size) ++ flatL g (xs.length * i.size) ++ cs.toList.drop (rows.length * i.size + xs.length * i.size)).toArray
          have hcl : (cs.toList.take (rows.length * i.size)).length = rows.length * i.size := by simp; omega
          have hcs' : cs'.size = cs.size := by
            show (cs.toList.take (rows.length * i.size) ++ flatL g (xs.length * i.size) ++ cs.toList.drop (rows.length * i.size + xs.length * i.size)).toArray.size = _
            simp [flatL_len]; omega
          have hlow : ∀ o, o < rows.length * i.size → cs'[o]? = cs[o]? := by
            intro o ho
            show (cs.toList.take (rows.length * i.size) ++ flatL g (xs.length * i.size) ++ cs.toList.drop (rows.length * i.size + xs.length * i.size)).toArray[o]? = _
            rw [List.getElem?_toArray, List.append_assoc, List.getElem?_append_left (by omega), List.getElem?_take_of_lt ho, Array.getElem?_toList]
          have hmid : ∀ j, j < xs.length * i.size → cs'[rows.length * i.size + j]? = some (g j) := by
            intro j hj
            show (cs.toList.take (rows.length * i.size) ++ flatL g (xs.length * i.size) ++ cs.toList.drop (rows.length * i.size + xs.length * i.size)).toArray[rows.length * i.size + j]? = _
            rw [List.getElem?_toArray, List.append_assoc, List.getElem?_append_right (by omega), hcl, Nat.add_sub_cancel_left, List.getElem?_append_left (by rw [flatL_len]; exact hj), flatL_get hj]
          obtain ⟨h1, h2⟩ := hI.growRoom hr0 (cs' := cs') (need := rows.length + xs.length) (by omega) (by rw [← hcp]; exact hroom) (by rw [hcs']; exact hc3) (fun cs2 fr2 hcs2 o ho => by
              rw [hc1] at hcs2; cases hcs2
              rw [hlen, hsz] at ho
              exact hlow o ho)
          refine ⟨_, _, _, hrun, ?_, ?_, h2⟩
          · have e2 : (G.gr.set g0 { r with len := rows.length + xs.length }).map (fun r => (r.len, r.code)) = σ.gr.set g0 (rows.length + xs.length, code) := by
              rw [List.map_set, hI.grl]
              exact congrArg (fun c => σ.gr.set g0 (rows.length + xs.length, c)) hcode
            rw [e2] at h1
            exact h1
          · have hrep := hFl.app (fz' := fun b o => if b = r.blk ∧ r.len * r.sz ≤ o then (if o < (rows.length + xs.length) * r.sz then cs'[o]? else none) else G.fz b o) (blk := r.blk) krep h2.le.fz hs1 hs2 (fun j hj => by
                rw [if_neg (by rw [hlen, hsz]; omega)]
                obtain ⟨b', o', e', k'⟩ := hFl.at_ j hj
                cases e'
                rw [Nat.zero_add] at k'; exact k') (fun j hj => by
                rw [if_pos ⟨rfl, by rw [hlen, hsz]; omega⟩, if_pos (by rw [hsz, Nat.add_mul]; omega)]; exact hmid j hj) cap hroom
            have e1 : (rows ++ xs).length = rows.length + xs.length := List.length_append
            have := Rep.sl (G := ⟨fun b o => if b = r.blk ∧ r.len * r.sz ≤ o then (if o < (rows.length + xs.length) * r.sz then cs'[o]? else none) else G.fz b o, G.bx, G.gr.set g0 { r with len := rows.length + xs.length }⟩) (rows := rows ++ xs) (tag := .grow g0) (a := some ⟨r.blk, 0, none⟩) (cap := cap) (by rw [e1]; exact hrep) ⟨_, List.getElem?_set_self hg0, by rw [e1]; exact Nat.le_refl _, fun _ => ⟨rfl, hcp⟩⟩
            rw [e1] at this
            exact this
        ·
          obtain ⟨v, w', G', h1, ⟨r', hr1, hr3, h2⟩, h3, h4⟩ := grown_block (P := P) (ty := ty) hI hu hi hz hzs hnz hs1 hs2 hFl hsrc krep hb hb0 h8 hlim hcap (by omega) g0 (fun r => G.gr.set g0 r) (fun r => List.getElem?_set_self hg0) (fun r g s k => by
              by_cases hg : g = g0
              · exact .inl hg
              · rw [List.getElem?_set_ne (Ne.symm hg)] at k; exact .inr k) (fun r' hr' g s k => by
              by_cases hg : g = g0
              · subst hg
                rw [hr0] at k; cases k
                exact ⟨r', List.getElem?_set_self hg0, .inr (by omega)⟩
              · exact ⟨s, by rw [List.getElem?_set_ne (Ne.symm hg)]; exact k, .inl rfl⟩)
          refine ⟨v, w', G', h1, ?_, h3, h4⟩
          have e2 : (G.gr.set g0 r').map (fun r => (r.len, r.code)) = σ.gr.set g0 (rows.length + xs.length, code) := by
            rw [List.map_set, hI.grl, hr1, hr3, hcd]
          rw [e2] at h2
          exact h2
      · cases h
    · cases h
  · cases h
theorem appInfoS_spec {P : Program} {t u e : TypeId} {i : TypeInfo} (h : appInfoS P t u = some (e, i)) : P.underlying t = some (.slice e) ∧ P.underlying u = some .string ∧ P.info? e = some i ∧ (∃ zv, i.zero = some zv ∧ zv.cells.size = i.size) ∧ i.size = 1 ∧ i.bytes ≤ 1073741824 ∧ i.bytes ≠ 0 := by
  unfold appInfoS at h
  split at h
  · rename_i e1 hu hu2
    split at h
    · rename_i i1 zs hi hz
      split at h
      · rename_i hc
        cases h
        unfold zeroE at hz
        rw [hi] at hz
        simp only at hz
        split at hz
        · rename_i v hv
          split at hz
          · cases hz
            exact ⟨hu, hu2, hi, ⟨v, hv, by have := hc.1; simpa using this⟩, hc.2⟩
          · cases hz
        · cases hz
      · cases h
    · cases h
  · cases h
theorem append_sound {P : Program} {G : Gh} {σ σ' : Sto} {w : World} (hI : Inv G σ w) {t u ty : TypeId} {ps px p : PV} {vs vx : Value} (h : appendE P t u σ ps px = some (p, σ')) (hs : Rep G ps vs) (hx : Rep G px vx) :
    ∃ v w' G', (Builtin.append_ #[t, u] ty #[vs, vx]).run P w = .ok v w' ∧ Inv G' σ' w' ∧ Rep G' p v ∧ Later G w G' w' := by
  unfold appendE at h
  split at h
  · rename_i rows tag xs tag2
    split at h
    · rename_i e i hap
      obtain ⟨hu, ⟨e', hu2⟩, hi, ⟨zv, hz, hzs⟩, hnz, hb, hb0⟩ := appInfo_spec hap
      split at h
      case isTrue => cases h
      rename_i hne
      have hs2 : sized i.size xs = true := by
        unfold appG at h
        split at h
        · rename_i hc; exact hc.2.1
        · cases h
      cases hs with
      | sl hF ht =>
        cases hx with
        | sl kF kt =>
          obtain ⟨_, kcap, g, kFl⟩ := kF.flat hs2 hnz
          exact appG_sound hI h (by rw [if_neg hne]) (fun e => absurd e hne) hu hi hz hzs hnz hb hb0 hF ht (kFl.src (P := P) hI hs2 hnz hu2) kFl.rep
    · cases h
  · rename_i rows tag s
    split at h
    · rename_i e i hap
      obtain ⟨hu, hu2, hi, ⟨zv, hz, hzs⟩, h1, hb, hb0⟩ := appInfoS_spec hap
      split at h
      case isFalse => cases h
      rename_i hyes
      cases hs with
      | sl hF ht =>
        cases hx with
        | im =>
          refine appG_sound (g := fun j => .int .u8 (s.data.toList.getD j 0).toNat) hI h (by rw [if_pos hyes]) (fun _ => h1) hu hi hz hzs (by omega) hb hb0 hF ht ?_ ?_
          · have := Src.ofString (P := P) (w := w) hu2 s
            have hl : (strRows s).length = s.size := by unfold strRows; rw [List.length_map, Array.length_toList]; rfl
            rw [h1, hl, Nat.mul_one]
            have e : flatL (fun j => Value.int .u8 ((s.data.toList.getD j 0).toNat : Nat)) s.size = byteCells s := by
              apply List.ext_getElem?
              intro j
              by_cases hj : j < s.size
              · rw [flatL_get hj]
                unfold byteCells
                have hj' : j < s.data.toList.length := by rw [Array.length_toList]; exact hj
                rw [List.getElem?_map, List.getElem?_eq_getElem hj', List.getD_eq_getElem?_getD, List.getElem?_eq_getElem hj']
                rfl
              · rw [List.getElem?_eq_none (by rw [flatL_len]; omega), List.getElem?_eq_none (by rw [byteCells_length]; omega)]
            rw [e]; exact this
          · intro k hk j hj
            unfold strRows at hk hj ⊢
            simp only [List.length_map, List.getElem_map, List.length_singleton] at hk hj ⊢
            have hj0 : j = 0 := by omega
            subst hj0
            rw [h1, Nat.mul_one, Nat.add_zero, List.getD_eq_getElem?_getD, List.getElem?_eq_getElem hk]
            exact .im _ rfl
    · cases h
  · cases h
end Go.Proofs.YtfgoedndpcblpaaGreatDoor.Pv
end
section
namespace Go.Proofs.YtfgoedndpcblpaaGreatDoor.Pv
open Go
set_option linter.unusedSimpArgs false
set_option linter.unusedVariables false
theorem part_sound {P : Program} {G : Gh} {w : World} {cs : List PV} {vs : Array Value} (hl : cs.length = vs.size) (hr : ∀ i (h : i < cs.length), Rep G cs[i] (vs.getD i undef)) {t : TypeId} {o : Nat} {p : PV} (h : loadE P t cs o = some p) :
    ∃ v, (part t vs o).run P w = .ok v w ∧ Rep G p v := by
  have agg : ∀ d, P.underlying t = some d → d.isRow = true → (match P.info? t with | some i => if o + i.size ≤ cs.length then some (PV.agg ((cs.drop o).take i.size)) else none | none => none) = some p → ∃ v, (part t vs o).run P w = .ok v w ∧ Rep G p v := by
    intro d hd hrow hm
    cases hi : P.info? t with
    | none => rw [hi] at hm; cases hm
    | some i =>
      rw [hi] at hm
      simp only at hm
      split at hm
      · rename_i hle
        obtain rfl := Option.some.inj hm
        have hS : (sizeOf t).run P w = .ok i.size w := by simp [sizeOf, typeInfo, hi, go_sem]
        have hA : (isAgg t).run P w = .ok true w := by
          unfold isAgg
          rw [Sem.run_bind, run_underlying hd w]
          cases d <;> simp_all [TypeDesc.isRow]
        refine ⟨.agg (vs.extract o (o + i.size)), by simp [part, Sem.run_bind, hA, hS], ?_⟩
        refine Rep.agg (by simp; omega) (fun j hj => ?_)
        have hj' : j < i.size := by simp at hj; omega
        have e1 : ((cs.drop o).take i.size)[j] = cs[o + j]'(by omega) := by simp
        rw [e1, Array.getD_eq_getD_getElem?, Array.getElem?_extract, if_pos (by omega), ← Array.getD_eq_getD_getElem?]
        exact hr (o + j) (by omega)
      · cases hm
  unfold loadE at h
  split at h
  · rename_i fs hu; exact agg _ hu rfl h
  · rename_i n e hu; exact agg _ hu rfl h
  · rename_i d hn1 hn2 hu
    obtain ⟨ho, rfl⟩ := List.getElem?_eq_some_iff.1 h
    have ho' : o < vs.size := by omega
    have hA : (isAgg t).run P w = .ok false w := by
      unfold isAgg
      rw [Sem.run_bind, run_underlying hu w]
      cases d <;> simp_all
    refine ⟨vs[o], by simp [part, Sem.run_bind, hA, Array.getElem?_eq_getElem ho'], ?_⟩
    have := hr o ho
    rwa [Array.getD_eq_getD_getElem?, Array.getElem?_eq_getElem ho'] at this
  · cases h
theorem strIndex_sound {P : Program} {G : Gh} {w : World} {t : TypeId} {x i p : PV} {a b : Value} (ha : Rep G x a) (hb : Rep G i b) (h : strIndexE P t x i = some p) : ∃ v, (Instr.index t a b).run P w = .ok v w ∧ Rep G p v := by
  unfold strIndexE at h
  split at h
  · rename_i s k i hu
    cases ha; cases hb
    split at h
    · rename_i c hc
      cases h
      exact ⟨_, by simp [Instr.index, asIntOf, Sem.run_bind, run_underlying hu w, hc], .im _⟩
    · cases h
  · cases h
theorem field_sound {P : Program} {G : Gh} {w : World} {t : TypeId} {f : Nat} {x p : PV} {a : Value} (ha : Rep G x a) (h : fieldE P t x f = some p) : ∃ v, (Instr.field t a f).run P w = .ok v w ∧ Rep G p v := by
  unfold fieldE at h
  split at h
  · rename_i fs cs hu
    split at h
    · rename_i fd hf
      cases ha with
      | agg hl hr =>
        obtain ⟨v, h1, h2⟩ := part_sound (w := w) hl hr h
        exact ⟨v, by simp [Instr.field, Sem.run_bind, run_underlying hu w, hf, asAgg, h1], h2⟩
    · cases h
  · cases h
theorem conv_sound {P : Program} {G : Gh} {w : World} {s d : TypeId} {x p : PV} {a : Value} (ha : Rep G x a) (h : convE P s d x = some p) : ∃ v, (convert s d a).run P w = .ok v w ∧ Rep G p v := by
  unfold convE at h
  split at h
  · rename_i e k k' n hs hd
    cases ha
    cases h
    exact ⟨_, by simp [convert, Sem.run_bind, run_underlying hs w, run_underlying hd w, Conv.intToInt], .im _⟩
  · rename_i e b hs hd
    cases ha
    cases h
    exact ⟨_, by simp [convert, Sem.run_bind, run_underlying hs w, run_underlying hd w], .im _⟩
  · rename_i e k n hs hd
    cases ha
    cases h
    exact ⟨_, by simp [convert, Sem.run_bind, run_underlying hs w, run_underlying hd w, Conv.intToString], .im _⟩
  · cases h
theorem bound_sound {P : Program} {G : Gh} {w : World} {x : PV} {a : Value} (ha : Rep G x a) {y d n : Nat} (h : boundE (some x) y d = some n) (c : BoundsCode) {y' : Nat} (hy : y ≤ y') : (Instr.sliceBound a y' c).run P w = .ok n w ∧ n ≤ y := by
  unfold boundE at h
  split at h
  · rename_i e; cases e
  · rename_i k i e
    cases e
    cases ha
    split at h
    · rename_i hb
      cases h
      refine ⟨?_, by omega⟩
      have : (i : Int) ≤ y' := by omega
      simp [Instr.sliceBound, asIntOf, hb.1, this]
    · cases h
  · cases h
theorem boundL_sound {P : Program} {G : Gh} {w : World} {x : Option PV} {a : Option Value} (hn : x = none ↔ a = none) (ha : ∀ p v, x = some p → a = some v → Rep G p v) {y n : Nat} (h : boundE x y 0 = some n) (b : Bool) :
    ((match a with | some v => Instr.sliceBound v y (if b then .slice3C else .sliceB) | none => pure 0 : Sem Nat)).run P w = .ok n w ∧ n ≤ y := by
  cases x with
  | none =>
    have : a = none := hn.1 rfl
    subst this
    cases h
    exact ⟨rfl, Nat.zero_le _⟩
  | some p =>
    cases a with
    | none => exact absurd (hn.2 rfl) (by simp)
    | some v => exact bound_sound (ha p v rfl rfl) h _ (Nat.le_refl _)
theorem sub_rep {fz : Nat → Nat → Option Value} {rows : List (List FV)} {a : Option Addr} {cap l h m size : Nat} (hF : RepF fz (.sl rows) (.slice a rows.length cap)) (hlh : l ≤ h) (hh : h ≤ rows.length) (hm : h ≤ m) (hs : l = 0 ∨ sized size rows = true) :
    RepF fz (.sl ((rows.drop l).take (h - l))) (.slice (if m = l then a else a.map (·.add (l * size))) (h - l) (m - l)) := by
  cases hF with
  | sl sz vs hcap hsz hv hr =>
    have hlen : ((rows.drop l).take (h - l)).length = h - l := by simp; omega
    have hget : ∀ i (hi : i < h - l), ((rows.drop l).take (h - l))[i]'(by omega) = rows[l + i]'(by omega) := fun i hi => by simp
    have := RepF.sl (fz := fz) (rows := (rows.drop l).take (h - l)) (a := if m = l then a else a.map (·.add (l * size))) (cap := m - l) sz (fun i j => vs (l + i) j) (by omega)
      (fun r hr => hsz r (List.mem_of_mem_drop (List.mem_of_mem_take hr))) (fun i hi j hj => ?_) (fun i hi j hj => ?_)
    · rwa [hlen] at this
    · rw [hlen] at hi
      obtain ⟨b, o, e, k⟩ := hv (l + i) (by omega) j hj
      rw [if_neg (by omega), e]
      refine ⟨b, o + l * size, by rw [Option.map_some, Addr.add_mid], ?_⟩
      have : l * size = l * sz := by
        rcases hs with rfl | hs
        · simp
        · have h1 : (rows[l + i]'(by omega)).length = size := by
            have := List.all_eq_true.1 hs _ (List.getElem_mem (show l + i < rows.length by omega))
            simpa using this
          rw [← h1, hsz _ (List.getElem_mem _)]
      rw [this, Nat.add_assoc, ← Nat.add_assoc (l * sz), ← Nat.add_mul]
      exact k
    · have hi' : i < h - l := by rw [hlen] at hi; exact hi
      have hj' : j < (rows[l + i]'(by omega)).length := by rw [hget i hi'] at hj; exact hj
      have := hr (l + i) (by omega) j hj'
      simp only [hget i hi']
      exact this
theorem slice_sound {P : Program} {G : Gh} {w : World} {t : TypeId} {x p : PV} {a : Value} {lo hi mx : Option PV} {vlo vhi vmx : Option Value} (ha : Rep G x a)
    (nlo : lo = none ↔ vlo = none) (nhi : hi = none ↔ vhi = none) (nmx : mx = none ↔ vmx = none) (rlo : ∀ p v, lo = some p → vlo = some v → Rep G p v) (rhi : ∀ p v, hi = some p → vhi = some v → Rep G p v) (rmx : ∀ p v, mx = some p → vmx = some v → Rep G p v)
    (h : sliceE P t x lo hi mx = some p) : ∃ v, (Instr.slice t a vlo vhi vmx).run P w = .ok v w ∧ Rep G p v := by
  unfold sliceE at h
  split at h
  · rename_i s hu
    cases ha
    split at h
    · cases h
    · rename_i hmx
      have emx : mx = none := by cases mx <;> simp_all
      subst emx
      have evmx : vmx = none := nmx.1 rfl
      subst evmx
      split at h
      · rename_i hh e1
        split at h
        · rename_i l e2
          cases h
          refine ⟨_, ?_, .im _⟩
          obtain ⟨k2, k3⟩ := boundL_sound (P := P) (w := w) nlo rlo e2 false
          have k1 : ∃ c : BoundsCode, (match vhi with | some v => Instr.sliceBound v s.size c | none => pure s.size : Sem Nat).run P w = .ok hh w := ⟨.sliceAlen, by
            cases hi with
            | none =>
              have : vhi = none := nhi.1 rfl
              subst this; cases e1; rfl
            | some q =>
              cases vhi with
              | none => exact absurd (nhi.2 rfl) (by simp)
              | some v => exact (bound_sound (rhi q v rfl rfl) (y := s.size) (d := s.size) e1 _ (Nat.le_refl _)).1⟩
          cases vhi with
          | none =>
            have : hi = none := nhi.2 rfl
            subst this
            cases e1
            simp only [Instr.slice, Sem.run_bind, run_underlying hu w, Result.andThen_ok, Option.isSome_none, Bool.false_eq_true, if_false, Instr.sliceBounds, pure_bind]
            cases vlo with
            | none => cases nlo.2 rfl; cases e2; simp
            | some v => simp at k2; simp [Sem.run_bind, k2]
          | some u =>
            cases hi with
            | none => exact absurd (nhi.1 rfl) (by simp)
            | some q =>
              have k1 := (bound_sound (P := P) (w := w) (rhi q u rfl rfl) (y := s.size) (d := s.size) e1 .sliceAlen (Nat.le_refl _)).1
              simp only [Instr.slice, Sem.run_bind, run_underlying hu w, Result.andThen_ok, Option.isSome_none, Bool.false_eq_true, if_false, Instr.sliceBounds, pure_bind, k1]
              cases vlo with
              | none => cases nlo.2 rfl; cases e2; simp
              | some v => simp at k2; simp [Sem.run_bind, k2]
        · cases h
      · cases h
  · rename_i e rows tag hu
    cases ha with
    | sl hF ht =>
      rename_i A cap
      have hcap : rows.length ≤ cap := by cases hF with | sl sz vs hcap hs hv hr => exact hcap
      split at h
      · rename_i i hi'
        have hS : (sizeOf e).run P w = .ok i.size w := by simp [sizeOf, typeInfo, hi', go_sem]
        split at h
        · have evmx : vmx = none := nmx.1 rfl
          subst evmx
          split at h
          · rename_i hh e1
            split at h
            · rename_i l e2
              split at h
              · rename_i hs
                cases h
                obtain ⟨k2, k3⟩ := boundL_sound (P := P) (w := w) nlo rlo e2 false
                have k5 : hh ≤ rows.length := by
                  cases hi with
                  | none => cases e1; exact Nat.le_refl _
                  | some q =>
                    cases vhi with
                    | none => exact absurd (nhi.2 rfl) (by simp)
                    | some u => exact (bound_sound (P := P) (w := w) (rhi q u rfl rfl) e1 .sliceAcap (Nat.le_refl _)).2
                refine ⟨.slice (if cap = l then A else A.map (·.add (l * i.size))) (hh - l) (cap - l), ?_, ?_⟩
                · cases vhi with
                  | none =>
                    have : hi = none := nhi.2 rfl
                    subst this
                    cases e1
                    simp only [Instr.slice, Sem.run_bind, run_underlying hu w, Result.andThen_ok, Option.isSome_none, Bool.false_eq_true, if_false, Instr.sliceBounds, pure_bind]
                    cases vlo with
                    | none => cases nlo.2 rfl; cases e2; simp [hS, Sem.run_bind]
                    | some v => simp at k2; simp [Sem.run_bind, k2, hS]
                  | some u =>
                    cases hi with
                    | none => exact absurd (nhi.1 rfl) (by simp)
                    | some q =>
                      have k1 := (bound_sound (P := P) (w := w) (rhi q u rfl rfl) (y := rows.length) (d := rows.length) e1 .sliceAcap hcap).1
                      simp only [Instr.slice, Sem.run_bind, run_underlying hu w, Result.andThen_ok, Option.isSome_none, Bool.false_eq_true, if_false, if_true, Instr.sliceBounds, pure_bind, k1]
                      cases vlo with
                      | none => cases nlo.2 rfl; cases e2; simp [hS, Sem.run_bind]
                      | some v => simp at k2; simp [Sem.run_bind, k2, hS]
                · have hF2 := sub_rep (m := cap) (size := i.size) hF k3 k5 (by omega) hs
                  have hlen : ((rows.drop l).take (hh - l)).length = hh - l := by simp; omega
                  have := Rep.sl (G := G) (tag := if hi.isNone = true ∧ tag = .full then .full else .unk) (rows := (rows.drop l).take (hh - l)) (a := if cap = l then A else A.map (·.add (l * i.size))) (cap := cap - l) (by rw [hlen]; exact hF2) (by
                    by_cases hc : hi.isNone = true ∧ tag = .full
                    · rw [if_pos hc]
                      obtain ⟨hc1, rfl⟩ := hc
                      have : hi = none := by simpa using hc1
                      subst this
                      cases e1
                      have : rows.length = cap := ht
                      show ((rows.drop l).take _).length = cap - l
                      omega
                    · rw [if_neg hc]; trivial)
                  rw [hlen] at this
                  exact this
              · cases h
            · cases h
          · cases h
        · rename_i m0
          cases vmx with
          | none => exact absurd (nmx.2 rfl) (by simp)
          | some vm =>
          split at h
          · rename_i m em
            have km := bound_sound (P := P) (w := w) (rmx m0 vm rfl rfl) em .slice3Acap hcap
            split at h
            · cases h
            · rename_i hin
              cases hi with
              | none => simp at hin
              | some q =>
              cases vhi with
              | none => exact absurd (nhi.2 rfl) (by simp)
              | some u =>
              split at h
              · rename_i hh e1
                have k1 := bound_sound (P := P) (w := w) (rhi q u rfl rfl) e1 .slice3B (Nat.le_refl _)
                split at h
                · rename_i l e2
                  split at h
                  · rename_i hs
                    cases h
                    obtain ⟨k2, k3⟩ := boundL_sound (P := P) (w := w) nlo rlo e2 true
                    refine ⟨.slice (if m = l then A else A.map (·.add (l * i.size))) (hh - l) (m - l), ?_, ?_⟩
                    · simp only [Instr.slice, Sem.run_bind, run_underlying hu w, Result.andThen_ok, Option.isSome_some, Bool.false_eq_true, if_false, if_true, Instr.sliceBounds, pure_bind, k1.1, km.1]
                      cases vlo with
                      | none => cases nlo.2 rfl; cases e2; simp [hS, Sem.run_bind]
                      | some v => simp at k2; simp [Sem.run_bind, k2, hS]
                    · have hF2 := sub_rep (m := m) (size := i.size) hF k3 (by omega) k1.2 hs
                      have hlen : ((rows.drop l).take (hh - l)).length = hh - l := by simp; omega
                      have := Rep.sl (G := G) (tag := if hh = m then .full else .unk) (rows := (rows.drop l).take (hh - l)) (a := if m = l then A else A.map (·.add (l * i.size))) (cap := m - l) (by rw [hlen]; exact hF2) (by
                        by_cases hc : hh = m
                        · rw [if_pos hc]
                          show ((rows.drop l).take _).length = m - l
                          omega
                        · rw [if_neg hc]; trivial)
                      rw [hlen] at this
                      exact this
                  · cases h
                · cases h
              · cases h
          · cases h
      · cases h
  · cases h
end Go.Proofs.YtfgoedndpcblpaaGreatDoor.Pv
end
section
namespace Go.Proofs.YtfgoedndpcblpaaGreatDoor.Pv
open Go
set_option linter.unusedSimpArgs false
set_option linter.unusedVariables false
theorem keyOk_isKey {d : TypeDesc} {k : Value} (h : keyOk d k = true) : MapKept.IsKey d k := by
  unfold keyOk at h
  unfold MapKept.IsKey
  split at h <;> simp_all
theorem sameNow_eq {d : TypeDesc} {k k' : Value} (h : keyOk d k = true) (h' : keyOk d k' = true) : Instr.sameNow d k k' = some (keyEq k k') ∧ (keyEq k k' = true → k = k') := by
  unfold keyOk at h h'
  split at h
  · split at h' <;> simp_all [Instr.sameNow, keyEq]
  · split at h' <;> simp_all [Instr.sameNow, keyEq]
  · split at h'
    · simp_all
    · simp_all
    · rename_i a _ _ b _
      refine ⟨by simp [Instr.sameNow, keyEq, beq_toListBytes], fun e => ?_⟩
      simp only [keyEq] at e
      rw [← beq_toListBytes] at e
      have := (MapKept.bytes_beq (a := a) (b := b)).1 e
      rw [this]
    · cases h'
  · cases h
theorem findNow_m {G : Gh} {d : TypeDesc} {k : Value} (hk : keyOk d k = true) : ∀ (en : List MapEntry) (es : List (Value × PV)) (i : Nat), en.length = es.length → (∀ j (h : j < es.length) (h' : j < en.length), en[j].key = es[j].1 ∧ Rep G es[j].2 en[j].val) → (es.all fun e => keyOk d e.1) = true →
    (mfind es k i = none ∧ Instr.findNow d k en i = some none) ∨ ∃ j p v, mfind es k i = some (i + j, p) ∧ Instr.findNow d k en i = some (some (i + j, v)) ∧ Rep G p v ∧ j < es.length ∧ ∃ e, en[j]? = some e ∧ e.key = k
  | [], [], i, _, _, _ => .inl ⟨rfl, rfl⟩
  | e :: en, x :: es, i, hl, hr, ha => by
    simp only [List.all_cons, Bool.and_eq_true] at ha
    obtain ⟨h1, h2⟩ := hr 0 (by simp) (by simp)
    simp only [List.getElem_cons_zero] at h1 h2
    obtain ⟨h3, h4⟩ := sameNow_eq hk ha.1
    simp only [mfind, Instr.findNow]
    rw [h1, h3]
    cases hq : keyEq k x.1 with
    | true => exact .inr ⟨0, x.2, e.val, by simp, by simp, h2, by simp, e, rfl, by rw [h1]; exact (h4 hq).symm⟩
    | false =>
      rcases findNow_m hk en es (i + 1) (by simpa using hl) (fun j hj hj' => hr (j + 1) (by simpa using hj) (by simpa using hj')) ha.2 with ⟨h5, h6⟩ | ⟨j, p, v, h5, h6, h7, h8, e', h9, h10⟩
      · exact .inl ⟨by simp [h5], by simp [h6]⟩
      · exact .inr ⟨j + 1, p, v, by simp [h5]; omega, by simp [h6]; omega, h7, by simp; omega, e', by simpa using h9, h10⟩
  | [], x :: es, i, hl, _, _ => by simp at hl
  | e :: en, [], i, hl, _, _ => by simp at hl
theorem keyEq_self {d : TypeDesc} {k : Value} (h : keyOk d k = true) : keyEq k k = true := by
  unfold keyOk at h
  split at h <;> simp_all [keyEq]
theorem mfind_none {k : Value} : ∀ {es : List (Value × PV)} {i : Nat}, mfind es k i = none ↔ ∀ e ∈ es, keyEq k e.1 = false
  | [], i => by simp [mfind]
  | e :: es, i => by
    simp only [mfind]
    cases hq : keyEq k e.1 with
    | true => simp [hq]
    | false => simp [hq, mfind_none (es := es) (i := i + 1)]
theorem mfind_some {k : Value} : ∀ {es : List (Value × PV)} {i j : Nat} {p : PV}, mfind es k i = some (j, p) → i ≤ j ∧ ∃ e, es[j - i]? = some e ∧ e.2 = p ∧ keyEq k e.1 = true
  | [], i, j, p, h => by simp [mfind] at h
  | e :: es, i, j, p, h => by
    simp only [mfind] at h
    split at h
    · rename_i hq
      cases h
      exact ⟨Nat.le_refl _, e, by simp, rfl, hq⟩
    · obtain ⟨h1, e', h2, h3, h4⟩ := mfind_some h
      refine ⟨by omega, e', ?_, h3, h4⟩
      have : j - i = (j - (i + 1)) + 1 := by omega
      rw [this]; simpa using h2
theorem findNow_p {G : Gh} {d : TypeDesc} {k : Value} (hk : keyOk d k = true) (en : List MapEntry) (el es : List (Value × PV)) (hp : es.Perm el) (hu : (el.map (·.1)).Nodup) (hl : en.length = es.length) (hr : ∀ j (h : j < es.length) (h' : j < en.length), en[j].key = es[j].1 ∧ Rep G es[j].2 en[j].val) (ha : (el.all fun e => keyOk d e.1) = true) :
    (mfind el k 0 = none ∧ Instr.findNow d k en 0 = some none ∧ ∀ e ∈ el, e.1 ≠ k) ∨ ∃ j i p v, mfind el k 0 = some (j, p) ∧ Instr.findNow d k en 0 = some (some (i, v)) ∧ Rep G p v ∧ i < es.length ∧ (∃ e, en[i]? = some e ∧ e.key = k) ∧ ∃ x, el[j]? = some x ∧ es[i]? = some x ∧ x.1 = k := by
  have ha' : (es.all fun e => keyOk d e.1) = true := by
    rw [List.all_eq_true] at ha ⊢
    exact fun x hx => ha x (hp.mem_iff.1 hx)
  have hkey : ∀ e ∈ el, keyEq k e.1 = true → k = e.1 := fun e he h => (sameNow_eq hk (List.all_eq_true.1 ha e he)).2 h
  rcases findNow_m hk en es 0 hl hr ha' with ⟨h1, h2⟩ | ⟨j, p, v, h1, h2, h3, h4, h5⟩
  · rw [mfind_none] at h1
    exact .inl ⟨mfind_none.2 (fun e he => h1 e (hp.mem_iff.2 he)), h2, fun e he h => by
      have := h1 e (hp.mem_iff.2 he)
      rw [h, keyEq_self hk] at this; cases this⟩
  · rw [Nat.zero_add] at h1 h2
    obtain ⟨-, x, h6, h7, h8⟩ := mfind_some h1
    rw [Nat.sub_zero] at h6
    have hx : x ∈ el := hp.mem_iff.1 (List.mem_of_getElem? h6)
    cases hq : mfind el k 0 with
    | none => rw [mfind_none] at hq; rw [hq x hx] at h8; cases h8
    | some r =>
      obtain ⟨i, q⟩ := r
      obtain ⟨-, y, h9, h10, h11⟩ := mfind_some hq
      rw [Nat.sub_zero] at h9
      have hxy : x = y := by
        obtain ⟨m, hm⟩ := List.getElem?_of_mem hx
        have e1 : (el.map (·.1))[m]? = some k := by rw [List.getElem?_map, hm, Option.map_some, ← hkey x hx h8]
        have e2 : (el.map (·.1))[i]? = some k := by rw [List.getElem?_map, h9, Option.map_some, ← hkey y (List.mem_of_getElem? h9) h11]
        have hlt : m < (el.map (·.1)).length := (List.getElem?_eq_some_iff.1 e1).1
        have := (List.getElem?_inj hlt hu).1 (e1.trans e2.symm)
        subst this
        rw [hm] at h9; exact Option.some.inj h9
      subst hxy
      refine .inr ⟨i, j, q, v, rfl, h2, by rw [← h10, h7]; exact h3, h4, h5, x, h9, h6, (hkey x hx h8).symm⟩
theorem zeroV_sound {P : Program} (G : Gh) {t : TypeId} {p : PV} (h : zeroV P t = some p) : ∃ v : Value, (∀ w, (zeroValue t).run P w = .ok v w) ∧ Rep G p v := by
  unfold zeroV at h
  split at h
  · rename_i i hi
    split at h
    · rename_i vs hz
      cases h
      refine ⟨.agg vs, fun w => by simp [zeroValue, typeInfo, hi, hz, go_sem], .agg (by simp) (fun j hj => ?_)⟩
      have hj' : j < vs.size := by simpa using hj
      rw [List.getElem_map, Array.getD_eq_getD_getElem?, Array.getElem?_eq_getElem hj']
      exact constV_rep G _
    · rename_i v hn hz
      cases h
      exact ⟨v, fun w => by simp [zeroValue, typeInfo, hi, hz, go_sem], constV_rep G v⟩
    · cases h
  · cases h
theorem entries_sound {P : Program} {G : Gh} {σ : Sto} {w : World} (hI : Inv G σ w) {x : PV} {a : Value} (ha : Rep G x a) {es : List (Value × PV)} (h : entriesE σ x = some es) :
    ∃ (en : Array MapEntry) (el : List (Value × PV)), ((a = .map none ∧ en = #[]) ∨ ∃ r clock, a = .map (some r) ∧ w.heap[r]? = some (.map en clock)) ∧ el.Perm es ∧ (es.map (·.1)).Nodup ∧ en.size = el.length ∧ ∀ j (h : j < el.length) (k : j < en.size), en[j].key = el[j].1 ∧ Rep G el[j].2 en[j].val := by
  unfold entriesE at h
  split at h
  · cases ha; cases h
    exact ⟨#[], [], .inl ⟨rfl, rfl⟩, List.Perm.refl _, by simp, rfl, fun j h => absurd h (Nat.not_lt_zero _)⟩
  · split at h
    · rename_i b es' hb
      cases h
      cases ha with
      | mp hbx =>
        obtain ⟨o, h1, h2⟩ := hI.bxc _ _ _ hbx hb
        cases h2 with
        | map clock hp hu hl hr => exact ⟨_, _, .inr ⟨_, clock, rfl, h1⟩, hp, hu, hl, hr⟩
    · cases h
  · cases h
theorem lookup_sound {P : Program} {G : Gh} {σ : Sto} {w : World} (hI : Inv G σ w) {t : TypeId} {x i p : PV} {a b : Value} {ok : Bool} (ha : Rep G x a) (hb : Rep G i b) (h : lookupE P σ t x i ok = some p) : ∃ v, (Instr.lookup t a b ok).run P w = .ok v w ∧ Rep G p v := by
  unfold lookupE at h
  split at h
  · rename_i key elem es k hu he
    cases hb
    split at h
    · rename_i d hd
      split at h
      · rename_i hk
        obtain ⟨en, el, hen, hp, hnd, hl, hr⟩ := entries_sound (P := P) hI ha he
        have hck := fun e => MapKept.run_checkKey (P := P) (w := w) hd (keyOk_isKey hk.1) e 9999
        have hf := findNow_p hk.1 en.toList es el hp hnd (by simpa using hl) (fun j h h' => by simpa using hr j h (by simpa using h')) hk.2
        have run : ∀ {o : Option (Nat × Value)}, Instr.findNow d b en.toList 0 = some o → (Instr.lookup t a b ok).run P w = (match o with | some (_, v) => (pure (if ok then .tuple #[v, .bool true] else v) : Sem Value) | none => do let z ← zeroValue elem; pure (if ok then .tuple #[z, .bool false] else z)).run P w := by
          intro o h1
          have h3 := MapKept.run_findKey (P := P) (w := w) hd h1
          rcases hen with ⟨rfl, rfl⟩ | ⟨r, clock, rfl, hr⟩
          · simp only [Instr.lookup, Sem.run_bind, run_underlying hu w, Result.andThen_ok, pure_bind, hck, h3]
            cases o with
            | none => cases ok <;> simp [Sem.run_bind]
            | some o => cases ok <;> simp [Sem.run_bind]
          · simp only [Instr.lookup, Sem.run_bind, run_underlying hu w, Result.andThen_ok, pure_bind, MapKept.run_getObj_map hr, hck, h3]
            cases o with
            | none => cases ok <;> simp [Sem.run_bind]
            | some o => cases ok <;> simp [Sem.run_bind]
        have tup : ∀ {z : PV} {u : Value} (c : Bool), Rep G z u → Rep G (if ok = true then .tup [z, .im (.bool c)] else z) (if ok = true then .tuple #[u, .bool c] else u) := by
          intro z u c hz
          cases ok
          · exact hz
          · show Rep G (.tup [z, .im (.bool c)]) (.tuple #[u, .bool c])
            exact .tup rfl (fun i hi => by
              match i, hi with
              | 0, _ => exact hz
              | 1, _ => exact .im _
              | n + 2, hi => exact absurd hi (by simp))
        rcases hf with ⟨h1, h2, -⟩ | ⟨j, j', q, v, h1, h2, h3, h4, -, -⟩
        · rw [h1] at h
          simp only [Option.map_eq_some_iff] at h
          obtain ⟨z, hz, rfl⟩ := h
          obtain ⟨u, h7, h8⟩ := zeroV_sound (P := P) G hz
          refine ⟨_, (run h2).trans ?_, tup false h8⟩
          cases ok <;> simp [Sem.run_bind, h7]
        · rw [h1] at h
          cases h
          refine ⟨_, (run h2).trans ?_, tup true h3⟩
          simp
      · cases h
    · cases h
  · cases h
theorem insert_sound {P : Program} {G : Gh} {σ σ' : Sto} {w : World} (hI : Inv G σ w) {t : TypeId} {x i q : PV} {a b v : Value} (ha : Rep G x a) (hb : Rep G i b) (hv : Rep G q v) (h : insertE P σ t x i q = some σ') : ∃ w', (Instr.mapUpdate t a b v).run P w = .ok () w' ∧ Inv G σ' w' ∧ Later G w G w' := by
  unfold insertE at h
  split at h
  · rename_i key elem m k hu
    cases hb
    split at h
    · rename_i d es hd hes
      split at h
      · rename_i hk
        cases ha with
        | mp hbx =>
        rename_i blk
        obtain ⟨o, h1, h2⟩ := hI.bxc _ _ _ hbx hes
        cases h2 with
        | map clock hp hnd hl hr =>
        rename_i el en
        have hck := MapKept.run_checkKey (P := P) (w := w) hd (keyOk_isKey hk.1) false 9999
        have hset : ∀ o', (setObj blk o').run P w = .ok () { w with heap := w.heap.setIfInBounds blk o' } := fun o' => MapKept.run_setObj_map o' h1
        have hheap : ∀ o', ({ w with heap := w.heap.setIfInBounds blk o' } : World).heap[blk]? = some o' ∧ (∀ k, k ≠ blk → ({ w with heap := w.heap.setIfInBounds blk o' } : World).heap[k]? = w.heap[k]?) ∧ ({ w with heap := w.heap.setIfInBounds blk o' } : World).heap.size = w.heap.size := fun o' =>
          ⟨(MapKept.heap_set (o' := o') h1).1, fun k hk => (MapKept.heap_set (o' := o') h1).2 k hk, by simp⟩
        rcases findNow_p hk.1 en.toList es el hp hnd (by simpa using hl) (fun j h h' => by simpa using hr j h (by simpa using h')) hk.2 with ⟨h3, h4, hne⟩ | ⟨i0, j, p, u, h3, h4, h5, h6, ⟨e, h7, h8⟩, x0, h9', h10', h11'⟩
        · rw [h3] at h
          cases h
          have h5 := MapKept.run_findKey (P := P) (w := w) hd h4
          obtain ⟨k1, k2, k3⟩ := hheap (.map (en.push { key := b, val := v, born := clock }) (clock + 1))
          obtain ⟨k4, k5⟩ := hI.setBoxW hbx hes (x' := .map (es ++ [(b, q)])) k1 (.map (es := el ++ [(b, q)]) (clock + 1) (hp.append_right _) (by
              rw [List.map_append, List.nodup_append]
              refine ⟨hnd, by simp, fun x hx y hy hxy => ?_⟩
              obtain ⟨e, he, rfl⟩ := List.mem_map.1 hx
              obtain rfl : y = b := by simpa using hy
              exact hne e he hxy) (by simp [hl]) (fun j h h' => by
            by_cases hj : j < el.length
            · have hj' : j < en.size := by omega
              rw [Array.getElem_push_lt hj', List.getElem_append_left hj]
              exact hr j hj hj'
            · have hj2 : j = el.length := by simp at h; omega
              subst hj2
              have e1 : (en.push { key := b, val := v, born := clock })[el.length]'h' = { key := b, val := v, born := clock } := by
                simp [← hl]
              rw [e1]
              simp only [List.getElem_append_right (Nat.le_refl _), Nat.sub_self, List.getElem_cons_zero]
              exact ⟨trivial, hv⟩)) k3 k2 ⟨rfl, rfl, rfl⟩
          refine ⟨_, ?_, k4, k5⟩
          simp only [Instr.mapUpdate, Sem.run_bind, run_underlying hu w, Result.andThen_ok, MapKept.run_getObj_map h1, hck, h5, hset]
        · rw [h3] at h
          cases h
          have h9 := MapKept.run_findKey (P := P) (w := w) hd h4
          have hj' : j < en.size := by omega
          have hej : en[j]? = some e := by rw [← Array.getElem?_toList]; exact h7
          have hkt : (Instr.keyThatStays (((en[j]?).map (·.key)).getD b) b).run P w = .ok b w := by
            rw [hej]
            simp only [Option.map_some, Option.getD_some, h8]
            exact MapKept.run_keyThatStays (d := d) (keyOk_isKey hk.1)
          obtain ⟨k1, k2, k3⟩ := hheap (.map (en.modify j fun e => { e with key := b, val := v }) clock)
          have hkm : (es.set i0 (b, q)).map (·.1) = es.map (·.1) := by
            rw [List.map_set]
            apply List.ext_getElem (by simp)
            intro m h1 h2
            rw [List.getElem_set]
            split
            · rename_i hm
              subst hm
              have hlt : i0 < es.length := by simpa using h2
              rw [List.getElem?_eq_getElem hlt] at h9'
              rw [List.getElem_map, Option.some.inj h9', h11']
            · rfl
          obtain ⟨k4, k5⟩ := hI.setBoxW hbx hes (x' := .map (es.set i0 (b, q))) k1 (.map (es := el.set j (b, q)) clock (perm_set hp h9' h10') (by rw [hkm]; exact hnd) (by simp [hl]) (fun i h h' => by
            have hi : i < el.length := by simpa using h
            have hi' : i < en.size := by omega
            rw [Array.getElem_modify, List.getElem_set]
            by_cases e1 : j = i
            · simp only [e1, if_true]; exact ⟨trivial, hv⟩
            · simp only [e1, if_false]; exact hr i hi hi')) k3 k2 ⟨rfl, rfl, rfl⟩
          refine ⟨_, ?_, k4, k5⟩
          simp only [Instr.mapUpdate, Sem.run_bind, run_underlying hu w, Result.andThen_ok, MapKept.run_getObj_map h1, hck, h9, hkt, hset]
      · cases h
    · cases h
  · cases h
theorem delete_sound {P : Program} {G : Gh} {σ σ' : Sto} {w : World} (hI : Inv G σ w) {t u : TypeId} {x i : PV} {a b : Value} (ha : Rep G x a) (hb : Rep G i b) (h : deleteE P σ t x i = some σ') (ty : TypeId) : ∃ w', (Builtin.delete_ #[t, u] ty #[a, b]).run P w = .ok (.tuple #[]) w' ∧ Inv G σ' w' ∧ Later G w G w' := by
  unfold deleteE at h
  split at h
  · rename_i key elem m k hu
    cases hb
    split at h
    · rename_i d es hd hes
      split at h
      · rename_i hk
        cases ha with
        | mp hbx =>
        rename_i blk
        obtain ⟨o, h1, h2⟩ := hI.bxc _ _ _ hbx hes
        cases h2 with
        | map clock hp hnd hl hr =>
        rename_i el en
        have hck := fun e => MapKept.run_checkKey (P := P) (w := w) hd (keyOk_isKey hk.1) e 9999
        have hset : ∀ o', (setObj blk o').run P w = .ok () { w with heap := w.heap.setIfInBounds blk o' } := fun o' => MapKept.run_setObj_map o' h1
        have hheap : ∀ o', ({ w with heap := w.heap.setIfInBounds blk o' } : World).heap[blk]? = some o' ∧ (∀ k, k ≠ blk → ({ w with heap := w.heap.setIfInBounds blk o' } : World).heap[k]? = w.heap[k]?) ∧ ({ w with heap := w.heap.setIfInBounds blk o' } : World).heap.size = w.heap.size := fun o' =>
          ⟨(MapKept.heap_set (o' := o') h1).1, fun k hk => (MapKept.heap_set (o' := o') h1).2 k hk, by simp⟩
        rcases findNow_p hk.1 en.toList es el hp hnd (by simpa using hl) (fun j h h' => by simpa using hr j h (by simpa using h')) hk.2 with ⟨h3, h4, hne⟩ | ⟨i0, j, p, u, h3, h4, h5, h6, ⟨e, h7, h8⟩, x0, h9', h10', h11'⟩
        · rw [h3] at h
          cases h
          have h5 := MapKept.run_findKey (P := P) (w := w) hd h4
          obtain ⟨k1, k2, k3⟩ := hheap (.map en clock)
          obtain ⟨k4, k5⟩ := hI.setBoxW hbx hes (x' := .map es) k1 (.map clock hp hnd hl hr) k3 k2 ⟨rfl, rfl, rfl⟩
          refine ⟨_, ?_, k4, k5⟩
          simp [Builtin.delete_, Sem.run_bind, run_underlying hu w, MapKept.run_getObj_map h1, hck, h5, hset]
        · rw [h3] at h
          cases h
          have h9 := MapKept.run_findKey (P := P) (w := w) hd h4
          obtain ⟨k1, k2, k3⟩ := hheap (.map (en.eraseIdxIfInBounds j) clock)
          have hje : j < el.length := by
            have : j < en.toList.length := (List.getElem?_eq_some_iff.1 h7).1
            simp at this; omega
          have hjn : j < en.size := by omega
          have eer : (en.eraseIdxIfInBounds j).toList = en.toList.eraseIdx j := by
            rw [Array.eraseIdxIfInBounds_eq, dif_pos hjn, Array.toList_eraseIdx]
          obtain ⟨k4, k5⟩ := hI.setBoxW hbx hes (x' := .map (es.eraseIdx i0)) k1 (.map (es := el.eraseIdx j) clock (perm_erase hp h9' h10') (hnd.sublist ((List.eraseIdx_sublist es i0).map _)) (by
              rw [← Array.length_toList, eer, List.length_eraseIdx, List.length_eraseIdx, if_pos hje, if_pos (by simpa using hjn)]
              simp at hl ⊢; omega) (fun i h h' => by
            have e1 : (en.eraseIdxIfInBounds j)[i]'h' = (en.toList.eraseIdx j)[i]'(by rw [← eer, Array.length_toList]; exact h') := by
              rw [← Array.getElem_toList]; simp only [eer]
            rw [e1]
            rw [List.getElem_eraseIdx, List.getElem_eraseIdx]
            by_cases hij : i < j
            · simp only [hij, dif_pos]; exact hr i (by omega) (by omega)
            · simp only [hij, dif_neg, not_false_iff]
              have hle : i + 1 < el.length := by
                rw [List.length_eraseIdx, if_pos hje] at h; omega
              exact hr (i + 1) hle (by omega))) k3 k2 ⟨rfl, rfl, rfl⟩
          refine ⟨_, ?_, k4, k5⟩
          simp [Builtin.delete_, Sem.run_bind, run_underlying hu w, MapKept.run_getObj_map h1, hck, h9, hset]
      · cases h
    · cases h
  · cases h
theorem range_sound {P : Program} {G : Gh} {w : World} {t : TypeId} {x : PV} {a : Value} {b : Bx} (ha : Rep G x a) (h : rangeE P t x = some b) : ∃ o, BxRep G b o ∧ (Instr.range t a).run P w = .ok (.pointer (some ⟨w.heap.size, 0, none⟩)) (w.alloc o) := by
  unfold rangeE at h
  split at h
  · rename_i s hu
    cases ha; cases h
    exact ⟨_, .iter s 0, by simp [Instr.range, Sem.run_bind, run_underlying hu w]⟩
  · cases h
theorem next_sound {P : Program} {G : Gh} {σ : Sto} {w : World} (hI : Inv G σ w) {b blk : Nat} {s : ByteArray} {pos : Nat} (hb : G.bx[b]? = some blk) (hc : σ.bx[b]? = some (.iter s pos)) (ty : TypeId) :
    (pos < s.size → ∃ w', (Instr.next (.pointer (some ⟨blk, 0, none⟩)) true ty).run P w = .ok (.tuple #[.bool true, .int .i64 pos, .int .i32 (Utf8.decode s pos).1]) w' ∧ Inv G { σ with bx := σ.bx.set b (.iter s (pos + (Utf8.decode s pos).2)) } w' ∧ Later G w G w') ∧
    (¬ pos < s.size → (Instr.next (.pointer (some ⟨blk, 0, none⟩)) true ty).run P w = .ok (.tuple #[.bool false]) w) := by
  obtain ⟨o, h1, h2⟩ := hI.bxc _ _ _ hb hc
  cases h2
  have hg : (getObj blk).run P w = .ok (.stringIter s pos) w := by simp [getObj, Sem.run, h1]
  constructor
  · intro hlt
    have hs : (setObj blk (.stringIter s (pos + (Utf8.decode s pos).2))).run P w = .ok () { w with heap := w.heap.setIfInBounds blk (.stringIter s (pos + (Utf8.decode s pos).2)) } := by simp [setObj, Sem.run, h1]
    obtain ⟨k1, k2⟩ := MapKept.heap_set (o' := .stringIter s (pos + (Utf8.decode s pos).2)) h1
    obtain ⟨k4, k5⟩ := hI.setBoxW (w' := { w with heap := w.heap.setIfInBounds blk (.stringIter s (pos + (Utf8.decode s pos).2)) }) hb hc k1 (.iter s (pos + (Utf8.decode s pos).2)) (by simp) k2 ⟨rfl, rfl, rfl⟩
    refine ⟨_, ?_, k4, k5⟩
    simp only [Instr.next, Sem.run_bind, hg, Result.andThen_ok, hlt, if_true, hs, goInt]
    rfl
  · intro hlt
    simp only [Instr.next, Sem.run_bind, hg, Result.andThen_ok, hlt, if_false]
    rfl
theorem min_sound {P : Program} {G : Gh} {w : World} {x y p : PV} {a b : Value} (ha : Rep G x a) (hb : Rep G y b) (h : min2E x y = some p) (ts : Array TypeId) (t : TypeId) : ∃ v, (Builtin.min_ ts t #[a, b]).run P w = .ok v w ∧ Rep G p v := by
  unfold min2E at h
  split at h
  · cases ha; cases hb; cases h
    exact ⟨_, by simp [Builtin.min_, Builtin.min2], .im _⟩
  · cases h
theorem max_sound {P : Program} {G : Gh} {w : World} {x y p : PV} {a b : Value} (ha : Rep G x a) (hb : Rep G y b) (h : max2E x y = some p) (ts : Array TypeId) (t : TypeId) : ∃ v, (Builtin.max_ ts t #[a, b]).run P w = .ok v w ∧ Rep G p v := by
  unfold max2E at h
  split at h
  · cases ha; cases hb; cases h
    exact ⟨_, by simp [Builtin.max_, Builtin.max2], .im _⟩
  · cases h
theorem min3_sound {P : Program} {G : Gh} {w : World} {x y z q p : PV} {a b c : Value} (ha : Rep G x a) (hb : Rep G y b) (hc : Rep G z c) (h : min2E x y = some q) (h2 : min2E q z = some p) (ts : Array TypeId) (t : TypeId) : ∃ v, (Builtin.min_ ts t #[a, b, c]).run P w = .ok v w ∧ Rep G p v := by
  unfold min2E at h h2
  split at h
  · cases ha; cases hb; cases h
    split at h2
    · rename_i hq; cases hc; cases h2; cases hq
      exact ⟨_, by simp [Builtin.min_, Builtin.min2], .im _⟩
    · cases h2
  · cases h
theorem max3_sound {P : Program} {G : Gh} {w : World} {x y z q p : PV} {a b c : Value} (ha : Rep G x a) (hb : Rep G y b) (hc : Rep G z c) (h : max2E x y = some q) (h2 : max2E q z = some p) (ts : Array TypeId) (t : TypeId) : ∃ v, (Builtin.max_ ts t #[a, b, c]).run P w = .ok v w ∧ Rep G p v := by
  unfold max2E at h h2
  split at h
  · cases ha; cases hb; cases h
    split at h2
    · rename_i hq; cases hc; cases h2; cases hq
      exact ⟨_, by simp [Builtin.max_, Builtin.max2], .im _⟩
    · cases h2
  · cases h
end Go.Proofs.YtfgoedndpcblpaaGreatDoor.Pv
end
section
namespace Go.Proofs.YtfgoedndpcblpaaGreatDoor.Pv
noncomputable section
open Go
set_option linter.unusedSimpArgs false
set_option linter.unusedVariables false
theorem add_sound {G : Gh} {p q : PV} {n : Nat} {v : Value} (h : Rep G p v) (e : addE p n = some q) : ∃ a, v = .pointer (some a) ∧ a.spot = none ∧ Rep G q (.pointer (some (a.add n))) := by
  unfold addE at e
  split at e
  · obtain rfl := Option.some.inj e
    cases h with
    | ptr h => exact ⟨_, rfl, rfl, by rw [Addr.add_mid]; exact .ptr h⟩
  · obtain rfl := Option.some.inj e
    cases h with
    | el vs hv hr => exact ⟨_, rfl, rfl, by rw [Addr.add_mid, Nat.add_assoc]; exact .el vs hv hr⟩
  · cases e
theorem fieldAddr_sound {P : Program} {G : Gh} {w : World} {s : TypeId} {f : Nat} {x p : PV} {a : Value} (ha : Rep G x a) (h : fieldAddrE P s x f = some p) :
    ∃ v, (Instr.fieldAt s a f).run P w = .ok v w ∧ Rep G p v := by
  unfold fieldAddrE at h
  split at h
  · rename_i fs hu
    split at h
    · rename_i fd hf
      split at h
      · rename_i info hi
        split at h
        · cases h
        · rename_i hz
          obtain ⟨ad, rfl, hs, hr⟩ := add_sound ha h
          refine ⟨_, ?_, hr⟩
          have hS : (sizeOf fd.type).run P w = .ok info.size w := by simp [sizeOf, typeInfo, hi, go_sem]
          simp [Instr.fieldAt, Instr.sureAddr, fieldPlace, Sem.run_bind, run_underlying hu w, hf, hS, hz]
      · cases h
    · cases h
  · cases h
theorem len_sound {P : Program} {G : Gh} {w : World} {t : TypeId} {x p : PV} {a : Value} (ha : Rep G x a) (h : lenE P t x = some p) {ts : Array TypeId} {args : Array Value} (h0 : ts[0]? = some t) (h1 : args[0]? = some a) (ty : TypeId) :
    ∃ v, (Builtin.len_ ts ty args).run P w = .ok v w ∧ Rep G p v := by
  unfold lenE at h
  split at h
  · rename_i s hu
    cases ha
    obtain rfl := Option.some.inj h
    exact ⟨_, by simp [Builtin.len_, h0, h1, Sem.run_bind, run_underlying hu w, goInt], .im _⟩
  · rename_i e rows tag hu
    cases ha
    obtain rfl := Option.some.inj h
    exact ⟨_, by simp [Builtin.len_, h0, h1, Sem.run_bind, run_underlying hu w, goInt], .im _⟩
  · cases h
theorem lenP_sound {P : Program} {G : Gh} {σ : Sto} {w : World} (hI : Inv G σ w) {t : TypeId} {x p : PV} {a : Value} (ha : Rep G x a) (h : lenP P σ t x = some p) {ts : Array TypeId} {args : Array Value} (h0 : ts[0]? = some t) (h1 : args[0]? = some a) (ty : TypeId) :
    ∃ v, (Builtin.len_ ts ty args).run P w = .ok v w ∧ Rep G p v := by
  unfold lenP at h
  split at h
  · rename_i b
    split at h
    · rename_i k e es hu hes
      cases ha with
      | mp hbx =>
      obtain ⟨o, h2, h3⟩ := hI.bxc _ _ _ hbx hes
      cases h3 with
      | map clock hp hu' hl hr =>
      obtain rfl := Option.some.inj h
      exact ⟨_, by simp [Builtin.len_, h0, h1, Sem.run_bind, run_underlying hu w, MapKept.run_getObj_map h2, goInt, hl, hp.length_eq], .im _⟩
    · cases h
  · exact len_sound ha h h0 h1 ty
theorem index_sound {P : Program} {G : Gh} {w : World} {t : TypeId} {x i p : PV} {a b : Value} (ha : Rep G x a) (hb : Rep G i b) (h : indexE P t x i = some p) :
    ∃ v, (Instr.indexAt t a b).run P w = .ok v w ∧ Rep G p v := by
  unfold indexE at h
  split at h
  · rename_i rows tag k i
    cases hb
    split at h
    · rename_i e hu
      split at h
      · rename_i hin
        split at h
        · rename_i info row hi hrow
          split at h
          · rename_i hsz
            obtain rfl := Option.some.inj h
            cases ha with
            | sl hF ht =>
              rename_i A cap
              cases hF with
              | sl sz vs hcap hs hv hr =>
              obtain ⟨hlt, rfl⟩ := List.getElem?_eq_some_iff.1 hrow
              have hsz' : sz = info.size := by rw [← hs _ (List.getElem_mem hlt)]; exact hsz.1
              have hnz := hsz.2
              have hS : (sizeOf e).run P w = .ok info.size w := by simp [sizeOf, typeInfo, hi, go_sem]
              obtain ⟨bk, o, rfl, _⟩ := hv i.toNat hlt 0 (by omega)
              refine ⟨_, ?_, Rep.el (row := rows[i.toNat]) (o := 0) (b := bk) (base := o + i.toNat * sz) (vs i.toNat) (fun j hj => ?_) (fun j hj => hr _ hlt j hj)⟩
              · have hadd : (⟨bk, o, none⟩ : Addr).add (i.toNat * info.size) = ⟨bk, o + i.toNat * sz + 0, none⟩ := by rw [Addr.add_mid, hsz']; rfl
                simp [Instr.indexAt, asIntOf, Sem.run_bind, run_underlying hu w, hin.1, hin.2, hS, hadd, hsz', Addr.add_mid]
              · obtain ⟨b', o', e', h'⟩ := hv i.toNat hlt j (by rw [← hs _ (List.getElem_mem hlt)]; exact hj)
                cases e'
                rw [Nat.add_assoc]; exact h'
          · cases h
        · cases h
      · cases h
    · cases h
  · cases h
theorem store_sound {P : Program} {G : Gh} {σ : Sto} {w : World} (hI : Inv G σ w) {b o blk : Nat} {cells vs : List PV} {t : TypeId} {i : TypeInfo} {v : Value} (hb : G.bx[b]? = some blk) (hc : σ.bx[b]? = some (.cells cells)) (hi : P.info? t = some i) (hs : vs.length = i.size) (hle : o + vs.length ≤ cells.length) (hfl : (!flagged (setAt cells o vs) || flagged cells) = true)
    (hv : vs.length = v.cells.size ∧ (∀ j (h : j < vs.length), Rep G vs[j] (v.cells.getD j undef)) ∧ ∀ u ∈ v.cells.toList, u.oneCell' = true) :
    ∃ w', (Instr.storeAt t (.pointer (some ⟨blk, o, none⟩)) v).run P w = .ok () w' ∧ Inv G { σ with bx := σ.bx.set b (.cells (setAt cells o vs)) } w' ∧ Later G w G w' := by
  obtain ⟨hl, hr, h1⟩ := hv
  obtain ⟨cs, ty, h2, h3, h4⟩ : ∃ cs ty, w.heap[blk]? = some (.cells cs ty (0, 0)) ∧ cs.size = cells.length ∧ ∀ j (h : j < cells.length), Rep G cells[j] (cs.getD j undef) := by
    obtain ⟨_, h2, hx⟩ := hI.bxc b blk _ hb hc
    cases hx with
    | cells t h3 h4 _ => exact ⟨_, t, h2, h3, h4⟩
  have hlen : v.cells.toList.length = vs.length := by simpa using hl.symm
  have hrun := run_storeCells_at (P := P) blk o ty v.cells.toList 0 cs w h2 (by rw [hlen]; omega) h1
  rw [Nat.add_zero, hlen] at hrun
  have hst : (Instr.storeAt t (.pointer (some ⟨blk, o, none⟩)) v).run P w = .ok () (w.setRow blk (cs.toList.take o ++ v.cells.toList ++ cs.toList.drop (o + vs.length)).toArray) := by
    have hS : (sizeOf t).run P w = .ok i.size w := by simp [sizeOf, typeInfo, hi, go_sem]
    have hne : ¬ v.cells.size ≠ i.size := by omega
    simp [Instr.storeAt, Instr.sureAddr, storeVar, Sem.run_bind, hS, hne, hrun]
  have hset := hI.setBox (cells' := setAt cells o vs) hb hc (by unfold setAt; simp; omega) (fun hf => by rw [hf] at hfl; simpa using hfl) (cs' := (cs.toList.take o ++ v.cells.toList ++ cs.toList.drop (o + vs.length)).toArray) (by
    unfold setAt; simp; omega) (fun j hj => by
    have e1 : (cs.toList.take o ++ v.cells.toList ++ cs.toList.drop (o + vs.length)).toArray.getD j undef = if j < o then cs.getD j undef else if j < o + vs.length then v.cells.getD (j - o) undef else cs.getD j undef := by
      rw [Array.getD_eq_getD_getElem?, List.getElem?_toArray, List.append_assoc]
      have ho : (cs.toList.take o).length = o := by simp; omega
      split
      · rename_i hlt
        rw [List.getElem?_append_left (by omega), List.getElem?_take_of_lt hlt, Array.getElem?_toList, Array.getD_eq_getD_getElem?]
      · rename_i hge
        rw [List.getElem?_append_right (by omega), ho]
        split
        · rename_i hlt
          rw [List.getElem?_append_left (by omega), Array.getElem?_toList, Array.getD_eq_getD_getElem?]
        · rename_i hge2
          rw [List.getElem?_append_right (by omega), List.getElem?_drop, Array.getElem?_toList, Array.getD_eq_getD_getElem?, hlen]
          congr 2
          congr 1
          omega
    rw [e1]
    unfold setAt at hj ⊢
    have ho : (cells.take o).length = o := by simp; omega
    split
    · rename_i hlt
      rw [List.getElem_append_left (by omega), List.getElem_take]
      exact h4 j (by omega)
    · rename_i hge
      rw [List.getElem_append_right (by omega)]
      split
      · rename_i hlt
        rw [List.getElem_append_left (by omega)]
        simp only [ho]
        exact hr (j - o) (by omega)
      · rename_i hge2
        rw [List.getElem_append_right (by omega), List.getElem_drop]
        have hjl : j < cells.length := by simp at hj; omega
        have := h4 j hjl
        have e2 : o + vs.length + (j - (cells.take o).length - vs.length) = j := by rw [ho]; omega
        simp only [e2]
        exact this)
  exact ⟨_, hst, hset.1, hset.2⟩
def Ran (P : Program) (a : Act) (o : Oper) (w : World) (v : Value) (w' : World) : Prop := (execOp a.eval o).run P w = .ok (.value v) w' ∨ ((execOp a.eval o).run P w = .ok .skip w' ∧ v = undef)
theorem newVar_run (P : Program) (t : TypeId) (v : Value) (w : World) : (newVar t v).run P w = .ok ⟨w.heap.size, 0, none⟩ (w.alloc (.cells v.cells t (0, 0))) := rfl
theorem op_sound {P : Program} {G : Gh} {σ σ' : Sto} {w : World} {env : Nat → PV} {a : Act} {o : Oper} {p : PV} (hI : Inv G σ w) (hE : EnvRep G env a) (h : opE P env σ o.op = some (p, σ')) :
    ∃ v w' G', Ran P a o w v w' ∧ Inv G' σ' w' ∧ Rep G' p v ∧ Later G w G' w' := by
  have still : ∀ {q : Option PV}, q.map (·, σ) = some (p, σ') → q = some p ∧ σ = σ' := by
    intro q e
    cases q with
    | none => cases e
    | some q => cases e; exact ⟨rfl, rfl⟩
  unfold opE at h
  split at h
  · rename_i x ho
    cases h
    exact ⟨_, w, G, .inl (by simp [execOp, ho]), hI, hE.opd x, .refl _ _⟩
  · rename_i x ho
    cases h
    exact ⟨_, w, G, .inl (by simp [execOp, ho]), hI, hE.opd x, .refl _ _⟩
  · rename_i op t x y yt ho
    obtain ⟨hq, e⟩ := still h
    subst e
    obtain ⟨v, h1, h2⟩ := bin_sound (P := P) (w := w) (t := t) (x := x) (y := y) (hE.opd x) (hE.opd y) hq
    refine ⟨v, w, G, .inl ?_, hI, h2, .refl _ _⟩
    simp only [execOp, ho]
    rw [Sem.run_bind, h1]; rfl
  · rename_i t x ho
    split at h
    · rename_i b of hb
      split at h
      · rename_i cells hc
        obtain ⟨hq, e⟩ := still h
        subst e
        have hr := hE.opd x
        rw [hb] at hr
        generalize hv : a.eval x = ev at hr
        cases hr with
        | ptr hbx =>
          obtain ⟨v, h1, h2⟩ := load_sound (P := P) (hI.box hbx hc) hq
          rw [Nat.zero_add] at h1
          refine ⟨v, w, G, .inl ?_, hI, h2, .refl _ _⟩
          simp only [execOp, ho, hv]
          rw [Sem.run_bind, h1]; rfl
      · cases h
    · rename_i row of hb
      obtain ⟨hq, e⟩ := still h
      subst e
      have hr := hE.opd x
      rw [hb] at hr
      generalize hv : a.eval x = ev at hr
      cases hr with
      | el vs h1 h2 =>
        obtain ⟨v, h1, h2⟩ := load_sound (P := P) (hI.row h1 h2) hq
        refine ⟨v, w, G, .inl ?_, hI, h2, .refl _ _⟩
        simp only [execOp, ho, hv]
        rw [Sem.run_bind, h1]; rfl
    · cases h
  · rename_i t x y ho
    split at h
    · rename_i b of hb
      split at h
      · rename_i cells vs i hc hvs hi
        split at h
        · rename_i hle
          cases h
          have hr := hE.opd x
          rw [hb] at hr
          generalize hv : a.eval x = ev at hr
          cases hr with
          | ptr hbx =>
            obtain ⟨w', h1, h2, h3⟩ := store_sound (P := P) (t := t) hI hbx hc hi hle.1 hle.2.1 hle.2.2 (cells_sound (hE.opd y) hvs)
            refine ⟨undef, w', G, .inr ⟨?_, rfl⟩, h2, .im _, h3⟩
            simp only [execOp, ho, hv]
            rw [Sem.run_bind, h1]; rfl
        · cases h
      · cases h
    · cases h
  · rename_i t parts ho
    obtain ⟨hq, e⟩ := still h
    subst e
    obtain ⟨hl, hr⟩ := parts_rep hE parts
    obtain ⟨v, h1, h2⟩ := build_sound (P := P) (w := w) hl hr hq
    refine ⟨v, w, G, .inl ?_, hI, h2, .refl _ _⟩
    simp only [execOp, ho]
    rw [Sem.run_bind, h1]; rfl
  · rename_i t len parts ho
    obtain ⟨hq, e⟩ := still h
    subst e
    obtain ⟨hl, hr⟩ := parts_rep hE parts
    obtain ⟨v, w', G', h1, h2, h3, h4⟩ := buildSlice_sound (P := P) hI hl hr hq
    refine ⟨v, w', G', .inl ?_, h2, h3, h4⟩
    simp only [execOp, ho]
    rw [Sem.run_bind, h1]; rfl
  · rename_i t ho
    obtain ⟨cs, h1, h2⟩ := Option.bind_eq_some_iff.1 h
    split at h2
    case isFalse => cases h2
    rename_i hbl
    cases h2
    obtain ⟨v, hz, hl, hr⟩ := zero_sound G h1
    obtain ⟨hI', hL'⟩ := hI.newBox (.cells (cs := v.cells) t hl.symm hr (bldOk_of hbl))
    refine ⟨.pointer (some ⟨w.heap.size, 0, none⟩), _, _, .inl ?_, hI', ?_, hL'⟩
    · simp only [execOp, ho, Instr.alloc]
      simp only [Sem.run_bind, hz, Result.andThen_ok, newVar_run]
      rfl
    · refine .ptr ?_
      show (G.bx ++ [w.heap.size])[σ.bx.length]? = some w.heap.size
      rw [← hI.bxl, List.getElem?_append_right (Nat.le_refl _), Nat.sub_self]; rfl
  · rename_i t x ho
    obtain ⟨cs, h1, h2⟩ := Option.bind_eq_some_iff.1 h
    split at h2
    case isFalse => cases h2
    rename_i hbl
    cases h2
    obtain ⟨hl, hr, _⟩ := cells_sound (hE.opd x) h1
    obtain ⟨hI', hL'⟩ := hI.newBox (.cells (cs := (a.eval x).cells) t hl.symm hr (bldOk_of hbl))
    refine ⟨.pointer (some ⟨w.heap.size, 0, none⟩), _, _, .inl ?_, hI', ?_, hL'⟩
    · simp only [execOp, ho, Instr.box, Sem.run_bind, newVar_run, Result.andThen_ok]
      rfl
    · refine .ptr ?_
      show (G.bx ++ [w.heap.size])[σ.bx.length]? = some w.heap.size
      rw [← hI.bxl, List.getElem?_append_right (Nat.le_refl _), Nat.sub_self]; rfl
  · rename_i c x y ho
    have hr := hE.opd c
    split at h
    · rename_i hc
      cases h
      rw [hc] at hr
      generalize hv : a.eval c = ev at hr
      cases hr
      exact ⟨_, w, G, .inl (by simp [execOp, ho, hv, asBool]), hI, hE.opd x, .refl _ _⟩
    · rename_i hc
      cases h
      rw [hc] at hr
      generalize hv : a.eval c = ev at hr
      cases hr
      exact ⟨_, w, G, .inl (by simp [execOp, ho, hv, asBool]), hI, hE.opd y, .refl _ _⟩
    · cases h
  · rename_i op t x ho
    obtain ⟨hq, e⟩ := still h
    subst e
    have hr := hE.opd x
    generalize hv : a.eval x = ev at hr
    unfold unE at hq
    split at hq
    · rename_i hx
      rw [hx] at hr
      cases hr
      split at hq
      · cases hq
        exact ⟨_, w, G, .inl (by simp [execOp, ho, hv, Op.unary]), hI, .im _, .refl _ _⟩
      · cases hq
    · rename_i hx
      rw [hx] at hr
      cases hr
      split at hq
      · cases hq
        exact ⟨_, w, G, .inl (by simp [execOp, ho, hv, Op.unary, Op.intArith]), hI, .im _, .refl _ _⟩
      · cases hq
    · cases hq
  · rename_i t i ho
    have hr := hE.opd t
    generalize hv : a.eval t = ev at hr
    split at h
    · rename_i vs ht
      obtain ⟨hq, e⟩ := still h
      subst e
      rw [ht] at hr
      cases hr with
      | tup hl hr =>
        rename_i us
        obtain ⟨hlt, rfl⟩ := List.getElem?_eq_some_iff.1 hq
        have hlt' : i < us.size := by omega
        have := hr i hlt
        rw [Array.getD_eq_getD_getElem?, Array.getElem?_eq_getElem hlt'] at this
        refine ⟨us[i], w, G, .inl ?_, hI, this, .refl _ _⟩
        simp [execOp, ho, hv, Instr.extract, Array.getElem?_eq_getElem hlt']
    · cases h
  · rename_i x ho
    have hr := hE.opd x
    generalize hv : a.eval x = ev at hr
    split at h
    · rename_i b of hb
      cases h
      rw [hb] at hr
      cases hr with
      | ptr hbx => exact ⟨_, w, G, .inl (by simp [execOp, ho, hv]), hI, .ptr hbx, .refl _ _⟩
    · rename_i row of hb
      cases h
      rw [hb] at hr
      cases hr with
      | el vs h1 h2 => exact ⟨_, w, G, .inl (by simp [execOp, ho, hv]), hI, .el vs h1 h2, .refl _ _⟩
    · cases h
  · rename_i f first cap ho
    split at h
    · rename_i hz
      cases h
      have e1 : first = #[] := Array.eq_empty_of_size_eq_zero hz
      subst e1
      refine ⟨.func f #[] (cap.map a.eval), w, G, .inl (by simp [execOp, ho, Instr.makeFunc]), hI, .fn (by simp) (fun i hi => ?_), .refl _ _⟩
      have hi' : i < cap.size := by simpa using hi
      rw [Array.getD_eq_getD_getElem?, Array.getElem?_map, Array.getElem?_eq_getElem hi']
      simpa using hE.opd cap[i]
    · cases h
  · rename_i s x f ho
    obtain ⟨hq, e⟩ := still h
    subst e
    obtain ⟨v, h1, h2⟩ := fieldAddr_sound (P := P) (w := w) (hE.opd x) hq
    refine ⟨v, w, G, .inl ?_, hI, h2, .refl _ _⟩
    simp only [execOp, ho]
    rw [Sem.run_bind, h1]; rfl
  · rename_i t x i ho
    obtain ⟨hq, e⟩ := still h
    subst e
    obtain ⟨v, h1, h2⟩ := index_sound (P := P) (w := w) (hE.opd x) (hE.opd i) hq
    refine ⟨v, w, G, .inl ?_, hI, h2, .refl _ _⟩
    simp only [execOp, ho]
    rw [Sem.run_bind, h1]; rfl
  · rename_i t x i ho
    obtain ⟨hq, e⟩ := still h
    subst e
    obtain ⟨v, h1, h2⟩ := strIndex_sound (P := P) (w := w) (hE.opd x) (hE.opd i) hq
    refine ⟨v, w, G, .inl ?_, hI, h2, .refl _ _⟩
    simp only [execOp, ho]
    rw [Sem.run_bind, h1]; rfl
  · rename_i t x f ho
    obtain ⟨hq, e⟩ := still h
    subst e
    obtain ⟨v, h1, h2⟩ := field_sound (P := P) (w := w) (hE.opd x) hq
    refine ⟨v, w, G, .inl ?_, hI, h2, .refl _ _⟩
    simp only [execOp, ho]
    rw [Sem.run_bind, h1]; rfl
  · rename_i s d x ho
    obtain ⟨hq, e⟩ := still h
    subst e
    obtain ⟨v, h1, h2⟩ := conv_sound (P := P) (w := w) (hE.opd x) hq
    refine ⟨v, w, G, .inl ?_, hI, h2, .refl _ _⟩
    simp only [execOp, ho]
    rw [Sem.run_bind, h1]; rfl
  · rename_i t x lo hi mx ho
    obtain ⟨hq, e⟩ := still h
    subst e
    have none_iff : ∀ o : Option Operand, o.map (opdE env) = none ↔ o.map a.eval = none := fun o => by simp
    have reps : ∀ (o : Option Operand) (p : PV) (v : Value), o.map (opdE env) = some p → o.map a.eval = some v → Rep G p v := fun o p v h1 h2 => by
      cases o with
      | none => cases h1
      | some o => cases h1; cases h2; exact hE.opd o
    have hs : (Instr.sliceAt t (a.eval x) (lo.map a.eval) (hi.map a.eval) (mx.map a.eval)).run P w = (Instr.slice t (a.eval x) (lo.map a.eval) (hi.map a.eval) (mx.map a.eval)).run P w := by
      unfold sliceE at hq
      unfold Instr.sliceAt
      split at hq
      · rename_i hu _
        rw [Sem.run_bind, run_underlying hu w]; rfl
      · rename_i hu _
        rw [Sem.run_bind, run_underlying hu w]; rfl
      · cases hq
    obtain ⟨v, h1, h2⟩ := slice_sound (P := P) (w := w) (hE.opd x) (none_iff lo) (none_iff hi) (none_iff mx) (reps lo) (reps hi) (reps mx) hq
    refine ⟨v, w, G, .inl ?_, hI, h2, .refl _ _⟩
    simp only [execOp, ho]
    rw [Sem.run_bind, hs, h1]; rfl
  · rename_i t x i ok ho
    obtain ⟨hq, e⟩ := still h
    subst e
    obtain ⟨v, h1, h2⟩ := lookup_sound (P := P) (w := w) hI (hE.opd x) (hE.opd i) hq
    refine ⟨v, w, G, .inl ?_, hI, h2, .refl _ _⟩
    simp only [execOp, ho]
    rw [Sem.run_bind, h1]; rfl
  · rename_i t ho
    cases h
    obtain ⟨hI', hL'⟩ := hI.newBox (o := .map #[] 0) (.map (es := []) (el := []) 0 (List.Perm.refl _) (by simp) rfl (fun j h => absurd h (Nat.not_lt_zero _)))
    refine ⟨.map (some w.heap.size), _, _, .inl ?_, hI', ?_, hL'⟩
    · simp only [execOp, ho, Option.map_none, Instr.makeMap]
      rfl
    · refine .mp ?_
      show (G.bx ++ [w.heap.size])[σ.bx.length]? = some w.heap.size
      rw [← hI.bxl, List.getElem?_append_right (Nat.le_refl _), Nat.sub_self]; rfl
  · rename_i t m k v ho
    simp only [Option.map_eq_some_iff] at h
    obtain ⟨σ1, h1, h2⟩ := h
    cases h2
    obtain ⟨w', h3, h4, h5⟩ := insert_sound (P := P) hI (hE.opd m) (hE.opd k) (hE.opd v) h1
    refine ⟨undef, w', G, .inr ⟨?_, rfl⟩, h4, .im _, h5⟩
    simp only [execOp, ho]
    rw [Sem.run_bind, h3]; rfl
  · rename_i t m k v ho
    simp only [Option.map_eq_some_iff] at h
    obtain ⟨σ1, h1, h2⟩ := h
    cases h2
    obtain ⟨w', h3, h4, h5⟩ := insert_sound (P := P) hI (hE.opd m) (hE.opd k) (hE.opd v) h1
    refine ⟨undef, w', G, .inr ⟨?_, rfl⟩, h4, .im _, h5⟩
    simp only [execOp, ho]
    rw [Sem.run_bind, h3]; rfl
  · rename_i t x ho
    simp only [Option.map_eq_some_iff] at h
    obtain ⟨b, h1, h2⟩ := h
    cases h2
    obtain ⟨o1, h3, h4⟩ := range_sound (P := P) (w := w) (hE.opd x) h1
    obtain ⟨hI', hL'⟩ := hI.newBox h3
    refine ⟨.pointer (some ⟨w.heap.size, 0, none⟩), _, _, .inl ?_, hI', ?_, hL'⟩
    · simp only [execOp, ho]
      rw [Sem.run_bind, h4]; rfl
    · refine .ptr ?_
      show (G.bx ++ [w.heap.size])[σ.bx.length]? = some w.heap.size
      rw [← hI.bxl, List.getElem?_append_right (Nat.le_refl _), Nat.sub_self]; rfl
  · rename_i it ho
    have hr := hE.opd it
    generalize hv : a.eval it = ev at hr
    split at h
    · rename_i b hb
      rw [hb] at hr
      cases hr with
      | ptr hbx =>
      split at h
      · rename_i s pos hc
        obtain ⟨k1, k2⟩ := next_sound (P := P) hI hbx hc o.type
        split at h
        · rename_i hlt
          cases h
          obtain ⟨w', h3, h4, h5⟩ := k1 hlt
          refine ⟨_, w', G, .inl ?_, h4, .tup (vs := #[.bool true, .int .i64 pos, .int .i32 (Utf8.decode s pos).1]) rfl (fun i hi => ?_), h5⟩
          · simp only [execOp, ho, hv]
            rw [Sem.run_bind, h3]; rfl
          · match i, hi with
            | 0, _ => exact .im _
            | 1, _ => exact .im _
            | 2, _ => exact .im _
            | n + 3, hi => exact absurd hi (by simp)
        · rename_i hlt
          cases h
          refine ⟨_, w, G, .inl ?_, hI, .tup (vs := #[.bool false]) rfl (fun i hi => ?_), .refl _ _⟩
          · simp only [execOp, ho, hv]
            rw [Sem.run_bind, k2 hlt]; rfl
          · match i, hi with
            | 0, _ => exact .im _
            | n + 1, hi => exact absurd hi (by simp)
      · cases h
    · cases h
  · rename_i args ts ho
    split at h
    · rename_i x y hx
      have ea : args = #[x, y] := by rw [← Array.toList_inj]; exact hx
      subst ea
      obtain ⟨hq, e⟩ := still h
      subst e
      obtain ⟨v, h1, h2⟩ := min_sound (P := P) (w := w) (hE.opd x) (hE.opd y) hq ts o.type
      refine ⟨v, w, G, .inl ?_, hI, h2, .refl _ _⟩
      simp only [execOp, ho, resolve, invoke, builtin, Sem.run_bind, pure_bind]
      simp [Sem.run_bind, h1]
    · rename_i x y z hx
      have ea : args = #[x, y, z] := by rw [← Array.toList_inj]; exact hx
      subst ea
      obtain ⟨hq, e⟩ := still h
      subst e
      obtain ⟨q, hq1, hq2⟩ := Option.bind_eq_some_iff.1 hq
      obtain ⟨v, h1, h2⟩ := min3_sound (P := P) (w := w) (hE.opd x) (hE.opd y) (hE.opd z) hq1 hq2 ts o.type
      refine ⟨v, w, G, .inl ?_, hI, h2, .refl _ _⟩
      simp only [execOp, ho, resolve, invoke, builtin, Sem.run_bind, pure_bind]
      simp [Sem.run_bind, h1]
    · cases h
  · rename_i args ts ho
    split at h
    · rename_i x y hx
      have ea : args = #[x, y] := by rw [← Array.toList_inj]; exact hx
      subst ea
      obtain ⟨hq, e⟩ := still h
      subst e
      obtain ⟨v, h1, h2⟩ := max_sound (P := P) (w := w) (hE.opd x) (hE.opd y) hq ts o.type
      refine ⟨v, w, G, .inl ?_, hI, h2, .refl _ _⟩
      simp only [execOp, ho, resolve, invoke, builtin, Sem.run_bind, pure_bind]
      simp [Sem.run_bind, h1]
    · rename_i x y z hx
      have ea : args = #[x, y, z] := by rw [← Array.toList_inj]; exact hx
      subst ea
      obtain ⟨hq, e⟩ := still h
      subst e
      obtain ⟨q, hq1, hq2⟩ := Option.bind_eq_some_iff.1 hq
      obtain ⟨v, h1, h2⟩ := max3_sound (P := P) (w := w) (hE.opd x) (hE.opd y) (hE.opd z) hq1 hq2 ts o.type
      refine ⟨v, w, G, .inl ?_, hI, h2, .refl _ _⟩
      simp only [execOp, ho, resolve, invoke, builtin, Sem.run_bind, pure_bind]
      simp [Sem.run_bind, h1]
    · cases h
  · rename_i args ts ho
    split at h
    · rename_i x y t u hx ht
      have ea : args = #[x, y] := by rw [← Array.toList_inj]; exact hx
      have et : ts = #[t, u] := by rw [← Array.toList_inj]; exact ht
      subst ea; subst et
      obtain ⟨v, w', G', h1, h2, h3, h4⟩ := append_sound (P := P) (ty := o.type) hI h (hE.opd x) (hE.opd y)
      refine ⟨v, w', G', .inl ?_, h2, h3, h4⟩
      simp only [execOp, ho, resolve, invoke, builtin, Sem.run_bind, pure_bind]
      simp [Sem.run_bind, h1]
    · cases h
  · rename_i args ts ho
    split at h
    · rename_i x t hx ht
      have ea : args = #[x] := by rw [← Array.toList_inj]; exact hx
      have et : ts = #[t] := by rw [← Array.toList_inj]; exact ht
      subst ea; subst et
      obtain ⟨hq, e⟩ := still h
      subst e
      obtain ⟨v, h1, h2⟩ := lenP_sound (P := P) (w := w) hI (hE.opd x) hq (ts := #[t]) rfl (args := #[a.eval x]) (by simp) o.type
      refine ⟨v, w, G, .inl ?_, hI, h2, .refl _ _⟩
      simp only [execOp, ho, resolve, invoke, builtin, Sem.run_bind, pure_bind]
      simp [Sem.run_bind, h1]
    · cases h
  · rename_i args ts ho
    split at h
    · rename_i m k t u hx ht
      have ea : args = #[m, k] := by rw [← Array.toList_inj]; exact hx
      have et : ts = #[t, u] := by rw [← Array.toList_inj]; exact ht
      subst ea; subst et
      obtain ⟨σ1, hq, e⟩ := Option.map_eq_some_iff.1 h
      cases e
      obtain ⟨w', h1, h2, h3⟩ := delete_sound (P := P) (u := u) hI (hE.opd m) (hE.opd k) hq o.type
      refine ⟨.tuple #[], w', G, .inl ?_, h2, .tup rfl (fun i hi => absurd hi (Nat.not_lt_zero _)), h3⟩
      simp only [execOp, ho, resolve, invoke, builtin, Sem.run_bind, pure_bind]
      simp [Sem.run_bind, h1]
    · cases h
  · cases h
end
end Go.Proofs.YtfgoedndpcblpaaGreatDoor.Pv
end
section
namespace Go.Proofs.YtfgoedndpcblpaaGreatDoor.Pv
open Go
set_option linter.unusedSimpArgs false
set_option linter.unusedVariables false
mutual
def PV.ptrs : PV → List Nat
  | .ptr b _ => [b]
  | .agg cs => ptrsL cs
  | .tup cs => ptrsL cs
  | .fn _ cs => ptrsL cs
  | .mp b => [b]
  | .im _ => []
  | .sl _ _ => []
  | .el _ _ => []
def ptrsL : List PV → List Nat
  | [] => []
  | x :: xs => x.ptrs ++ ptrsL xs
end
def Tag.rows : Tag → List Nat
  | .grow g => [g]
  | _ => []
mutual
def PV.tags : PV → List Nat
  | .sl _ t => t.rows
  | .agg cs => tagsL cs
  | .tup cs => tagsL cs
  | .fn _ cs => tagsL cs
  | .im _ => []
  | .ptr _ _ => []
  | .mp _ => []
  | .el _ _ => []
def tagsL : List PV → List Nat
  | [] => []
  | x :: xs => x.tags ++ tagsL xs
end
mutual
def PV.ren (ρ : Nat → Option Nat) (τ : Tag → Tag) : PV → Option PV
  | .im v => some (.im v)
  | .sl rows t => some (.sl rows (τ t))
  | .agg cs => (renL ρ τ cs).map .agg
  | .tup cs => (renL ρ τ cs).map .tup
  | .ptr b o => (ρ b).map (.ptr · o)
  | .mp b => (ρ b).map .mp
  | .el row o => some (.el row o)
  | .fn f cs => (renL ρ τ cs).map (.fn f)
def renL (ρ : Nat → Option Nat) (τ : Tag → Tag) : List PV → Option (List PV)
  | [] => some []
  | x :: xs => match x.ren ρ τ, renL ρ τ xs with
    | some y, some ys => some (y :: ys)
    | _, _ => none
end
def Bx.ptrs : Bx → List Nat
  | .cells cs => ptrsL cs
  | .iter _ _ => []
  | .map es => ptrsL (es.map (·.2))
def Bx.tags : Bx → List Nat
  | .cells cs => tagsL cs
  | .iter _ _ => []
  | .map es => tagsL (es.map (·.2))
def Bx.ren (ρ : Nat → Option Nat) (τ : Tag → Tag) : Bx → Option Bx
  | .cells cs => (renL ρ τ cs).map .cells
  | .iter s pos => some (.iter s pos)
  | .map es => (renL ρ τ (es.map (·.2))).map fun vs => .map ((es.map (·.1)).zip vs)
def renBs (ρ : Nat → Option Nat) (τ : Tag → Tag) : List Bx → Option (List Bx)
  | [] => some []
  | x :: xs => match x.ren ρ τ, renBs ρ τ xs with
    | some y, some ys => some (y :: ys)
    | _, _ => none
def find : List Nat → Nat → Option Nat
  | [], _ => none
  | y :: ys, x => if y = x then some 0 else (find ys x).map (· + 1)
def Tag.sel (R : List Nat) : Tag → Tag
  | .grow g => match find R g with
    | some j => .grow j
    | none => .unk
  | .full => .full
  | .unk => .unk
def ptrsAt (bx : List Bx) (b : Nat) : List Nat := match bx[b]? with
  | some x => x.ptrs
  | none => []
def tagsAt (bx : List Bx) (b : Nat) : List Nat := match bx[b]? with
  | some x => x.tags
  | none => []
def gather (bx : List Bx) : Nat → List Nat → List Nat → List Nat
  | 0, _, acc => acc
  | _ + 1, [], acc => acc
  | n + 1, b :: todo, acc => if b ∈ acc then gather bx n todo acc else gather bx n (ptrsAt bx b ++ todo) (acc ++ [b])
def dd : List Nat → List Nat → List Nat
  | [], acc => acc
  | x :: xs, acc => if x ∈ acc then dd xs acc else dd xs (acc ++ [x])
def tagsB (bx : List Bx) : List Nat → List Nat
  | [] => []
  | b :: bs => tagsAt bx b ++ tagsB bx bs
def pickL {α : Type} (l : List α) : List Nat → Option (List α)
  | [] => some []
  | b :: bs => match l[b]?, pickL l bs with
    | some c, some cs => some (c :: cs)
    | _, _ => none
def selE (σ : Sto) (B R : List Nat) : Option Sto :=
  match pickL σ.bx B, pickL σ.gr R with
  | some bs, some gs => (renBs (find B) (Tag.sel R) bs).map fun bs' => ⟨bs', gs⟩
  | _, _ => none
def putMany {α : Type} (l : List α) : List Nat → List α → List α
  | b :: bs, x :: xs => putMany (l.set b x) bs xs
  | _, _ => l
def iota : Nat → List Nat
  | 0 => []
  | n + 1 => iota n ++ [n]
def backB (B : List Nat) (n m : Nat) (b : Nat) : Option Nat := if b < B.length then B[b]? else if b < m then some (n + (b - B.length)) else none
def Tag.back (R : List Nat) (n m : Nat) : Tag → Tag
  | .grow g => match backB R n m g with
    | some j => .grow j
    | none => .unk
  | .full => .full
  | .unk => .unk
theorem find_get : ∀ {l : List Nat} {x i : Nat}, find l x = some i → l[i]? = some x
  | [], x, i, h => by cases h
  | y :: ys, x, i, h => by
    simp only [find] at h
    split at h
    · rename_i e; cases h; rw [e]; rfl
    · simp only [Option.map_eq_some_iff] at h
      obtain ⟨j, h1, rfl⟩ := h
      simpa using find_get h1
theorem find_none : ∀ {l : List Nat} {x : Nat}, find l x = none → x ∉ l
  | [], x, h => by simp
  | y :: ys, x, h => by
    simp only [find] at h
    split at h
    · cases h
    · rename_i e
      simp only [Option.map_eq_none_iff] at h
      simp only [List.mem_cons, not_or]
      exact ⟨fun e' => e e'.symm, find_none h⟩
theorem nodup_get {l : List Nat} (h : l.Nodup) {i j x : Nat} (hi : l[i]? = some x) (hj : l[j]? = some x) : i = j := by
  obtain ⟨h1, h2⟩ := List.getElem?_eq_some_iff.1 hi
  obtain ⟨h3, h4⟩ := List.getElem?_eq_some_iff.1 hj
  exact (List.getElem_inj (h₀ := h1) (h₁ := h3) h).1 (h2.trans h4.symm)
theorem find_of_get {l : List Nat} (h : l.Nodup) {i x : Nat} (e : l[i]? = some x) : find l x = some i := by
  cases hf : find l x with
  | none => exact absurd (List.mem_of_getElem? e) (find_none hf)
  | some j => rw [nodup_get h e (find_get hf)]
theorem gather_spec (bx : List Bx) : ∀ (n : Nat) (todo acc : List Nat), acc.Nodup → (gather bx n todo acc).Nodup ∧ ∃ more, gather bx n todo acc = acc ++ more
  | 0, todo, acc, h => ⟨h, [], by simp [gather]⟩
  | n + 1, [], acc, h => ⟨h, [], by simp [gather]⟩
  | n + 1, b :: todo, acc, h => by
    simp only [gather]
    split
    · exact gather_spec bx n todo acc h
    · rename_i hb
      obtain ⟨h1, more, h2⟩ := gather_spec bx n (ptrsAt bx b ++ todo) (acc ++ [b]) (by
        rw [List.nodup_append]
        exact ⟨h, by simp, fun x hx y hy e => by simp at hy; subst hy; subst e; exact hb hx⟩)
      exact ⟨h1, b :: more, by rw [h2]; simp⟩
theorem dd_spec : ∀ (l acc : List Nat), acc.Nodup → (dd l acc).Nodup ∧ ∃ more, dd l acc = acc ++ more
  | [], acc, h => ⟨h, [], by simp [dd]⟩
  | x :: xs, acc, h => by
    simp only [dd]
    split
    · exact dd_spec xs acc h
    · rename_i hb
      obtain ⟨h1, more, h2⟩ := dd_spec xs (acc ++ [x]) (by
        rw [List.nodup_append]
        exact ⟨h, by simp, fun z hz y hy e => by simp at hy; subst hy; subst e; exact hb hz⟩)
      exact ⟨h1, x :: more, by rw [h2]; simp⟩
theorem iota_get : ∀ {n i : Nat}, i < n → (iota n)[i]? = some i
  | n + 1, i, h => by
    have hl : ∀ n, (iota n).length = n := fun n => by induction n with | zero => rfl | succ n ih => simp [iota, ih]
    simp only [iota]
    by_cases e : i < n
    · rw [List.getElem?_append_left (by rw [hl]; exact e)]; exact iota_get e
    · have : i = n := by omega
      subst this
      rw [List.getElem?_append_right (by rw [hl]; exact Nat.le_refl _), hl]; simp
theorem iota_len (n : Nat) : (iota n).length = n := by induction n with | zero => rfl | succ n ih => simp [iota, ih]
theorem iota_lt : ∀ {n x : Nat}, x ∈ iota n → x < n
  | n + 1, x, h => by
    simp only [iota, List.mem_append, List.mem_singleton] at h
    rcases h with h | h
    · have := iota_lt h; omega
    · omega
theorem iota_nodup (n : Nat) : (iota n).Nodup := by
  induction n with
  | zero => simp [iota]
  | succ n ih =>
    simp only [iota]
    rw [List.nodup_append]
    exact ⟨ih, by simp, fun x hx y hy e => by simp at hy; subst hy; subst e; have := iota_lt hx; omega⟩
theorem pickL_spec {α : Type} {l : List α} : ∀ {B : List Nat} {cs : List α}, pickL l B = some cs → cs.length = B.length ∧ ∀ (i b : Nat), B[i]? = some b → ∃ c, l[b]? = some c ∧ cs[i]? = some c
  | [], cs, h => by cases h; exact ⟨rfl, fun i b e => by simp at e⟩
  | b :: bs, cs, h => by
    simp only [pickL] at h
    split at h
    · rename_i c cs' h1 h2
      cases h
      obtain ⟨h3, h4⟩ := pickL_spec h2
      refine ⟨by simp [h3], fun i x e => ?_⟩
      cases i with
      | zero => simp at e; subst e; exact ⟨c, h1, rfl⟩
      | succ i => exact h4 i x (by simpa using e)
    · cases h
theorem renBs_spec {ρ : Nat → Option Nat} {τ : Tag → Tag} : ∀ {bs cs : List Bx}, renBs ρ τ bs = some cs → cs.length = bs.length ∧ ∀ (i : Nat) (c : Bx), cs[i]? = some c → ∃ b : Bx, bs[i]? = some b ∧ b.ren ρ τ = some c
  | [], cs, h => by cases h; exact ⟨rfl, fun i c e => by simp at e⟩
  | x :: xs, cs, h => by
    simp only [renBs] at h
    split at h
    · rename_i y ys h1 h2
      cases h
      obtain ⟨h3, h4⟩ := renBs_spec h2
      refine ⟨by simp [h3], fun i c e => ?_⟩
      cases i with
      | zero => simp at e; subst e; exact ⟨x, rfl, h1⟩
      | succ i => exact h4 i c (by simpa using e)
    · cases h
theorem renL_spec {ρ : Nat → Option Nat} {τ : Tag → Tag} : ∀ {cs ds : List PV}, renL ρ τ cs = some ds → cs.length = ds.length ∧ ∀ i (h : i < cs.length) (k : i < ds.length), cs[i].ren ρ τ = some ds[i]
  | [], ds, e => by simp only [renL] at e; cases e; exact ⟨rfl, fun i h => absurd h (Nat.not_lt_zero _)⟩
  | x :: xs, ds, e => by
    simp only [renL] at e
    split at e
    · rename_i y ys h1 h2
      cases e
      obtain ⟨h3, h4⟩ := renL_spec h2
      refine ⟨by simp [h3], fun i h k => ?_⟩
      cases i with
      | zero => exact h1
      | succ i => exact h4 i (by simpa using h) (by simpa using k)
    · cases e
theorem putMany_len {α : Type} : ∀ (B : List Nat) (l xs : List α), (putMany l B xs).length = l.length
  | [], l, xs => by simp [putMany]
  | b :: bs, l, [] => by simp [putMany]
  | b :: bs, l, x :: xs => by simp only [putMany]; rw [putMany_len bs, List.length_set]
theorem putMany_other {α : Type} : ∀ (B : List Nat) (l xs : List α) {g : Nat}, g ∉ B → (putMany l B xs)[g]? = l[g]?
  | [], l, xs, g, h => by simp [putMany]
  | b :: bs, l, [], g, h => by simp [putMany]
  | b :: bs, l, x :: xs, g, h => by
    simp only [putMany]
    simp only [List.mem_cons, not_or] at h
    rw [putMany_other bs _ _ h.2, List.getElem?_set_ne (Ne.symm h.1)]
theorem putMany_at {α : Type} : ∀ (B : List Nat) (l xs : List α) {g j : Nat}, B.Nodup → B[j]? = some g → g < l.length → j < xs.length → (putMany l B xs)[g]? = xs[j]?
  | [], l, xs, g, j, hn, h, hg, hj => by simp at h
  | b :: bs, l, [], g, j, hn, h, hg, hj => by simp at hj
  | b :: bs, l, x :: xs, g, j, hn, h, hg, hj => by
    simp only [putMany]
    rw [List.nodup_cons] at hn
    cases j with
    | zero =>
      simp at h; subst h
      rw [putMany_other bs _ _ hn.1, List.getElem?_set_self hg]; rfl
    | succ j =>
      rw [putMany_at bs _ _ hn.2 (by simpa using h) (by rw [List.length_set]; exact hg) (by simpa using hj)]; simp
theorem putMany_map {α β : Type} (f : α → β) : ∀ (B : List Nat) (l xs : List α), (putMany l B xs).map f = putMany (l.map f) B (xs.map f)
  | [], l, xs => by simp [putMany]
  | b :: bs, l, [] => by simp [putMany]
  | b :: bs, l, x :: xs => by simp only [putMany, List.map_cons]; rw [putMany_map f bs, List.map_set]
theorem pickL_eq {α : Type} {l : List α} (d : α) : ∀ {B : List Nat} {cs : List α}, pickL l B = some cs → cs = B.map fun b => l.getD b d
  | [], cs, h => by cases h; rfl
  | b :: bs, cs, h => by
    simp only [pickL] at h
    split at h
    · rename_i c cs' h1 h2
      cases h
      rw [List.map_cons, ← pickL_eq d h2, List.getD_eq_getElem?_getD, h1]; rfl
    · cases h
theorem ren_rep {G G' : Gh} {ρ : Nat → Option Nat} {τ : Tag → Tag} (hf : ∀ b o v, G.fz b o = some v → G'.fz b o = some v) (hb : ∀ b b' blk : Nat, ρ b = some b' → G.bx[b]? = some blk → G'.bx[b']? = some blk) (ht : ∀ t a n cap, tagOk G a n cap t → tagOk G' a n cap (τ t)) :
    ∀ {p q : PV} {v : Value}, Rep G p v → p.ren ρ τ = some q → Rep G' q v := by
  intro p q v h
  induction h generalizing q with
  | im v => intro e; simp only [PV.ren] at e; cases e; exact .im v
  | sl h h2 => intro e; simp only [PV.ren] at e; cases e; exact .sl (h.mono hf) (ht _ _ _ _ h2)
  | agg hl hr ih =>
    intro e
    simp only [PV.ren, Option.map_eq_some_iff] at e
    obtain ⟨ds, e1, rfl⟩ := e
    obtain ⟨h1, h2⟩ := renL_spec e1
    exact .agg (by omega) (fun i hi => ih i (by omega) (h2 i (by omega) hi))
  | tup hl hr ih =>
    intro e
    simp only [PV.ren, Option.map_eq_some_iff] at e
    obtain ⟨ds, e1, rfl⟩ := e
    obtain ⟨h1, h2⟩ := renL_spec e1
    exact .tup (by omega) (fun i hi => ih i (by omega) (h2 i (by omega) hi))
  | ptr h =>
    intro e
    simp only [PV.ren, Option.map_eq_some_iff] at e
    obtain ⟨b', e1, rfl⟩ := e
    exact .ptr (hb _ _ _ e1 h)
  | el vs hv hr => intro e; simp only [PV.ren] at e; cases e; exact .el vs (fun j hj => hf _ _ _ (hv j hj)) (fun j hj => (hr j hj).mono hf)
  | mp h =>
    intro e
    simp only [PV.ren, Option.map_eq_some_iff] at e
    obtain ⟨b', e1, rfl⟩ := e
    exact .mp (hb _ _ _ e1 h)
  | fn hl hr ih =>
    intro e
    simp only [PV.ren, Option.map_eq_some_iff] at e
    obtain ⟨ds, e1, rfl⟩ := e
    obtain ⟨h1, h2⟩ := renL_spec e1
    exact .fn (by omega) (fun i hi => ih i (by omega) (h2 i (by omega) hi))
theorem ren_nilV {ρ : Nat → Option Nat} {τ : Tag → Tag} {p q : PV} (h : p.ren ρ τ = some q) : nilV q = nilV p ∧ slV q = slV p := by
  cases p with
  | im v => simp only [PV.ren] at h; cases h; exact ⟨rfl, rfl⟩
  | sl rows t => simp only [PV.ren] at h; cases h; exact ⟨rfl, rfl⟩
  | el row o => simp only [PV.ren] at h; cases h; exact ⟨rfl, rfl⟩
  | _ =>
    simp only [PV.ren, Option.map_eq_some_iff] at h
    obtain ⟨c, _, rfl⟩ := h
    exact ⟨rfl, rfl⟩
theorem ren_flagged {ρ : Nat → Option Nat} {τ : Tag → Tag} {p q : List PV} (h : renL ρ τ p = some q) : flagged q = flagged p := by
  rcases p with _ | ⟨x, _ | ⟨y, l⟩⟩
  · simp only [renL] at h; cases h; rfl
  · simp only [renL] at h
    split at h
    · rename_i a b h1 h2; cases h2; cases h; rfl
    · cases h
  · simp only [renL] at h
    split at h
    · rename_i a b h1 h2
      split at h2
      · rename_i c d h3 h4
        cases h2; cases h
        simp only [flagged, (ren_nilV h1).1, (ren_nilV h3).2]
      · cases h2
    · cases h
theorem bxren_rep {G G' : Gh} {ρ : Nat → Option Nat} {τ : Tag → Tag} (hf : ∀ b o v, G.fz b o = some v → G'.fz b o = some v) (hb : ∀ b b' blk : Nat, ρ b = some b' → G.bx[b]? = some blk → G'.bx[b']? = some blk) (ht : ∀ t a n cap, tagOk G a n cap t → tagOk G' a n cap (τ t))
    {x y : Bx} {o : Obj} (h : BxRep G x o) (e : x.ren ρ τ = some y) : BxRep G' y o := by
  cases h with
  | cells t hl hr hbl =>
    simp only [Bx.ren, Option.map_eq_some_iff] at e
    obtain ⟨ds, e1, rfl⟩ := e
    obtain ⟨h1, h2⟩ := renL_spec e1
    exact .cells t (by omega) (fun j hj => ren_rep (G := G) (G' := G') hf hb ht (hr j (by omega)) (h2 j (by omega) hj)) (by rw [ren_flagged e1, ← h1]; exact hbl)
  | iter s pos => simp only [Bx.ren] at e; cases e; exact .iter s pos
  | map c hp hu hl hr =>
    rename_i el es en
    simp only [Bx.ren, Option.map_eq_some_iff] at e
    obtain ⟨ds, e1, rfl⟩ := e
    obtain ⟨h1, h2⟩ := renL_spec e1
    rw [List.length_map] at h1
    have hlen : ((el.map (·.1)).zip ds).length = el.length := by simp [h1]
    let g : Value × PV → Option (Value × PV) := fun e => (e.2.ren ρ τ).map (e.1, ·)
    have hg : el.map g = ((el.map (·.1)).zip ds).map some := by
      apply List.ext_getElem
      · simp [hlen]
      · intro j hj1 hj2
        have hj' : j < el.length := by simpa using hj1
        have h5 := h2 j (by rw [List.length_map]; exact hj') (by omega)
        rw [List.getElem_map] at h5
        rw [List.getElem_map, List.getElem_map, List.getElem_zip, List.getElem_map]
        show Option.map _ _ = _
        rw [h5]; rfl
    have hfm : ∀ {l : List (Value × PV)} {r : List (Value × PV)}, l.map g = r.map some → (l.map g).filterMap id = r := by
      intro l r hl'
      rw [hl', List.filterMap_map]
      show r.filterMap (fun x => some x) = r
      simp
    have hall : ∀ l : List (Value × PV), (∀ e ∈ l, ∃ r, g e = some r) → ((l.map g).filterMap id).map some = l.map g := by
      intro l hl'
      induction l with
      | nil => rfl
      | cons a l ih =>
        obtain ⟨r, hr'⟩ := hl' a (by simp)
        have := ih (fun e he => hl' e (by simp [he]))
        simp only [List.map_cons, hr', List.filterMap_cons_some (f := id) (a := some r) rfl, this]
    have hsome : ∀ e ∈ el, ∃ r, g e = some r := by
      intro e he
      have : g e ∈ el.map g := List.mem_map_of_mem he
      rw [hg] at this
      obtain ⟨r, _, hr'⟩ := List.mem_map.1 this
      exact ⟨r, hr'.symm⟩
    have hes := hall es (fun e he => hsome e (hp.mem_iff.1 he))
    have hp2 : ((es.map g).filterMap id).Perm ((el.map (·.1)).zip ds) := by
      have := (hp.map g).filterMap id
      rwa [hfm hg] at this
    generalize (es.map g).filterMap id = rs at hes hp2
    have hlr : rs.length = es.length := by
      have := congrArg List.length hes
      simpa using this
    have hk : ((el.map (·.1)).zip ds).map (·.1) = el.map (·.1) := by
      apply List.ext_getElem
      · simp [h1]
      · intro j hj1 hj2
        simp
    refine .map c hp2 (by rw [hk]; exact hu) (by omega) (fun j hj hkk => ?_)
    have hj' : j < es.length := by omega
    obtain ⟨h3, h4⟩ := hr j hj' hkk
    have h5 : g es[j] = some rs[j] := by
      have := congrArg (fun l => l[j]?) hes
      simp only [List.getElem?_map, List.getElem?_eq_getElem hj, List.getElem?_eq_getElem hj', Option.map_some] at this
      exact (Option.some.inj this).symm
    obtain ⟨p, h6, h7⟩ := Option.map_eq_some_iff.1 h5
    rw [← h7]
    exact ⟨h3, ren_rep (G := G) (G' := G') hf hb ht h4 h6⟩
def Gh.sel (G : Gh) (B R : List Nat) : Gh := ⟨G.fz, B.map fun b => G.bx.getD b 0, R.map fun g => G.gr.getD g ⟨0, byteT, 1, 0, 0, by decide, fun _ => rfl⟩⟩
theorem sel_bx {G : Gh} {B R : List Nat} {i b blk : Nat} (h : B[i]? = some b) (e : G.bx[b]? = some blk) : (G.sel B R).bx[i]? = some blk := by
  show (B.map _)[i]? = _
  rw [List.getElem?_map, h, Option.map_some, List.getD_eq_getElem?_getD, e]; rfl
theorem sel_gr {G : Gh} {B R : List Nat} {i g : Nat} {r : Grow} (h : R[i]? = some g) (e : G.gr[g]? = some r) : (G.sel B R).gr[i]? = some r := by
  show (R.map _)[i]? = _
  rw [List.getElem?_map, h, Option.map_some, List.getD_eq_getElem?_getD, e]; rfl
theorem sel_bx_inv {G : Gh} {B R : List Nat} {i blk : Nat} (hB : ∀ b ∈ B, b < G.bx.length) (h : (G.sel B R).bx[i]? = some blk) : ∃ b, B[i]? = some b ∧ G.bx[b]? = some blk := by
  have h' : (B.map _)[i]? = some blk := h
  rw [List.getElem?_map, Option.map_eq_some_iff] at h'
  obtain ⟨b, h1, h2⟩ := h'
  refine ⟨b, h1, ?_⟩
  have := hB b (List.mem_of_getElem? h1)
  rw [List.getElem?_eq_getElem this]
  rw [List.getD_eq_getElem?_getD, List.getElem?_eq_getElem this] at h2
  exact congrArg some h2
theorem sel_gr_inv {G : Gh} {B R : List Nat} {i : Nat} {r : Grow} (hR : ∀ g ∈ R, g < G.gr.length) (h : (G.sel B R).gr[i]? = some r) : ∃ g, R[i]? = some g ∧ G.gr[g]? = some r := by
  have h' : (R.map _)[i]? = some r := h
  rw [List.getElem?_map, Option.map_eq_some_iff] at h'
  obtain ⟨b, h1, h2⟩ := h'
  refine ⟨b, h1, ?_⟩
  have := hR b (List.mem_of_getElem? h1)
  rw [List.getElem?_eq_getElem this]
  rw [List.getD_eq_getElem?_getD, List.getElem?_eq_getElem this] at h2
  exact congrArg some h2
theorem sel_tag {G : Gh} {B R : List Nat} {t : Tag} {a : Option Addr} {n cap : Nat} (h : tagOk G a n cap t) : tagOk (G.sel B R) a n cap (t.sel R) := by
  cases t with
  | unk => exact h
  | full => exact h
  | grow g =>
    obtain ⟨r, e, h1⟩ := h
    simp only [Tag.sel]
    split
    · rename_i j hj
      exact ⟨r, sel_gr (find_get hj) e, h1⟩
    · trivial
structure Sel (G : Gh) (σ : Sto) (B R : List Nat) (σs : Sto) : Prop where
  nb : B.Nodup
  nr : R.Nodup
  bs : ∀ b ∈ B, b < G.bx.length
  gs : ∀ g ∈ R, g < G.gr.length
  run : selE σ B R = some σs
theorem Inv.grlen {G : Gh} {σ : Sto} {w : World} (h : Inv G σ w) : G.gr.length = σ.gr.length := by rw [← h.grl, List.length_map]
theorem Inv.selOf {G : Gh} {σ : Sto} {w : World} (h : Inv G σ w) {B R : List Nat} {σs : Sto} (hB : B.Nodup) (hR : R.Nodup) (e : selE σ B R = some σs) : Sel G σ B R σs := by
  have e0 := e
  unfold selE at e
  split at e
  · rename_i bs gs h1 h2
    refine ⟨hB, hR, fun b hb => ?_, fun g hg => ?_, e0⟩
    · obtain ⟨i, hi⟩ := List.getElem?_of_mem hb
      obtain ⟨c, h3, _⟩ := (pickL_spec h1).2 i b hi
      rw [h.bxl]; exact (List.getElem?_eq_some_iff.1 h3).1
    · obtain ⟨i, hi⟩ := List.getElem?_of_mem hg
      obtain ⟨c, h3, _⟩ := (pickL_spec h2).2 i g hi
      rw [h.grlen]; exact (List.getElem?_eq_some_iff.1 h3).1
  · cases e
theorem Inv.sel {G : Gh} {σ σs : Sto} {w : World} {B R : List Nat} (h : Inv G σ w) (hS : Sel G σ B R σs) : Inv (G.sel B R) σs w := by
  obtain ⟨hB, hR, hb, hg, e⟩ := hS
  unfold selE at e
  split at e
  · rename_i bs gs h1 h2
    simp only [Option.map_eq_some_iff] at e
    obtain ⟨bs', h3, rfl⟩ := e
    have hlb : bs'.length = B.length := by rw [(renBs_spec h3).1, (pickL_spec h1).1]
    refine ⟨h.fz, by show (B.map _).length = _; rw [List.length_map, hlb], ?_, ?_, ?_, ?_, ?_, ?_, ?_⟩
    · intro i blk cells e1 e2
      obtain ⟨b, h4, h5⟩ := sel_bx_inv hb e1
      obtain ⟨c0, h6, h7⟩ := (renBs_spec h3).2 i cells e2
      obtain ⟨c, h8, h9⟩ := (pickL_spec h1).2 i b h4
      rw [h9] at h6; cases h6
      obtain ⟨o, h10, h11⟩ := h.bxc b blk c0 h5 h8
      exact ⟨o, h10, bxren_rep (G := G) (G' := G.sel B R) (fun _ _ _ e => e) (fun b b' blk e1 e2 => sel_bx (find_get e1) e2) (fun t a n cap => sel_tag) h11 h7⟩
    · intro i blk o e1
      obtain ⟨b, h4, h5⟩ := sel_bx_inv hb e1
      exact h.bxf b blk o h5
    · intro i j blk e1 e2
      obtain ⟨b, h4, h5⟩ := sel_bx_inv hb e1
      obtain ⟨c, h6, h7⟩ := sel_bx_inv hb e2
      have := h.bxn b c blk h5 h7
      subst this
      exact nodup_get hB h4 h6
    · show (R.map _).map _ = gs
      rw [pickL_eq (0, 0) h2, List.map_map]
      refine List.map_congr_left fun g hg' => ?_
      have hlt := hg g hg'
      simp only [Function.comp, List.getD_eq_getElem?_getD]
      rw [← h.grl, List.getElem?_map, List.getElem?_eq_getElem hlt]; rfl
    · intro g r e1
      obtain ⟨b, h4, h5⟩ := sel_gr_inv hg e1
      exact h.grc b r h5
    · intro i j r s e1 e2 hrs
      obtain ⟨b, h4, h5⟩ := sel_gr_inv hg e1
      obtain ⟨c, h6, h7⟩ := sel_gr_inv hg e2
      have := h.grn b c r s h5 h7 hrs
      subst this
      exact nodup_get hR h4 h6
    · intro g i blk r e1 e2
      obtain ⟨b, h4, h5⟩ := sel_gr_inv hg e1
      obtain ⟨c, h6, h7⟩ := sel_bx_inv hb e2
      exact h.grb b c blk r h5 h7
  · cases e
theorem sel_M {G : Gh} {σ σs : Sto} {B R : List Nat} (hS : Sel G σ B R σs) {b : Nat} (h : (G.sel B R).M b) : G.M b := by
  rcases h with ⟨i, e⟩ | ⟨g, r, e, h⟩
  · obtain ⟨x, _, h2⟩ := sel_bx_inv hS.bs e
    exact .inl ⟨x, h2⟩
  · obtain ⟨x, _, h2⟩ := sel_gr_inv hS.gs e
    exact .inr ⟨x, r, h2, h⟩
end Go.Proofs.YtfgoedndpcblpaaGreatDoor.Pv
end
section
namespace Go.Proofs.YtfgoedndpcblpaaGreatDoor.Pv
open Go
set_option linter.unusedSimpArgs false
set_option linter.unusedVariables false
def backL {α : Type} (l : List α) (B : List Nat) (xs : List α) : List α := putMany l B xs ++ xs.drop B.length
theorem backL_new {α : Type} {l xs : List α} {B : List Nat} (hB : B.Nodup) (hb : ∀ b ∈ B, b < l.length) (hl : B.length ≤ xs.length) {i j : Nat} (h : backB B l.length xs.length j = some i) (hj : j < xs.length) : (backL l B xs)[i]? = xs[j]? := by
  unfold backB at h
  unfold backL
  split at h
  · rename_i hlt
    have hi := hb i (List.mem_of_getElem? h)
    rw [List.getElem?_append_left (by rw [putMany_len]; exact hi)]
    exact putMany_at B l xs hB h hi hj
  · rename_i hge
    cases h
    rw [List.getElem?_append_right (by rw [putMany_len]; omega), putMany_len, List.getElem?_drop]
    congr 1
    omega
theorem backL_old {α : Type} {l xs : List α} {B : List Nat} {i : Nat} (h : i ∉ B) (hi : i < l.length) : (backL l B xs)[i]? = l[i]? := by
  unfold backL
  rw [List.getElem?_append_left (by rw [putMany_len]; exact hi)]
  exact putMany_other B l xs h
theorem backL_cases {α : Type} {l xs : List α} {B : List Nat} (hB : B.Nodup) (hb : ∀ b ∈ B, b < l.length) (hl : B.length ≤ xs.length) {i : Nat} {c : α} (h : (backL l B xs)[i]? = some c) : (i ∉ B ∧ i < l.length ∧ l[i]? = some c) ∨ ∃ j, backB B l.length xs.length j = some i ∧ xs[j]? = some c := by
  by_cases hi : i < l.length
  · by_cases hm : i ∈ B
    · obtain ⟨j, hj⟩ := List.getElem?_of_mem hm
      have hj' := (List.getElem?_eq_some_iff.1 hj).1
      have e : backB B l.length xs.length j = some i := by unfold backB; rw [if_pos hj', hj]
      exact .inr ⟨j, e, by rw [← backL_new hB hb hl e (by omega)]; exact h⟩
    · exact .inl ⟨hm, hi, by rw [← backL_old hm hi]; exact h⟩
  · have hlt := (List.getElem?_eq_some_iff.1 h).1
    unfold backL at hlt
    rw [List.length_append, putMany_len, List.length_drop] at hlt
    have e : backB B l.length xs.length (B.length + (i - l.length)) = some i := by
      unfold backB
      rw [if_neg (by omega), if_pos (by omega)]
      congr 1; omega
    refine .inr ⟨_, e, ?_⟩
    rw [← backL_new hB hb hl e (by omega)]; exact h
theorem backL_len {α : Type} (l xs : List α) (B : List Nat) : (backL l B xs).length = l.length + (xs.length - B.length) := by
  unfold backL; rw [List.length_append, putMany_len, List.length_drop]
theorem backL_map {α β : Type} (f : α → β) (l xs : List α) (B : List Nat) : (backL l B xs).map f = backL (l.map f) B (xs.map f) := by
  unfold backL; rw [List.map_append, putMany_map, List.map_drop]
theorem Inv.back {G G1 : Gh} {σ σs σ1 : Sto} {w w1 : World} {B R : List Nat} {bs : List Bx} (h : Inv G σ w) (hS : Sel G σ B R σs) (h1 : Inv G1 σ1 w1) (hL : Later (G.sel B R) w G1 w1) (hb : renBs (backB B σ.bx.length σ1.bx.length) (Tag.back R σ.gr.length σ1.gr.length) σ1.bx = some bs) :
    ∃ G', Inv G' ⟨backL σ.bx B bs, backL σ.gr R σ1.gr⟩ w1 ∧ Later G w G' w1 ∧ ∀ {p q : PV} {v : Value}, Rep G1 p v → p.ren (backB B σ.bx.length σ1.bx.length) (fun _ => .unk) = some q → Rep G' q v := by
  have hlB : B.length ≤ G1.bx.length := by
    by_cases hlt : G1.bx.length < B.length
    · have e1 : B[G1.bx.length]? = some B[G1.bx.length] := List.getElem?_eq_getElem hlt
      have e2 := hS.bs _ (List.mem_of_getElem? e1)
      have := hL.le.bx _ _ (sel_bx (R := R) e1 (List.getElem?_eq_getElem e2))
      rw [List.getElem?_eq_none (Nat.le_refl _)] at this; cases this
    · omega
  have hlR : R.length ≤ G1.gr.length := by
    by_cases hlt : G1.gr.length < R.length
    · have e1 : R[G1.gr.length]? = some R[G1.gr.length] := List.getElem?_eq_getElem hlt
      have e2 := hS.gs _ (List.mem_of_getElem? e1)
      obtain ⟨r', this, _⟩ := hL.le.gr _ _ (sel_gr (B := B) e1 (List.getElem?_eq_getElem e2))
      rw [List.getElem?_eq_none (Nat.le_refl _)] at this; cases this
    · omega
  obtain ⟨hbl, hbg⟩ := renBs_spec hb
  have hn : σ.bx.length = G.bx.length := h.bxl.symm
  have hm : σ.gr.length = G.gr.length := h.grlen.symm
  have h1n : σ1.bx.length = G1.bx.length := h1.bxl.symm
  have h1m : σ1.gr.length = G1.gr.length := h1.grlen.symm
  rw [hn, h1n] at hb hbg
  rw [hm, h1m] at hb hbg
  have hfor : ∀ {b : Nat}, b < w.heap.size → ¬ (G.sel B R).M b → ¬ G1.M b := fun hlt hn hM => by
    rcases hL.new _ hM with h2 | h2
    · exact hn h2
    · omega
  have hobx : ∀ {i blk : Nat}, i ∉ B → G.bx[i]? = some blk → ¬ (G.sel B R).M blk := by
    intro i blk hi e hM
    rcases hM with ⟨j, e1⟩ | ⟨g, r, e1, hr⟩
    · obtain ⟨b, e2, e3⟩ := sel_bx_inv hS.bs e1
      have := h.bxn i b blk e e3
      subst this
      exact hi (List.mem_of_getElem? e2)
    · obtain ⟨b, e2, e3⟩ := sel_gr_inv hS.gs e1
      exact h.grb b i blk r e3 e hr
  have hogr : ∀ {g : Nat} {r : Grow}, g ∉ R → G.gr[g]? = some r → ¬ (G.sel B R).M r.blk := by
    intro g r hg e hM
    rcases hM with ⟨j, e1⟩ | ⟨g', r', e1, hr⟩
    · obtain ⟨b, e2, e3⟩ := sel_bx_inv hS.bs e1
      exact h.grb g b _ r e e3 rfl
    · obtain ⟨b, e2, e3⟩ := sel_gr_inv hS.gs e1
      have := h.grn g b r r' e e3 hr.symm
      subst this
      exact hg (List.mem_of_getElem? e2)
  have hMb : ∀ {j blk : Nat}, G1.bx[j]? = some blk → G1.M blk := fun e => .inl ⟨_, e⟩
  have hMg : ∀ {j : Nat} {r : Grow}, G1.gr[j]? = some r → G1.M r.blk := fun e => .inr ⟨_, _, e, rfl⟩
  have hkeep : ∀ {b : Nat} {o : Obj}, w.heap[b]? = some o → ¬ (G.sel B R).M b → w1.heap[b]? = some o := fun e hn => (hL.same _ (heap_lt e) hn).trans e
  have hfzn : ∀ {b : Nat} (o : Nat), b < w.heap.size → ¬ (G.sel B R).M b → G.fz b o = none → G1.fz b o = none := by
    intro b o hlt hn e
    cases e1 : G1.fz b o with
    | none => rfl
    | some v =>
      rcases hL.fzn b o v e1 with h2 | h2 | h2
      · have h3 : G.fz b o = some v := h2
        rw [e] at h3; cases h3
      · exact absurd h2 hn
      · omega
  let G' : Gh := ⟨G1.fz, backL G.bx B G1.bx, backL G.gr R G1.gr⟩
  have hbx : ∀ {i blk : Nat}, G'.bx[i]? = some blk → (i ∉ B ∧ i < G.bx.length ∧ G.bx[i]? = some blk) ∨ ∃ j, backB B G.bx.length G1.bx.length j = some i ∧ G1.bx[j]? = some blk := fun e => backL_cases hS.nb hS.bs hlB e
  have hgr : ∀ {i : Nat} {r : Grow}, G'.gr[i]? = some r → (i ∉ R ∧ i < G.gr.length ∧ G.gr[i]? = some r) ∨ ∃ j, backB R G.gr.length G1.gr.length j = some i ∧ G1.gr[j]? = some r := fun e => backL_cases hS.nr hS.gs hlR e
  have hnbx : ∀ {i j blk : Nat}, backB B G.bx.length G1.bx.length j = some i → G1.bx[j]? = some blk → G'.bx[i]? = some blk := fun e1 e2 => (backL_new hS.nb hS.bs hlB e1 (List.getElem?_eq_some_iff.1 e2).1).trans e2
  have hngr : ∀ {i j : Nat} {r : Grow}, backB R G.gr.length G1.gr.length j = some i → G1.gr[j]? = some r → G'.gr[i]? = some r := fun e1 e2 => (backL_new hS.nr hS.gs hlR e1 (List.getElem?_eq_some_iff.1 e2).1).trans e2
  have hback : ∀ {l : List Nat} {x i : Nat} {n m : Nat}, l[i]? = some x → backB l n m i = some x := fun {l x i n m} e => by
    unfold backB; rw [if_pos (List.getElem?_eq_some_iff.1 e).1, e]
  have hle : G.Le G' := by
    refine ⟨hL.le.fz, fun i blk e => ?_, fun g r e => ?_⟩
    · by_cases hm : i ∈ B
      · obtain ⟨j, hj⟩ := List.getElem?_of_mem hm
        exact hnbx (hback hj) (hL.le.bx j blk (sel_bx hj e))
      · exact (backL_old hm (List.getElem?_eq_some_iff.1 e).1).trans e
    · by_cases hm : g ∈ R
      · obtain ⟨j, hj⟩ := List.getElem?_of_mem hm
        obtain ⟨r', h2, h3⟩ := hL.le.gr j r (sel_gr hj e)
        exact ⟨r', hngr (hback hj) h2, h3⟩
      · exact ⟨r, (backL_old hm (List.getElem?_eq_some_iff.1 e).1).trans e, .inl rfl⟩
  have hM' : ∀ {b : Nat}, G'.M b → G.M b ∨ G1.M b := by
    intro b hb
    rcases hb with ⟨i, e⟩ | ⟨g, r, e, hr⟩
    · rcases hbx e with ⟨_, _, e1⟩ | ⟨j, _, e1⟩
      · exact .inl (.inl ⟨i, e1⟩)
      · exact .inr (.inl ⟨j, e1⟩)
    · rcases hgr e with ⟨_, _, e1⟩ | ⟨j, _, e1⟩
      · exact .inl (.inr ⟨g, r, e1, hr⟩)
      · exact .inr (.inr ⟨j, r, e1, hr⟩)
  have htag : ∀ t a n cap, tagOk G1 a n cap t → tagOk G' a n cap (t.back R G.gr.length G1.gr.length) := by
    intro t a n cap ht
    cases t with
    | unk => exact ht
    | full => exact ht
    | grow g =>
      obtain ⟨r, e, h2⟩ := ht
      simp only [Tag.back]
      split
      · rename_i j hj
        exact ⟨r, hngr hj e, h2⟩
      · trivial
  have hren : ∀ {τ : Tag → Tag} {p q : PV} {v : Value}, (∀ t a n cap, tagOk G1 a n cap t → tagOk G' a n cap (τ t)) → Rep G1 p v → p.ren (backB B G.bx.length G1.bx.length) τ = some q → Rep G' q v :=
    fun ht hr e => ren_rep (G := G1) (G' := G') (fun _ _ _ e => e) (fun b b' blk e1 e2 => hnbx e1 e2) ht hr e
  refine ⟨G', ⟨h1.fz, ?_, ?_, ?_, ?_, ?_, ?_, ?_, ?_⟩, ⟨hle, hL.size, fun b hb hn => hL.same b hb (fun hM => hn (sel_M hS hM)), fun b hb => ?_, fun b o v e => ?_, hL.io⟩, fun hr e => hren (τ := fun _ => .unk) (fun _ _ _ _ _ => trivial) hr (by rw [← hn, ← h1n]; exact e)⟩
  · show (backL _ _ _).length = (backL _ _ _).length
    rw [backL_len, backL_len, hbl, hn, h1n]
  · intro i blk cells e1 e2
    rcases hbx e1 with ⟨h2, h3, h4⟩ | ⟨j, h2, h3⟩
    · have e3 : σ.bx[i]? = some cells := (backL_old h2 (by omega)).symm.trans e2
      obtain ⟨o, h5, h6⟩ := h.bxc i blk cells h4 e3
      exact ⟨o, hkeep h5 (hobx h2 h4), h6.mono hle⟩
    · have hj1 := (List.getElem?_eq_some_iff.1 h3).1
      have e3 : bs[j]? = some cells := by
        rw [← hn, ← h1n, ← hbl] at h2
        exact (backL_new hS.nb (fun b hb => by rw [hn]; exact hS.bs b hb) (by omega) h2 (by omega)).symm.trans e2
      obtain ⟨c0, h4, h5⟩ := hbg j cells e3
      obtain ⟨o, h6, h7⟩ := h1.bxc j blk c0 h3 h4
      exact ⟨o, h6, bxren_rep (G := G1) (G' := G') (fun _ _ _ e => e) (fun b b' blk e1 e2 => hnbx e1 e2) htag h7 h5⟩
  · intro i blk o e1
    rcases hbx e1 with ⟨h2, h3, h4⟩ | ⟨j, h2, h3⟩
    · exact hfzn o (h.bx_lt h4) (hobx h2 h4) (h.bxf i blk o h4)
    · exact h1.bxf j blk o h3
  · intro i j blk e1 e2
    rcases hbx e1 with ⟨h2, h3, h4⟩ | ⟨k, h2, h3⟩ <;> rcases hbx e2 with ⟨h5, h6, h7⟩ | ⟨l, h5, h6⟩
    · exact h.bxn i j blk h4 h7
    · exact absurd (hMb h6) (hfor (h.bx_lt h4) (hobx h2 h4))
    · exact absurd (hMb h3) (hfor (h.bx_lt h7) (hobx h5 h7))
    · have := h1.bxn k l blk h3 h6
      subst this
      rw [h2] at h5; exact Option.some.inj h5
  · show (backL _ _ _).map _ = backL _ _ _
    rw [backL_map, h.grl, h1.grl]
  · intro g r e
    rcases hgr e with ⟨h2, h3, h4⟩ | ⟨j, h2, h3⟩
    · obtain ⟨cs, fr, h5, h9, h6, h7, h8⟩ := h.grc g r h4
      exact ⟨cs, fr, hkeep h5 (hogr h2 h4), h9, h6, h7, fun o ho => hfzn o (h.gr_lt h4) (hogr h2 h4) (h8 o ho)⟩
    · exact h1.grc j r h3
  · intro i j r s e1 e2 hrs
    rcases hgr e1 with ⟨h2, h3, h4⟩ | ⟨k, h2, h3⟩ <;> rcases hgr e2 with ⟨h5, h6, h7⟩ | ⟨l, h5, h6⟩
    · exact h.grn i j r s h4 h7 hrs
    · exact absurd (hMg h6) (hrs ▸ hfor (h.gr_lt h4) (hogr h2 h4))
    · exact absurd (hMg h3) (hrs ▸ hfor (h.gr_lt h7) (hogr h5 h7))
    · have := h1.grn k l r s h3 h6 hrs
      subst this
      rw [h2] at h5; exact Option.some.inj h5
  · intro g i blk r e1 e2 hrb
    rcases hgr e1 with ⟨h2, h3, h4⟩ | ⟨k, h2, h3⟩ <;> rcases hbx e2 with ⟨h5, h6, h7⟩ | ⟨l, h5, h6⟩
    · exact h.grb g i blk r h4 h7 hrb
    · exact absurd (hMb h6) (hrb ▸ hfor (h.gr_lt h4) (hogr h2 h4))
    · exact absurd (hMg h3) (hrb ▸ hfor (h.bx_lt h7) (hobx h5 h7))
    · exact h1.grb k l blk r h3 h6 hrb
  · rcases hM' hb with h2 | h2
    · exact .inl h2
    · rcases hL.new b h2 with h3 | h3
      · exact .inl (sel_M hS h3)
      · exact .inr h3
  · rcases hL.fzn b o v e with h2 | h2 | h2
    · exact .inl h2
    · exact .inr (.inl (sel_M hS h2))
    · exact .inr (.inr h2)
end Go.Proofs.YtfgoedndpcblpaaGreatDoor.Pv
end
section
namespace Go.Proofs.YtfgoedndpcblpaaGreatDoor.Pv
noncomputable section
open Go
set_option linter.unusedSimpArgs false
set_option linter.unusedVariables false
structure St where
  env : Nat → PV
  sto : Sto
abbrev Hand := FuncId → List PV → Sto → Option (PV × Sto)
abbrev Base := Nat → Option Obj
def Tab (T : Base) (G : Gh) (w : World) : Prop := ∀ b o, T b = some o → w.heap[b]? = some o ∧ ¬ G.M b
theorem Tab.later {T : Base} {G G' : Gh} {w w' : World} (h : Tab T G w) (hL : Later G w G' w') : Tab T G' w' := fun b o e => by
  obtain ⟨h1, h2⟩ := h b o e
  have hlt : b < w.heap.size := heap_lt h1
  refine ⟨(hL.same b hlt h2).trans h1, fun hm => ?_⟩
  rcases hL.new b hm with h3 | h3
  · exact h2 h3
  · omega
variable {T : Base}
def ptrsUpto (bx : List Bx) : Nat → List Nat
  | 0 => []
  | n + 1 => ptrsUpto bx n ++ ptrsAt bx n
def callBack (B R : List Nat) (σ : Sto) (r : PV) (σ1 : Sto) (B1 R1 : List Nat) : Option (PV × Sto) :=
  match r.ren (find B1) (fun _ => .unk), selE σ1 B1 R1 with
  | some r1, some σ2 => match r1.ren (backB B σ.bx.length σ2.bx.length) (fun _ => .unk), renBs (backB B σ.bx.length σ2.bx.length) (Tag.back R σ.gr.length σ2.gr.length) σ2.bx with
    | some q, some bs => some (q, ⟨backL σ.bx B bs, backL σ.gr R σ2.gr⟩)
    | _, _ => none
  | _, _ => none
def callIn (H : Hand) (f : FuncId) (args : List PV) (σ : Sto) (B R : List Nat) : Option (PV × Sto) :=
  match renL (find B) (fun _ => .unk) args, selE σ B R with
  | some avs, some σs => match H f avs σs with
    | some (r, σ1) => callBack B R σ r σ1 (gather σ1.bx 64 (r.ptrs ++ ptrsUpto σ1.bx B.length) (iota B.length)) (dd (tagsB σ1.bx (gather σ1.bx 64 (r.ptrs ++ ptrsUpto σ1.bx B.length) (iota B.length))) (iota R.length))
    | none => none
  | _, _ => none
def callE (H : Hand) (f : FuncId) (args : List PV) (σ : Sto) : Option (PV × Sto) :=
  callIn H f args σ (gather σ.bx 64 (ptrsL args) []) (dd (tagsB σ.bx (gather σ.bx 64 (ptrsL args) [])) [])
def keepT (f : FuncId) : Bool := decide (f = 168) || decide (f = 149) || decide (f = 106)
def keepO : Operand → Bool
  | .func g => keepT g
  | _ => false
def callD (H : Hand) (k : Bool) (f : FuncId) (args : List PV) (σ : Sto) : Option (PV × Sto) := if k = true then H f args σ else callE H f args σ
theorem callD_no {H : Hand} {k : Bool} {f : FuncId} {args : List PV} {σ : Sto} (h : ¬ k = true) : callD H k f args σ = callE H f args σ := if_neg h
theorem callD_yes {H : Hand} {k : Bool} {f : FuncId} {args : List PV} {σ : Sto} (h : k = true) : callD H k f args σ = H f args σ := if_pos h
def yieldE (ops : Array Oper) (env : Nat → PV) (j : Nat) : Option Bool :=
  match (ops[j]?).bind (·.dst) with
  | some d => match env d with
    | .im (.bool b) => some b
    | _ => none
  | none => none
def putE (n : Nat) (s : St) (dst : Option Tmp) (v : PV) (σ : Sto) : Option St :=
  match dst with
  | some d => if d < n then some ⟨upd s.env d v, σ⟩ else none
  | none => some ⟨s.env, σ⟩
def guardE (ops : Array Oper) (env : Nat → PV) (o : Oper) : Option Bool :=
  match o.guard with
  | none => some true
  | some (j, want) => some (yieldE ops env j == some want)
def isBody (P : Program) (f : FuncId) : Bool :=
  match P.funcs[f]? with
  | some fn => fn.body.isSome && !(fn.name == "runtime.NumGoroutine")
  | none => false
def funOf : PV → Option (FuncId × List PV)
  | .im (.func (.func g) first cap) => if first.size = 0 ∧ cap.size = 0 then some (g, []) else none
  | .fn (.func g) cap => some (g, cap)
  | _ => none
def valO (P : Program) (H : Hand) (env : Nat → PV) (σ : Sto) : Op → Option (PV × Sto)
  | .call { callee := .value f, args := args, .. } => match funOf (opdE env f) with
    | some (g, cap) => if isBody P g = true then callD H (keepO f) g (args.toList.map (opdE env) ++ cap) σ else none
    | none => none
  | op => opE P env σ op
def valE (P : Program) (H : Hand) (ops : Array Oper) (o : Oper) (env : Nat → PV) (σ : Sto) : Option (PV × Sto) :=
  match guardE ops env o with
  | some true => valO P H env σ o.op
  | some false => some (.im undef, σ)
  | none => none
def operE (P : Program) (H : Hand) (n : Nat) (ops : Array Oper) (o : Oper) (s : St) : Option St :=
  (valE P H ops o s.env s.sto).bind fun r => putE n s o.dst r.1 r.2
def opersE (P : Program) (H : Hand) (n : Nat) (ops : Array Oper) : List Oper → St → Option St
  | [], s => some s
  | o :: rest, s => (operE P H n ops o s).bind (opersE P H n ops rest)
def FunOk (P : Program) (T : Base) (f : FuncId) (h : List PV → Sto → Option (PV × Sto)) : Prop :=
  ∀ args σ r σ', h args σ = some (r, σ') → ∀ (G : Gh) (w : World) (vals : Array Value), Tab T G w → Inv G σ w → args.length = vals.size → (∀ i (h : i < args.length), Rep G args[i] (vals.getD i undef)) →
    Calls P f vals w fun e w' => ∃ v G', e = .returned v ∧ Inv G' σ' w' ∧ Rep G' r v ∧ Later G w G' w'
def HandOk (P : Program) (T : Base) (H : Hand) : Prop := ∀ f, FunOk P T f (H f)
theorem sel_later {G G1 : Gh} {σ1 σ2 : Sto} {w w1 : World} {B1 R1 : List Nat} (hL : Later G w G1 w1) (hS : Sel G1 σ1 B1 R1 σ2) (hb : ∀ i, i < G.bx.length → B1[i]? = some i) (hr : ∀ i, i < G.gr.length → R1[i]? = some i) : Later G w (G1.sel B1 R1) w1 where
  le := ⟨hL.le.fz, fun i b e => sel_bx (hb i (List.getElem?_eq_some_iff.1 e).1) (hL.le.bx i b e), fun g r e => by
    obtain ⟨r', e', h⟩ := hL.le.gr g r e
    exact ⟨r', sel_gr (hr g (List.getElem?_eq_some_iff.1 e).1) e', h⟩⟩
  size := hL.size
  same := hL.same
  new b hb := hL.new b (sel_M hS hb)
  fzn := hL.fzn
  io := hL.io
theorem iota_front {n : Nat} {l more : List Nat} (h : l = iota n ++ more) {i : Nat} (hi : i < n) : l[i]? = some i := by
  rw [h, List.getElem?_append_left (by rw [iota_len]; exact hi)]; exact iota_get hi
theorem call_sound {P : Program} {H : Hand} (hH : HandOk P T H) {f : FuncId} {args : List PV} {σ σ' : Sto} {r : PV} (h : callE H f args σ = some (r, σ')) {G : Gh} {w : World} (hT : Tab T G w) (hI : Inv G σ w) {vals : Array Value} (hl : args.length = vals.size)
    (ha : ∀ i (h : i < args.length), Rep G args[i] (vals.getD i undef)) :
    Calls P f vals w fun e w' => ∃ v G', e = .returned v ∧ Inv G' σ' w' ∧ Rep G' r v ∧ Later G w G' w' := by
  unfold callE at h
  generalize hB : gather σ.bx 64 (ptrsL args) [] = B at h
  generalize hR : dd (tagsB σ.bx B) [] = R at h
  have nB : B.Nodup := hB ▸ (gather_spec σ.bx 64 (ptrsL args) [] List.nodup_nil).1
  have nR : R.Nodup := hR ▸ (dd_spec (tagsB σ.bx B) [] List.nodup_nil).1
  unfold callIn at h
  split at h
  · rename_i avs σs h1 h2
    split at h
    · rename_i r0 σ1 h3
      have sB := gather_spec σ1.bx 64 (r0.ptrs ++ ptrsUpto σ1.bx B.length) (iota B.length) (iota_nodup _)
      generalize gather σ1.bx 64 (r0.ptrs ++ ptrsUpto σ1.bx B.length) (iota B.length) = B1 at h sB
      have sR := dd_spec (tagsB σ1.bx B1) (iota R.length) (iota_nodup _)
      generalize dd (tagsB σ1.bx B1) (iota R.length) = R1 at h sR
      obtain ⟨nB1, more, eB1⟩ := sB
      obtain ⟨nR1, more', eR1⟩ := sR
      unfold callBack at h
      split at h
      · rename_i r1 σ2 g1 g2
        split at h
        · rename_i q bs h4 h5
          cases h
          have hS := hI.selOf nB nR h2
          obtain ⟨h6, h7⟩ := renL_spec h1
          refine (hH f avs σs r0 σ1 h3 (G.sel B R) w vals (fun b o e => ⟨(hT b o e).1, fun hm => (hT b o e).2 (sel_M hS hm)⟩) (hI.sel hS) (by omega) (fun i hi => ren_rep (G := G) (G' := G.sel B R) (τ := fun _ => .unk) (fun _ _ _ e => e) (fun b b' blk e1 e2 => sel_bx (find_get e1) e2) (fun _ _ _ _ _ => trivial) (ha i (by omega)) (h7 i (by omega) hi))).mono ?_
          rintro e w' ⟨v, G1, rfl, hI1, hr, hL⟩
          have hS1 := hI1.selOf nB1 nR1 g2
          have hr1 : Rep (G1.sel B1 R1) r1 v := ren_rep (G := G1) (G' := G1.sel B1 R1) (τ := fun _ => .unk) (fun _ _ _ e => e) (fun b b' blk e1 e2 => sel_bx (find_get e1) e2) (fun _ _ _ _ _ => trivial) hr g1
          have hL1 : Later (G.sel B R) w (G1.sel B1 R1) w' := sel_later hL hS1 (fun i hi => iota_front eB1 (by simpa [Gh.sel] using hi)) (fun i hi => iota_front eR1 (by simpa [Gh.sel] using hi))
          obtain ⟨G', k1, k2, k3⟩ := hI.back hS (hI1.sel hS1) hL1 h5
          exact ⟨v, G', rfl, k1, k3 hr1 h4, k2⟩
        · cases h
      · cases h
    · cases h
  · cases h
theorem callD_sound {P : Program} {H : Hand} (hH : HandOk P T H) {k : Bool} {f : FuncId} {args : List PV} {σ σ' : Sto} {r : PV} (h : callD H k f args σ = some (r, σ')) {G : Gh} {w : World} (hT : Tab T G w) (hI : Inv G σ w) {vals : Array Value} (hl : args.length = vals.size)
    (ha : ∀ i (h : i < args.length), Rep G args[i] (vals.getD i undef)) :
    Calls P f vals w fun e w' => ∃ v G', e = .returned v ∧ Inv G' σ' w' ∧ Rep G' r v ∧ Later G w G' w' := by
  by_cases hk : k = true
  · rw [callD_yes hk] at h
    exact hH f args σ r σ' h G w vals hT hI hl ha
  · rw [callD_no hk] at h
    exact call_sound hH h hT hI hl ha
theorem yield_sound {G : Gh} {env : Nat → PV} {a : Act} (hE : EnvRep G env a) (ops : Array Oper) (j : Nat) : yielded ops a.tmps j = yieldE ops env j := by
  unfold yieldE
  unfold yielded
  cases e : (ops[j]?).bind (·.dst) with
  | none => rfl
  | some d =>
    rw [Option.bind_some]
    simp only
    have hr := hE d
    rw [Array.getD_eq_getD_getElem?] at hr
    cases ht : a.tmps[d]? with
    | none =>
      rw [ht] at hr
      simp only [Option.getD_none] at hr
      generalize hp : env d = p at hr
      generalize hu : undef = u at hr
      cases hr <;> first | rfl | (subst hu; rfl)
    | some v =>
      rw [ht] at hr
      simp only [Option.getD_some] at hr
      generalize env d = p at hr
      cases hr <;> first | rfl | (cases v <;> rfl)
theorem guard_sound {G : Gh} {env : Nat → PV} {a : Act} (hE : EnvRep G env a) {ops : Array Oper} {o : Oper} {b : Bool} (h : guardE ops env o = some b) : Region.wanted o (yielded ops a.tmps) = b := by
  unfold guardE at h
  unfold Region.wanted
  split at h
  · rename_i hg; cases h; rw [hg]
  · rename_i j want hg
    rw [hg]
    cases h
    simp only [yield_sound hE]
structure Ok (T : Base) (G : Gh) (n : Nat) (s : St) (a : Act) (w : World) : Prop where
  inv : Inv G s.sto w
  env : EnvRep G s.env a
  size : a.tmps.size = n
  defers : a.defers = []
  tab : Tab T G w
theorem put_sound {G : Gh} {n : Nat} {s s' : St} {a : Act} {w : World} {dst : Option Tmp} {p : PV} {v : Value} {σ : Sto} (hT : Tab T G w) (hE : EnvRep G s.env a) (hn : a.tmps.size = n) (hd : a.defers = []) (hI : Inv G σ w) (hv : Rep G p v) (h : putE n s dst p σ = some s') : Ok T G n s' (a.put dst v) w := by
  unfold putE at h
  cases dst with
  | none => cases h; exact ⟨hI, hE, hn, hd, hT⟩
  | some d =>
    simp only at h
    split at h
    · rename_i hlt
      cases h
      exact ⟨hI, hE.put (by rw [hn]; exact hlt) hv, by simp [Act.put, hn], hd, hT⟩
    · cases h
theorem funOf_sound {G : Gh} {p : PV} {v : Value} (h : Rep G p v) {g : FuncId} {cap : List PV} (e : funOf p = some (g, cap)) : ∃ vs : Array Value, v = .func (.func g) #[] vs ∧ cap.length = vs.size ∧ ∀ i (h : i < cap.length), Rep G cap[i] (vs.getD i undef) := by
  unfold funOf at e
  split at e
  · rename_i g' first cap'
    split at e
    · rename_i hz
      cases e
      cases h
      have e1 : first = #[] := Array.eq_empty_of_size_eq_zero hz.1
      have e2 : cap' = #[] := Array.eq_empty_of_size_eq_zero hz.2
      subst e1; subst e2
      exact ⟨#[], rfl, rfl, fun i h => absurd h (Nat.not_lt_zero _)⟩
    · cases e
  · cases e
    cases h with
    | fn hl hr => exact ⟨_, rfl, hl, hr⟩
  · cases e
theorem val_sound {P : Program} {H : Hand} (hH : HandOk P T H) {ops : Array Oper} {o : Oper} {env : Nat → PV} {σ σ' : Sto} {p : PV} (h : valE P H ops o env σ = some (p, σ')) {G : Gh} {a : Act} {w : World} (hT : Tab T G w) (hI : Inv G σ w) (hE : EnvRep G env a) {K : Act → World → Prop} {Q : Exit → Act → World → Prop}
    (hK : ∀ G' v w', Inv G' σ' w' → Rep G' p v → Later G w G' w' → K (a.put o.dst v) w') : if Region.wanted o (yielded ops a.tmps) = true then o.wp P a w K Q else K (a.put o.dst undef) w := by
  unfold valE valO at h
  split at h
  · rename_i hg
    rw [if_pos (guard_sound hE hg)]
    unfold Oper.wp
    split at h
    · rename_i f args ats ho
      split at h
      · rename_i g cap hf
        split at h
        · rename_i hb
          obtain ⟨vs, hv, hcl, hcr⟩ := funOf_sound (hE.opd f) hf
          have hrun : (execOp a.eval o).run P w = .ok (.enter g (args.map a.eval ++ vs)) w := by
            unfold isBody at hb
            cases hfn : P.funcs[g]? with
            | none => rw [hfn] at hb; cases hb
            | some fn =>
              rw [hfn] at hb
              simp only [Bool.and_eq_true, Bool.not_eq_true', beq_eq_false_iff_ne, ne_eq] at hb
              obtain ⟨hb1, hb2⟩ := hb
              have hb3 : fn.body.isNone = false := by cases hq : fn.body <;> simp_all
              have e1 : execOp a.eval o = callFunc g (#[] ++ args.map a.eval ++ vs) := by
                simp only [execOp, ho]
                show (do let d ← Deferred.ofValue (a.eval f) (args.map a.eval); invoke d.target d.args : Sem Next) = _
                rw [hv]; rfl
              rw [e1, Array.empty_append]
              have e2 : Sem.run P program w = Result.ok P w := rfl
              have hb4 : ¬ fn.body = none := by intro e; rw [e] at hb3; cases hb3
              simp [callFunc, Sem.run_bind, e2, hfn, hb2, hb4]
          rw [hrun]
          refine Calls.mono (callD_sound hH h hT hI (vals := args.map a.eval ++ vs) (by simp [hcl]) (fun i hi => ?_)) ?_
          · by_cases hi' : i < args.size
            · have e1 : (args.toList.map (opdE env) ++ cap)[i] = opdE env args[i] := by rw [List.getElem_append_left (by simpa using hi')]; simp
              rw [e1, Array.getD_eq_getD_getElem?, Array.getElem?_append_left (by simpa using hi'), Array.getElem?_map, Array.getElem?_eq_getElem hi']
              exact hE.opd args[i]
            · have hi2 : i - args.size < cap.length := by simp at hi; omega
              have e1 : (args.toList.map (opdE env) ++ cap)[i] = cap[i - args.size] := by rw [List.getElem_append_right (by simp; omega)]; simp
              rw [e1, Array.getD_eq_getD_getElem?, Array.getElem?_append_right (by simp; omega)]
              have := hcr (i - args.size) hi2
              rw [Array.getD_eq_getD_getElem?] at this
              simpa using this
          · rintro e w' ⟨v, G', rfl, hI', hr, hL⟩
            exact hK G' v w' hI' hr hL
        · cases h
      · cases h
    · rename_i op hn
      obtain ⟨v, w', G', hrun, hI', hr, hL⟩ := op_sound hI hE h
      rcases hrun with hrun | ⟨hrun, rfl⟩
      · rw [hrun]; exact hK G' v w' hI' hr hL
      · rw [hrun]; exact hK G' undef w' hI' hr hL
  · rename_i hg
    rw [if_neg (by rw [guard_sound hE hg]; simp)]
    cases h
    exact hK G _ w hI (.im _) (.refl _ _)
  · cases h
theorem oper_sound {P : Program} {H : Hand} (hH : HandOk P T H) {n : Nat} {ops : Array Oper} {o : Oper} {s s' : St} (h : operE P H n ops o s = some s') {G : Gh} {a : Act} {w : World} (hO : Ok T G n s a w) {K : Act → World → Prop} {Q : Exit → Act → World → Prop}
    (hK : ∀ G' a' w', Ok T G' n s' a' w' → Later G w G' w' → K a' w') : if Region.wanted o (yielded ops a.tmps) = true then o.wp P a w K Q else K (a.put o.dst undef) w := by
  obtain ⟨⟨p, σ⟩, h1, h2⟩ := Option.bind_eq_some_iff.1 h
  exact val_sound hH h1 hO.tab hO.inv hO.env (fun G' v w' hI hr hL => hK G' _ w' (put_sound (hO.tab.later hL) (hO.env.mono hL.le) hO.size hO.defers hI hr h2) hL)
theorem opers_sound {P : Program} {H : Hand} (hH : HandOk P T H) {n : Nat} {ops : Array Oper} {Q : Exit → Act → World → Prop} : ∀ {l : List Oper} {s s' : St}, opersE P H n ops l s = some s' → ∀ {G : Gh} {a : Act} {w : World}, Ok T G n s a w →
    (∀ G' a' w', Ok T G' n s' a' w' → Later G w G' w' → Q .normal a' w') → wpList P ops Q l a w
  | [], s, s', h, G, a, w, hO, hQ => by
    cases h
    exact hQ G a w hO (.refl _ _)
  | o :: rest, s, s', h, G, a, w, hO, hQ => by
    obtain ⟨s1, h1, h2⟩ := Option.bind_eq_some_iff.1 h
    have := oper_sound (Q := Q) (K := wpList P ops Q rest) hH h1 hO (fun G' a' w' hO' hL => opers_sound hH h2 hO' (fun G'' a'' w'' hO'' hL' => hQ G'' a'' w'' hO'' (hL.trans hL')))
    unfold wpList
    split
    · rename_i hw; rw [if_pos hw] at this; exact .inl this
    · rename_i hw; rw [if_neg hw] at this; exact this
end
end Go.Proofs.YtfgoedndpcblpaaGreatDoor.Pv
end
