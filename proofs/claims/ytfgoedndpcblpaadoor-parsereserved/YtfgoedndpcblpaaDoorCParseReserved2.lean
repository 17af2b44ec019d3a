/- ParseReserved: for every text, whether it is reserved is what the document says; no reserved word but two is an expression. No condition. -/
import Derived.Test.YtfgoedndpcblpaaDoorCParseReserved1
import Derived.Test.YtfgoedndpcblpaaDoorCards
import Derived.Test.YtfgoedndpcblpaaDoorTie
import Derived.Test.YtfgoedndpcblpaaDoorCParseReserved0
import Derived.WalkKit
import Derived.ProofKit
import Derived.OpenShut
import Derived.ShutString
import Derived.ChangeOld
import Derived.Below
import Derived.SizedLaws
section
/- What a parser computes: plain functions. -/
namespace Go.Proofs.YtfgoedndpcblpaaDoor.Ps
open Go Go.Proofs Go.Proofs.YtfgoedndpcblpaaDoor.Lx
set_option linter.unusedVariables false

/-- Expressions. -/
inductive Ex where
  | mk (op name : ByteArray) (n : Int) (l : List Ex) (at_ : Int)
  deriving Inhabited
/-- A parser: its tokens, where it is, the text's end, why it stopped, and how deep it is within blocks, and within brackets. -/
structure PS where
  l : List Tk
  k : Nat
  e : Nat
  no : Int
  bl : Nat
  inn : Nat
def PS.stop (p : PS) (x : Int) : PS := if p.no = 0 then { p with no := x } else p
def PS.tok (p : PS) : Tk := p.l.getD p.k (-1, [], 0, 0)
def PS.place (p : PS) : Nat := if p.k < p.l.length then p.tok.2.2.2 else p.e
def PS.kind (p : PS) : Int := p.tok.1
def PS.text (p : PS) : List UInt8 := p.tok.2.1
def PS.num (p : PS) : Int := p.tok.2.2.1
def PS.on (p : PS) (kind : Int) : Bool := decide (p.no = 0) && decide (p.k < p.l.length) && decide (p.kind = kind)
def PS.word (p : PS) (kind : Int) (s : List UInt8) : Bool := p.on kind && decide (p.text = s)
def PS.go (p : PS) : PS := { p with k := p.k + 1 }
def PS.take (p : PS) (kind : Int) (s : List UInt8) : Bool × PS := if p.word kind s = true then (true, p.go) else (false, p)
def PS.need (p : PS) (s : List UInt8) : PS := if p.word 2 s = true then p.go else p.stop 130
/-- The words that may not be names. -/
def resBytes : List UInt8 := [101, 110, 117, 109, 32, 118, 97, 114, 32, 112, 114, 111, 99, 32, 109, 97, 105, 110, 32, 105, 102, 32, 101, 108, 115, 101, 32, 119, 104, 105, 108, 101, 32, 97, 115, 115, 101, 114, 116, 32, 97, 115, 115, 117, 109, 101, 32, 99, 97, 108, 108, 32, 115, 107, 105, 112, 32, 105, 110, 112, 117, 116, 32, 116, 114, 117, 101, 32, 102, 97, 108, 115, 101, 32, 105, 110, 116, 32, 98, 111, 111, 108]
def resL : List (List UInt8) := Lib.fields resBytes
def reserved (s : List UInt8) : Bool := resL.contains s
def PS.name (p : PS) : ByteArray × PS := if (p.on 0 && !reserved p.text) = true then (strOf p.text, p.go) else (⟨#[]⟩, p.stop 130)
/-- One more within others. -/
def PS.deep (p : PS) : PS := if 32 ≤ p.inn then p.stop 131 else { p with inn := p.inn + 1 }
def PS.within (p : PS) (f : PS → PS) : PS := if 32 ≤ p.inn then p.stop 131 else
  { f { p with inn := p.inn + 1, k := p.k + 1 } with inn := (f { p with inn := p.inn + 1, k := p.k + 1 }).inn - 1 }
/-- The signs between parts. -/
def levB : List (List UInt8) := [[124, 124], [38, 38], [61, 61, 32, 33, 61, 32, 60, 32, 60, 61, 32, 62, 32, 62, 61], [43, 32, 45], [42, 32, 47]]
def levL (n : Nat) : List (List UInt8) := Lib.fields (levB.getD n [])
def sB (l : List UInt8) : ByteArray := strOf l
def chainS (g : PS → Ex × PS) (lev : Nat) : Nat → Ex → PS → Ex × PS
  | 0, e, p => (e, p)
  | m + 1, e, p => if (p.on 2 && (levL lev).contains p.text) = true then
      (if lev = 2 then (.mk (strOf p.text) ⟨#[]⟩ 0 [e, (g p.go).1] p.place, (g p.go).2)
       else chainS g lev m (.mk (strOf p.text) ⟨#[]⟩ 0 [e, (g p.go).1] p.place) (g p.go).2)
    else (e, p)
mutual
def exprS : Nat → Nat → PS → Ex × PS
  | 0, _, p => (.mk ⟨#[]⟩ ⟨#[]⟩ 0 [] 0, p)
  | D + 1, lev, p => if lev = 5 then firstS D p else chainS (exprS D (lev + 1)) lev p.l.length (exprS D (lev + 1) p).1 (exprS D (lev + 1) p).2
def firstS : Nat → PS → Ex × PS
  | 0, p => (.mk ⟨#[]⟩ ⟨#[]⟩ 0 [] 0, p)
  | D + 1, p =>
    if (p.word 2 [45] || p.word 2 [33]) = true then
      (.mk (sB (if p.text = [33] then [110, 111, 116] else [110, 101, 103])) ⟨#[]⟩ 0 (if 32 ≤ p.inn then [] else [(firstS D { p with inn := p.inn + 1, k := p.k + 1 }).1]) p.place, p.within fun q => (firstS D q).2)
    else if p.word 2 [40] = true then
      (if 32 ≤ p.inn then .mk ⟨#[]⟩ ⟨#[]⟩ 0 [] p.place else (exprS D 0 { p with inn := p.inn + 1, k := p.k + 1 }).1, p.within fun q => (exprS D 0 q).2.need [41])
    else if p.on 1 = true then (.mk (sB [110, 117, 109]) ⟨#[]⟩ p.num [] p.place, p.go)
    else if (p.word 0 [116, 114, 117, 101] || p.word 0 [102, 97, 108, 115, 101]) = true then (.mk (strOf p.text) ⟨#[]⟩ 0 [] p.place, p.go)
    else if p.name.2.word 2 [91] = true then
      (.mk (sB [97, 116]) p.name.1 0 (if 32 ≤ p.name.2.inn then [] else [(exprS D 0 { p.name.2 with inn := p.name.2.inn + 1, k := p.name.2.k + 1 }).1]) p.place, p.name.2.within fun q => (exprS D 0 q).2.need [93])
    else (.mk (sB [110, 97, 109, 101]) p.name.1 0 [] p.place, p.name.2)
end
/-- A parser that has gone on. -/
structure Adv (p q : PS) : Prop where
  l : q.l = p.l
  e : q.e = p.e
  bl : q.bl = p.bl
  inn : q.inn = p.inn
  k : p.k ≤ q.k
theorem Adv.refl (p : PS) : Adv p p := ⟨rfl, rfl, rfl, rfl, Nat.le_refl _⟩
theorem Adv.trans {p q r : PS} (h : Adv p q) (k : Adv q r) : Adv p r := ⟨k.l.trans h.l, k.e.trans h.e, k.bl.trans h.bl, k.inn.trans h.inn, Nat.le_trans h.k k.k⟩
theorem Adv.stop (p : PS) (x : Int) : Adv p (p.stop x) := by unfold PS.stop; split; exact ⟨rfl, rfl, rfl, rfl, Nat.le_refl _⟩; exact .refl p
theorem Adv.go (p : PS) : Adv p p.go := ⟨rfl, rfl, rfl, rfl, Nat.le_succ _⟩
theorem Adv.take (p : PS) (k : Int) (s : List UInt8) : Adv p (p.take k s).2 := by unfold PS.take; split; exact .go p; exact .refl p
theorem Adv.need (p : PS) (s : List UInt8) : Adv p (p.need s) := by unfold PS.need; split; exact .go p; exact .stop p _
theorem Adv.name (p : PS) : Adv p p.name.2 := by unfold PS.name; split; exact .go p; exact .stop p _
theorem Adv.within {p : PS} {f : PS → PS} (h : ∀ q, Adv q (f q)) : Adv p (p.within f) := by
  unfold PS.within
  split
  · exact .stop p _
  · have := h { p with inn := p.inn + 1, k := p.k + 1 }
    exact ⟨this.l, this.e, this.bl, by show _ - 1 = _; rw [this.inn]; rfl, Nat.le_trans (Nat.le_succ _) this.k⟩
theorem Adv.chain {g : PS → Ex × PS} (h : ∀ q, Adv q (g q).2) (lev : Nat) : ∀ (m : Nat) (e : Ex) (p : PS), Adv p (chainS g lev m e p).2
  | 0, e, p => .refl p
  | m + 1, e, p => by
    simp only [chainS]
    split
    · split
      · exact (Adv.go p).trans (h _)
      · exact (Adv.go p).trans ((h _).trans (Adv.chain h lev m _ _))
    · exact .refl p
theorem Adv.both : ∀ (D : Nat), (∀ lev p, Adv p (exprS D lev p).2) ∧ ∀ p, Adv p (firstS D p).2
  | 0 => ⟨fun _ p => by simp only [exprS]; exact .refl p, fun p => by simp only [firstS]; exact .refl p⟩
  | D + 1 => by
    obtain ⟨h1, h2⟩ := Adv.both D
    refine ⟨fun lev p => ?_, fun p => ?_⟩
    · simp only [exprS]
      split
      · exact h2 p
      · exact (h1 _ p).trans (Adv.chain (h1 _) lev _ _ _)
    · simp only [firstS]
      split
      · exact .within fun q => h2 q
      · split
        · exact .within fun q => (h1 0 q).trans (.need _ _)
        · split
          · exact .go p
          · split
            · exact .go p
            · split
              · exact (Adv.name p).trans (.within fun q => (h1 0 q).trans (.need _ _))
              · exact .name p
theorem Adv.expr (D lev : Nat) (p : PS) : Adv p (exprS D lev p).2 := (Adv.both D).1 lev p
theorem Adv.first (D : Nat) (p : PS) : Adv p (firstS D p).2 := (Adv.both D).2 p
end Go.Proofs.YtfgoedndpcblpaaDoor.Ps
end

section
/- The parser's functions: what they come to. -/
namespace Go.Proofs.YtfgoedndpcblpaaDoor.Pv
open Go Go.Proofs Go.Proofs.YtfgoedndpcblpaaDoor.Lx Go.Proofs.YtfgoedndpcblpaaDoor.Ps
set_option linter.unusedSimpArgs false
set_option linter.unusedVariables false
variable {L : Lib} {σ : Sto}

/-- A parser's cells. -/
def psC (p : PS) : List PV := [.sl (p.l.map tokR) .unk, int p.k, int p.e, int p.no, int p.bl, int p.inn]
abbrev psB (p : PS) : Bx := .cells (psC p)
/-- What a method of a parser does: it yields something plain, and the parser is another. -/
def Meth (L : Lib) (f : FuncId) (args : List PV) (p : PS) (r : PV) (p' : PS) : Prop := ∃ more gr, EV Tryd.prog L f (.ptr 0 0 :: args) ⟨[psB p], []⟩ = some (r, ⟨psB p' :: more, gr⟩)
theorem gather_known (bx : List Bx) : ∀ (n : Nat) (todo acc : List Nat), (∀ b ∈ todo, b ∈ acc) → gather bx n todo acc = acc
  | 0, _, _, _ => rfl
  | n + 1, [], _, _ => rfl
  | n + 1, b :: todo, acc, h => by
    simp only [gather]
    rw [if_pos (h b (by simp))]
    exact gather_known bx n todo acc fun c hc => h c (by simp [hc])
theorem tags_row : ∀ (l : List FV) , True := fun _ => trivial
/-- A call that is handed one box, which leads nowhere. -/
theorem call_box {H : Hand} {f : FuncId} {b : Nat} {args : List PV} {r : PV} {cs cs' : List PV} {more : List Bx} {gr : List (Nat × Nat)} (hb : σ.bx[b]? = some (.cells cs)) (ha : ptrsL args = []) (he : eraL args = args)
    (c1 : ptrsL cs = []) (c2 : tagsL cs = []) (c3 : ∀ ρ τ, τ .unk = .unk → renL ρ τ cs = some cs) (d1 : ptrsL cs' = []) (d2 : tagsL cs' = []) (d3 : ∀ ρ τ, τ .unk = .unk → renL ρ τ cs' = some cs') (hr : r.ptrs = [])
    (h : H f (.ptr 0 0 :: args) ⟨[.cells cs], []⟩ = some (r, ⟨.cells cs' :: more, gr⟩)) : callE H f (.ptr b 0 :: args) σ = some (r.era, { σ with bx := σ.bx.set b (.cells cs') }) := by
  have hlt := (List.getElem?_eq_some_iff.1 hb).1
  have e0 : gather σ.bx 64 (ptrsL (.ptr b 0 :: args)) [] = [b] := by
    show gather σ.bx 64 ([b] ++ ptrsL args) [] = [b]
    rw [ha]
    show gather σ.bx 63 (ptrsAt σ.bx b ++ []) [b] = [b]
    have : ptrsAt σ.bx b = [] := by unfold ptrsAt; rw [hb]; exact c1
    rw [this]; rfl
  have e1 : tagsB σ.bx [b] = [] := by
    have : tagsAt σ.bx b = [] := by unfold tagsAt; rw [hb]; exact c2
    simp [tagsB, this]
  unfold callE
  rw [e0, e1]
  simp only [dd]
  have hfb : find [b] b = some 0 := by simp [find]
  have hren : renL (find [b]) (fun _ => .unk) (.ptr b 0 :: args) = some (.ptr 0 0 :: args) := by
    simp only [renL, PV.ren, hfb, Option.map_some, (renL_era (ρ := find [b]) ha).1, he]
  have hsel : selE σ [b] [] = some ⟨[.cells cs], []⟩ := by
    simp only [selE, pickL, hb]
    simp only [renBs, Bx.ren, c3 _ (Tag.sel []) rfl, Option.map_some]
  unfold callIn
  rw [hren, hsel]
  simp only [h]
  have g0 : gather (.cells cs' :: more) 64 (r.ptrs ++ ptrsUpto (.cells cs' :: more) [b].length) (iota [b].length) = [0] := by
    have : ptrsUpto (Bx.cells cs' :: more) 1 = [] := by simp [ptrsUpto, ptrsAt, Bx.ptrs, d1]
    show gather (.cells cs' :: more) 64 (r.ptrs ++ ptrsUpto (Bx.cells cs' :: more) 1) [0] = [0]
    rw [hr, this]; rfl
  rw [g0]
  have g1 : tagsB (Bx.cells cs' :: more) [0] = [] := by simp [tagsB, tagsAt, Bx.tags, d2]
  simp only [g1, dd, iota, List.length_nil]
  unfold callBack
  obtain ⟨k1, k2, k3⟩ := ren_era (ρ := find [0]) hr
  have hsel2 : selE ⟨.cells cs' :: more, gr⟩ [0] [] = some ⟨[.cells cs'], []⟩ := by
    simp [selE, pickL, renBs, Bx.ren, d3 _ (Tag.sel []) rfl]
  rw [k1, hsel2]
  simp only
  obtain ⟨k4, _, _⟩ := ren_era (ρ := backB [b] σ.bx.length [Bx.cells cs'].length) k2
  rw [k4, k3]
  have hd := d3 (backB [b] σ.bx.length [Bx.cells cs'].length) (Tag.back [] σ.gr.length ([] : List (Nat × Nat)).length) rfl
  simp only [List.length_nil] at hd
  simp only [renBs, Bx.ren, hd, Option.map_some, List.length_nil]
  simp [backL, putMany]
theorem psC_plain (p : PS) : ptrsL (psC p) = [] ∧ tagsL (psC p) = [] ∧ ∀ ρ τ, τ .unk = .unk → renL ρ τ (psC p) = some (psC p) := ⟨rfl, rfl, fun ρ τ h => by simp [psC, renL, PV.ren, h]⟩
theorem Meth.call {f : FuncId} {args : List PV} {p p' : PS} {r : PV} (h : Meth L f args p r p') (ha : ptrsL args = []) (he : eraL args = args) (hr : r.ptrs = []) {b : Nat} (hb : σ.bx[b]? = some (psB p)) : callE (EV Tryd.prog L) f (.ptr b 0 :: args) σ = some (r.era, { σ with bx := σ.bx.set b (psB p') }) := by
  obtain ⟨more, gr, h⟩ := h
  exact call_box hb ha he (psC_plain p).1 (psC_plain p).2.1 (psC_plain p).2.2 (psC_plain p').1 (psC_plain p').2.1 (psC_plain p').2.2 hr h
theorem meth_fn {f : FuncId} {fn : Func} {n : Nat} {ids : List Nat} {rs : Array ResultVar} {args : List PV} {p p' : PS} {r : PV} (hl : L f = none) (hf : Tryd.prog.funcs[f]? = some fn) (hn : fn.ntmps = n) (hrs : fn.results = rs) (hlen : (PV.ptr 0 0 :: args).length ≤ n)
    (h : ∃ c, fn.body = some c ∧ statOk Tryd.prog ids c = true ∧ WP Tryd.prog L n ids c ⟨initE (.ptr 0 0 :: args), ⟨[psB p], []⟩⟩ fun ctl s => (ctl = .next ∨ ctl = .ret) ∧ Run (outE Tryd.prog s.env s.sto rs.toList) fun r' => r' = r ∧ ∃ more, s.sto.bx = psB p' :: more) : Meth L f args p r p' := by
  obtain ⟨c, hb, hst, k, ctl, s', h1, h2, r', h3, rfl, more, h5⟩ := h
  subst hn; subst hrs
  refine ⟨more, s'.sto.gr, EV_fn hl hf hb hst hlen ⟨k, ctl, s', h1, h2, h3, ?_⟩⟩
  rw [← h5]
theorem idx_tok {l : List Tk} {k : Nat} (h : decide (k < l.length) = true) : idx 4 (l.map tokR) (k : Int) = some (.el (tokR (l.getD k (-1, [], 0, 0))) 0) := by
  have h' := of_decide_eq_true h
  refine idx_get ?_ rfl
  rw [List.getElem?_map, List.getD_eq_getElem?_getD, List.getElem?_eq_getElem h']; rfl
theorem strOf_inj (s : ByteArray) (l : List UInt8) : decide (strOf l = s) = decide (l = s.data.toList) := by
  have : strOf l = s ↔ l = s.data.toList := ⟨fun h => by rw [← h, strOf_list], fun h => by rw [h, strOf_self]⟩
  simp [this]
theorem on_ok (hl : L 21 = none) (p : PS) (kind : Int) : Meth L 21 [int kind] p (boo (p.on kind)) p := by
  refine meth_fn (ids := []) hl Tryd.func21 Tryd.ntmps21 Tryd.results21 (by simp) ⟨_, rfl, by kernel_rfl, ?_⟩
  have hi : decide (p.k < p.l.length) = true → idx 4 (p.l.map tokR) (p.k : Int) = some (.el (tokR p.tok) 0) := idx_tok
  simp (contextual := true) (implicitDefEqProofs := false) [-decide_eq_true_eq, -decide_eq_false_iff_not, -Bool.not_and, -Bool.not_or, -Bool.and_eq_false_imp, -Int.natCast_add, psC, hi, tokR, PS.on, PS.kind]
  rfl
theorem place_ok (hl : L 18 = none) (p : PS) : Meth L 18 [] p (int p.place) p := by
  refine meth_fn (ids := []) hl Tryd.func18 Tryd.ntmps18 Tryd.results18 (by simp) ⟨_, rfl, by kernel_rfl, ?_⟩
  have hi : decide (p.k < p.l.length) = true → idx 4 (p.l.map tokR) (p.k : Int) = some (.el (tokR p.tok) 0) := idx_tok
  simp (contextual := true) (implicitDefEqProofs := false) [-decide_eq_true_eq, -decide_eq_false_iff_not, -Bool.not_and, -Bool.not_or, -Bool.and_eq_false_imp, -Int.natCast_add, psC, hi, tokR, PS.place]
  exact ⟨fun h => by rw [if_pos (of_decide_eq_true h)], fun h => by rw [if_neg (of_decide_eq_false h)]⟩
theorem stop_ok (hl : L 17 = none) (p : PS) (x : Int) : Meth L 17 [int x] p (.tup []) (p.stop x) := by
  refine meth_fn (ids := []) hl Tryd.func17 Tryd.ntmps17 Tryd.results17 (by simp) ⟨_, rfl, by kernel_rfl, ?_⟩
  simp (contextual := true) (implicitDefEqProofs := false) [-decide_eq_true_eq, -decide_eq_false_iff_not, -Bool.not_and, -Bool.not_or, -Bool.and_eq_false_imp, -Int.natCast_add, psC, PS.stop]
  exact ⟨fun h => by rw [if_pos (of_decide_eq_true h)]; simp, fun h => by rw [if_neg (of_decide_eq_false h)]; simp⟩
theorem on0 (hl : L 21 = none) {l : List Tk} {k e : Nat} {no : Int} {bl inn : Nat} {bx : List Bx} {gr : List (Nat × Nat)} (kind : Int) : callE (EV Tryd.prog L) 21 (.ptr 0 0 :: [int kind]) ⟨.cells [.sl (l.map tokR) .unk, int k, int e, int no, int bl, int inn] :: bx, gr⟩ = some (boo (PS.on (PS.mk l k e no bl inn) kind), ⟨.cells [.sl (l.map tokR) .unk, int k, int e, int no, int bl, int inn] :: bx, gr⟩) :=
  (on_ok hl ⟨l, k, e, no, bl, inn⟩ kind).call rfl rfl rfl rfl
theorem on1 (hl : L 21 = none) {x0 : Bx} {l : List Tk} {k e : Nat} {no : Int} {bl inn : Nat} {bx : List Bx} {gr : List (Nat × Nat)} (kind : Int) : callE (EV Tryd.prog L) 21 (.ptr 1 0 :: [int kind]) ⟨x0 :: .cells [.sl (l.map tokR) .unk, int k, int e, int no, int bl, int inn] :: bx, gr⟩ = some (boo (PS.on (PS.mk l k e no bl inn) kind), ⟨x0 :: .cells [.sl (l.map tokR) .unk, int k, int e, int no, int bl, int inn] :: bx, gr⟩) :=
  (on_ok hl ⟨l, k, e, no, bl, inn⟩ kind).call rfl rfl rfl rfl
theorem place0 (hl : L 18 = none) {l : List Tk} {k e : Nat} {no : Int} {bl inn : Nat} {bx : List Bx} {gr : List (Nat × Nat)}  : callE (EV Tryd.prog L) 18 (.ptr 0 0 :: []) ⟨.cells [.sl (l.map tokR) .unk, int k, int e, int no, int bl, int inn] :: bx, gr⟩ = some (int (PS.place (PS.mk l k e no bl inn)), ⟨.cells [.sl (l.map tokR) .unk, int k, int e, int no, int bl, int inn] :: bx, gr⟩) :=
  (place_ok hl ⟨l, k, e, no, bl, inn⟩ ).call rfl rfl rfl rfl
theorem place1 (hl : L 18 = none) {x0 : Bx} {l : List Tk} {k e : Nat} {no : Int} {bl inn : Nat} {bx : List Bx} {gr : List (Nat × Nat)}  : callE (EV Tryd.prog L) 18 (.ptr 1 0 :: []) ⟨x0 :: .cells [.sl (l.map tokR) .unk, int k, int e, int no, int bl, int inn] :: bx, gr⟩ = some (int (PS.place (PS.mk l k e no bl inn)), ⟨x0 :: .cells [.sl (l.map tokR) .unk, int k, int e, int no, int bl, int inn] :: bx, gr⟩) :=
  (place_ok hl ⟨l, k, e, no, bl, inn⟩ ).call rfl rfl rfl rfl
theorem stop0 (hl : L 17 = none) {l : List Tk} {k e : Nat} {no : Int} {bl inn : Nat} {bx : List Bx} {gr : List (Nat × Nat)} (x : Int) : callE (EV Tryd.prog L) 17 (.ptr 0 0 :: [int x]) ⟨.cells [.sl (l.map tokR) .unk, int k, int e, int no, int bl, int inn] :: bx, gr⟩ = some (.tup [], ⟨.cells [.sl ((PS.stop (PS.mk l k e no bl inn) x).l.map tokR) .unk, int (PS.stop (PS.mk l k e no bl inn) x).k, int (PS.stop (PS.mk l k e no bl inn) x).e, int (PS.stop (PS.mk l k e no bl inn) x).no, int (PS.stop (PS.mk l k e no bl inn) x).bl, int (PS.stop (PS.mk l k e no bl inn) x).inn] :: bx, gr⟩) :=
  (stop_ok hl ⟨l, k, e, no, bl, inn⟩ x).call rfl rfl rfl rfl
theorem stop1 (hl : L 17 = none) {x0 : Bx} {l : List Tk} {k e : Nat} {no : Int} {bl inn : Nat} {bx : List Bx} {gr : List (Nat × Nat)} (x : Int) : callE (EV Tryd.prog L) 17 (.ptr 1 0 :: [int x]) ⟨x0 :: .cells [.sl (l.map tokR) .unk, int k, int e, int no, int bl, int inn] :: bx, gr⟩ = some (.tup [], ⟨x0 :: .cells [.sl ((PS.stop (PS.mk l k e no bl inn) x).l.map tokR) .unk, int (PS.stop (PS.mk l k e no bl inn) x).k, int (PS.stop (PS.mk l k e no bl inn) x).e, int (PS.stop (PS.mk l k e no bl inn) x).no, int (PS.stop (PS.mk l k e no bl inn) x).bl, int (PS.stop (PS.mk l k e no bl inn) x).inn] :: bx, gr⟩) :=
  (stop_ok hl ⟨l, k, e, no, bl, inn⟩ x).call rfl rfl rfl rfl
theorem word_ok (hl : Free L [21, 36]) (p : PS) (kind : Int) (s : ByteArray) : Meth L 36 [int kind, str s] p (boo (p.word kind s.data.toList)) p := by
  refine meth_fn (ids := []) (hl _ (by simp)) Tryd.func36 Tryd.ntmps36 Tryd.results36 (by simp) ⟨_, rfl, by kernel_rfl, ?_⟩
  have hi : decide (p.k < p.l.length) = true → idx 4 (p.l.map tokR) (p.k : Int) = some (.el (tokR p.tok) 0) := idx_tok
  have hon : p.on kind = true → decide (p.k < p.l.length) = true := fun h => by unfold PS.on at h; simp at h; simp [h]
  have ho := fun bx gr => on0 (hl _ (by simp)) (l := p.l) (k := p.k) (e := p.e) (no := p.no) (bl := p.bl) (inn := p.inn) (bx := bx) (gr := gr) kind
  simp (contextual := true) (implicitDefEqProofs := false) [-decide_eq_true_eq, -decide_eq_false_iff_not, -Bool.not_and, -Bool.not_or, -Bool.and_eq_false_imp, -Int.natCast_add, psB, psC, hi, tokR, ho, hon, PS.word, PS.text, strOf_inj]
  rfl
/-- The place of a text in a row. -/
def idxG (v : List UInt8) : List (List UInt8) → Nat → Int
  | [], _ => -1
  | x :: xs, i => if v = x then i else idxG v xs (i + 1)
theorem idxG_has (v : List UInt8) : ∀ (l : List (List UInt8)) (i : Nat), 0 ≤ idxG v l i ↔ v ∈ l
  | [], i => by simp [idxG]
  | x :: xs, i => by
    simp only [idxG]
    split
    · rename_i h; subst h; simp
    · rename_i h
      rw [idxG_has v xs (i + 1)]
      simp [h]
theorem index_ok (hl : L 31 = none) (l : List (List UInt8)) (v : ByteArray) (hn : l.length < 4611686018427387904) : callE (EV Tryd.prog L) 31 [strsB l, str v] σ = some (int (idxG v.data.toList l 0), σ) := by
  refine call_fn hl Tryd.func31 Tryd.ntmps31 Tryd.results31 (by simp) rfl rfl (ids := []) ⟨_, rfl, by kernel_rfl, ?_⟩
  simp (contextual := true) (implicitDefEqProofs := false) [-decide_eq_true_eq, -decide_eq_false_iff_not, -Bool.not_and, -Bool.not_or, -Bool.and_eq_false_imp, -Int.natCast_add, strsB]
  refine WP.each l (fun rest i s' => s'.sto = ⟨[], []⟩ ∧ s'.env 0 = strsB l ∧ s'.env 1 = str v ∧ s'.env 7 = int l.length ∧ s'.env 8 = int i ∧ idxG v.data.toList rest i = idxG v.data.toList l 0) ⟨rfl, by simp [strsB], by simp, by simp, by simp, rfl⟩ ?_ ?_
  · rintro x xs i ⟨env, τ⟩ hx hi hxs ⟨h1, h2, h3, h4, h5, h6⟩
    simp only at h1 h2 h3 h4 h5
    subst h1
    have hix : idx 1 (l.map fun x => [.im (.string (strOf x))]) i = some (.el [.im (.string (strOf x))] 0) := idx_get (by rw [List.getElem?_map, hx]; rfl) rfl
    have hlt : decide (i < l.length) = true := by simp [hi]
    have hw : IntKind.wrap .i64 ((i : Int) + 1) = ((i + 1 : Nat) : Int) := wrap_succ (by omega)
    have he : decide (v = strOf x) = decide (v.data.toList = x) := by
      have : v = strOf x ↔ v.data.toList = x := ⟨fun h => by rw [h, strOf_list], fun h => by rw [← h, strOf_self]⟩
      simp [this]
    simp (contextual := true) (implicitDefEqProofs := false) [-decide_eq_true_eq, -decide_eq_false_iff_not, -Bool.not_and, -Bool.not_or, -Bool.and_eq_false_imp, -Int.natCast_add, h2, h3, h4, h5, hlt, strsB, hix, he, hw]
    simp only [idxG] at h6
    refine ⟨fun e => ?_, fun e => ?_⟩
    · rw [if_pos (of_decide_eq_true e)] at h6; rw [← h6]
    · rw [if_neg (of_decide_eq_false e)] at h6; exact h6
  · rintro ⟨env, τ⟩ ⟨h1, h2, h3, h4, h5, h6⟩
    simp only at h1 h2 h3 h4 h5
    subst h1
    simp (contextual := true) (implicitDefEqProofs := false) [-decide_eq_true_eq, -decide_eq_false_iff_not, -Bool.not_and, -Bool.not_or, -Bool.and_eq_false_imp, -Int.natCast_add, h2, h3, h4, h5]
    rw [← h6]; rfl
theorem contains_ok (hl : Free L [31, 14]) (l : List (List UInt8)) (v : ByteArray) (hn : l.length < 4611686018427387904) : callE (EV Tryd.prog L) 14 [strsB l, str v] σ = some (boo (l.contains v.data.toList), σ) := by
  refine call_fn (hl _ (by simp)) Tryd.func14 Tryd.ntmps14 Tryd.results14 (by simp) rfl rfl (ids := []) ⟨_, rfl, by kernel_rfl, ?_⟩
  have hi := fun σ => index_ok (L := L) (σ := σ) (hl _ (by simp)) l v hn
  simp only [strsB] at hi
  simp (contextual := true) (implicitDefEqProofs := false) [-decide_eq_true_eq, -decide_eq_false_iff_not, -Bool.not_and, -Bool.not_or, -Bool.and_eq_false_imp, -Int.natCast_add, strsB, hi]
  exact idxG_has _ _ _
theorem res_bytes : resBytes.length = 82 ∧ (resBytes.all fun b => decide (b.toNat < 128)) = true := by decide
theorem res_len : resL.length = 16 := by decide
theorem reserved_ok (hl : Free L [31, 14, 6]) (hF : L 15 = some fieldsH) (s : ByteArray) : callE (EV Tryd.prog L) 6 [str s] σ = some (boo (reserved s.data.toList), σ) := by
  refine call_fn (hl _ (by simp)) Tryd.func6 Tryd.ntmps6 Tryd.results6 (by simp) rfl rfl (ids := []) ⟨_, rfl, by kernel_rfl, ?_⟩
  have hfl := fun σ => fields_ok (L := L) (σ := σ) hF (strOf resBytes) (by rw [strOf_size, strOf_list]; exact ⟨by rw [res_bytes.1]; omega, res_bytes.2⟩)
  have hc := fun σ => contains_ok (L := L) (σ := σ) (hl.sub (by simp)) resL s (by rw [res_len]; omega)
  rw [strOf_list] at hfl
  simp only [strOf, resBytes] at hfl
  simp only [resL, resBytes] at hc
  simp (contextual := true) (implicitDefEqProofs := false) [-decide_eq_true_eq, -decide_eq_false_iff_not, -Bool.not_and, -Bool.not_or, -Bool.and_eq_false_imp, -Int.natCast_add, hfl, hc, resL, resBytes, reserved]
end Go.Proofs.YtfgoedndpcblpaaDoor.Pv
end

section
/- The parser's functions: what they come to (2). -/
namespace Go.Proofs.YtfgoedndpcblpaaDoor.Pv
open Go Go.Proofs Go.Proofs.YtfgoedndpcblpaaDoor.Lx Go.Proofs.YtfgoedndpcblpaaDoor.Ps
set_option linter.unusedSimpArgs false
set_option linter.unusedVariables false
variable {L : Lib} {σ : Sto}

@[simp] theorem PS.eta (q : PS) : PS.mk q.l q.k q.e q.no q.bl q.inn = q := rfl
theorem on_lt {p : PS} {kind : Int} (h : p.on kind = true) : decide (p.k < p.l.length) = true := by unfold PS.on at h; simp at h; simp [h]
theorem word_on {p : PS} {kind : Int} {s : List UInt8} (h : p.word kind s = true) : p.on kind = true := by unfold PS.word at h; simp at h; exact h.1
theorem go_wrap {p : PS} (hv : p.l.length < 4611686018427387904) (h : decide (p.k < p.l.length) = true) : IntKind.wrap .i64 ((p.k : Int) + 1) = ((p.k + 1 : Nat) : Int) := by
  have := of_decide_eq_true h
  exact wrap_succ (by omega)
theorem word0 (hl : Free L [21, 36]) {l : List Tk} {k e : Nat} {no : Int} {bl inn : Nat} {bx : List Bx} {gr : List (Nat × Nat)} (kind : Int) (s : ByteArray) : callE (EV Tryd.prog L) 36 (.ptr 0 0 :: [int kind, str s]) ⟨.cells [.sl (l.map tokR) .unk, int k, int e, int no, int bl, int inn] :: bx, gr⟩ = some (boo (PS.word (PS.mk l k e no bl inn) kind s.data.toList), ⟨.cells [.sl (l.map tokR) .unk, int k, int e, int no, int bl, int inn] :: bx, gr⟩) :=
  (word_ok hl ⟨l, k, e, no, bl, inn⟩ kind s).call rfl rfl rfl rfl
theorem word1 (hl : Free L [21, 36]) {x0 : Bx} {l : List Tk} {k e : Nat} {no : Int} {bl inn : Nat} {bx : List Bx} {gr : List (Nat × Nat)} (kind : Int) (s : ByteArray) : callE (EV Tryd.prog L) 36 (.ptr 1 0 :: [int kind, str s]) ⟨x0 :: .cells [.sl (l.map tokR) .unk, int k, int e, int no, int bl, int inn] :: bx, gr⟩ = some (boo (PS.word (PS.mk l k e no bl inn) kind s.data.toList), ⟨x0 :: .cells [.sl (l.map tokR) .unk, int k, int e, int no, int bl, int inn] :: bx, gr⟩) :=
  (word_ok hl ⟨l, k, e, no, bl, inn⟩ kind s).call rfl rfl rfl rfl
theorem take_ok (hl : Free L [21, 36, 43]) (p : PS) (hv : p.l.length < 4611686018427387904) (kind : Int) (s : ByteArray) : Meth L 43 [int kind, str s] p (boo (p.take kind s.data.toList).1) (p.take kind s.data.toList).2 := by
  refine meth_fn (ids := []) (hl _ (by simp)) Tryd.func43 Tryd.ntmps43 Tryd.results43 (by simp) ⟨_, rfl, by kernel_rfl, ?_⟩
  have hw := fun bx gr => word0 (hl.sub (by simp)) (l := p.l) (k := p.k) (e := p.e) (no := p.no) (bl := p.bl) (inn := p.inn) (bx := bx) (gr := gr) kind s
  have hg : p.word kind s.data.toList = true → IntKind.wrap .i64 ((p.k : Int) + 1) = ((p.k + 1 : Nat) : Int) := fun h => go_wrap hv (on_lt (word_on h))
  simp (contextual := true) (implicitDefEqProofs := false) [-decide_eq_true_eq, -decide_eq_false_iff_not, -Bool.not_and, -Bool.not_or, -Bool.and_eq_false_imp, -Int.natCast_add, psB, psC, hw, hg, PS.take, PS.go]
theorem take0 (hl : Free L [21, 36, 43]) {l : List Tk} {k e : Nat} {no : Int} {bl inn : Nat} {bx : List Bx} {gr : List (Nat × Nat)} (hv : l.length < 4611686018427387904) (kind : Int) (s : ByteArray) : callE (EV Tryd.prog L) 43 (.ptr 0 0 :: [int kind, str s]) ⟨.cells [.sl (l.map tokR) .unk, int k, int e, int no, int bl, int inn] :: bx, gr⟩ = some (boo (PS.take (PS.mk l k e no bl inn) kind s.data.toList).1, ⟨.cells [.sl ((PS.take (PS.mk l k e no bl inn) kind s.data.toList).2.l.map tokR) .unk, int (PS.take (PS.mk l k e no bl inn) kind s.data.toList).2.k, int (PS.take (PS.mk l k e no bl inn) kind s.data.toList).2.e, int (PS.take (PS.mk l k e no bl inn) kind s.data.toList).2.no, int (PS.take (PS.mk l k e no bl inn) kind s.data.toList).2.bl, int (PS.take (PS.mk l k e no bl inn) kind s.data.toList).2.inn] :: bx, gr⟩) :=
  (take_ok hl ⟨l, k, e, no, bl, inn⟩ hv kind s).call rfl rfl rfl rfl
theorem take1 (hl : Free L [21, 36, 43]) {x0 : Bx} {l : List Tk} {k e : Nat} {no : Int} {bl inn : Nat} {bx : List Bx} {gr : List (Nat × Nat)} (hv : l.length < 4611686018427387904) (kind : Int) (s : ByteArray) : callE (EV Tryd.prog L) 43 (.ptr 1 0 :: [int kind, str s]) ⟨x0 :: .cells [.sl (l.map tokR) .unk, int k, int e, int no, int bl, int inn] :: bx, gr⟩ = some (boo (PS.take (PS.mk l k e no bl inn) kind s.data.toList).1, ⟨x0 :: .cells [.sl ((PS.take (PS.mk l k e no bl inn) kind s.data.toList).2.l.map tokR) .unk, int (PS.take (PS.mk l k e no bl inn) kind s.data.toList).2.k, int (PS.take (PS.mk l k e no bl inn) kind s.data.toList).2.e, int (PS.take (PS.mk l k e no bl inn) kind s.data.toList).2.no, int (PS.take (PS.mk l k e no bl inn) kind s.data.toList).2.bl, int (PS.take (PS.mk l k e no bl inn) kind s.data.toList).2.inn] :: bx, gr⟩) :=
  (take_ok hl ⟨l, k, e, no, bl, inn⟩ hv kind s).call rfl rfl rfl rfl
theorem take_l (p : PS) (kind : Int) (s : List UInt8) : (p.take kind s).2.l = p.l := by unfold PS.take; split <;> rfl
theorem need_eq (p : PS) (s : List UInt8) : p.need s = if (p.take 2 s).1 = true then (p.take 2 s).2 else (p.take 2 s).2.stop 130 := by
  unfold PS.need PS.take
  split <;> simp
theorem need_ok (hl : Free L [21, 36, 43, 17, 40]) (p : PS) (hv : p.l.length < 4611686018427387904) (s : ByteArray) : Meth L 40 [str s] p (.tup []) (p.need s.data.toList) := by
  refine meth_fn (ids := []) (hl _ (by simp)) Tryd.func40 Tryd.ntmps40 Tryd.results40 (by simp) ⟨_, rfl, by kernel_rfl, ?_⟩
  have ht := fun bx gr => take0 (hl.sub (by simp)) (l := p.l) (k := p.k) (e := p.e) (no := p.no) (bl := p.bl) (inn := p.inn) (bx := bx) (gr := gr) hv 2 s
  have hs := fun l k e no bl inn bx gr => stop0 (hl _ (by simp)) (l := l) (k := k) (e := e) (no := no) (bl := bl) (inn := inn) (bx := bx) (gr := gr) 130
  rw [need_eq]
  simp (contextual := true) (implicitDefEqProofs := false) [-decide_eq_true_eq, -decide_eq_false_iff_not, -Bool.not_and, -Bool.not_or, -Bool.and_eq_false_imp, -Int.natCast_add, psB, psC, ht, hs]
theorem need0 (hl : Free L [21, 36, 43, 17, 40]) {l : List Tk} {k e : Nat} {no : Int} {bl inn : Nat} {bx : List Bx} {gr : List (Nat × Nat)} (hv : l.length < 4611686018427387904) (s : ByteArray) : callE (EV Tryd.prog L) 40 (.ptr 0 0 :: [str s]) ⟨.cells [.sl (l.map tokR) .unk, int k, int e, int no, int bl, int inn] :: bx, gr⟩ = some (.tup [], ⟨.cells [.sl ((PS.need (PS.mk l k e no bl inn) s.data.toList).l.map tokR) .unk, int (PS.need (PS.mk l k e no bl inn) s.data.toList).k, int (PS.need (PS.mk l k e no bl inn) s.data.toList).e, int (PS.need (PS.mk l k e no bl inn) s.data.toList).no, int (PS.need (PS.mk l k e no bl inn) s.data.toList).bl, int (PS.need (PS.mk l k e no bl inn) s.data.toList).inn] :: bx, gr⟩) :=
  (need_ok hl ⟨l, k, e, no, bl, inn⟩ hv s).call rfl rfl rfl rfl
theorem need1 (hl : Free L [21, 36, 43, 17, 40]) {x0 : Bx} {l : List Tk} {k e : Nat} {no : Int} {bl inn : Nat} {bx : List Bx} {gr : List (Nat × Nat)} (hv : l.length < 4611686018427387904) (s : ByteArray) : callE (EV Tryd.prog L) 40 (.ptr 1 0 :: [str s]) ⟨x0 :: .cells [.sl (l.map tokR) .unk, int k, int e, int no, int bl, int inn] :: bx, gr⟩ = some (.tup [], ⟨x0 :: .cells [.sl ((PS.need (PS.mk l k e no bl inn) s.data.toList).l.map tokR) .unk, int (PS.need (PS.mk l k e no bl inn) s.data.toList).k, int (PS.need (PS.mk l k e no bl inn) s.data.toList).e, int (PS.need (PS.mk l k e no bl inn) s.data.toList).no, int (PS.need (PS.mk l k e no bl inn) s.data.toList).bl, int (PS.need (PS.mk l k e no bl inn) s.data.toList).inn] :: bx, gr⟩) :=
  (need_ok hl ⟨l, k, e, no, bl, inn⟩ hv s).call rfl rfl rfl rfl
theorem name_ok (hl : Free L [21, 6, 14, 31, 17, 41]) (hF : L 15 = some fieldsH) (p : PS) (hv : p.l.length < 4611686018427387904) : Meth L 41 [] p (str p.name.1) p.name.2 := by
  refine meth_fn (ids := []) (hl _ (by simp)) Tryd.func41 Tryd.ntmps41 Tryd.results41 (by simp) ⟨_, rfl, by kernel_rfl, ?_⟩
  have hi : decide (p.k < p.l.length) = true → idx 4 (p.l.map tokR) (p.k : Int) = some (.el (tokR p.tok) 0) := idx_tok
  have ho := fun bx gr => on0 (hl _ (by simp)) (l := p.l) (k := p.k) (e := p.e) (no := p.no) (bl := p.bl) (inn := p.inn) (bx := bx) (gr := gr) 0
  have hon : p.on 0 = true → decide (p.k < p.l.length) = true := on_lt
  have hg : p.on 0 = true → IntKind.wrap .i64 ((p.k : Int) + 1) = ((p.k + 1 : Nat) : Int) := fun h => go_wrap hv (on_lt h)
  have hs := fun l k e no bl inn bx gr => stop0 (hl _ (by simp)) (l := l) (k := k) (e := e) (no := no) (bl := bl) (inn := inn) (bx := bx) (gr := gr) 130
  have hr := fun σ s => reserved_ok (L := L) (σ := σ) (hl.sub (by simp)) hF s
  have hb : p.on 0 = true → IntKind.wrap .i64 (((p.k + 1 : Nat) : Int) - 1) = (p.k : Int) := fun h => by
    have := of_decide_eq_true (on_lt h)
    rw [wrap_of (by omega)]; omega
  simp (contextual := true) (implicitDefEqProofs := false) [-decide_eq_true_eq, -decide_eq_false_iff_not, -Bool.not_and, -Bool.not_or, -Bool.and_eq_false_imp, -Int.natCast_add, psB, psC, hi, tokR, ho, hon, hg, hs, hr, hb, strOf_list, PS.name, PS.go, PS.text]
theorem name0 (hl : Free L [21, 6, 14, 31, 17, 41]) (hF : L 15 = some fieldsH) {l : List Tk} {k e : Nat} {no : Int} {bl inn : Nat} {bx : List Bx} {gr : List (Nat × Nat)} (hv : l.length < 4611686018427387904) : callE (EV Tryd.prog L) 41 (.ptr 0 0 :: []) ⟨.cells [.sl (l.map tokR) .unk, int k, int e, int no, int bl, int inn] :: bx, gr⟩ = some (str (PS.name (PS.mk l k e no bl inn)).1, ⟨.cells [.sl ((PS.name (PS.mk l k e no bl inn)).2.l.map tokR) .unk, int (PS.name (PS.mk l k e no bl inn)).2.k, int (PS.name (PS.mk l k e no bl inn)).2.e, int (PS.name (PS.mk l k e no bl inn)).2.no, int (PS.name (PS.mk l k e no bl inn)).2.bl, int (PS.name (PS.mk l k e no bl inn)).2.inn] :: bx, gr⟩) :=
  (name_ok hl hF ⟨l, k, e, no, bl, inn⟩ hv).call rfl rfl rfl rfl
theorem name1 (hl : Free L [21, 6, 14, 31, 17, 41]) (hF : L 15 = some fieldsH) {x0 : Bx} {l : List Tk} {k e : Nat} {no : Int} {bl inn : Nat} {bx : List Bx} {gr : List (Nat × Nat)} (hv : l.length < 4611686018427387904) : callE (EV Tryd.prog L) 41 (.ptr 1 0 :: []) ⟨x0 :: .cells [.sl (l.map tokR) .unk, int k, int e, int no, int bl, int inn] :: bx, gr⟩ = some (str (PS.name (PS.mk l k e no bl inn)).1, ⟨x0 :: .cells [.sl ((PS.name (PS.mk l k e no bl inn)).2.l.map tokR) .unk, int (PS.name (PS.mk l k e no bl inn)).2.k, int (PS.name (PS.mk l k e no bl inn)).2.e, int (PS.name (PS.mk l k e no bl inn)).2.no, int (PS.name (PS.mk l k e no bl inn)).2.bl, int (PS.name (PS.mk l k e no bl inn)).2.inn] :: bx, gr⟩) :=
  (name_ok hl hF ⟨l, k, e, no, bl, inn⟩ hv).call rfl rfl rfl rfl
/-- Cells that lead nowhere, and of which no row grows. -/
structure Lone (cs : List PV) : Prop where
  ptrs : ptrsL cs = []
  tags : tagsL cs = []
  ren : ∀ (ρ : Nat → Option Nat) (τ : Tag → Tag), τ .unk = .unk → τ .full = .full → renL ρ τ cs = some cs
theorem psC_flat (p : PS) : Lone (psC p) := ⟨rfl, rfl, fun ρ τ h _ => (psC_plain p).2.2 ρ τ h⟩
theorem deeper_ok (hl : Free L [17, 60]) (p : PS) (hi : p.inn ≤ 32) : ∃ more gr, EV Tryd.prog L 60 [.ptr 0 0, .ptr 0 5, int 32] ⟨[psB p], []⟩ = some (boo (decide (p.inn < 32)), ⟨psB p.deep :: more, gr⟩) := by
  refine meth_fn (args := [.ptr 0 5, int 32]) (ids := []) (hl _ (by simp)) Tryd.func60 Tryd.ntmps60 Tryd.results60 (by simp) ⟨_, rfl, by kernel_rfl, ?_⟩
  have hs := fun l k e no bl inn bx gr => stop0 (hl _ (by simp)) (l := l) (k := k) (e := e) (no := no) (bl := bl) (inn := inn) (bx := bx) (gr := gr) 131
  have hw : IntKind.wrap .i64 ((p.inn : Int) + 1) = ((p.inn + 1 : Nat) : Int) := wrap_succ (by omega)
  simp (contextual := true) (implicitDefEqProofs := false) [-decide_eq_true_eq, -decide_eq_false_iff_not, -Bool.not_and, -Bool.not_or, -Bool.and_eq_false_imp, -Int.natCast_add, psB, psC, hs, hw]
  refine ⟨fun e => ?_, fun e => ?_⟩
  · have e' := of_decide_eq_true e
    have : p.deep = p.stop 131 := if_pos (by omega)
    rw [this]; exact ⟨by omega, rfl, rfl, rfl, rfl, rfl, rfl⟩
  · have e' := of_decide_eq_false e
    have : p.deep = { p with inn := p.inn + 1 } := if_neg (by omega)
    rw [this]; exact ⟨by omega, rfl, rfl, rfl, rfl, rfl, rfl⟩
theorem call_deeper (hl : Free L [17, 60]) (p : PS) (hi : p.inn ≤ 32) (bx : List Bx) (gr : List (Nat × Nat)) : callE (EV Tryd.prog L) 60 [.ptr 0 0, .ptr 0 5, int 32] ⟨psB p :: bx, gr⟩ = some (boo (decide (p.inn < 32)), ⟨psB p.deep :: bx, gr⟩) := by
  obtain ⟨more, gr0, h⟩ := deeper_ok hl p hi
  have f1 := psC_flat p
  have f2 := psC_flat p.deep
  unfold callE
  have e0 : gather (psB p :: bx) 64 (ptrsL [.ptr 0 0, .ptr 0 5, int 32]) [] = [0] := by
    simp [ptrsL, PV.ptrs, gather, ptrsAt, Bx.ptrs, f1.ptrs]
  have e1 : tagsB (psB p :: bx) [0] = [] := by simp [tagsB, tagsAt, Bx.tags, f1.tags]
  rw [e0, e1]
  simp only [dd]
  unfold callIn
  have e2 : renL (find [0]) (fun _ => .unk) [.ptr 0 0, .ptr 0 5, int 32] = some [.ptr 0 0, .ptr 0 5, int 32] := rfl
  have e3 : selE ⟨psB p :: bx, gr⟩ [0] [] = some ⟨[psB p], []⟩ := by simp [selE, pickL, renBs, Bx.ren, f1.ren _ (Tag.sel []) rfl rfl]
  rw [e2, e3]
  simp only [h]
  unfold callBack
  have e4 : gather (psB p.deep :: more) 64 ((boo (decide (p.inn < 32))).ptrs ++ ptrsUpto (psB p.deep :: more) [0].length) (iota [0].length) = [0] := by
    simp [ptrsUpto, ptrsAt, Bx.ptrs, f2.ptrs, iota, gather]
  have e5 : tagsB (psB p.deep :: more) [0] = [] := by simp [tagsB, tagsAt, Bx.tags, f2.tags]
  have e6 : selE ⟨psB p.deep :: more, gr0⟩ [0] [] = some ⟨[psB p.deep], []⟩ := by simp [selE, pickL, renBs, Bx.ren, f2.ren _ (Tag.sel []) rfl rfl]
  rw [e4, e5]
  simp only [dd, iota, List.length_nil]
  rw [e6]
  simp [PV.ren, renBs, Bx.ren, f2.ren _ (Tag.back [] gr.length 0) rfl rfl, backL, putMany]
/-- What a function that is made within the parser's does: the parser, and the expression that is being read, are others. -/
def Clo (L : Lib) (F : FuncId) (p : PS) (e : List PV) (p' : PS) (e' : List PV) : Prop := ∃ more gr, EV Tryd.prog L F [.ptr 0 0, .ptr 2 0] ⟨[.cells [.ptr 1 0], psB p, .cells e], []⟩ = some (.tup [], ⟨.cells [.ptr 1 0] :: psB p' :: .cells e' :: more, gr⟩)
theorem Clo.call {F : FuncId} {p p' : PS} {e e' : List PV} (h : Clo L F p e p' e') (he : Lone e) (he' : Lone e') (gr : List (Nat × Nat)) : callE (EV Tryd.prog L) F [.ptr 1 0, .ptr 2 0] ⟨[psB p, .cells [.ptr 0 0], .cells e], gr⟩ = some (.tup [], ⟨[psB p', .cells [.ptr 0 0], .cells e'], gr⟩) := by
  obtain ⟨more, gr0, h⟩ := h
  have f1 := psC_flat p
  have f2 := psC_flat p'
  unfold callE
  have e0 : gather [psB p, .cells [.ptr 0 0], .cells e] 64 (ptrsL [.ptr 1 0, .ptr 2 0]) [] = [1, 0, 2] := by
    simp [ptrsL, PV.ptrs, gather, ptrsAt, Bx.ptrs, f1.ptrs, he.ptrs]
  have e1 : tagsB [psB p, .cells [.ptr 0 0], .cells e] [1, 0, 2] = [] := by simp [tagsB, tagsAt, Bx.tags, f1.tags, he.tags, tagsL, PV.tags]
  rw [e0, e1]
  simp only [dd]
  unfold callIn
  have e2 : renL (find [1, 0, 2]) (fun _ => .unk) [.ptr 1 0, .ptr 2 0] = some [.ptr 0 0, .ptr 2 0] := rfl
  have e3 : selE ⟨[psB p, .cells [.ptr 0 0], .cells e], gr⟩ [1, 0, 2] [] = some ⟨[.cells [.ptr 1 0], psB p, .cells e], []⟩ := by
    simp [selE, pickL, renBs, Bx.ren, f1.ren _ (Tag.sel []) rfl rfl, he.ren _ (Tag.sel []) rfl rfl, renL, PV.ren, find]
  rw [e2, e3]
  simp only [h]
  unfold callBack
  have e4 : gather (.cells [.ptr 1 0] :: psB p' :: .cells e' :: more) 64 ((PV.tup []).ptrs ++ ptrsUpto (.cells [.ptr 1 0] :: psB p' :: .cells e' :: more) [1, 0, 2].length) (iota [1, 0, 2].length) = [0, 1, 2] := by
    simp [ptrsUpto, ptrsAt, Bx.ptrs, f2.ptrs, he'.ptrs, iota, gather, ptrsL, PV.ptrs]
  have e5 : tagsB (.cells [.ptr 1 0] :: psB p' :: .cells e' :: more) [0, 1, 2] = [] := by simp [tagsB, tagsAt, Bx.tags, f2.tags, he'.tags, tagsL, PV.tags]
  have e6 : selE ⟨.cells [.ptr 1 0] :: psB p' :: .cells e' :: more, gr0⟩ [0, 1, 2] [] = some ⟨[.cells [.ptr 1 0], psB p', .cells e'], []⟩ := by
    simp [selE, pickL, renBs, Bx.ren, f2.ren _ (Tag.sel []) rfl rfl, he'.ren _ (Tag.sel []) rfl rfl, renL, PV.ren, find]
  rw [e4, e5]
  simp only [dd, iota, List.length_nil]
  rw [e6]
  simp [PV.ren, renL, renBs, Bx.ren, f2.ren _ (Tag.back [] gr.length 0) rfl rfl, he'.ren _ (Tag.back [] gr.length 0) rfl rfl, backL, putMany, backB]
/-- What within does, with such a function. -/
def Wit (L : Lib) (F : FuncId) (p : PS) (e : List PV) (p' : PS) (e' : List PV) : Prop := ∃ more gr, EV Tryd.prog L 37 [.ptr 0 0, .fn (.func F) [.ptr 1 0, .ptr 2 0]] ⟨[psB p, .cells [.ptr 0 0], .cells e], []⟩ = some (.tup [], ⟨psB p' :: .cells [.ptr 0 0] :: .cells e' :: more, gr⟩)
theorem Wit.call {F : FuncId} {p p' : PS} {e e' : List PV} (h : Wit L F p e p' e') (he : Lone e) (he' : Lone e') (x2 : Bx) (gr : List (Nat × Nat)) : callE (EV Tryd.prog L) 37 [.ptr 0 0, .fn (.func F) [.ptr 1 0, .ptr 3 0]] ⟨[psB p, .cells [.ptr 0 0], x2, .cells e], gr⟩ = some (.tup [], ⟨[psB p', .cells [.ptr 0 0], x2, .cells e'], gr⟩) := by
  obtain ⟨more, gr0, h⟩ := h
  have f1 := psC_flat p
  have f2 := psC_flat p'
  unfold callE
  have e0 : gather [psB p, .cells [.ptr 0 0], x2, .cells e] 64 (ptrsL [.ptr 0 0, .fn (.func F) [.ptr 1 0, .ptr 3 0]]) [] = [0, 1, 3] := by
    simp [ptrsL, PV.ptrs, gather, ptrsAt, Bx.ptrs, f1.ptrs, he.ptrs]
  have e1 : tagsB [psB p, .cells [.ptr 0 0], x2, .cells e] [0, 1, 3] = [] := by simp [tagsB, tagsAt, Bx.tags, f1.tags, he.tags, tagsL, PV.tags]
  rw [e0, e1]
  simp only [dd]
  unfold callIn
  have e2 : renL (find [0, 1, 3]) (fun _ => .unk) [.ptr 0 0, .fn (.func F) [.ptr 1 0, .ptr 3 0]] = some [.ptr 0 0, .fn (.func F) [.ptr 1 0, .ptr 2 0]] := rfl
  have e3 : selE ⟨[psB p, .cells [.ptr 0 0], x2, .cells e], gr⟩ [0, 1, 3] [] = some ⟨[psB p, .cells [.ptr 0 0], .cells e], []⟩ := by
    simp [selE, pickL, renBs, Bx.ren, f1.ren _ (Tag.sel []) rfl rfl, he.ren _ (Tag.sel []) rfl rfl, renL, PV.ren, find]
  rw [e2, e3]
  simp only [h]
  unfold callBack
  have e4 : gather (psB p' :: .cells [.ptr 0 0] :: .cells e' :: more) 64 ((PV.tup []).ptrs ++ ptrsUpto (psB p' :: .cells [.ptr 0 0] :: .cells e' :: more) [0, 1, 3].length) (iota [0, 1, 3].length) = [0, 1, 2] := by
    simp [ptrsUpto, ptrsAt, Bx.ptrs, f2.ptrs, he'.ptrs, iota, gather, ptrsL, PV.ptrs]
  have e5 : tagsB (psB p' :: .cells [.ptr 0 0] :: .cells e' :: more) [0, 1, 2] = [] := by simp [tagsB, tagsAt, Bx.tags, f2.tags, he'.tags, tagsL, PV.tags]
  have e6 : selE ⟨psB p' :: .cells [.ptr 0 0] :: .cells e' :: more, gr0⟩ [0, 1, 2] [] = some ⟨[psB p', .cells [.ptr 0 0], .cells e'], []⟩ := by
    simp [selE, pickL, renBs, Bx.ren, f2.ren _ (Tag.sel []) rfl rfl, he'.ren _ (Tag.sel []) rfl rfl, renL, PV.ren, find]
  rw [e4, e5]
  simp only [dd, iota, List.length_nil]
  rw [e6]
  simp [PV.ren, renL, renBs, Bx.ren, f2.ren _ (Tag.back [] gr.length 0) rfl rfl, he'.ren _ (Tag.back [] gr.length 0) rfl rfl, backL, putMany, backB]
end Go.Proofs.YtfgoedndpcblpaaDoor.Pv
end

section
/- The parser's functions: what they come to (3): expressions. -/
namespace Go.Proofs.YtfgoedndpcblpaaDoor.Pv
open Go Go.Proofs Go.Proofs.YtfgoedndpcblpaaDoor.Lx Go.Proofs.YtfgoedndpcblpaaDoor.Ps
set_option linter.unusedSimpArgs false
set_option linter.unusedVariables false
variable {L : Lib} {σ : Sto}

mutual
/-- An expression's cells. -/
def exR : Ex → List FV
  | .mk op name n l a => [.im (.string op), .im (.string name), .im (.int .i64 n), .sl (exRs l), .im (.int .i64 a)]
def exRs : List Ex → List (List FV)
  | [] => []
  | x :: xs => exR x :: exRs xs
end
def exC : Ex → List PV
  | .mk op name n l a => [str op, str name, int n, .sl (exRs l) .unk, int a]
@[simp] theorem exC_flag (x : Ex) : flagged (exC x) = false := by cases x; rfl
theorem exC_lone (op name : ByteArray) (n : Int) (rows : List (List FV)) (t : Tag) (ht : t = .unk ∨ t = .full) (a : Int) : Lone [str op, str name, int n, .sl rows t, int a] := ⟨rfl, by rcases ht with rfl | rfl <;> rfl, fun ρ τ h1 h2 => by rcases ht with rfl | rfl <;> simp [renL, PV.ren, h1, h2]⟩
theorem exC_row (e : Ex) : toFs (exC e) = some (exR e) ∧ ptrsL (exC e) = [] ∧ eraL (exC e) = exC e := by cases e; exact ⟨rfl, rfl, rfl⟩
theorem within_deep (hl : Free L [17, 60, 37]) {F : FuncId} {p : PS} {e : List PV} (hi : p.inn = 32) : Wit L F p e (p.stop 131) e := by
  have hd := fun bx gr => call_deeper (hl.sub (by simp)) p (by omega) bx gr
  have hdp : p.deep = p.stop 131 := if_pos (by omega)
  rw [hdp] at hd
  simp only [psB, psC] at hd
  have hlt : decide (p.inn < 32) = false := by simp; omega
  refine ⟨[], [], EV_fn (ids := []) (hl _ (by simp)) Tryd.func37 rfl (by kernel_rfl) (by rw [Tryd.ntmps37]; simp) ?_⟩
  rw [Tryd.ntmps37, Tryd.results37]
  simp (contextual := true) (implicitDefEqProofs := false) [-decide_eq_true_eq, -decide_eq_false_iff_not, -Bool.not_and, -Bool.not_or, -Bool.and_eq_false_imp, -Int.natCast_add, psB, psC, hd, hlt]
theorem within_go (hl : Free L [17, 60, 37]) {F : FuncId} (hb : isBody Tryd.prog F = true) {p p1 : PS} {e e1 : List PV} (hi : p.inn < 32) (hk : p.k < 4611686018427387904) (he : Lone e) (he1 : Lone e1) (h1 : 1 ≤ p1.inn) (h2 : p1.inn ≤ 32) (hc : Clo L F { p with inn := p.inn + 1, k := p.k + 1 } e p1 e1) : Wit L F p e { p1 with inn := p1.inn - 1 } e1 := by
  have hd := fun bx gr => call_deeper (hl.sub (by simp)) p (by omega) bx gr
  have hdp : p.deep = { p with inn := p.inn + 1 } := if_neg (by omega)
  rw [hdp] at hd
  simp only [psB, psC] at hd
  have hlt : decide (p.inn < 32) = true := by simp; omega
  have hc' := fun gr => hc.call he he1 gr
  simp only [psB, psC] at hc'
  have hw : IntKind.wrap .i64 ((p.k : Int) + 1) = ((p.k + 1 : Nat) : Int) := wrap_succ (by omega)
  have hw2 : IntKind.wrap .i64 ((p1.inn : Int) - 1) = ((p1.inn - 1 : Nat) : Int) := by rw [wrap_of (by omega)]; omega
  refine ⟨[], [], EV_fn (ids := []) (hl _ (by simp)) Tryd.func37 rfl (by kernel_rfl) (by rw [Tryd.ntmps37]; simp) ?_⟩
  rw [Tryd.ntmps37, Tryd.results37]
  simp (contextual := true) (implicitDefEqProofs := false) [-decide_eq_true_eq, -decide_eq_false_iff_not, -Bool.not_and, -Bool.not_or, -Bool.and_eq_false_imp, -Int.natCast_add, psB, psC, hd, hlt, hc', hw, hw2, hb]
/-- What first, and expr, do: an expression is read. -/
def Ret (L : Lib) (f : FuncId) (args : List PV) (p : PS) (e : Ex) (p' : PS) : Prop := ∃ r, r.ptrs = [] ∧ r.era = .agg (exC e) ∧ Meth L f args p r p'
theorem Ret.call {f : FuncId} {args : List PV} {p p' : PS} {e : Ex} (h : Ret L f args p e p') (ha : ptrsL args = []) (he : eraL args = args) {b : Nat} (hb : σ.bx[b]? = some (psB p)) : callE (EV Tryd.prog L) f (.ptr b 0 :: args) σ = some (.agg (exC e), { σ with bx := σ.bx.set b (psB p') }) := by
  obtain ⟨r, h1, h2, h3⟩ := h
  rw [← h2]; exact h3.call ha he h1 hb
theorem exC_all (x : Ex) : (exC x).all PV.leaf = true ∧ (exC x).length = 5 ∧ (exR x).length = 5 ∧ (exR x).take 5 = exR x ∧ (exC x).take 5 = exC x := by cases x; exact ⟨rfl, rfl, rfl, rfl, rfl⟩
theorem clo_neg (hl : Free L [38]) {p p' : PS} {x : Ex} (op name : ByteArray) (n : Int) (rows : List (List FV)) (t : Tag) (a : Int) (h : Ret L 20 [] p x p') : Clo L 38 p [str op, str name, int n, .sl rows t, int a] p' [str op, str name, int n, .sl [exR x] .full, int a] := by
  have hc := fun x0 bx gr => h.call (σ := ⟨x0 :: psB p :: bx, gr⟩) rfl rfl (b := 1) rfl
  simp only [psB, psC, List.set_cons_succ, List.set_cons_zero] at hc
  have hx := exC_all x
  refine ⟨[], [], EV_fn (ids := []) (hl _ (by simp)) Tryd.func38 rfl (by kernel_rfl) (by rw [Tryd.ntmps38]; simp) ?_⟩
  rw [Tryd.ntmps38, Tryd.results38]
  simp (contextual := true) (implicitDefEqProofs := false) [-decide_eq_true_eq, -decide_eq_false_iff_not, -Bool.not_and, -Bool.not_or, -Bool.and_eq_false_imp, -Int.natCast_add, psB, psC, hc, hx.1, hx.2.1, hx.2.2.2.1, (exC_row x).1]
theorem clo_paren (hl : Free L [21, 36, 43, 17, 40, 39, 42]) {p p' : PS} (hv : p'.l.length < 4611686018427387904) {x : Ex} (op name : ByteArray) (n : Int) (rows : List (List FV)) (t : Tag) (a : Int) (h : Ret L 10 [int 0] p x p') : Clo L 39 p [str op, str name, int n, .sl rows t, int a] (p'.need [41]) (exC x) := by
  have hc := fun x0 bx gr => h.call (σ := ⟨x0 :: psB p :: bx, gr⟩) rfl rfl (b := 1) rfl
  simp only [psB, psC, List.set_cons_succ, List.set_cons_zero] at hc
  have hx := exC_all x
  have hn := fun x0 bx gr => need1 (x0 := x0) (l := p'.l) (k := p'.k) (e := p'.e) (no := p'.no) (bl := p'.bl) (inn := p'.inn) (bx := bx) (gr := gr) (hl.sub (by simp)) hv ⟨#[41]⟩
  refine ⟨[], [], EV_fn (ids := []) (hl _ (by simp)) Tryd.func39 rfl (by kernel_rfl) (by rw [Tryd.ntmps39]; simp) ?_⟩
  rw [Tryd.ntmps39, Tryd.results39]
  simp (contextual := true) (implicitDefEqProofs := false) [-decide_eq_true_eq, -decide_eq_false_iff_not, -Bool.not_and, -Bool.not_or, -Bool.and_eq_false_imp, -Int.natCast_add, psB, psC, hc, hx.1, hx.2.1, hn]
theorem clo_at (hl : Free L [21, 36, 43, 17, 40, 39, 42]) {p p' : PS} (hv : p'.l.length < 4611686018427387904) {x : Ex} (op name : ByteArray) (n : Int) (rows : List (List FV)) (t : Tag) (a : Int) (h : Ret L 10 [int 0] p x p') : Clo L 42 p [str op, str name, int n, .sl rows t, int a] (p'.need [93]) [str op, str name, int n, .sl [exR x] .full, int a] := by
  have hc := fun x0 bx gr => h.call (σ := ⟨x0 :: psB p :: bx, gr⟩) rfl rfl (b := 1) rfl
  simp only [psB, psC, List.set_cons_succ, List.set_cons_zero] at hc
  have hx := exC_all x
  have hn := fun x0 bx gr => need1 (x0 := x0) (l := p'.l) (k := p'.k) (e := p'.e) (no := p'.no) (bl := p'.bl) (inn := p'.inn) (bx := bx) (gr := gr) (hl.sub (by simp)) hv ⟨#[93]⟩
  refine ⟨[], [], EV_fn (ids := []) (hl _ (by simp)) Tryd.func42 rfl (by kernel_rfl) (by rw [Tryd.ntmps42]; simp) ?_⟩
  rw [Tryd.ntmps42, Tryd.results42]
  simp (contextual := true) (implicitDefEqProofs := false) [-decide_eq_true_eq, -decide_eq_false_iff_not, -Bool.not_and, -Bool.not_or, -Bool.and_eq_false_imp, -Int.natCast_add, psB, psC, hc, hx.1, hx.2.1, hx.2.2.2.1, (exC_row x).1, hn]
end Go.Proofs.YtfgoedndpcblpaaDoor.Pv
end

section
/- The parser's first: what an expression begins with. -/
namespace Go.Proofs.YtfgoedndpcblpaaDoor.Pv
open Go Go.Proofs Go.Proofs.YtfgoedndpcblpaaDoor.Lx Go.Proofs.YtfgoedndpcblpaaDoor.Ps
set_option linter.unusedSimpArgs false
set_option linter.unusedVariables false
variable {L : Lib} {σ : Sto}

@[simp] def firstFs : List FuncId := [21, 36, 43, 17, 40, 18, 41, 6, 14, 31, 60, 37, 38, 39, 42, 20]
/-- An expression's cells, as they are told while it is read. -/
abbrev exL (op name : ByteArray) (n : Int) (rows : List (List FV)) (t : Tag) (a : Int) : List PV := [str op, str name, int n, .sl rows t, int a]
theorem exL_lone {op name : ByteArray} {n : Int} {rows : List (List FV)} {t : Tag} {a : Int} (ht : t = .unk ∨ t = .full) : Lone (exL op name n rows t a) := exC_lone _ _ _ _ _ ht _
/-- What is within: read, or too deep. -/
theorem within_any (hl : Free L firstFs) {F : FuncId} (hb : isBody Tryd.prog F = true) {p : PS} {f : PS → PS} {e e1 : List PV} (hi : p.inn ≤ 32) (hk : p.k < 4611686018427387904) (he : Lone e) (he1 : Lone e1) (hf : ∀ q, Adv q (f q)) (hc : p.inn < 32 → Clo L F { p with inn := p.inn + 1, k := p.k + 1 } e (f { p with inn := p.inn + 1, k := p.k + 1 }) e1) : Wit L F p e (p.within f) (if 32 ≤ p.inn then e else e1) := by
  by_cases h : p.inn = 32
  · have h1 : p.within f = p.stop 131 := by unfold PS.within; rw [if_pos (by omega)]
    rw [h1, if_pos (by omega)]
    exact within_deep (hl.sub (by simp [firstFs])) h
  · have hlt : p.inn < 32 := by omega
    have ha := hf { p with inn := p.inn + 1, k := p.k + 1 }
    have h1 : p.within f = { f { p with inn := p.inn + 1, k := p.k + 1 } with inn := (f { p with inn := p.inn + 1, k := p.k + 1 }).inn - 1 } := by unfold PS.within; rw [if_neg (by omega)]
    rw [h1, if_neg (by omega)]
    exact within_go (hl.sub (by simp [firstFs])) hb hlt hk he he1 (by rw [ha.inn]; exact Nat.le_add_left _ _) (by rw [ha.inn]; exact hlt) (hc hlt)
theorem wit_call {F : FuncId} {p p' : PS} {e e' : List PV} (h : Wit L F p e p' e') (he : Lone e) (he' : Lone e') (x2 : Bx) (gr : List (Nat × Nat)) : callE (EV Tryd.prog L) 37 [.ptr 0 0, .fn (.func F) [.ptr 1 0, .ptr 3 0]] ⟨[.cells [.sl (p.l.map tokR) .unk, int p.k, int p.e, int p.no, int p.bl, int p.inn], .cells [.ptr 0 0], x2, .cells e], gr⟩ = some (.tup [], ⟨[.cells [.sl (p'.l.map tokR) .unk, int p'.k, int p'.e, int p'.no, int p'.bl, int p'.inn], .cells [.ptr 0 0], x2, .cells e'], gr⟩) := h.call he he' x2 gr
theorem first_num (hl : Free L firstFs) (D : Nat) (p : PS) (hv : p.l.length < 4611686018427387904) (hn1 : p.word 2 [45] = false) (hn2 : p.word 2 [33] = false) (hp1 : p.word 2 [40] = false) (hm : p.on 1 = true) :
    Ret L 20 [] p (firstS (D + 1) p).1 (firstS (D + 1) p).2 := by
  have hlt := on_lt hm
  have hix : idx 4 (p.l.map tokR) (p.k : Int) = some (.el (tokR p.tok) 0) := idx_tok hlt
  have hg : IntKind.wrap .i64 ((p.k : Int) + 1) = ((p.k + 1 : Nat) : Int) := go_wrap hv hlt
  have e1 : firstS (D + 1) p = (.mk (sB [110, 117, 109]) ⟨#[]⟩ p.num [] p.place, p.go) := by simp only [firstS, hn1, hn2, hp1, hm]; rfl
  rw [e1]
  refine ⟨.agg (exL (sB [110, 117, 109]) ⟨#[]⟩ p.num [] .full p.place), rfl, rfl, ?_⟩
  refine meth_fn (ids := [15]) (hl _ (by simp)) Tryd.func20 Tryd.ntmps20 Tryd.results20 (by simp) ⟨_, rfl, by kernel_rfl, ?_⟩
  simp (maxSteps := 1000000) (contextual := true) (implicitDefEqProofs := false) [-decide_eq_true_eq, -decide_eq_false_iff_not, -Bool.not_and, -Bool.not_or, -Bool.and_eq_false_imp, -Int.natCast_add, psB, psC, place0 (hl _ (by simp [firstFs])), word0 (hl.sub (by simp [firstFs])), on0 (hl _ (by simp [firstFs])), hn1, hn2, hp1, hm, hix, hg, tokR, PS.go, sB, strOf, PS.num, exL]
  kernel_rfl
theorem first_neg (hl : Free L firstFs) (D : Nat) (p : PS) (hv : p.l.length < 4611686018427387904) (hi : p.inn ≤ 32) (hn : p.word 2 [45] = true ∨ (p.word 2 [45] = false ∧ p.word 2 [33] = true))
    (hr : p.inn < 32 → Ret L 20 [] { p with inn := p.inn + 1, k := p.k + 1 } (firstS D { p with inn := p.inn + 1, k := p.k + 1 }).1 (firstS D { p with inn := p.inn + 1, k := p.k + 1 }).2) :
    Ret L 20 [] p (firstS (D + 1) p).1 (firstS (D + 1) p).2 := by
  have hlt : decide (p.k < p.l.length) = true := by rcases hn with h | ⟨_, h⟩ <;> exact on_lt (word_on h)
  have hkl := of_decide_eq_true hlt
  have hix : idx 4 (p.l.map tokR) (p.k : Int) = some (.el (tokR p.tok) 0) := idx_tok hlt
  have hor : (p.word 2 [45] || p.word 2 [33]) = true := by rcases hn with h | ⟨_, h⟩ <;> simp [h]
  have main : ∀ op, op = sB (if p.text = [33] then [110, 111, 116] else [110, 101, 103]) → Ret L 20 [] p (firstS (D + 1) p).1 (firstS (D + 1) p).2 := by
    intro op hop
    have hw := within_any hl (F := 38) (by simp) (p := p) (f := fun q => (firstS D q).2) (e := exL op ⟨#[]⟩ 0 [] .full p.place) (e1 := exL op ⟨#[]⟩ 0 [exR (firstS D { p with inn := p.inn + 1, k := p.k + 1 }).1] .full p.place) hi (by omega) (exL_lone (.inr rfl)) (exL_lone (.inr rfl)) (fun q => Adv.first D q) (fun h => clo_neg (hl.sub (by simp [firstFs])) _ _ _ _ _ _ (hr h))
    obtain ⟨rows, hrows⟩ : ∃ rows, rows = if 32 ≤ p.inn then [] else [exR (firstS D { p with inn := p.inn + 1, k := p.k + 1 }).1] := ⟨_, rfl⟩
    have he2 : (if 32 ≤ p.inn then exL op ⟨#[]⟩ 0 [] .full (p.place : Int) else exL op ⟨#[]⟩ 0 [exR (firstS D { p with inn := p.inn + 1, k := p.k + 1 }).1] .full p.place) = exL op ⟨#[]⟩ 0 rows .full p.place := by rw [hrows]; split <;> rfl
    rw [he2] at hw
    have hcall := wit_call hw (exL_lone (.inr rfl)) (exL_lone (.inr rfl))
    have e1 : (firstS (D + 1) p).2 = p.within fun q => (firstS D q).2 := by simp only [firstS, if_pos hor]
    have e2 : exC (firstS (D + 1) p).1 = exL op ⟨#[]⟩ 0 rows .unk p.place := by
      simp only [firstS, if_pos hor]
      rw [← hop, hrows]
      split <;> rfl
    refine ⟨.agg (exL op ⟨#[]⟩ 0 rows .full p.place), rfl, by rw [e2]; rfl, ?_⟩
    rw [e1]
    simp only [exL] at hcall
    by_cases hsel : p.text = [33]
    · rw [if_pos hsel] at hop
      simp only [PS.text] at hsel
      subst hop
      simp only [sB, strOf] at hcall
      rcases hn with hn1 | ⟨hn1, hn2⟩
      · refine meth_fn (ids := [15]) (hl _ (by simp)) Tryd.func20 Tryd.ntmps20 Tryd.results20 (by simp) ⟨_, rfl, by kernel_rfl, ?_⟩
        simp (maxSteps := 1000000) (contextual := true) (implicitDefEqProofs := false) [-decide_eq_true_eq, -decide_eq_false_iff_not, -Bool.not_and, -Bool.not_or, -Bool.and_eq_false_imp, -Int.natCast_add, psB, psC, place0 (hl _ (by simp [firstFs])), word0 (hl.sub (by simp [firstFs])), hn1, hsel, hix, tokR, hcall, strOf_inj, exL, sB, strOf]
      · refine meth_fn (ids := [15]) (hl _ (by simp)) Tryd.func20 Tryd.ntmps20 Tryd.results20 (by simp) ⟨_, rfl, by kernel_rfl, ?_⟩
        simp (maxSteps := 1000000) (contextual := true) (implicitDefEqProofs := false) [-decide_eq_true_eq, -decide_eq_false_iff_not, -Bool.not_and, -Bool.not_or, -Bool.and_eq_false_imp, -Int.natCast_add, psB, psC, place0 (hl _ (by simp [firstFs])), word0 (hl.sub (by simp [firstFs])), hn1, hn2, hsel, hix, tokR, hcall, strOf_inj, exL, sB, strOf]
    · rw [if_neg hsel] at hop
      have hsel' : decide (p.tok.2.1 = [33]) = false := by simpa [PS.text] using hsel
      subst hop
      simp only [sB, strOf] at hcall
      rcases hn with hn1 | ⟨hn1, hn2⟩
      · refine meth_fn (ids := [15]) (hl _ (by simp)) Tryd.func20 Tryd.ntmps20 Tryd.results20 (by simp) ⟨_, rfl, by kernel_rfl, ?_⟩
        simp (maxSteps := 1000000) (contextual := true) (implicitDefEqProofs := false) [-decide_eq_true_eq, -decide_eq_false_iff_not, -Bool.not_and, -Bool.not_or, -Bool.and_eq_false_imp, -Int.natCast_add, psB, psC, place0 (hl _ (by simp [firstFs])), word0 (hl.sub (by simp [firstFs])), hn1, hsel', hix, tokR, hcall, strOf_inj, exL, sB, strOf]
      · refine meth_fn (ids := [15]) (hl _ (by simp)) Tryd.func20 Tryd.ntmps20 Tryd.results20 (by simp) ⟨_, rfl, by kernel_rfl, ?_⟩
        simp (maxSteps := 1000000) (contextual := true) (implicitDefEqProofs := false) [-decide_eq_true_eq, -decide_eq_false_iff_not, -Bool.not_and, -Bool.not_or, -Bool.and_eq_false_imp, -Int.natCast_add, psB, psC, place0 (hl _ (by simp [firstFs])), word0 (hl.sub (by simp [firstFs])), hn1, hn2, hsel', hix, tokR, hcall, strOf_inj, exL, sB, strOf]
  exact main _ rfl
theorem first_par (hl : Free L firstFs) (D : Nat) (p : PS) (hv : p.l.length < 4611686018427387904) (hi : p.inn ≤ 32) (hn1 : p.word 2 [45] = false) (hn2 : p.word 2 [33] = false) (hp1 : p.word 2 [40] = true)
    (hr : p.inn < 32 → Ret L 10 [int 0] { p with inn := p.inn + 1, k := p.k + 1 } (exprS D 0 { p with inn := p.inn + 1, k := p.k + 1 }).1 (exprS D 0 { p with inn := p.inn + 1, k := p.k + 1 }).2) :
    Ret L 20 [] p (firstS (D + 1) p).1 (firstS (D + 1) p).2 := by
  have hlt : decide (p.k < p.l.length) = true := on_lt (word_on hp1)
  have hkl := of_decide_eq_true hlt
  have e0 : (p.word 2 [45] || p.word 2 [33]) = false := by simp [hn1, hn2]
  have hadv := Adv.expr D 0 { p with inn := p.inn + 1, k := p.k + 1 }
  have hw := within_any hl (F := 39) (by simp) (p := p) (f := fun q => (exprS D 0 q).2.need [41]) (e := exL ⟨#[]⟩ ⟨#[]⟩ 0 [] .full p.place) (e1 := exC (exprS D 0 { p with inn := p.inn + 1, k := p.k + 1 }).1) hi (by omega) (exL_lone (.inr rfl)) (by cases (exprS D 0 { p with inn := p.inn + 1, k := p.k + 1 }).1; exact exL_lone (.inl rfl)) (fun q => (Adv.expr D 0 q).trans (.need _ _)) (fun h => clo_paren (hl.sub (by simp)) (by rw [hadv.l]; exact hv) _ _ _ _ _ _ (hr h))
  obtain ⟨op, name, n, rows, t, a, hrows, ht⟩ : ∃ op name n rows t a, (if 32 ≤ p.inn then exL ⟨#[]⟩ ⟨#[]⟩ 0 [] .full (p.place : Int) else exC (exprS D 0 { p with inn := p.inn + 1, k := p.k + 1 }).1) = exL op name n rows t a ∧ (t = .unk ∨ t = .full) := by
    split
    · exact ⟨_, _, _, _, _, _, rfl, .inr rfl⟩
    · cases (exprS D 0 { p with inn := p.inn + 1, k := p.k + 1 }).1; exact ⟨_, _, _, _, _, _, rfl, .inl rfl⟩
  have e2 : exC (firstS (D + 1) p).1 = exL op name n rows .unk a := by
    simp only [firstS, e0, hp1, if_true, Bool.false_eq_true, if_false]
    split at hrows
    · rename_i h; rw [if_pos h]; simp only [exL, List.cons.injEq, PV.sl.injEq] at hrows; obtain ⟨h1, h2, h3, ⟨h4, _⟩, h5, _⟩ := hrows; simp only [exL, exC, ← h1, ← h2, ← h3, ← h4, ← h5]; rfl
    · rename_i h; rw [if_neg h]
      generalize (exprS D 0 { p with inn := p.inn + 1, k := p.k + 1 }).1 = x at hrows
      cases x
      simp only [exL, exC, List.cons.injEq, PV.sl.injEq] at hrows
      obtain ⟨h1, h2, h3, ⟨h4, _⟩, h5, _⟩ := hrows; simp only [exL, exC, ← h1, ← h2, ← h3, ← h4, ← h5]
  rw [hrows] at hw
  have hcall := wit_call hw (exL_lone (.inr rfl)) (exL_lone ht)
  have e1 : (firstS (D + 1) p).2 = p.within fun q => (exprS D 0 q).2.need [41] := by simp only [firstS, e0, hp1, if_true, Bool.false_eq_true, if_false]
  refine ⟨.agg (exL op name n rows t a), rfl, by rw [e2]; rfl, ?_⟩
  rw [e1]
  simp only [exL] at hcall
  refine meth_fn (ids := [15]) (hl _ (by simp)) Tryd.func20 Tryd.ntmps20 Tryd.results20 (by simp) ⟨_, rfl, by kernel_rfl, ?_⟩
  simp (maxSteps := 1000000) (contextual := true) (implicitDefEqProofs := false) [-decide_eq_true_eq, -decide_eq_false_iff_not, -Bool.not_and, -Bool.not_or, -Bool.and_eq_false_imp, -Int.natCast_add, psB, psC, place0 (hl _ (by simp)), word0 (hl.sub (by simp)), hn1, hn2, hp1, hcall, exL]
theorem first_bool (hl : Free L firstFs) (D : Nat) (p : PS) (hv : p.l.length < 4611686018427387904) (hn1 : p.word 2 [45] = false) (hn2 : p.word 2 [33] = false) (hp1 : p.word 2 [40] = false) (hm : p.on 1 = false) (hb : p.word 0 [116, 114, 117, 101] = true ∨ (p.word 0 [116, 114, 117, 101] = false ∧ p.word 0 [102, 97, 108, 115, 101] = true)) :
    Ret L 20 [] p (firstS (D + 1) p).1 (firstS (D + 1) p).2 := by
  have hlt : decide (p.k < p.l.length) = true := by rcases hb with h | ⟨_, h⟩ <;> exact on_lt (word_on h)
  have hix : idx 4 (p.l.map tokR) (p.k : Int) = some (.el (tokR p.tok) 0) := idx_tok hlt
  have hg : IntKind.wrap .i64 ((p.k : Int) + 1) = ((p.k + 1 : Nat) : Int) := go_wrap hv hlt
  have hor : (p.word 0 [116, 114, 117, 101] || p.word 0 [102, 97, 108, 115, 101]) = true := by rcases hb with h | ⟨_, h⟩ <;> simp [h]
  have e1 : firstS (D + 1) p = (.mk (strOf p.text) ⟨#[]⟩ 0 [] p.place, p.go) := by simp only [firstS, hn1, hn2, hp1, hm, if_pos hor]; rfl
  rw [e1]
  refine ⟨.agg (exL (strOf p.text) ⟨#[]⟩ 0 [] .full p.place), rfl, rfl, ?_⟩
  rcases hb with hb1 | ⟨hb1, hb2⟩
  · refine meth_fn (ids := [15, 19]) (hl _ (by simp)) Tryd.func20 Tryd.ntmps20 Tryd.results20 (by simp) ⟨_, rfl, by kernel_rfl, ?_⟩
    simp (maxSteps := 1000000) (contextual := true) (implicitDefEqProofs := false) [-decide_eq_true_eq, -decide_eq_false_iff_not, -Bool.not_and, -Bool.not_or, -Bool.and_eq_false_imp, -Int.natCast_add, psB, psC, place0 (hl _ (by simp)), word0 (hl.sub (by simp)), on0 (hl _ (by simp)), hn1, hn2, hp1, hm, hix, hg, tokR, PS.go, PS.text, exL, hb1]
    trace_state
    kernel_rfl
  · refine meth_fn (ids := [15, 19]) (hl _ (by simp)) Tryd.func20 Tryd.ntmps20 Tryd.results20 (by simp) ⟨_, rfl, by kernel_rfl, ?_⟩
    simp (maxSteps := 1000000) (contextual := true) (implicitDefEqProofs := false) [-decide_eq_true_eq, -decide_eq_false_iff_not, -Bool.not_and, -Bool.not_or, -Bool.and_eq_false_imp, -Int.natCast_add, psB, psC, place0 (hl _ (by simp)), word0 (hl.sub (by simp)), on0 (hl _ (by simp)), hn1, hn2, hp1, hm, hix, hg, tokR, PS.go, PS.text, exL, hb1, hb2]
    kernel_rfl
theorem first_name (hl : Free L firstFs) (hF : L 15 = some fieldsH) (D : Nat) (p : PS) (hv : p.l.length < 4611686018427387904) (hi : p.inn ≤ 32) (hn1 : p.word 2 [45] = false) (hn2 : p.word 2 [33] = false) (hp1 : p.word 2 [40] = false) (hm : p.on 1 = false) (hb1 : p.word 0 [116, 114, 117, 101] = false) (hb2 : p.word 0 [102, 97, 108, 115, 101] = false)
    (hr : p.name.2.inn < 32 → Ret L 10 [int 0] { p.name.2 with inn := p.name.2.inn + 1, k := p.name.2.k + 1 } (exprS D 0 { p.name.2 with inn := p.name.2.inn + 1, k := p.name.2.k + 1 }).1 (exprS D 0 { p.name.2 with inn := p.name.2.inn + 1, k := p.name.2.k + 1 }).2) :
    Ret L 20 [] p (firstS (D + 1) p).1 (firstS (D + 1) p).2 := by
  have hN := Adv.name p
  generalize hq : p.name.2 = q at *
  have hv2 : q.l.length < 4611686018427387904 := by rw [hN.l]; exact hv
  have e0 : (p.word 2 [45] || p.word 2 [33]) = false := by simp [hn1, hn2]
  have e3 : (p.word 0 [116, 114, 117, 101] || p.word 0 [102, 97, 108, 115, 101]) = false := by simp [hb1, hb2]
  by_cases hw2 : q.word 2 [91] = true
  · have hkl := of_decide_eq_true (on_lt (word_on hw2))
    have hadv := Adv.expr D 0 { q with inn := q.inn + 1, k := q.k + 1 }
    have hi2 : q.inn ≤ 32 := by rw [hN.inn]; exact hi
    have hw := within_any hl (F := 42) (by simp) (p := q) (f := fun q => (exprS D 0 q).2.need [93]) (e := exL (sB [97, 116]) p.name.1 0 [] .full p.place) (e1 := exL (sB [97, 116]) p.name.1 0 [exR (exprS D 0 { q with inn := q.inn + 1, k := q.k + 1 }).1] .full p.place) hi2 (by omega) (exL_lone (.inr rfl)) (exL_lone (.inr rfl)) (fun q => (Adv.expr D 0 q).trans (.need _ _)) (fun h => clo_at (hl.sub (by simp)) (by rw [hadv.l]; exact hv2) _ _ _ _ _ _ (hr h))
    obtain ⟨rows, hrows⟩ : ∃ rows, rows = if 32 ≤ q.inn then [] else [exR (exprS D 0 { q with inn := q.inn + 1, k := q.k + 1 }).1] := ⟨_, rfl⟩
    have he2 : (if 32 ≤ q.inn then exL (sB [97, 116]) p.name.1 0 [] .full (p.place : Int) else exL (sB [97, 116]) p.name.1 0 [exR (exprS D 0 { q with inn := q.inn + 1, k := q.k + 1 }).1] .full p.place) = exL (sB [97, 116]) p.name.1 0 rows .full p.place := by rw [hrows]; split <;> rfl
    rw [he2] at hw
    have hcall := wit_call hw (exL_lone (.inr rfl)) (exL_lone (.inr rfl))
    have e1 : (firstS (D + 1) p).2 = q.within fun q => (exprS D 0 q).2.need [93] := by simp only [firstS, e0, hp1, hm, e3, hq, hw2, if_true, Bool.false_eq_true, if_false]
    have e2 : exC (firstS (D + 1) p).1 = exL (sB [97, 116]) p.name.1 0 rows .unk p.place := by
      simp only [firstS, e0, hp1, hm, e3, hq, hw2, if_true, Bool.false_eq_true, if_false]
      rw [hrows]
      split <;> rfl
    refine ⟨.agg (exL (sB [97, 116]) p.name.1 0 rows .full p.place), rfl, by rw [e2]; rfl, ?_⟩
    rw [e1]
    simp only [exL, sB, strOf] at hcall
    refine meth_fn (ids := [15]) (hl _ (by simp)) Tryd.func20 Tryd.ntmps20 Tryd.results20 (by simp) ⟨_, rfl, by kernel_rfl, ?_⟩
    simp (maxSteps := 1000000) (contextual := true) (implicitDefEqProofs := false) [-decide_eq_true_eq, -decide_eq_false_iff_not, -Bool.not_and, -Bool.not_or, -Bool.and_eq_false_imp, -Int.natCast_add, psB, psC, place0 (hl _ (by simp)), word0 (hl.sub (by simp)), on0 (hl _ (by simp)), name0 (hl.sub (by simp)) hF hv, hq, hw2, hn1, hn2, hp1, hm, hb1, hb2, hcall, exL, sB, strOf]
  · have hw3 : q.word 2 [91] = false := by simpa using hw2
    have e1 : firstS (D + 1) p = (.mk (sB [110, 97, 109, 101]) p.name.1 0 [] p.place, q) := by simp only [firstS, e0, hp1, hm, e3, hq, hw3, if_true, Bool.false_eq_true, if_false]
    rw [e1]
    refine ⟨.agg (exL (sB [110, 97, 109, 101]) p.name.1 0 [] .full p.place), rfl, rfl, ?_⟩
    refine meth_fn (ids := [15]) (hl _ (by simp)) Tryd.func20 Tryd.ntmps20 Tryd.results20 (by simp) ⟨_, rfl, by kernel_rfl, ?_⟩
    simp (maxSteps := 1000000) (contextual := true) (implicitDefEqProofs := false) [-decide_eq_true_eq, -decide_eq_false_iff_not, -Bool.not_and, -Bool.not_or, -Bool.and_eq_false_imp, -Int.natCast_add, psB, psC, place0 (hl _ (by simp)), word0 (hl.sub (by simp)), on0 (hl _ (by simp)), name0 (hl.sub (by simp)) hF hv, hq, hw3, hn1, hn2, hp1, hm, hb1, hb2, exL, sB, strOf]
end Go.Proofs.YtfgoedndpcblpaaDoor.Pv
end

section
/- The parser's expr: expressions of a level. -/
namespace Go.Proofs.YtfgoedndpcblpaaDoor.Pv
open Go Go.Proofs Go.Proofs.YtfgoedndpcblpaaDoor.Lx Go.Proofs.YtfgoedndpcblpaaDoor.Ps
set_option linter.unusedSimpArgs false
set_option linter.unusedVariables false
variable {L : Lib} {σ : Sto}

@[simp] def exprFs : List FuncId := [21, 36, 43, 17, 40, 18, 41, 6, 14, 31, 60, 37, 38, 39, 42, 20, 19, 10]
theorem levels_ok (hl : Free L exprFs) : callE (EV Tryd.prog L) 19 [] σ = some (strsB levB, σ) := by
  refine call_fn (ids := []) (hl _ (by simp)) Tryd.func19 Tryd.ntmps19 Tryd.results19 (by simp) rfl rfl ⟨_, rfl, by kernel_rfl, ?_⟩
  simp (maxSteps := 1000000) (contextual := true) (implicitDefEqProofs := false) [-decide_eq_true_eq, -decide_eq_false_iff_not, -Bool.not_and, -Bool.not_or, -Bool.and_eq_false_imp, -Int.natCast_add, strsB, levB, strOf]
  rfl
theorem lev_plain : ∀ lev, lev < 5 → (strOf (levB.getD lev [])).size < 4294967281 ∧ ((strOf (levB.getD lev [])).data.toList.all fun b => decide (b.toNat < 128)) = true := by decide
theorem lev_two : ∀ lev, lev < 5 → (decide (2 < ((levL lev).length : Int)) = decide (lev = 2)) ∧ (levL lev).length < 4611686018427387904 := by decide
theorem expr_five (hl : Free L exprFs) {p p' : PS} {e : Ex} (h : Ret L 20 [] p e p') : Ret L 10 [int 5] p e p' := by
  have hc := fun bx gr => h.call (σ := ⟨psB p :: bx, gr⟩) rfl rfl (b := 0) rfl
  simp only [psB, psC, List.set_cons_zero] at hc
  have hx := exC_all e
  refine ⟨.agg (exC e), by simp only [PV.ptrs]; exact (exC_row e).2.1, by simp only [PV.era]; rw [(exC_row e).2.2], ?_⟩
  refine meth_fn (ids := [6, 8]) (hl _ (by simp)) Tryd.func10 Tryd.ntmps10 Tryd.results10 (by simp) ⟨_, rfl, by kernel_rfl, ?_⟩
  simp (maxSteps := 1000000) (contextual := true) (implicitDefEqProofs := false) [-decide_eq_true_eq, -decide_eq_false_iff_not, -Bool.not_and, -Bool.not_or, -Bool.and_eq_false_imp, -Int.natCast_add, psB, psC, levels_ok hl, strsB, levB, hc, hx.1, hx.2.1, hx.2.2.2.2]
theorem exR_app (x y : Ex) (bx : List Bx) (gr : List (Nat × Nat)) : appL 5 72 ⟨bx, gr⟩ [exR x] .full [exR y] = some (.sl [exR x, exR y] (.grow gr.length), ⟨bx, gr ++ [(2, 5)]⟩) := by
  have h : ∀ z, sized 5 [exR z] = true := fun z => by simp [sized, (exC_all z).2.2.1]
  unfold appL
  rw [if_pos ⟨h x, h y, by simp⟩]
  rfl
theorem gather_ps {p : PS} {bx : List Bx} : gather (psB p :: bx) 64 [0] [] = [0] := by
  simp [gather, ptrsAt, Bx.ptrs, (psC_flat p).ptrs]
theorem ret_fn {f : FuncId} {fn : Func} {n : Nat} {ids : List Nat} {rs : Array ResultVar} {args : List PV} {p p' : PS} {e : Ex} (hl : L f = none) (hf : Tryd.prog.funcs[f]? = some fn) (hn : fn.ntmps = n) (hrs : fn.results = rs) (hlen : (PV.ptr 0 0 :: args).length ≤ n)
    (h : ∃ c, fn.body = some c ∧ statOk Tryd.prog ids c = true ∧ WP Tryd.prog L n ids c ⟨initE (.ptr 0 0 :: args), ⟨[psB p], []⟩⟩ fun ctl s => (ctl = .next ∨ ctl = .ret) ∧ Run (outE Tryd.prog s.env s.sto rs.toList) fun r => r.ptrs = [] ∧ r.era = .agg (exC e) ∧ ∃ more, s.sto.bx = psB p' :: more) : Ret L f args p e p' := by
  obtain ⟨c, hb, hst, k, ctl, s', h1, h2, r', h3, h4, h5, more, h6⟩ := h
  subst hn; subst hrs
  refine ⟨r', h4, h5, more, s'.sto.gr, EV_fn hl hf hb hst hlen ⟨k, ctl, s', h1, h2, h3, ?_⟩⟩
  rw [← h6]
/-- The number of a box, as it is when orders are compared. -/
def boxNo (n : Nat) : Nat := if n ≤ 2 then n else 3
theorem expr_loop (hl : Free L exprFs) (hF : L 15 = some fieldsH) (D lev : Nat) (hlev : lev < 5) (p : PS) (hv : p.l.length < 4611686018427387904) (hi : p.inn ≤ 32)
    (h1 : Ret L 10 [int ((lev + 1 : Nat) : Int)] p (exprS D (lev + 1) p).1 (exprS D (lev + 1) p).2)
    (h2 : ∀ q : PS, q.l = p.l → q.inn = p.inn → Ret L 10 [int ((lev + 1 : Nat) : Int)] q (exprS D (lev + 1) q).1 (exprS D (lev + 1) q).2) :
    Ret L 10 [int (lev : Int)] p (exprS (D + 1) lev p).1 (exprS (D + 1) lev p).2 := by
  have e0 : exprS (D + 1) lev p = chainS (exprS D (lev + 1)) lev p.l.length (exprS D (lev + 1) p).1 (exprS D (lev + 1) p).2 := by simp only [exprS]; rw [if_neg (by omega)]
  have hadv := Adv.expr D (lev + 1) p
  have hc1 := fun bx gr => h1.call (σ := ⟨psB p :: bx, gr⟩) rfl rfl (b := 0) rfl
  simp only [psB, psC, List.set_cons_zero] at hc1
  rw [e0]
  generalize exprS D (lev + 1) p = r1 at *
  obtain ⟨ex0, q0⟩ := r1
  simp only at hc1 hadv ⊢
  obtain ⟨R, hR⟩ : ∃ R, R = chainS (exprS D (lev + 1)) lev p.l.length ex0 q0 := ⟨_, rfl⟩
  rw [← hR]
  have hx := exC_all ex0
  have hw : IntKind.wrap .i64 ((lev : Int) + 1) = ((lev + 1 : Nat) : Int) := wrap_succ (by omega)
  have hlb : levB.length = 5 := rfl
  have hne : decide ((lev : Int) = 5) = false := by simp; omega
  have hil : idx 1 (levB.map fun x => [FV.im (.string (strOf x))]) (lev : Int) = some (.el [.im (.string (strOf (levB.getD lev [])))] 0) := by
    refine idx_get ?_ rfl
    rw [List.getElem?_map, List.getD_eq_getElem?_getD, List.getElem?_eq_getElem (by omega)]; rfl
  have hfl := fun σ => fields_ok (L := L) (σ := σ) hF _ (lev_plain lev hlev)
  rw [strOf_list] at hfl
  have hlv := fun σ => levels_ok (L := L) (σ := σ) hl
  obtain ⟨lb, hlbv⟩ : ∃ lb, levB.getD lev [] = lb := ⟨_, rfl⟩
  have hll : levL lev = Lib.fields lb := by unfold levL; rw [hlbv]
  rw [hlbv] at hil hfl
  refine ret_fn (ids := [6, 8]) (hl _ (by simp)) Tryd.func10 Tryd.ntmps10 Tryd.results10 (by simp) ⟨_, rfl, by kernel_rfl, ?_⟩
  simp only [strsB] at hlv hfl
  simp (maxSteps := 1000000) (contextual := true) (implicitDefEqProofs := false) [-decide_eq_true_eq, -decide_eq_false_iff_not, -Bool.not_and, -Bool.not_or, -Bool.and_eq_false_imp, -Int.natCast_add, psB, psC, hlv, strsB, hlb, hne, hil, hfl, hw, hc1, hx.1, hx.2.1, hx.2.2.2.2]
  refine WP.loop (fun m s' => ∃ (ex : Ex) (q : PS) (op name : ByteArray) (n : Int) (rows : List (List FV)) (tag : Tag) (a : Int) (junk : List Bx) (gr : List (Nat × Nat)), exC ex = [str op, str name, int n, .sl rows .unk, int a] ∧ q.l = p.l ∧ q.inn = p.inn ∧ q.l.length ≤ q.k + m ∧ chainS (exprS D (lev + 1)) lev m ex q = R ∧ s'.sto = ⟨psB q :: .cells [str ⟨#[]⟩, str ⟨#[]⟩, int 0, .sl [] .full, int 0] :: .cells [str op, str name, int n, .sl rows tag, int a] :: junk, gr⟩ ∧ s'.env 0 = .ptr 0 0 ∧ s'.env 1 = int lev ∧ s'.env 4 = .ptr 1 0 ∧ s'.env 5 = strsB (levL lev) ∧ s'.env 6 = .ptr 2 0) p.l.length ?_ ?_
  · cases ex0 with
    | mk op name n l a => exact ⟨.mk op name n l a, q0, op, name, n, exRs l, .unk, a, [], [], rfl, hadv.l, hadv.inn, by rw [hadv.l]; exact Nat.le_add_left _ _, hR.symm, rfl, rfl, rfl, rfl, by simp [hll, strsB], rfl⟩
  · rintro m ⟨env, τ⟩ ⟨ex, q, op, name, n, rows, tag, a, junk, gr, g1, g2, g3, g4, g5, g6, g7, g8, g9, g10, g11⟩
    simp only at g6 g7 g8 g9 g10 g11
    subst g6
    have hix : decide (q.k < q.l.length) = true → idx 4 (q.l.map tokR) (q.k : Int) = some (.el (tokR q.tok) 0) := idx_tok
    have hon : q.on 2 = true → decide (q.k < q.l.length) = true := on_lt
    have hct := fun σ s => contains_ok (L := L) (σ := σ) (hl.sub (by simp)) (levL lev) s (lev_two lev hlev).2
    simp only [strsB] at hct g10
    by_cases hc : (q.on 2 && (levL lev).contains q.text) = true
    · have hlt : decide (q.k < q.l.length) = true := by simp only [Bool.and_eq_true] at hc; exact on_lt hc.1
      have hc2 : q.on 2 = true ∧ (levL lev).contains q.text = true := by simpa only [Bool.and_eq_true] using hc
      obtain ⟨hc3, hc4⟩ := hc2
      have hc5 : decide (q.tok.2.1 ∈ levL lev) = true := by simpa [PS.text] using hc4
      have hg : IntKind.wrap .i64 ((q.k : Int) + 1) = ((q.k + 1 : Nat) : Int) := go_wrap (by rw [g2]; exact hv) hlt
      have hnx := fun bx gr => (h2 q.go g2 g3).call (σ := ⟨psB q.go :: bx, gr⟩) rfl rfl (b := 0) rfl
      have hadv2 := Adv.expr D (lev + 1) q.go
      have hm : ∃ m', m = m' + 1 := ⟨m - 1, by have := of_decide_eq_true hlt; omega⟩
      obtain ⟨m, rfl⟩ := hm
      simp only [chainS] at g5
      rw [if_pos hc] at g5
      generalize exprS D (lev + 1) q.go = r2 at *
      obtain ⟨y, q2⟩ := r2
      simp only at g5 hadv2
      simp only [psB, psC, List.set_cons_zero, PS.go] at hnx
      have hgat : ∀ (k : Nat) (bx : List Bx), gather (.cells [.sl (q.l.map tokR) .unk, .im (.int .i64 k), int q.e, int q.no, int q.bl, int q.inn] :: bx) 64 [0] [] = [0] := fun k bx => gather_ps (p := { q with k := k })
      have hapx := exR_app ex y
      have hxe := exC_all ex
      have hxn := exC_all y
      have hrow : exR ex = [.im (.string op), .im (.string name), .im (.int .i64 n), .sl rows, .im (.int .i64 a)] := by
        cases ex; simp only [exC, List.cons.injEq, PV.im.injEq, Value.string.injEq, Value.int.injEq, PV.sl.injEq] at g1
        obtain ⟨h1, h2, ⟨_, h3⟩, ⟨h4, _⟩, ⟨_, h5⟩, _⟩ := g1
        simp only [exR, h1, h2, h3, h4, h5]
      rw [hrow] at hapx
      simp (maxSteps := 1000000) (contextual := true) (implicitDefEqProofs := false) [-decide_eq_true_eq, -decide_eq_false_iff_not, -Bool.not_and, -Bool.not_or, -Bool.and_eq_false_imp, -Int.natCast_add, psB, psC, g7, g8, g9, g10, g11, on0 (hl _ (by simp)), hix hlt, tokR, hct, strOf_list, hc3, hc5, place0 (hl _ (by simp)), hgat, hg, hw, hnx, PS.go, hapx, hxn.1, hxn.2.1, hxn.2.2.2.1, (exC_row y).1, (exC_row y).2.1, (lev_two lev hlev).1]
      have hb : boxNo (junk.length + 1 + 1 + 1) = 3 := if_neg (by omega)
      refine ⟨orderOk_ren boxNo ?_, orderOk_ren boxNo ?_, fun hd => ?_, fun hd => ?_⟩
      · simp only [List.map, Cls.ren, Option.map, hb]; kernel_rfl
      · simp only [List.map, Cls.ren, Option.map, hb]; kernel_rfl
      · rw [if_pos (of_decide_eq_true hd)] at g5
        rw [← g5]
        simp [exC, exRs, hrow, PS.text]
      · rw [if_neg (of_decide_eq_false hd)] at g5
        exact ⟨m, Nat.lt_succ_self m, _, q2, _, _, _, _, .grow gr.length, _, rfl, hadv2.l.trans g2, hadv2.inn.trans g3, by rw [hadv2.l]; have := hadv2.k; simp only [PS.go] at this ⊢; omega, g5, by simp [exRs, hrow, PS.text], rfl⟩
    · have hcf : q.on 2 = true → (levL lev).contains q.text = false := fun h => by
        simp only [h, Bool.true_and] at hc; simpa using hc
      have hcf2 : q.on 2 = true → decide (q.tok.2.1 ∈ levL lev) = false := fun h => by have := hcf h; simpa [PS.text] using this
      have hend : R = (ex, q) := by
        rw [← g5]
        cases m with
        | zero => rfl
        | succ m => simp only [chainS]; rw [if_neg hc]
      simp (maxSteps := 1000000) (contextual := true) (implicitDefEqProofs := false) [-decide_eq_true_eq, -decide_eq_false_iff_not, -Bool.not_and, -Bool.not_or, -Bool.and_eq_false_imp, -Int.natCast_add, psB, psC, g7, g8, g9, g10, g11, on0 (hl _ (by simp)), hix, hon, tokR, hct, strOf_list, hcf2]
      simp [hend, g1]
end Go.Proofs.YtfgoedndpcblpaaDoor.Pv
end

section
/- Expressions are read: all of it. -/
namespace Go.Proofs.YtfgoedndpcblpaaDoor.Pv
open Go Go.Proofs Go.Proofs.YtfgoedndpcblpaaDoor.Lx Go.Proofs.YtfgoedndpcblpaaDoor.Ps
set_option linter.unusedSimpArgs false
set_option linter.unusedVariables false
variable {L : Lib} {σ : Sto}

theorem both_ok (hl : Free L exprFs) (hF : L 15 = some fieldsH) : ∀ D : Nat, (∀ lev (p : PS), lev ≤ 5 → p.inn ≤ 32 → p.l.length < 4611686018427387904 → 1 + 7 * (32 - p.inn) + (6 - lev) ≤ D → Ret L 10 [int (lev : Int)] p (exprS D lev p).1 (exprS D lev p).2) ∧
    ∀ p : PS, p.inn ≤ 32 → p.l.length < 4611686018427387904 → 1 + 7 * (32 - p.inn) ≤ D → Ret L 20 [] p (firstS D p).1 (firstS D p).2
  | 0 => ⟨fun lev p _ _ _ h => by omega, fun p _ _ h => by omega⟩
  | D + 1 => by
    have hlf : Free L firstFs := hl.sub (by simp [firstFs])
    obtain ⟨hE, hS⟩ := both_ok hl hF D
    refine ⟨fun lev p hv hi hk hD => ?_, fun p hi hk hD => ?_⟩
    · by_cases h5 : lev = 5
      · subst h5
        have e0 : exprS (D + 1) 5 p = firstS D p := by simp only [exprS, if_true]
        rw [e0]
        exact expr_five hl (hS p hi hk (by omega))
      · exact expr_loop hl hF D lev (by omega) p hk hi (hE (lev + 1) p (by omega) hi hk (by omega)) (fun q h1 h2 => hE (lev + 1) q (by omega) (by omega) (by rw [h1]; exact hk) (by rw [h2]; omega))
    · have hin : ∀ q : PS, q.l = p.l → q.inn = p.inn → q.inn < 32 → Ret L 10 [int 0] { q with inn := q.inn + 1, k := q.k + 1 } (exprS D 0 { q with inn := q.inn + 1, k := q.k + 1 }).1 (exprS D 0 { q with inn := q.inn + 1, k := q.k + 1 }).2 := fun q h1 h2 h3 =>
        hE 0 { q with inn := q.inn + 1, k := q.k + 1 } (by omega) h3 (by show q.l.length < _; rw [h1]; exact hk) (by show 1 + 7 * (32 - (q.inn + 1)) + (6 - 0) ≤ D; omega)
      have hn0 : p.inn < 32 → Ret L 20 [] { p with inn := p.inn + 1, k := p.k + 1 } (firstS D { p with inn := p.inn + 1, k := p.k + 1 }).1 (firstS D { p with inn := p.inn + 1, k := p.k + 1 }).2 := fun h =>
        hS { p with inn := p.inn + 1, k := p.k + 1 } h hk (by show 1 + 7 * (32 - (p.inn + 1)) ≤ D; omega)
      cases c1 : p.word 2 [45] with
      | true => exact first_neg hlf D p hk hi (.inl c1) hn0
      | false =>
      cases c2 : p.word 2 [33] with
      | true => exact first_neg hlf D p hk hi (.inr ⟨c1, c2⟩) hn0
      | false =>
      cases c3 : p.word 2 [40] with
      | true => exact first_par hlf D p hk hi c1 c2 c3 (hin p rfl rfl)
      | false =>
      cases c4 : p.on 1 with
      | true => exact first_num hlf D p hk c1 c2 c3 c4
      | false =>
      cases c5 : p.word 0 [116, 114, 117, 101] with
      | true => exact first_bool hlf D p hk c1 c2 c3 c4 (.inl c5)
      | false =>
      cases c6 : p.word 0 [102, 97, 108, 115, 101] with
      | true => exact first_bool hlf D p hk c1 c2 c3 c4 (.inr ⟨c5, c6⟩)
      | false => exact first_name hlf hF D p hk hi c1 c2 c3 c4 c5 c6 (hin p.name.2 (Adv.name p).l (Adv.name p).inn)
/-- An expression, from its least level: as deep as may be. -/
theorem expr_ok (hl : Free L exprFs) (hF : L 15 = some fieldsH) {p : PS} (hi : p.inn = 0) (hk : p.l.length < 4611686018427387904) {D : Nat} (hD : 231 ≤ D) : Ret L 10 [int 0] p (exprS D 0 p).1 (exprS D 0 p).2 :=
  (both_ok hl hF D).1 0 p (by omega) (by omega) hk (by omega)
end Go.Proofs.YtfgoedndpcblpaaDoor.Pv
end

section
/- A text is read as an expression. -/
namespace Go.Proofs.YtfgoedndpcblpaaDoor.Pv
open Go Go.Proofs Go.Proofs.YtfgoedndpcblpaaDoor.Lx Go.Proofs.YtfgoedndpcblpaaDoor.Ps
set_option linter.unusedSimpArgs false
set_option linter.unusedVariables false
variable {L : Lib} {σ : Sto}

theorem lexS_len : ∀ (f a : Nat) (l : List UInt8) (ts : List Tk), lexS f a l = .ok ts → ts.length ≤ f
  | 0, a, l, ts, h => by
    cases l with
    | nil => simp only [lexS] at h; cases h; simp
    | cons b bs => simp only [lexS] at h; cases h; simp
  | f + 1, a, [], ts, h => by simp only [lexS] at h; cases h; simp
  | f + 1, a, b :: bs, ts, h => by
    simp only [lexS] at h
    split at h
    · generalize hr : lexS f _ _ = r at h
      cases r with
      | ok t2 => simp only [LexR.cons] at h; cases h; have := lexS_len f _ _ _ hr; simp only [List.length_cons]; omega
      | no a e => simp only [LexR.cons] at h; cases h
    · cases h
def lexL : LexR → List Tk
  | .ok l => l
  | .no _ _ => []
def lexN : LexR → Int
  | .ok _ => 0
  | .no _ e => e
def lexP (n : Nat) : LexR → Nat
  | .ok _ => n
  | .no a _ => a
theorem lexOut_eq (n : Nat) (r : LexR) : lexOut n r = .tup [.sl ((lexL r).map tokR) .unk, int (lexP n r), int (lexN r)] := by cases r <;> rfl
theorem lexL_len (s : ByteArray) : (lexL (lexA s.data.toList)).length ≤ s.size := by
  cases h : lexA s.data.toList with
  | ok l => have := lexS_len _ _ _ _ h; rw [← size_list] at this; exact this
  | no a e => exact Nat.zero_le _
def zeroEx : Ex := .mk ⟨#[]⟩ ⟨#[]⟩ 0 [] 0
def finP (p : PS) : PS := if p.no = 0 then (if p.k < p.l.length then p.stop 130 else p) else p
def startP (s : ByteArray) : PS := ⟨lexL (lexA s.data.toList), 0, s.size, 0, 0, 0⟩
/-- What reading a text as an expression comes to. -/
def exprOut (s : ByteArray) : Ex × Nat × Int :=
  if 4096 < s.size then (zeroEx, 0, 111) else
  if lexN (lexA s.data.toList) = 0 then
    (if (finP (exprS 231 0 (startP s)).2).no = 0 then ((exprS 231 0 (startP s)).1, s.size, 0) else (zeroEx, (finP (exprS 231 0 (startP s)).2).place, (finP (exprS 231 0 (startP s)).2).no))
  else (zeroEx, lexP s.size (lexA s.data.toList), lexN (lexA s.data.toList))
@[simp] def readFs : List FuncId := exprFs ++ [57, 55, 56, 54, 53, 34, 58, 59, 64, 75, 35, 16, 9, 8, 4]
theorem expr1_ok {p p' : PS} {e : Ex} (hl : Free L [9]) (h : Ret L 10 [int 0] p e p') : Ret L 9 [] p e p' := by
  have hc := fun bx gr => h.call (σ := ⟨psB p :: bx, gr⟩) rfl rfl (b := 0) rfl
  simp only [psB, psC, List.set_cons_zero] at hc
  have hx := exC_all e
  refine ⟨.agg (exC e), by simp only [PV.ptrs]; exact (exC_row e).2.1, by simp only [PV.era]; rw [(exC_row e).2.2], ?_⟩
  refine meth_fn (ids := []) (hl _ (by simp)) Tryd.func9 Tryd.ntmps9 Tryd.results9 (by simp) ⟨_, rfl, by kernel_rfl, ?_⟩
  simp (maxSteps := 1000000) (contextual := true) (implicitDefEqProofs := false) [-decide_eq_true_eq, -decide_eq_false_iff_not, -Bool.not_and, -Bool.not_or, -Bool.and_eq_false_imp, -Int.natCast_add, psB, psC, hc, hx.1, hx.2.1, hx.2.2.2.2]
theorem read_long (hl : Free L readFs) (hF : L 15 = some fieldsH) (s : ByteArray) (hs : 4096 < s.size) (hs2 : s.size < 9223372036854775808) : callE (EV Tryd.prog L) 8 [str s, .im (.func (.func 9) #[] #[])] σ = some (.tup [.agg (exC (exprOut s).1), int (exprOut s).2.1, int (exprOut s).2.2], σ) := by
  have e0 : exprOut s = (zeroEx, 0, 111) := by unfold exprOut; rw [if_pos hs]
  rw [e0]
  have hx := fun σ => Lex_long (L := L) (σ := σ) (hl.sub (by simp)) s hs hs2
  refine call_fn (ids := [10]) (hl _ (by simp)) Tryd.func8 Tryd.ntmps8 Tryd.results8 (by simp) rfl rfl ⟨_, rfl, by kernel_rfl, ?_⟩
  simp (maxSteps := 1000000) (contextual := true) (implicitDefEqProofs := false) [-decide_eq_true_eq, -decide_eq_false_iff_not, -Bool.not_and, -Bool.not_or, -Bool.and_eq_false_imp, -Int.natCast_add, hx]
  rfl
theorem read_ok (hl : Free L readFs) (hF : L 15 = some fieldsH) (s : ByteArray) (hs : s.size ≤ 4096) : callE (EV Tryd.prog L) 8 [str s, .im (.func (.func 9) #[] #[])] σ = some (.tup [.agg (exC (exprOut s).1), int (exprOut s).2.1, int (exprOut s).2.2], σ) := by
  have hx := fun σ => Lex_ok (L := L) (σ := σ) (hl.sub (by simp)) hF s hs
  simp only [lexOut_eq] at hx
  have hlen := lexL_len s
  have hR := expr1_ok (hl.sub (by simp)) (expr_ok (hl.sub (by simp +contextual)) hF (p := startP s) rfl (show (lexL (lexA s.data.toList)).length < _ by omega) (D := 231) (by omega))
  have hadv := Adv.expr 231 0 (startP s)
  have e0 : exprOut s = if lexN (lexA s.data.toList) = 0 then
    (if (finP (exprS 231 0 (startP s)).2).no = 0 then ((exprS 231 0 (startP s)).1, s.size, 0) else (zeroEx, (finP (exprS 231 0 (startP s)).2).place, (finP (exprS 231 0 (startP s)).2).no))
  else (zeroEx, lexP s.size (lexA s.data.toList), lexN (lexA s.data.toList)) := by unfold exprOut; rw [if_neg (by omega)]
  have hc := fun x0 x1 bx gr => hR.call (σ := ⟨x0 :: x1 :: psB (startP s) :: bx, gr⟩) rfl rfl (b := 2) rfl
  simp only [psB, psC, List.set_cons_succ, List.set_cons_zero] at hc
  generalize exprS 231 0 (startP s) = r at *
  obtain ⟨e, p⟩ := r
  simp only at hc hadv e0
  have hl0 : p.l = lexL (lexA s.data.toList) := hadv.l
  unfold startP at hc
  simp only at hc
  generalize lexL (lexA s.data.toList) = l at *
  generalize lexN (lexA s.data.toList) = no at *
  generalize lexP s.size (lexA s.data.toList) = at_ at *
  have hst := fun x0 x1 bx gr => (stop_ok (hl _ (by simp)) p 130).call (σ := ⟨x0 :: x1 :: psB p :: bx, gr⟩) rfl rfl rfl (b := 2) rfl
  have hpl := fun x0 x1 bx gr => (place_ok (hl _ (by simp)) p).call (σ := ⟨x0 :: x1 :: psB p :: bx, gr⟩) rfl rfl rfl (b := 2) rfl
  have hpl2 := fun x0 x1 bx gr => (place_ok (hl _ (by simp)) (p.stop 130)).call (σ := ⟨x0 :: x1 :: psB (p.stop 130) :: bx, gr⟩) rfl rfl rfl (b := 2) rfl
  simp only [psB, psC, List.set_cons_succ, List.set_cons_zero] at hst hpl hpl2
  have hc2 : ∀ x0 x1 bx gr, callE (EV Tryd.prog L) 9 [.ptr 2 0] ⟨x0 :: x1 :: .cells [.sl (l.map tokR) .unk, .im (.int .i64 0), .im (.int .i64 s.size), .im (.int .i64 0), .im (.int .i64 0), .im (.int .i64 0)] :: bx, gr⟩ = some (.agg (exC e), ⟨x0 :: x1 :: .cells [.sl (p.l.map tokR) .unk, int p.k, int p.e, int p.no, int p.bl, int p.inn] :: bx, gr⟩) := hc
  have hx2 := exC_all e
  refine call_fn (ids := [10]) (hl _ (by simp)) Tryd.func8 Tryd.ntmps8 Tryd.results8 (by simp) rfl rfl ⟨_, rfl, by kernel_rfl, ?_⟩
  simp (maxSteps := 1000000) (contextual := true) (implicitDefEqProofs := false) [-decide_eq_true_eq, -decide_eq_false_iff_not, -Bool.not_and, -Bool.not_or, -Bool.and_eq_false_imp, -Int.natCast_add, hx, hc2, hst, hpl, hpl2, hx2.1, hx2.2.1, hx2.2.2.2.2]
  have hee := exC_row e
  rw [e0]
  refine ⟨fun hn => ?_, fun hn => ⟨fun h1 h2 => ?_, fun h1 => ⟨fun h2 => ?_, fun h2 => ?_⟩⟩⟩
  · rw [if_neg (of_decide_eq_false hn)]; exact ⟨rfl, rfl, rfl⟩
  · have hf : finP p = p.stop 130 := by unfold finP; rw [if_pos (of_decide_eq_true h1), if_pos (by rw [hl0]; exact of_decide_eq_true h2)]
    rw [if_pos (of_decide_eq_true hn), hf]
    refine ⟨fun h3 => ?_, fun h3 => ?_⟩
    · rw [if_neg (of_decide_eq_false h3)]; exact ⟨by kernel_rfl, rfl, rfl, rfl⟩
    · rw [if_pos (of_decide_eq_true h3)]; exact ⟨hee.2.1, hee.2.2, rfl, rfl⟩
  · have hf : finP p = p := by unfold finP; rw [if_neg (of_decide_eq_false h2)]
    rw [if_pos (of_decide_eq_true hn), hf, if_neg (of_decide_eq_false h2)]; exact ⟨by kernel_rfl, rfl, rfl, rfl⟩
  · have hf : finP p = p := by
      unfold finP; rw [if_pos (of_decide_eq_true h2), if_neg (fun h3 => ?_)]
      rw [hl0] at h3
      rw [h2, decide_eq_true h3] at h1; cases h1
    rw [if_pos (of_decide_eq_true hn), hf, if_pos (of_decide_eq_true h2)]; exact ⟨hee.2.1, hee.2.2, rfl, rfl⟩
/-- parse.Expr. -/
theorem Expr_ok (hl : Free L readFs) (hF : L 15 = some fieldsH) (s : ByteArray) (hs2 : s.size < 9223372036854775808) : callE (EV Tryd.prog L) 4 [str s] σ = some (.tup [.agg (exC (exprOut s).1), int (exprOut s).2.1, int (exprOut s).2.2], σ) := by
  have hr := fun σ => show callE (EV Tryd.prog L) 8 [str s, .im (.func (.func 9) #[] #[])] σ = some (.tup [.agg (exC (exprOut s).1), int (exprOut s).2.1, int (exprOut s).2.2], σ) from (by
    by_cases h : 4096 < s.size
    · exact read_long hl hF s h hs2
    · exact read_ok hl hF s (by omega))
  have hx := exC_all (exprOut s).1
  have hee := exC_row (exprOut s).1
  refine call_fn (ids := []) (hl _ (by simp)) Tryd.func4 Tryd.ntmps4 Tryd.results4 (by simp) rfl rfl ⟨_, rfl, by kernel_rfl, ?_⟩
  simp (maxSteps := 1000000) (contextual := true) (implicitDefEqProofs := false) [-decide_eq_true_eq, -decide_eq_false_iff_not, -Bool.not_and, -Bool.not_or, -Bool.and_eq_false_imp, -Int.natCast_add, hr, hx.1, hx.2.1, hx.2.2.2.2, hee.2.1, hee.2.2]
end Go.Proofs.YtfgoedndpcblpaaDoor.Pv
end

section
/- Functions that were walked, as they are told from here on. -/
namespace Go.Proofs.YtfgoedndpcblpaaDoor.Pv
open Go Go.Proofs Go.RowKit Go.Proofs.YtfgoedndpcblpaaDoor.Lx Go.Proofs.YtfgoedndpcblpaaDoor.Ps
set_option linter.unusedSimpArgs false
set_option linter.unusedVariables false
noncomputable section

theorem EV_hand {T : Base} {L : Lib} (h : ∀ k, HandOk Tryd.prog T (evF Tryd.prog L k)) : HandOk Tryd.prog T (EV Tryd.prog L) := fun f args σ r σ' e => by
  obtain ⟨k, hk⟩ := EV_iff.1 e
  exact h k f args σ r σ' hk
theorem told_fun {T : Base} {L : Lib} (hH : HandOk Tryd.prog T (EV Tryd.prog L)) {f : FuncId} {h : List PV → Sto → Option (PV × Sto)} (hh : ∀ args σ r σ', h args σ = some (r, σ') → callE (EV Tryd.prog L) f args σ = some (r, σ')) : FunOk Tryd.prog T f h :=
  fun args σ r σ' e G w vals hT hI hl ha => call_sound hH (hh args σ r σ' e) hT hI hl ha
/-! ### A parser out of its cells -/
def decT : List FV → Option Tk
  | [.im (.int .i64 k), .im (.string s), .im (.int .i64 n), .im (.int .i64 a)] => if 0 ≤ a then some (k, s.data.toList, n, a.toNat) else none
  | _ => none
def decTs : List (List FV) → Option (List Tk)
  | [] => some []
  | x :: xs => match decT x, decTs xs with
    | some y, some ys => some (y :: ys)
    | _, _ => none
def decP : List PV → Option PS
  | [.sl rows .unk, .im (.int .i64 k), .im (.int .i64 e), .im (.int .i64 no), .im (.int .i64 bl), .im (.int .i64 inn)] => match decTs rows with
    | some l => if 0 ≤ k ∧ 0 ≤ e ∧ 0 ≤ bl ∧ 0 ≤ inn then some ⟨l, k.toNat, e.toNat, no, bl.toNat, inn.toNat⟩ else none
    | none => none
  | _ => none
theorem decT_spec {x : List FV} {t : Tk} (h : decT x = some t) : x = tokR t := by
  unfold decT at h
  split at h
  · rename_i k s n a
    split at h
    · rename_i ha
      cases h
      have e : ((a.toNat : Nat) : Int) = a := by omega
      simp only [tokR, strOf_self, e]
    · cases h
  · cases h
theorem decTs_spec : ∀ {x : List (List FV)} {t : List Tk}, decTs x = some t → x = t.map tokR
  | [], t, h => by cases h; rfl
  | x :: xs, t, h => by
    simp only [decTs] at h
    split at h
    · rename_i y ys h1 h2
      cases h
      rw [List.map_cons, ← decT_spec h1, ← decTs_spec h2]
    · cases h
theorem decP_spec {cs : List PV} {p : PS} (h : decP cs = some p) : cs = psC p := by
  unfold decP at h
  split at h
  · rename_i rows k e no bl inn
    split at h
    · rename_i l hl
      split at h
      · rename_i hc
        cases h
        obtain ⟨h1, h2, h3, h4⟩ := hc
        have e1 : ((k.toNat : Nat) : Int) = k := by omega
        have e2 : ((e.toNat : Nat) : Int) = e := by omega
        have e3 : ((bl.toNat : Nat) : Int) = bl := by omega
        have e4 : ((inn.toNat : Nat) : Int) = inn := by omega
        simp only [psC, e1, e2, e3, e4, decTs_spec hl]
      · cases h
    · cases h
  · cases h
def methH (g : PS → List PV → Option (PV × PS)) : List PV → Sto → Option (PV × Sto)
  | .ptr b 0 :: args, σ => match σ.bx[b]? with
    | some (.cells cs) => match decP cs with
      | some p => (g p args).map fun x => (x.1, { σ with bx := σ.bx.set b (psB x.2) })
      | none => none
    | _ => none
  | _, _ => none
theorem meth_told {L : Lib} {f : FuncId} {g : PS → List PV → Option (PV × PS)} (hg : ∀ p args r p', g p args = some (r, p') → ptrsL args = [] ∧ eraL args = args ∧ ∃ r0, r0.ptrs = [] ∧ r0.era = r ∧ Meth L f args p r0 p') : ∀ args σ r σ', methH g args σ = some (r, σ') → callE (EV Tryd.prog L) f args σ = some (r, σ') := by
  intro args σ r σ' h
  unfold methH at h
  split at h
  · rename_i σ0 b args0
    split at h
    · rename_i cs hc
      split at h
      · rename_i p hp
        obtain ⟨x, h1, h2⟩ := Option.map_eq_some_iff.1 h
        cases h2
        obtain ⟨h3, h4, r0, h5, h6, h7⟩ := hg p args0 x.1 x.2 h1
        rw [← h6]
        exact h7.call h3 h4 h5 (by rw [hc, decP_spec hp])
      · cases h
    · cases h
  · cases h
theorem meth_still {g : PS → List PV → Option (PV × PS)} (hg : ∀ p args r p', g p args = some (r, p') → p' = p) : ∀ args σ r σ', methH g args σ = some (r, σ') → σ' = σ := by
  intro args σ r σ' h
  unfold methH at h
  split at h
  · rename_i σ0 b args0
    split at h
    · rename_i cs hc
      split at h
      · rename_i p hp
        obtain ⟨x, h1, h2⟩ := Option.map_eq_some_iff.1 h
        cases h2
        obtain rfl := hg p args0 x.1 x.2 h1
        have hlt := (List.getElem?_eq_some_iff.1 hc).1
        have : σ.bx.set b (psB x.2) = σ.bx := by
          apply List.ext_getElem?
          intro i
          by_cases hi : i = b
          · subst hi; rw [List.getElem?_set_self hlt, hc, decP_spec hp]
          · rw [List.getElem?_set_ne (Ne.symm hi)]
        rw [this]
      · cases h
    · cases h
  · cases h
def lexH : List PV → Sto → Option (PV × Sto)
  | [.im (.string s)], σ => if s.size ≤ 4096 then some (lexOut s.size (Lx.lexA s.data.toList), σ) else none
  | _, _ => none
def onG (p : PS) : List PV → Option (PV × PS)
  | [.im (.int .i64 k)] => some (boo (p.on k), p)
  | _ => none
def wordG (p : PS) : List PV → Option (PV × PS)
  | [.im (.int .i64 k), .im (.string s)] => some (boo (p.word k s.data.toList), p)
  | _ => none
def placeG (p : PS) : List PV → Option (PV × PS)
  | [] => some (int p.place, p)
  | _ => none
def stopG (p : PS) : List PV → Option (PV × PS)
  | [.im (.int .i64 x)] => some (.tup [], p.stop x)
  | _ => none
def takeG (p : PS) : List PV → Option (PV × PS)
  | [.im (.int .i64 k), .im (.string s)] => if p.l.length < 4611686018427387904 then some (boo (p.take k s.data.toList).1, (p.take k s.data.toList).2) else none
  | _ => none
def needG (p : PS) : List PV → Option (PV × PS)
  | [.im (.string s)] => if p.l.length < 4611686018427387904 then some (.tup [], p.need s.data.toList) else none
  | _ => none
def nameG (p : PS) : List PV → Option (PV × PS)
  | [] => if p.l.length < 4611686018427387904 then some (str p.name.1, p.name.2) else none
  | _ => none
def exprG (p : PS) : List PV → Option (PV × PS)
  | [.im (.int .i64 0)] => if p.l.length < 4611686018427387904 ∧ p.inn = 0 then some (.agg (exC (exprS 231 0 p).1), (exprS 231 0 p).2) else none
  | _ => none
def reservedH : List PV → Sto → Option (PV × Sto)
  | [.im (.string s)], σ => some (boo (reserved s.data.toList), σ)
  | _, _ => none
abbrev Hd := List PV → Sto → Option (PV × Sto)
/-- What is told ahead of what was told. -/
def look : List (FuncId × Hd) → Lib → Lib
  | [], L => L
  | x :: l, L => fun f => if f = x.1 then some x.2 else look l L f
theorem look_all {Q : FuncId → Hd → Prop} {L : Lib} : ∀ {l : List (FuncId × Hd)}, (∀ x ∈ l, Q x.1 x.2) → (∀ f h, L f = some h → Q f h) → ∀ f h, look l L f = some h → Q f h
  | [], _, h2, f, h, e => h2 f h e
  | x :: l, h1, h2, f, h, e => by
    simp only [look] at e
    by_cases hf : f = x.1
    · rw [if_pos hf] at e; cases e; subst hf; exact h1 x (List.mem_cons_self ..)
    · rw [if_neg hf] at e; exact look_all (fun y hy => h1 y (List.mem_cons_of_mem _ hy)) h2 f h e
def libL : Lib := look [(15, fieldsH), (25, joinH), (48, repeatH), (67, formatH), (62, copyH), (28, stringH)] fun _ => none
def libX : Lib := look [(16, lexH), (21, methH onG), (36, methH wordG), (18, methH placeG), (17, methH stopG), (43, methH takeG), (40, methH needG), (41, methH nameG), (10, methH exprG), (6, reservedH)] libL
end
end Go.Proofs.YtfgoedndpcblpaaDoor.Pv
end

section
/- ParseReserved: the law's function yields true. -/
namespace Go.Proofs.YtfgoedndpcblpaaDoor.Pv
open Go Go.Proofs Go.RowKit Go.Proofs.YtfgoedndpcblpaaDoor.Lx Go.Proofs.YtfgoedndpcblpaaDoor.Ps
set_option linter.unusedSimpArgs false
set_option linter.unusedVariables false
noncomputable section

theorem lib_ok {T : Base} {b c : Nat} {o q : Obj} (ha : asciiB b o) (ha' : T b = some o) (hp : powB c q) (hp' : T c = some q) : ∀ f h, libL f = some h → FunOk Tryd.prog T f h := by
  refine look_all (fun x hx => ?_) (fun f h e => by cases e)
  simp only [List.mem_cons, List.not_mem_nil, or_false] at hx
  rcases hx with rfl | rfl | rfl | rfl | rfl | rfl
  · exact fields_fun ha ha'
  · exact join_fun
  · exact repeat_fun
  · exact format_fun hp hp'
  · exact copy_fun
  · exact string_fun
set_option maxRecDepth 100000
theorem ro_copy : ∀ d, roF Tryd.prog d 62 = false
  | 0 | 1 | 2 | 3 | 4 | 5 | 6 | 7 => by kernel_rfl
  | k + 8 => by kernel_rfl
theorem ro_stop : ∀ d, roF Tryd.prog d 17 = false
  | 0 | 1 | 2 | 3 | 4 | 5 | 6 | 7 => by kernel_rfl
  | k + 8 => by kernel_rfl
theorem ro_take : ∀ d, roF Tryd.prog d 43 = false
  | 0 | 1 | 2 | 3 | 4 | 5 | 6 | 7 => by kernel_rfl
  | k + 8 => by kernel_rfl
theorem ro_need : ∀ d, roF Tryd.prog d 40 = false
  | 0 | 1 | 2 | 3 | 4 | 5 | 6 | 7 => by kernel_rfl
  | k + 8 => by kernel_rfl
theorem ro_name : ∀ d, roF Tryd.prog d 41 = false
  | 0 | 1 | 2 | 3 | 4 | 5 | 6 | 7 => by kernel_rfl
  | k + 8 => by kernel_rfl
theorem ro_expr : ∀ d, roF Tryd.prog d 10 = false
  | 0 | 1 | 2 | 3 | 4 | 5 | 6 | 7 => by kernel_rfl
  | k + 8 => by kernel_rfl
theorem libL_ro : LibRo Tryd.prog libL := by
  refine look_all (Q := fun f h => ∀ d, roF Tryd.prog d f = true → ∀ args σ r σ1, h args σ = some (r, σ1) → σ1 = σ) (fun x hx d hd args σ r σ1 he => ?_) (fun f h e => by cases e)
  simp only [List.mem_cons, List.not_mem_nil, or_false] at hx
  rcases hx with rfl | rfl | rfl | rfl | rfl | rfl
  · dsimp only at he; unfold fieldsH at he; split at he
    · split at he
      · cases he; rfl
      · cases he
    · cases he
  · dsimp only at he; unfold joinH at he; split at he
    · split at he
      · split at he
        · cases he; rfl
        · cases he
      · cases he
    · cases he
  · dsimp only at he; unfold repeatH at he; split at he
    · split at he
      · cases he; rfl
      · cases he
    · cases he
  · dsimp only at he; unfold formatH at he; split at he
    · split at he
      · cases he; rfl
      · cases he
    · cases he
  · rw [ro_copy] at hd; cases hd
  · dsimp only at he; unfold stringH at he; split at he
    · split at he
      · split at he
        · split at he
          · cases he; rfl
          · cases he
        · cases he
      · cases he
    · cases he
theorem mixed : Tryd.prog.follows .mixedOrders = true := by kernel_rfl
theorem hand_L {T : Base} (h : ∀ f h, libL f = some h → FunOk Tryd.prog T f h) : HandOk Tryd.prog T (EV Tryd.prog libL) := EV_hand (ev_sound mixed libL_ro h)
theorem hF_L : libL 15 = some fieldsH := rfl
theorem free_L : Free libL readFs := by
  intro f hf
  simp only [readFs, exprFs, List.cons_append, List.nil_append, List.mem_cons, List.not_mem_nil, or_false] at hf
  rcases hf with rfl | rfl | rfl | rfl | rfl | rfl | rfl | rfl | rfl | rfl | rfl | rfl | rfl | rfl | rfl | rfl | rfl | rfl | rfl | rfl | rfl | rfl | rfl | rfl | rfl | rfl | rfl | rfl | rfl | rfl | rfl | rfl | rfl <;> rfl
theorem libX_ok {T : Base} (h0 : ∀ f h, libL f = some h → FunOk Tryd.prog T f h) : ∀ f h, libX f = some h → FunOk Tryd.prog T f h := by
  have hH := hand_L h0
  have hl := free_L
  refine look_all (fun x hx => ?_) h0
  simp only [List.mem_cons, List.not_mem_nil, or_false] at hx
  rcases hx with rfl | rfl | rfl | rfl | rfl | rfl | rfl | rfl | rfl | rfl
  · skip
    refine told_fun hH fun args σ r σ' he => ?_
    dsimp only at he; unfold lexH at he
    split at he
    · rename_i s
      split at he
      · rename_i hs; cases he; exact Lex_ok (hl.sub (by simp)) hF_L s hs
      · cases he
    · cases he
  · skip
    refine told_fun hH (meth_told fun p args r p' he => ?_)
    unfold onG at he
    split at he
    · cases he; exact ⟨rfl, rfl, _, rfl, rfl, on_ok (hl _ (by simp)) _ _⟩
    · cases he
  · skip
    refine told_fun hH (meth_told fun p args r p' he => ?_)
    unfold wordG at he
    split at he
    · cases he; exact ⟨rfl, rfl, _, rfl, rfl, word_ok (hl.sub (by simp)) _ _ _⟩
    · cases he
  · skip
    refine told_fun hH (meth_told fun p args r p' he => ?_)
    unfold placeG at he
    split at he
    · cases he; exact ⟨rfl, rfl, _, rfl, rfl, place_ok (hl _ (by simp)) _⟩
    · cases he
  · skip
    refine told_fun hH (meth_told fun p args r p' he => ?_)
    unfold stopG at he
    split at he
    · cases he; exact ⟨rfl, rfl, _, rfl, rfl, stop_ok (hl _ (by simp)) _ _⟩
    · cases he
  · skip
    refine told_fun hH (meth_told fun p args r p' he => ?_)
    unfold takeG at he
    split at he
    · split at he
      · rename_i hv; cases he; exact ⟨rfl, rfl, _, rfl, rfl, take_ok (hl.sub (by simp)) _ hv _ _⟩
      · cases he
    · cases he
  · skip
    refine told_fun hH (meth_told fun p args r p' he => ?_)
    unfold needG at he
    split at he
    · split at he
      · rename_i hv; cases he; exact ⟨rfl, rfl, _, rfl, rfl, need_ok (hl.sub (by simp)) _ hv _⟩
      · cases he
    · cases he
  · skip
    refine told_fun hH (meth_told fun p args r p' he => ?_)
    unfold nameG at he
    split at he
    · split at he
      · rename_i hv; cases he; exact ⟨rfl, rfl, _, rfl, rfl, name_ok (hl.sub (by simp)) hF_L _ hv⟩
      · cases he
    · cases he
  · skip
    refine told_fun hH (meth_told fun p args r p' he => ?_)
    unfold exprG at he
    split at he
    · split at he
      · rename_i hv
        cases he
        obtain ⟨r0, h1, h2, h3⟩ := expr_ok (L := libL) (hl.sub (by simp +contextual)) hF_L hv.2 hv.1 (D := 231) (Nat.le_refl _)
        exact ⟨rfl, rfl, r0, h1, h2, h3⟩
      · cases he
    · cases he
  · skip
    refine told_fun hH fun args σ r σ' he => ?_
    dsimp only at he; unfold reservedH at he
    split at he
    · cases he; exact reserved_ok (hl.sub (by simp)) hF_L _
    · cases he
theorem libX_ro : LibRo Tryd.prog libX := by
  refine look_all (Q := fun f h => ∀ d, roF Tryd.prog d f = true → ∀ args σ r σ1, h args σ = some (r, σ1) → σ1 = σ) (fun x hx d hd args σ r σ1 he => ?_) libL_ro
  simp only [List.mem_cons, List.not_mem_nil, or_false] at hx
  rcases hx with rfl | rfl | rfl | rfl | rfl | rfl | rfl | rfl | rfl | rfl
  · dsimp only at he; unfold lexH at he; split at he
    · split at he
      · cases he; rfl
      · cases he
    · cases he
  · skip
    refine meth_still (fun p args r p' h => ?_) _ _ _ _ he
    unfold onG at h; split at h <;> cases h; rfl
  · skip
    refine meth_still (fun p args r p' h => ?_) _ _ _ _ he
    unfold wordG at h; split at h <;> cases h; rfl
  · skip
    refine meth_still (fun p args r p' h => ?_) _ _ _ _ he
    unfold placeG at h; split at h <;> cases h; rfl
  · rw [ro_stop] at hd; cases hd
  · rw [ro_take] at hd; cases hd
  · rw [ro_need] at hd; cases hd
  · rw [ro_name] at hd; cases hd
  · rw [ro_expr] at hd; cases hd
  · dsimp only at he; unfold reservedH at he; split at he <;> cases he; rfl
set_option maxRecDepth 1000000 in
theorem alive_ev : ((evF Tryd.prog libX 400 5 [] ⟨[], []⟩).map (·.1)) = some (boo true) := by kernel_rfl
theorem alive_ok {σ : Sto} : callE (EV Tryd.prog libX) 5 [] σ = some (boo true, σ) := by
  obtain ⟨x, h1, h2⟩ := Option.map_eq_some_iff.1 alive_ev
  have h3 : EV Tryd.prog libX 5 [] ⟨[], []⟩ = some (boo true, x.2) := EV_iff.2 ⟨400, by rw [h1, ← h2]⟩
  exact call_pure (r := boo true) rfl h3 rfl
def exprOutH : List PV → Sto → Option (PV × Sto)
  | [.im (.string s)], σ => if s.size < 9223372036854775808 then some (.tup [.agg (exC (exprOut s).1), int (exprOut s).2.1, int (exprOut s).2.2], σ) else none
  | _, _ => none
def aliveH : List PV → Sto → Option (PV × Sto)
  | [], σ => some (boo true, σ)
  | _, _ => none
def libY : Lib := look [(4, exprOutH), (5, aliveH)] libX
theorem libY_ok {T : Base} (h0 : ∀ f h, libL f = some h → FunOk Tryd.prog T f h) : ∀ f h, libY f = some h → FunOk Tryd.prog T f h := by
  refine look_all (fun x hx => ?_) (libX_ok h0)
  simp only [List.mem_cons, List.not_mem_nil, or_false] at hx
  rcases hx with rfl | rfl
  · refine told_fun (hand_L h0) fun args σ r σ' he => ?_
    dsimp only at he; unfold exprOutH at he
    split at he
    · split at he
      · rename_i hs; cases he; exact Expr_ok free_L hF_L _ hs
      · cases he
    · cases he
  · refine told_fun (EV_hand (ev_sound mixed libX_ro (libX_ok h0))) fun args σ r σ' he => ?_
    dsimp only at he; unfold aliveH at he
    split at he
    · cases he; exact alive_ok
    · cases he
theorem libY_ro : LibRo Tryd.prog libY := by
  refine look_all (Q := fun f h => ∀ d, roF Tryd.prog d f = true → ∀ args σ r σ1, h args σ = some (r, σ1) → σ1 = σ) (fun x hx d hd args σ r σ1 he => ?_) libX_ro
  simp only [List.mem_cons, List.not_mem_nil, or_false] at hx
  rcases hx with rfl | rfl
  · dsimp only at he; unfold exprOutH at he; split at he
    · split at he
      · cases he; rfl
      · cases he
    · cases he
  · dsimp only at he; unfold aliveH at he; split at he <;> cases he; rfl
end
end Go.Proofs.YtfgoedndpcblpaaDoor.Pv
end

section
/- ParseReserved: the law's function yields true (2). -/
namespace Go.Proofs.YtfgoedndpcblpaaDoor.Pv
open Go Go.Proofs Go.RowKit Go.Proofs.YtfgoedndpcblpaaDoor.Lx Go.Proofs.YtfgoedndpcblpaaDoor.Ps
set_option linter.unusedSimpArgs false
set_option linter.unusedVariables false
variable {σ : Sto}
/-- The document's words. -/
def refW : List (List UInt8) := [[101, 110, 117, 109], [118, 97, 114], [112, 114, 111, 99], [109, 97, 105, 110], [105, 102], [101, 108, 115, 101], [119, 104, 105, 108, 101], [97, 115, 115, 101, 114, 116], [97, 115, 115, 117, 109, 101], [99, 97, 108, 108], [115, 107, 105, 112], [105, 110, 112, 117, 116], [116, 114, 117, 101], [102, 97, 108, 115, 101], [105, 110, 116], [98, 111, 111, 108]]
theorem refW_len : refW.length = 16 := rfl
theorem ref_ok {L : Lib} (hl : L 7 = none) (s : ByteArray) : callE (EV Tryd.prog L) 7 [str s] σ = some (boo (refW.contains s.data.toList), σ) := by
  refine call_fn (ids := []) hl Tryd.func7 Tryd.ntmps7 Tryd.results7 (by simp) rfl rfl ⟨_, rfl, by kernel_rfl, ?_⟩
  simp (maxSteps := 1000000) (contextual := true) (implicitDefEqProofs := false) [-decide_eq_true_eq, -decide_eq_false_iff_not, -Bool.not_and, -Bool.not_or, -Bool.and_eq_false_imp, -Int.natCast_add]
  have hrow : ([[FV.im (Value.string { data := #[101, 110, 117, 109] })], [FV.im (Value.string { data := #[118, 97, 114] })], [FV.im (Value.string { data := #[112, 114, 111, 99] })], [FV.im (Value.string { data := #[109, 97, 105, 110] })], [FV.im (Value.string { data := #[105, 102] })], [FV.im (Value.string { data := #[101, 108, 115, 101] })], [FV.im (Value.string { data := #[119, 104, 105, 108, 101] })], [FV.im (Value.string { data := #[97, 115, 115, 101, 114, 116] })], [FV.im (Value.string { data := #[97, 115, 115, 117, 109, 101] })], [FV.im (Value.string { data := #[99, 97, 108, 108] })], [FV.im (Value.string { data := #[115, 107, 105, 112] })], [FV.im (Value.string { data := #[105, 110, 112, 117, 116] })], [FV.im (Value.string { data := #[116, 114, 117, 101] })], [FV.im (Value.string { data := #[102, 97, 108, 115, 101] })], [FV.im (Value.string { data := #[105, 110, 116] })], [FV.im (Value.string { data := #[98, 111, 111, 108] })]] : List (List FV)) = refW.map fun x => [.im (.string (strOf x))] := rfl
  refine WP.each refW (fun rest i s' => s'.sto = ⟨[], []⟩ ∧ s'.env 0 = str s ∧ s'.env 3 = .sl (refW.map fun x => [.im (.string (strOf x))]) .full ∧ s'.env 4 = int i ∧ rest.contains s.data.toList = refW.contains s.data.toList) ⟨rfl, by simp, by simp [hrow]; rfl, by simp, rfl⟩ ?_ ?_
  · rintro x xs i ⟨env, τ⟩ hx hi hxs ⟨h1, h2, h3, h4, h5⟩
    simp only at h1 h2 h3 h4
    subst h1
    have hix : idx 1 (refW.map fun x => [.im (.string (strOf x))]) i = some (.el [.im (.string (strOf x))] 0) := idx_get (by rw [List.getElem?_map, hx]; rfl) rfl
    have hlt : decide (i < refW.length) = true := by simp [hi]
    have hw : IntKind.wrap .i64 ((i : Int) + 1) = ((i + 1 : Nat) : Int) := wrap_succ (by have := refW_len; omega)
    have he := strOf_inj s x
    simp (maxSteps := 1000000) (contextual := true) (implicitDefEqProofs := false) [-decide_eq_true_eq, -decide_eq_false_iff_not, -Bool.not_and, -Bool.not_or, -Bool.and_eq_false_imp, -Int.natCast_add, h2, h3, h4, hlt, hix, he, hw]
    have hxm : x ∈ refW := List.mem_of_getElem? hx
    refine ⟨fun e => ?_, fun e => ?_⟩
    · rw [← of_decide_eq_true e]; exact hxm
    · have h6 : ¬ x = s.data.toList := of_decide_eq_false e
      have : (x :: xs).contains s.data.toList = xs.contains s.data.toList := by
        rw [List.contains_cons]
        have : (s.data.toList == x) = false := by simp; exact fun e => h6 e.symm
        rw [this, Bool.false_or]
      rw [this] at h5
      simpa using Bool.eq_iff_iff.1 h5
  · rintro ⟨env, τ⟩ ⟨h1, h2, h3, h4, h5⟩
    simp only at h1 h2 h3 h4
    subst h1
    simp (maxSteps := 1000000) (contextual := true) (implicitDefEqProofs := false) [-decide_eq_true_eq, -decide_eq_false_iff_not, -Bool.not_and, -Bool.not_or, -Bool.and_eq_false_imp, -Int.natCast_add, h2, h3, h4]
    intro h
    have : refW.contains s.data.toList = true := by simpa using h
    rw [this] at h5; cases h5
theorem res_ref : resL = refW := by decide
def opE1 : Ex → ByteArray
  | .mk op _ _ _ _ => op
theorem ref_two : (refW.all fun w => decide ((exprOut (strOf w)).2.2 = 130) || decide ((opE1 (exprOut (strOf w)).1).data.toList = w)) = true := by kernel_rfl
theorem ref_law (s : ByteArray) (h : refW.contains s.data.toList = true) : (exprOut s).2.2 = 130 ∨ opE1 (exprOut s).1 = s := by
  have h1 := List.all_eq_true.1 ref_two s.data.toList (by simpa using h)
  rw [strOf_self] at h1
  rcases Bool.or_eq_true_iff.1 h1 with h2 | h2
  · exact .inl (of_decide_eq_true h2)
  · right
    have := of_decide_eq_true h2
    rw [← strOf_self (opE1 (exprOut s).1), this, strOf_self]
/-- What is told of Reserved: known names. -/
theorem law_ok (s : ByteArray) (hs : s.size < 9223372036854775808) : callE (EV Tryd.prog libY) 3 [str s] σ = some (boo true, σ) := by
  have hx := exC_row (exprOut s).1
  have h4 : ∀ σ, callE (EV Tryd.prog libY) 4 [str s] σ = some (.tup [.agg (exC (exprOut s).1), int (exprOut s).2.1, int (exprOut s).2.2], σ) := fun σ => by
    rw [call_lib (L := libY) (σ := σ) (f := 4) (args := [str s]) (h := exprOutH) rfl rfl (r := .tup [.agg (exC (exprOut s).1), int (exprOut s).2.1, int (exprOut s).2.2]) (σ1 := ⟨[], []⟩) (if_pos hs) (by simp [hx.2.1])]
    simp [hx.2.2]
  have h5 : ∀ σ, callE (EV Tryd.prog libY) 5 [] σ = some (boo true, σ) := fun σ => by
    rw [call_lib (L := libY) (σ := σ) (f := 5) (args := []) (h := aliveH) rfl rfl (r := boo true) (σ1 := ⟨[], []⟩) rfl rfl]; rfl
  have h6 : ∀ σ, callE (EV Tryd.prog libY) 6 [str s] σ = some (boo (reserved s.data.toList), σ) := fun σ => by
    rw [call_lib (L := libY) (σ := σ) (f := 6) (args := [str s]) (h := reservedH) rfl rfl (r := boo (reserved s.data.toList)) (σ1 := ⟨[], []⟩) rfl rfl]; rfl
  have h7 := fun σ => ref_ok (L := libY) (σ := σ) rfl s
  have hr : reserved s.data.toList = refW.contains s.data.toList := by unfold reserved; rw [res_ref]
  rw [hr] at h6
  generalize hb : refW.contains s.data.toList = b at h6 h7
  have hlaw := ref_law s
  rw [hb] at hlaw
  have hl : Free libY [3] := by
    intro f hf
    simp only [List.mem_cons, List.not_mem_nil, or_false] at hf
    subst hf; rfl
  generalize exprOut s = eo at *
  obtain ⟨⟨op, name, n, l, a⟩, at_, no⟩ := eo
  simp only [exC, opE1] at h4 hlaw
  refine call_fn (ids := []) (hl _ (by simp)) Tryd.func3 Tryd.ntmps3 Tryd.results3 (by simp) rfl rfl ⟨_, rfl, by kernel_rfl, ?_⟩
  simp (maxSteps := 1000000) (contextual := true) (implicitDefEqProofs := false) [-decide_eq_true_eq, -decide_eq_false_iff_not, -Bool.not_and, -Bool.not_or, -Bool.and_eq_false_imp, -Int.natCast_add, h4, h5, h6, h7, bin_beq Tryd.underlying4]
  intro hb2
  rcases hlaw hb2 with h | h
  · exact .inl (decide_eq_true h)
  · exact .inr (decide_eq_true h)
end Go.Proofs.YtfgoedndpcblpaaDoor.Pv
end

section
/- ParseReserved: the call, in a world that holds the library's tables. -/
namespace Go.Proofs.YtfgoedndpcblpaaDoor.Pv
open Go Go.Proofs Go.RowKit
set_option linter.unusedVariables false

/-- A call that is handed nothing of memory, from what the evaluator comes to. -/
theorem walk_of {W : World} (hA : Go.Lib.TabIs Tryd.prog W "strings.asciiSpace" .u8 Go.Lib.asciiSpaceTab) (hP : Go.Lib.TabIs Tryd.prog W "internal/strconv.uint64pow10" .u64 Go.Lib.pow10Tab) {L : Lib} (hR : LibRo Tryd.prog L) (hL : ∀ T : Base, (∀ f h, libL f = some h → FunOk Tryd.prog T f h) → ∀ f h, L f = some h → FunOk Tryd.prog T f h)
    {f : FuncId} {args : List PV} {b : Bool} {vals : Array Value} (hl : args.length = vals.size) (ha : ∀ G : Gh, ∀ i (h : i < args.length), Rep G args[i] (vals.getD i undef)) (h : callE (EV Tryd.prog L) f args ⟨[], []⟩ = some (boo b, ⟨[], []⟩)) :
    Calls Tryd.prog f vals W fun e W' => e = .returned (.bool b) ∧ Below W.heap.size W W' := by
  have key : ∀ {name : String} {k : IntKind} {zs : List Int}, Go.Lib.TabIs Tryd.prog W name k zs → ∃ g t fr, Tryd.prog.globalNamed name = some g ∧ W.heap[g]? = some (.cells (zs.map fun z => Value.int k z).toArray t fr) := by
    intro name k zs h
    unfold Go.Lib.TabIs World.var? at h
    obtain ⟨g, h1, h2⟩ := Option.bind_eq_some_iff.1 h
    split at h2
    · rename_i cs t fr he
      cases h2
      exact ⟨g, t, fr, h1, he⟩
    · cases h2
  obtain ⟨g1, t1, fr1, a1, a2⟩ := key hA
  obtain ⟨g2, t2, fr2, b1, b2⟩ := key hP
  let T : Base := fun b => if b = g1 then W.heap[g1]? else if b = g2 then W.heap[g2]? else none
  have hT1 : T g1 = some (.cells (Go.Lib.asciiSpaceTab.map fun z => Value.int .u8 z).toArray t1 fr1) := by
    show (if g1 = g1 then _ else _) = _
    rw [if_pos rfl, a2]
  have hne : g2 ≠ g1 := by
    intro e
    subst e
    have : Tryd.prog.globalNamed "strings.asciiSpace" ≠ Tryd.prog.globalNamed "internal/strconv.uint64pow10" := by
      rw [show Tryd.prog.globalNamed "strings.asciiSpace" = some 0 by kernel_rfl, show Tryd.prog.globalNamed "internal/strconv.uint64pow10" = some 3 by kernel_rfl]
      decide
    exact this (a1.trans b1.symm)
  have hT2 : T g2 = some (.cells (Go.Lib.pow10Tab.map fun z => Value.int .u64 z).toArray t2 fr2) := by
    show (if g2 = g1 then _ else if g2 = g2 then _ else _) = _
    rw [if_neg hne, if_pos rfl, b2]
  have hH : HandOk Tryd.prog T (EV Tryd.prog L) := EV_hand (ev_sound mixed hR (hL T (lib_ok ⟨a1, t1, fr1, rfl⟩ hT1 ⟨b1, t2, fr2, rfl⟩ hT2)))
  let G : Gh := ⟨fun _ _ => none, [], []⟩
  have hM : ∀ b, ¬ G.M b := by
    rintro b (⟨i, e⟩ | ⟨g, r, e, _⟩)
    · cases e
    · cases e
  have hT : Tab T G W := fun b o e => by
    refine ⟨?_, hM b⟩
    have e' : (if b = g1 then W.heap[g1]? else if b = g2 then W.heap[g2]? else none) = some o := e
    split at e'
    · rename_i hb; rw [hb]; exact e'
    · split at e'
      · rename_i hb; rw [hb]; exact e'
      · cases e'
  have hI : Inv G ⟨[], []⟩ W := ⟨(fun b o v e => by cases e), rfl, (fun i blk x e => by cases e), (fun i blk o e => rfl), (fun i j blk e => by cases e), rfl, (fun g r e => by cases e), (fun g k r s e => by cases e), (fun g i blk r e => by cases e)⟩
  refine (call_sound hH h hT hI hl (ha G)).mono ?_
  rintro e w' ⟨v, G', rfl, hI', hr, hL'⟩
  rw [rep_im hr]
  exact ⟨rfl, ⟨hL'.io.1, hL'.io.2.1, hL'.io.2.2, hL'.size, fun k hk => hL'.same k hk (hM k)⟩⟩
theorem reserved_walk (s : ByteArray) (W : World) (hA : Go.Lib.TabIs Tryd.prog W "strings.asciiSpace" .u8 Go.Lib.asciiSpaceTab) (hP : Go.Lib.TabIs Tryd.prog W "internal/strconv.uint64pow10" .u64 Go.Lib.pow10Tab) (hs : s.size ≤ 140737488351232) :
    Calls Tryd.prog 3 #[.string s] W fun e W' => e = .returned (.bool true) ∧ Below W.heap.size W W' := by
  refine walk_of hA hP libY_ro (fun T h => libY_ok h) (args := [str s]) rfl (fun G i h => ?_) (law_ok s (by omega))
  have : i = 0 := by simp at h; exact h
  subst this
  exact .im _
end Go.Proofs.YtfgoedndpcblpaaDoor.Pv
end

section
namespace Go.Proofs.YtfgoedndpcblpaaDoor.parseReserved
open Go.ChangeShapes Go.WideShapes Go.ChangeAt Go.RowKit
open Go.ChangeMaps (open_string shut_string)
set_option linter.unusedVariables false

theorem reads (os : Os) {H : Type} (enc : TypeId × Value → H) : ∃ places, DataW.whole enc Tryd.prog ((laidWorld os).forCall (fun _ _ => 0) ⟨#[], #[.string ByteArray.empty], []⟩).memory Tryd.f3.params.toList Rows.parseReservedSpec.vars false (#[Value.string ByteArray.empty] : Array Value).toList 8 = some ([.lit (.string [])], [], places) :=
  ⟨[], by kernel_rfl⟩

set_option maxRecDepth 100000 in
theorem lifted (os : Os) (started : os.Started) (H : Type) (enc : TypeId × Value → H) (F : Stop.Interp) :
    ReturnsInHanded {} Tryd.checked os 3 .any ((OpenSpec.ofChange Rows.parseReservedSpec).preRow enc Tryd.prog Tryd.f3 Rows.parseReservedRow.domain false Rows.parseReservedRow.laid) (((OpenSpec.ofChange Rows.parseReservedSpec).at F).post enc Tryd.prog Tryd.f3 false true false false) := by
  obtain ⟨places, hx⟩ := reads os enc
  refine returnsInHanded_of_row (C := Tryd.checked) (s := OpenSpec.ofChange Rows.parseReservedSpec) own started (by kernel_rfl) Tryd.func3
    (witness_row_atRef (enc := enc) (C := Tryd.checked) false (laidWorld os) #[.string ByteArray.empty] rfl (by kernel_rfl) (by kernel_rfl) (by kernel_rfl)
      (OpenSpec.preRow_of_cond 8 hx (by kernel_rfl) (fun k hk => by cases hk) (by kernel_rfl) (laid_met os _))) ?_
  intro W base args ds gs before hval0 hW _ _ hsz0 hL _ _
  have hsz : (DataW.weightsEach Tryd.prog (Tryd.f3.params.toList ++ Rows.parseReservedSpec.plain.varTypes Tryd.prog) (ds ++ gs)).all (· ≤ reachBytes) = true := hsz0
  have hval : ∀ (j : Nat) t v, Tryd.f3.params[j]? = some t → args[j]? = some v → Value.okWide Tryd.prog W .any base t v := hval0
  have hW' := hW
  obtain ⟨p, q, hA0, hV, rfl, hfz, hnd⟩ := hW
  have hA : DataW.TrodAll enc Tryd.prog W 0 (fun _ => true) true Tryd.f3.params.toList args.toList ds p := hA0
  rw [Tryd.params3] at hA hval hsz
  obtain ⟨v0, vs0, d0, ds0, p0, q0, hargs, rfl, rfl, h0, r0⟩ := trodAll_cons hA
  obtain ⟨rfl, rfl, rfl⟩ := trodAll_nil r0
  obtain rfl : args = #[v0] := by cases args; simp_all
  obtain ⟨rfl, rfl⟩ := trodVars_none hV
  obtain ⟨a0, rfl, rfl, rfl, y0⟩ := open_string Tryd.underlying9 (hval 0 9 v0 rfl rfl) h0
  have w0 : a0.size ≤ 140737488351232 := by
    have z := sized_string hsz (j := 0) (t := 9) rfl rfl
    rw [Array.length_toList] at z
    exact z
  have hT : TabT W := tabs hL
  clear hA0 hval0 hsz0 hsz
  refine (Pv.reserved_walk a0 W hT.space hT.pow w0).mono fun e W' ⟨he, bel⟩ => ?_
  subst he
  exact ⟨_, rfl, _, _, _, [], _, [], hW', trodAll_mk1 (shut_bool Tryd.underlying4 _), (trodAll_cons_mk (shut_string Tryd.underlying9 y0) trodAll_mk0), rfl, bel.frame _, fun h => by cases h⟩

theorem said : Rows.ParseReservedSaid :=
  OpenClaim.holds_of_cond 3 Tryd.f3 rfl rfl rfl rfl rfl rfl rfl ⟨rfl, rfl, rfl, rfl, rfl⟩ rfl rfl rfl rfl rfl (by kernel_rfl) Tryd.func3 (by kernel_rfl)
    (of_decide_eq_true (by kernel_rfl)) (by unfold Func.isWrapper; first | (rw [if_pos (by decide +kernel)]; kernel_rfl) | (rw [if_neg (by decide +kernel)]; exact ⟨rfl, rfl⟩))
    (fun os started H enc _ F => by rw [OpenClaim.pre_eq_preRow]; exact lifted os started H enc F)

theorem plain (f : FuncId) (fn : Func) (hf : Tryd.pinned.checked.prog.funcNamed Rows.parseReservedRow.func = some f) (hfn : Tryd.pinned.checked.prog.funcs[f]? = some fn) :
    false = Tryd.pinned.checked.prog.looks [] ∧ ∀ (j : Nat) t, fn.params[j]? = some t → Tryd.pinned.checked.prog.wantsStandIn t = false := by
  obtain rfl : f = 3 := Option.some.inj ((show Tryd.prog.funcNamed Rows.parseReservedRow.func = some 3 by kernel_rfl).symm.trans hf) |>.symm
  obtain rfl : fn = Tryd.f3 := (Option.some.inj (Tryd.func3.symm.trans hfn)).symm
  refine ⟨by kernel_rfl, fun j t ht => ?_⟩
  rw [Tryd.params3] at ht
  have ht2 := Array.mem_of_getElem? ht
  have ht3 : t = 9 := by simpa using ht2
  obtain rfl := ht3
  exact (show Tryd.prog.wantsStandIn 9 = false by kernel_rfl)
end Go.Proofs.YtfgoedndpcblpaaDoor.parseReserved
namespace Go.Proofs.YtfgoedndpcblpaaDoor
theorem parseReserved_holds : Rows.ParseReservedCardSaid :=
  Claim7.holds_tied_plain_at .later [] _ _ _ _ parseReserved.said (fun _ h => by cases h) (by kernel_rfl) (fun _ h => by cases h) parseReserved_row_tie rfl ⟨rfl, rfl⟩ (by kernel_rfl) rfl parseReserved.plain (by kernel_rfl)
#print axioms parseReserved_holds
end Go.Proofs.YtfgoedndpcblpaaDoor
end
