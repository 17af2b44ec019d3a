/- Texts of this claim, joined: Shelf, LxPure, LxWhile, LxFns, LxWalks, LxWalks2, LxWalks3, Laid, Px0, Aid, Pxf17, Pxf18, Pxf19, Pxf20, Pxf21, Pxf10, Pxe32, LxWalks4, LxExt, Pxf16. -/
import Derived.Shelf.Strings.OnBuilder
import Derived.Shelf.Strings.Count
import Derived.Shelf.LaysM
import Derived.Shelf.Strings.LastIndexAll
import Derived.Shelf.Strings.Prefix
import Derived.Shelf.Strings.Fields
import Derived.Test.YtlcbdgkkkljfnaaDoorProg
import Derived.Laws.RangeAny
import Derived.Lib.OthersKept
import Derived.Shelf.GgClosure.Gives
import Derived.WalkKit
import Derived.BigCall
import Derived.Lib.Hide
import Derived.Lib.Join
import Derived.Lib.IndexBytes
import Derived.Lib.Fields
import Derived.Lib.AppendIntMem
import Derived.IntWalk
import Derived.Test.YtlcbdgkkkljfnaaDoorRows
import Derived.Lib.LaidU8
import Derived.Lib.LaidTab
import Derived.Lib.LaidIn
import Derived.Deep.DeepHandedRow
import Derived.Deep.DeepWitnessRowRef
import Derived.KernelRfl
import Derived.Below
import Derived.Deep.Draws
import Derived.Deep.AppendLies
import Derived.Maps.AppendAt
import Derived.OwnWalk
import Derived.Laws.BytesArg
import Derived.Laws.MakeOwn
import Derived.Laws.OwnMore
import Derived.Deep.OwnRows
import Derived.Tactics
import Derived.Lib.ConvBytes
import Derived.Laws.Slices
import Derived.RowKit3
import Derived.Deep.LoopGhost
import Derived.Deep.QuietTactic
import Derived.BigQuiet
import Derived.WideLaws
import Derived.Deep.DeepCutAuto
import Derived.Deep.CutBlock
import Derived.Deep.RegionHeld3
import Derived.Laws.Rows
import Derived.Lib.AppendStr
import Derived.ArgAppend
import Derived.Laws.IdiomCopy
import Derived.OrdersHeld
import Derived.Laws.BitsLemmas
import Derived.RowKit
import Derived.Test.YtlcbdgkkkljfnaaDoorWWords
import Derived.Test.YtlcbdgkkkljfnaaDoorWLast
import Derived.Test.YtlcbdgkkkljfnaaDoorWTab
import Derived.Test.YtlcbdgkkkljfnaaDoorWFour
import Derived.Test.YtlcbdgkkkljfnaaDoorWQPut
import Derived.Test.YtlcbdgkkkljfnaaDoorWApart
import Derived.Test.YtlcbdgkkkljfnaaDoorWArr
import Derived.Test.YtlcbdgkkkljfnaaDoorWZeros
import Derived.Test.YtlcbdgkkkljfnaaDoorWFoot
import Derived.Test.YtlcbdgkkkljfnaaDoorWKept
import Derived.Test.YtlcbdgkkkljfnaaDoorWShare
import Derived.Test.YtlcbdgkkkljfnaaDoorWN
import Derived.Test.YtlcbdgkkkljfnaaDoorWFootNe
import Derived.Test.YtlcbdgkkkljfnaaDoorWAt
import Derived.Test.YtlcbdgkkkljfnaaDoorWEqStruct
import Derived.Test.YtlcbdgkkkljfnaaDoorWRepsOne
import Derived.Test.YtlcbdgkkkljfnaaDoorWInv
import Derived.Test.YtlcbdgkkkljfnaaDoorWInvWords
import Derived.Test.YtlcbdgkkkljfnaaDoorWGuard
import Derived.Test.YtlcbdgkkkljfnaaDoorWNEv
import Derived.Test.YtlcbdgkkkljfnaaDoorWMore
import Derived.WalkSpells
import Derived.Laws.ResultCell
section
/-
  DERIVED: THE SHELF's CONTRACTS AT THIS DUMP, IN PLAIN WORDS (tools/lay-plain.mjs out of 'TrydShelf.lean', which tools/lay-shelf.mjs wrote): THE SAME DECLARATIONS UNDER THE SAME NAMES: 'import', 'namespace', 'open', 'def', 'theorem' AND NOTHING ELSE: no command of the shelf's: FOR A HAND-IN. Each laying: the table of numbers ('.._ren') and one theorem, a field a fact of the dump's own or the kernel's comparison; each contract: ONE APPLICATION.
-/
namespace Go.Proofs
open Go.Shelf
def Tryd.lays156_ren : Go.Shelf.Ren := ⟨fun | 156 => 22 | 165 => 32 | 166 => 33 | 169 => 34 | 240 => 42 | 241 => 43 | 276 => 49 | 277 => 50 | n => n, fun | 31 => 47 | 9 => 9 | 3 => 3 | 4 => 4 | 0 => 0 | 20 => 20 | 72 => 58 | 76 => 62 | 70 => 55 | 37 => 56 | 75 => 61 | 127 => 68 | 164 => 74 | 5 => 5 | 80 => 64 | n => n, fun | n => n⟩
theorem Tryd.lays156 : Go.Proofs.Lays.n156 Tryd.prog Tryd.lays156_ren := {
  mixed := by kernel_rfl
  f156 := Tryd.func22.trans (congrArg some (by kernel_rfl))
  f165 := Tryd.func32.trans (congrArg some (by kernel_rfl))
  f166 := Tryd.func33.trans (congrArg some (by kernel_rfl))
  f169 := Tryd.func34.trans (congrArg some (by kernel_rfl))
  f240 := Tryd.func42.trans (congrArg some (by kernel_rfl))
  f241 := Tryd.func43.trans (congrArg some (by kernel_rfl))
  f276 := Tryd.func49.trans (congrArg some (by kernel_rfl))
  f277 := Tryd.func50.trans (congrArg some (by kernel_rfl))
  t0 := Tryd.underlying0
  a0 := Tryd.isAgg0
  z0 := Tryd.sizeOf0
  v0 := Tryd.zeroValue0
  t3 := Tryd.underlying3
  a3 := Tryd.isAgg3
  z3 := Tryd.sizeOf3
  v3 := Tryd.zeroValue3
  t4 := Tryd.underlying4
  a4 := Tryd.isAgg4
  z4 := Tryd.sizeOf4
  v4 := Tryd.zeroValue4
  t9 := Tryd.underlying9
  a9 := Tryd.isAgg9
  z9 := Tryd.sizeOf9
  v9 := Tryd.zeroValue9
  t20 := Tryd.underlying20
  a20 := Tryd.isAgg20
  z20 := Tryd.sizeOf20
  v20 := Tryd.zeroValue20
  t31 := Tryd.underlying47
  a31 := Tryd.isAgg47
  z31 := Tryd.sizeOf47
  v31 := Tryd.zeroValue47
  t37 := Tryd.underlying56
  a37 := Tryd.isAgg56
  z37 := Tryd.sizeOf56
  v37 := Tryd.zeroValue56
  t70 := Tryd.underlying55
  a70 := Tryd.isAgg55
  z70 := Tryd.sizeOf55
  v70 := Tryd.zeroValue55
  t72 := Tryd.underlying58
  a72 := Tryd.isAgg58
  z72 := Tryd.sizeOf58
  v72 := Tryd.zeroValue58
  t75 := Tryd.underlying61
  a75 := Tryd.isAgg61
  z75 := Tryd.sizeOf61
  v75 := Tryd.zeroValue61
  t76 := Tryd.underlying62
  a76 := Tryd.isAgg62
  z76 := Tryd.sizeOf62
  v76 := Tryd.zeroValue62
  t127 := Tryd.underlying68
  a127 := Tryd.isAgg68
  z127 := Tryd.sizeOf68
  v127 := Tryd.zeroValue68
  t164 := Tryd.underlying74
  a164 := Tryd.isAgg74
  z164 := Tryd.sizeOf74
  v164 := Tryd.zeroValue74 }
theorem Tryd.Builder_Extra_156 : Builder.Extra Tryd.prog Tryd.lays156_ren := {
  sizeBuilder := by kernel_rfl
  liesBuilder := by kernel_rfl
  t5 := Tryd.underlying5
  a5 := Tryd.isAgg5
  z5 := Tryd.sizeOf5
  v5 := Tryd.zeroValue5
  infoByte := by kernel_rfl
  cellsByte := by kernel_rfl
  sizeByte := by kernel_rfl
  neB5 := by decide }
open Go.RowKit in
/-- No element: the empty string; the world is as it was. (Whatever the slice's address and capacity: a nil slice too.) (LAID: no walk: one application.) -/
theorem Tryd.strings_Join_none (a : Option Addr) (c : Nat) (sep : ByteArray) (w : World) :
    Calls Tryd.prog 22 #[.slice a 0 c, .string sep] w fun e w' => e = .returned (.string ⟨#[]⟩) ∧ w' = w := Any.strings_Join_none Tryd.lays156 Tryd.Builder_Extra_156 a c sep w
open Go.RowKit in
/-- strings.Join: "Join concatenates the elements of its first argument to create a single string. The separator string sep is placed between elements in the resulting string.": HOWEVER MANY ELEMENTS. Below the heap's end the world is as it was. (LAID: no walk: one application.) -/
theorem Tryd.strings_Join (bk o c : Nat) (xs : List ByteArray) (sep : ByteArray) (w : World) (hcells : ∀ (j : Nat) x, xs[j]? = some x → w.cell? ⟨bk, o + j, none⟩ = some (.string x)) (hbk : bk < w.heap.size) (hN : xs.length ≤ 140737488355328) (hcap : xs.length ≤ c) (hlen : (Lib.join (xs.map (·.data.toList)) sep.data.toList).length ≤ 140737488355328) :
    Calls Tryd.prog 22 #[.slice (some ⟨bk, o, none⟩) xs.length c, .string sep] w fun e w' => e = .returned (.string ⟨(Lib.join (xs.map (·.data.toList)) sep.data.toList).toArray⟩) ∧ Below w.heap.size w w' := Any.strings_Join Tryd.lays156 Tryd.Builder_Extra_156 bk o c xs sep w hcells hbk hN hcap hlen
def Tryd.lays138_ren : Go.Shelf.Ren := ⟨fun | 138 => 23 | 195 => 35 | 218 => 36 | 143 => 37 | 219 => 44 | 217 => 51 | 225 => 52 | 224 => 53 | 267 => 54 | 266 => 56 | 314 => 57 | n => n, fun | 9 => 9 | 3 => 3 | 4 => 4 | 5 => 5 | 0 => 0 | 46 => 78 | 146 => 70 | 51 => 69 | n => n, fun | 1 => 0 | n => n⟩
theorem Tryd.lays138 : Go.Proofs.Lays.n138 Tryd.prog Tryd.lays138_ren := {
  mixed := by kernel_rfl
  f138 := Tryd.func23.trans (congrArg some (by kernel_rfl))
  f143 := Tryd.func37.trans (congrArg some (by kernel_rfl))
  f195 := Tryd.func35.trans (congrArg some (by kernel_rfl))
  f217 := Tryd.func51.trans (congrArg some (by kernel_rfl))
  f218 := Tryd.func36.trans (congrArg some (by kernel_rfl))
  f219 := Tryd.func44.trans (congrArg some (by kernel_rfl))
  f224 := Tryd.func53.trans (congrArg some (by kernel_rfl))
  f225 := Tryd.func52.trans (congrArg some (by kernel_rfl))
  f266 := Tryd.func56.trans (congrArg some (by kernel_rfl))
  f267 := Tryd.func54.trans (congrArg some (by kernel_rfl))
  f314 := Tryd.func57.trans (congrArg some (by kernel_rfl))
  t0 := Tryd.underlying0
  a0 := Tryd.isAgg0
  z0 := Tryd.sizeOf0
  v0 := Tryd.zeroValue0
  t3 := Tryd.underlying3
  a3 := Tryd.isAgg3
  z3 := Tryd.sizeOf3
  v3 := Tryd.zeroValue3
  t4 := Tryd.underlying4
  a4 := Tryd.isAgg4
  z4 := Tryd.sizeOf4
  v4 := Tryd.zeroValue4
  t5 := Tryd.underlying5
  a5 := Tryd.isAgg5
  z5 := Tryd.sizeOf5
  v5 := Tryd.zeroValue5
  t9 := Tryd.underlying9
  a9 := Tryd.isAgg9
  z9 := Tryd.sizeOf9
  v9 := Tryd.zeroValue9
  t46 := Tryd.underlying78
  a46 := Tryd.isAgg78
  z46 := Tryd.sizeOf78
  v46 := Tryd.zeroValue78
  t51 := Tryd.underlying69
  a51 := Tryd.isAgg69
  z51 := Tryd.sizeOf69
  v51 := Tryd.zeroValue69
  t146 := Tryd.underlying70
  a146 := Tryd.isAgg70
  z146 := Tryd.sizeOf70
  v146 := Tryd.zeroValue70
  g1 := by kernel_rfl }
open Go.RowKit Go.Lib in
/-- strings.Count AT A substr OF ONE BYTE ('hp'): "Count counts the number of non-overlapping instances of substr in s.": IT RETURNS 'Lib.countByte s (that byte)'; the world is as it was. ✋ NO CONTRACT HERE YET at an empty substr (utf8.RuneCountInString) or at a longer one (a loop over strings.Index). (LAID: no walk: one application.) -/
theorem Tryd.strings_Count_one (s : ByteArray) (c : UInt8) (w : World) :
    Calls Tryd.prog 23 #[.string s, .string ⟨#[c]⟩] w fun e w' => e = .returned (.int .i64 (Lib.countByte s.data.toList c)) ∧ w' = w := Any.strings_Count_one Tryd.lays138 s c w
def Tryd.lays148_ren : Go.Shelf.Ren := ⟨fun | 148 => 24 | 222 => 38 | 223 => 39 | 269 => 45 | n => n, fun | 9 => 9 | 3 => 3 | 4 => 4 | 5 => 5 | 146 => 70 | 51 => 69 | 46 => 78 | n => n, fun | n => n⟩
theorem Tryd.lays148 : Go.Proofs.Lays.n148 Tryd.prog Tryd.lays148_ren := {
  mixed := by kernel_rfl
  f148 := Tryd.func24.trans (congrArg some (by kernel_rfl))
  f222 := Tryd.func38.trans (congrArg some (by kernel_rfl))
  f223 := Tryd.func39.trans (congrArg some (by kernel_rfl))
  f269 := Tryd.func45.trans (congrArg some (by kernel_rfl))
  t3 := Tryd.underlying3
  a3 := Tryd.isAgg3
  z3 := Tryd.sizeOf3
  v3 := Tryd.zeroValue3
  t4 := Tryd.underlying4
  a4 := Tryd.isAgg4
  z4 := Tryd.sizeOf4
  v4 := Tryd.zeroValue4
  t5 := Tryd.underlying5
  a5 := Tryd.isAgg5
  z5 := Tryd.sizeOf5
  v5 := Tryd.zeroValue5
  t9 := Tryd.underlying9
  a9 := Tryd.isAgg9
  z9 := Tryd.sizeOf9
  v9 := Tryd.zeroValue9
  t46 := Tryd.underlying78
  a46 := Tryd.isAgg78
  z46 := Tryd.sizeOf78
  v46 := Tryd.zeroValue78
  t51 := Tryd.underlying69
  a51 := Tryd.isAgg69
  z51 := Tryd.sizeOf69
  v51 := Tryd.zeroValue69
  t146 := Tryd.underlying70
  a146 := Tryd.isAgg70
  z146 := Tryd.sizeOf70
  v146 := Tryd.zeroValue70 }
open Go.RowKit Go.Lib in
/-- strings.LastIndex: "LastIndex returns the index of the last instance of substr in s, or -1 if substr is not present in s.": AT A substr OF WHATEVER LENGTH. (LAID: no walk: one application.) -/
theorem Tryd.strings_LastIndex (s sub : ByteArray) (hs : s.size < 4611686018427387904) (w : World) :
    Calls Tryd.prog 24 #[.string s, .string sub] w fun e w' => e = .returned (.int .i64 (Lib.lastIndex s.data.toList sub.data.toList)) ∧ w' = w := Any.strings_LastIndex Tryd.lays148 s sub hs w
def Tryd.lays99_ren : Go.Shelf.Ren := ⟨fun | 99 => 41 | 206 => 48 | n => n, fun | 9 => 9 | 4 => 4 | 3 => 3 | n => n, fun | n => n⟩
theorem Tryd.lays99 : Go.Proofs.Lays.n99 Tryd.prog Tryd.lays99_ren := {
  mixed := by kernel_rfl
  f99 := Tryd.func41.trans (congrArg some (by kernel_rfl))
  f206 := Tryd.func48.trans (congrArg some (by kernel_rfl))
  t3 := Tryd.underlying3
  a3 := Tryd.isAgg3
  z3 := Tryd.sizeOf3
  v3 := Tryd.zeroValue3
  t4 := Tryd.underlying4
  a4 := Tryd.isAgg4
  z4 := Tryd.sizeOf4
  v4 := Tryd.zeroValue4
  t9 := Tryd.underlying9
  a9 := Tryd.isAgg9
  z9 := Tryd.sizeOf9
  v9 := Tryd.zeroValue9 }
open Go.RowKit Go.Lib in
/-- strings.HasPrefix: "HasPrefix reports whether the string s begins with prefix.": IT RETURNS 'Lib.hasPrefix s prefix'; the world is as it was. (LAID: no walk: one application.) -/
theorem Tryd.strings_HasPrefix (s p : ByteArray) (w : World) :
    Calls Tryd.prog 41 #[.string s, .string p] w fun e w' => e = .returned (.bool (Lib.hasPrefix s.data.toList p.data.toList)) ∧ w' = w := Any.strings_HasPrefix Tryd.lays99 s p w
def Tryd.lays157_ren : Go.Shelf.Ren := ⟨fun | 157 => 40 | 229 => 46 | 199 => 47 | 261 => 55 | 311 => 58 | 312 => 59 | n => n, fun | 9 => 9 | 31 => 47 | 3 => 3 | 5 => 5 | 4 => 4 | 119 => 72 | 0 => 0 | 40 => 51 | 152 => 79 | 21 => 21 | 154 => 81 | 51 => 69 | 141 => 83 | 196 => 87 | 193 => 84 | 198 => 90 | 49 => 88 | 194 => 85 | 201 => 93 | 226 => 95 | 46 => 78 | 227 => 96 | n => n, fun | 0 => 1 | 6 => 2 | n => n⟩
theorem Tryd.lays157 : Go.Proofs.Lays.n157 Tryd.prog Tryd.lays157_ren := {
  mixed := by kernel_rfl
  f157 := Tryd.func40.trans (congrArg some (by kernel_rfl))
  f199 := Tryd.func47.trans (congrArg some (by kernel_rfl))
  f229 := Tryd.func46.trans (congrArg some (by kernel_rfl))
  f261 := Tryd.func55.trans (congrArg some (by kernel_rfl))
  f311 := Tryd.func58.trans (congrArg some (by kernel_rfl))
  f312 := Tryd.func59.trans (congrArg some (by kernel_rfl))
  t0 := Tryd.underlying0
  a0 := Tryd.isAgg0
  z0 := Tryd.sizeOf0
  v0 := Tryd.zeroValue0
  t3 := Tryd.underlying3
  a3 := Tryd.isAgg3
  z3 := Tryd.sizeOf3
  v3 := Tryd.zeroValue3
  t4 := Tryd.underlying4
  a4 := Tryd.isAgg4
  z4 := Tryd.sizeOf4
  v4 := Tryd.zeroValue4
  t5 := Tryd.underlying5
  a5 := Tryd.isAgg5
  z5 := Tryd.sizeOf5
  v5 := Tryd.zeroValue5
  t9 := Tryd.underlying9
  a9 := Tryd.isAgg9
  z9 := Tryd.sizeOf9
  v9 := Tryd.zeroValue9
  t21 := Tryd.underlying21
  a21 := Tryd.isAgg21
  z21 := Tryd.sizeOf21
  v21 := Tryd.zeroValue21
  t31 := Tryd.underlying47
  a31 := Tryd.isAgg47
  z31 := Tryd.sizeOf47
  v31 := Tryd.zeroValue47
  t40 := Tryd.underlying51
  a40 := Tryd.isAgg51
  z40 := Tryd.sizeOf51
  v40 := Tryd.zeroValue51
  t46 := Tryd.underlying78
  a46 := Tryd.isAgg78
  z46 := Tryd.sizeOf78
  v46 := Tryd.zeroValue78
  t49 := Tryd.underlying88
  a49 := Tryd.isAgg88
  z49 := Tryd.sizeOf88
  v49 := Tryd.zeroValue88
  t51 := Tryd.underlying69
  a51 := Tryd.isAgg69
  z51 := Tryd.sizeOf69
  v51 := Tryd.zeroValue69
  t119 := Tryd.underlying72
  a119 := Tryd.isAgg72
  z119 := Tryd.sizeOf72
  t141 := Tryd.underlying83
  a141 := Tryd.isAgg83
  z141 := Tryd.sizeOf83
  v141 := Tryd.zeroValue83
  t152 := Tryd.underlying79
  a152 := Tryd.isAgg79
  z152 := Tryd.sizeOf79
  v152 := Tryd.zeroValue79
  t154 := Tryd.underlying81
  a154 := Tryd.isAgg81
  z154 := Tryd.sizeOf81
  v154 := Tryd.zeroValue81
  t193 := Tryd.underlying84
  a193 := Tryd.isAgg84
  z193 := Tryd.sizeOf84
  v193 := Tryd.zeroValue84
  t194 := Tryd.underlying85
  a194 := Tryd.isAgg85
  z194 := Tryd.sizeOf85
  v194 := Tryd.zeroValue85
  t196 := Tryd.underlying87
  a196 := Tryd.isAgg87
  z196 := Tryd.sizeOf87
  v196 := Tryd.zeroValue87
  t198 := Tryd.underlying90
  a198 := Tryd.isAgg90
  z198 := Tryd.sizeOf90
  v198 := Tryd.zeroValue90
  t201 := Tryd.underlying93
  a201 := Tryd.isAgg93
  z201 := Tryd.sizeOf93
  v201 := Tryd.zeroValue93
  t226 := Tryd.underlying95
  a226 := Tryd.isAgg95
  z226 := Tryd.sizeOf95
  v226 := Tryd.zeroValue95
  t227 := Tryd.underlying96
  a227 := Tryd.isAgg96
  z227 := Tryd.sizeOf96
  v227 := Tryd.zeroValue96
  g0 := by kernel_rfl
  g6 := by kernel_rfl }
open Go.RowKit Go.Lib in
/-- strings.Fields, the table by 'Lib.TabIs' (as strings.TrimSpace's contract). 'hg': the table's number, by its name: at a dump 'by kernel_rfl'. (LAID: no walk: one application.) -/
theorem Tryd.strings_Fields (s : ByteArray) (w : World) (hs : s.size < 4294967281) (hascii : ∀ (j : Nat) b, s.data.toList[j]? = some b → b.toNat < 128) (htab : Lib.TabIs Tryd.prog w "strings.asciiSpace" .u8 Lib.asciiSpaceTab) :
    Calls Tryd.prog 40 #[.string s] w fun e w' =>
      e = .returned (.slice (some ⟨w.heap.size, 0, none⟩) (Lib.fields s.data.toList).length (Lib.fields s.data.toList).length) ∧ w' = w.alloc (.cells ((Lib.fields s.data.toList).map fun l => Value.string ⟨l.toArray⟩).toArray 9) := Any.strings_Fields Tryd.lays157 (by kernel_rfl) (by kernel_rfl) s w hs hascii htab
end Go.Proofs
end

section
/- Plain facts on the model's decoding of UTF-8, and the plain function that the lexer's 'while' computes. -/
namespace Go.Proofs.YtlcbdgkkkljfnaaDoor.Lx
open Go

/-- How many bytes from pos on there are for whose runes p holds; b rounds. -/
def spanD (p : Nat → Bool) (s : ByteArray) : Nat → Nat → Nat
  | 0, _ => s.size
  | b + 1, pos => if pos < s.size then (if p (Utf8.decode s pos).1 = true then spanD p s b (pos + (Utf8.decode s pos).2) else pos) else s.size

theorem dwidth (s : ByteArray) (pos : Nat) (h : pos < s.size) : 1 ≤ (Utf8.decode s pos).2 := by
  by_cases ha : (s[pos]'h).toNat < 128
  · rw [decode_ascii s pos h ha]
    exact Nat.le_refl _
  · exact (decode_high s pos h (by omega)).2

theorem get_plus (s : ByteArray) (i : Nat) (h : i < s.size) : s.get! i = s[i]'h := by
  simp [ByteArray.get!, getElem!_pos, h]
  rfl

/-- The bytes behind the first one that a rune takes are high, and lie in the text. -/
theorem dbytes (s : ByteArray) (pos : Nat) (_h : pos < s.size) : ∀ j, 1 ≤ j → j < (Utf8.decode s pos).2 → ∃ h' : pos + j < s.size, 128 ≤ (s[pos + j]'h').toNat := by
  intro j h1 h2
  have key : ∀ k, (decide (pos + k < s.size) && (s.get! (pos + k)).toNat / 64 == 2) = true → ∃ h' : pos + k < s.size, 128 ≤ (s[pos + k]'h').toNat := by
    intro k hk
    simp only [Bool.and_eq_true, decide_eq_true_eq, beq_iff_eq] at hk
    obtain ⟨hk1, hk2⟩ := hk
    refine ⟨hk1, ?_⟩
    rw [get_plus s (pos + k) hk1] at hk2
    omega
  simp only [Utf8.decode] at h2
  split at h2
  · simp at h2; omega
  · split at h2
    · rename_i hc
      simp only [Bool.and_eq_true, beq_iff_eq] at hc
      split at h2
      · have : j = 1 := by simp at h2; omega
        subst this
        exact key 1 (by simpa using hc.2)
      · simp at h2; omega
    · split at h2
      · rename_i hc
        simp only [Bool.and_eq_true, beq_iff_eq] at hc
        split at h2
        · have : j = 1 ∨ j = 2 := by simp at h2; omega
          rcases this with rfl | rfl
          · exact key 1 (by simpa using hc.1.2)
          · exact key 2 (by simpa using hc.2)
        · simp at h2; omega
      · split at h2
        · rename_i hc
          simp only [Bool.and_eq_true, beq_iff_eq] at hc
          split at h2
          · have : j = 1 ∨ j = 2 ∨ j = 3 := by simp at h2; omega
            rcases this with rfl | rfl | rfl
            · exact key 1 (by simpa using hc.1.1.2)
            · exact key 2 (by simpa using hc.1.2)
            · exact key 3 (by simpa using hc.2)
          · simp at h2; omega
        · simp at h2; omega

/-- How many bytes there are, from the first on, for which q holds. -/
def wh (q : UInt8 → Bool) (l : List UInt8) : Nat := (l.takeWhile q).length

theorem wh_nil (q : UInt8 → Bool) : wh q [] = 0 := rfl
theorem wh_cons (q : UInt8 → Bool) (c : UInt8) (l : List UInt8) : wh q (c :: l) = if q c = true then 1 + wh q l else 0 := by
  unfold wh
  rw [List.takeWhile_cons]
  split
  · simp; omega
  · rfl
theorem wh_le (q : UInt8 → Bool) (l : List UInt8) : wh q l ≤ l.length := by
  induction l with
  | nil => simp [wh]
  | cons c l ih => rw [wh_cons]; split <;> simp <;> omega

theorem drop_cons (s : ByteArray) (pos : Nat) (h : pos < s.size) : s.data.toList.drop pos = s[pos] :: s.data.toList.drop (pos + 1) := by
  rw [List.drop_eq_getElem_cons (by simpa using h)]
  rfl

/-- High bytes for which q holds are passed. -/
theorem wh_high (q : UInt8 → Bool) (s : ByteArray) (hq : ∀ b : UInt8, 128 ≤ b.toNat → q b = true) (pos : Nat) :
    ∀ n, (∀ j, j < n → ∃ h' : pos + j < s.size, 128 ≤ (s[pos + j]'h').toNat) → wh q (s.data.toList.drop pos) = n + wh q (s.data.toList.drop (pos + n)) := by
  intro n
  induction n with
  | zero => intro _; simp
  | succ n ih =>
    intro hj
    rw [ih (fun j hj' => hj j (by omega))]
    obtain ⟨h', hh⟩ := hj n (by omega)
    rw [drop_cons s (pos + n) h', wh_cons, if_pos (hq _ hh)]
    simp only [← Nat.add_assoc]

/-- Where p says the same of all high runes, 'while' counts bytes. -/
theorem spanD_wh (p : Nat → Bool) (q : UInt8 → Bool) (c : Bool) (hl : ∀ b : UInt8, b.toNat < 128 → q b = p b.toNat) (hh : ∀ b : UInt8, 128 ≤ b.toNat → q b = c) (hr : ∀ r, 128 ≤ r → p r = c) (s : ByteArray) :
    ∀ b pos, pos ≤ s.size → s.size ≤ pos + b → spanD p s b pos = pos + wh q (s.data.toList.drop pos) := by
  intro b
  induction b with
  | zero =>
    intro pos h1 h2
    have : s.data.toList.drop pos = [] := List.drop_eq_nil_of_le (by simp; omega)
    rw [this]; simp [spanD, wh]; omega
  | succ b ih =>
    intro pos h1 h2
    unfold spanD
    by_cases hp : pos < s.size
    · rw [if_pos hp]
      have hcons := drop_cons s pos hp
      by_cases ha : (s[pos]'hp).toNat < 128
      · rw [decode_ascii s pos hp ha]
        rw [hcons, wh_cons, hl _ ha]
        by_cases hpp : p (s[pos]'hp).toNat = true
        · rw [if_pos hpp, if_pos hpp, ih (pos + 1) (by omega) (by omega)]; omega
        · rw [if_neg hpp, if_neg hpp]; rfl
      · have hd := decode_high s pos hp (by omega)
        have hpr := hr _ hd.1
        rw [hpr]
        cases c with
        | false =>
          rw [if_neg (by simp), hcons, wh_cons, hh _ (by omega), if_neg (by simp)]; rfl
        | true =>
          rw [if_pos rfl]
          have hb : ∀ j, j < (Utf8.decode s pos).2 → ∃ h' : pos + j < s.size, 128 ≤ (s[pos + j]'h').toNat := by
            intro j hj
            by_cases h0 : j = 0
            · subst h0; exact ⟨hp, by simp; omega⟩
            · exact dbytes s pos hp j (by omega) hj
          have hle : pos + (Utf8.decode s pos).2 ≤ s.size := by
            obtain ⟨h', _⟩ := hb ((Utf8.decode s pos).2 - 1) (by omega)
            omega
          rw [ih _ hle (by omega), wh_high q s hh pos _ hb]; omega
    · rw [if_neg hp]
      have : s.data.toList.drop pos = [] := List.drop_eq_nil_of_le (by simp; omega)
      rw [this, wh_nil]; omega

end Go.Proofs.YtlcbdgkkkljfnaaDoor.Lx
end

section
/- The walk of lexer.while at any function value that tells of runes. -/
namespace Go.Proofs.YtlcbdgkkkljfnaaDoor.Lx
open Go Go.RowKit Go.Proofs

/-- A function value that tells of every rune, in whatever world. -/
def Tells (g : Nat) (p : Nat → Bool) : Prop :=
  ∀ (W : World) (x : Nat), x ≤ 2147483647 → Calls Tryd.prog g #[.int .i32 x] W fun e w' => e = .returned (.bool (p x)) ∧ ∃ q, w' = W.drewN q

set_option maxHeartbeats 1000000 in
theorem while_any (g : Nat) (eg : ∀ args w, (callFunc g args).run Tryd.prog w = .ok (.enter g args) w) (p : Nat → Bool) (hp : Tells g p) (s : ByteArray) (w : World) :
    Calls Tryd.prog 25 #[.string s, .func (.func g) #[] #[]] w fun e w' => e = .returned (.int .i64 (spanD p s s.size 0)) ∧ Below w.heap.size w w' := by
  go_enter Tryd.func25, Tryd.ntmps25
  go_wp2_with fail
  go_loopw [5, 6] (fun _ _ wr => ∃ (pos b : Nat), wr.heap[w.heap.size]? = some (.stringIter s pos) ∧ Below w.heap.size w wr ∧ spanD p s b pos = spanD p s s.size 0 ∧ s.size ≤ pos + b) (fun _ _ wr => s.size - wr.iterPos w.heap.size)
  case atStart =>
    refine ⟨0, s.size, ?_, ?_, rfl, by omega⟩
    · exact World.iter_heap w s 0
    · exact (Below.refl _ w).alloc (Nat.le_refl _) _
  case round =>
    obtain ⟨pos, b, hit, hbw, hsp, hb⟩ := hrel
    have hsz : w.heap.size < wr.heap.size := (Array.getElem?_eq_some_iff.1 hit).1
    by_cases hps : pos < s.size
    · have hnx : ∀ ty, (Instr.next (.pointer (some ⟨w.heap.size, 0, none⟩)) true ty).run Tryd.prog wr = _ := fun ty => Lib.run_next_any_at wr w.heap.size s pos ty hit hps
      have hwd := dwidth s pos hps
      have hdl := decode_le s pos
      have hit2 := Lib.iterAt_heap wr w.heap.size s pos (pos + (Utf8.decode s pos).2) hit
      have hbw2 := Lib.below_iterAt hbw (k := w.heap.size) (Nat.le_refl _) s (pos + (Utf8.decode s pos).2)
      obtain ⟨f, rfl⟩ : ∃ f, b = f + 1 := by
        cases b with
        | zero => omega
        | succ b => exact ⟨b, rfl⟩
      have hone : spanD p s (f + 1) pos = if p (Utf8.decode s pos).1 = true then spanD p s f (pos + (Utf8.decode s pos).2) else pos := by
        simp only [spanD]; rw [if_pos hps]
      by_cases hpp : p (Utf8.decode s pos).1 = true
      · have hgo : spanD p s f (pos + (Utf8.decode s pos).2) = spanD p s s.size 0 := by rw [← hsp, hone, if_pos hpp]
        have HG := Lib.hid hgo
        have HP := Lib.hid hpp
        clear hgo hsp hone hpp
        go_wp2_with (go_at_fn g; refine (hp _ _ hdl).mono ?_; rw [HP.out]; rintro e w' ⟨rfl, q, rfl⟩)
        go_roundw
        case rel =>
          exact ⟨pos + (Utf8.decode s pos).2, f, hit2, below_drewN' hbw2 q, HG.out, by omega⟩
        case measure =>
          simp only [World.iterPos, hit]
          rw [show ((wr.iterAt w.heap.size s (pos + (Utf8.decode s pos).2)).drewN q).heap[w.heap.size]? = _ from hit2]
          simp only
          omega
      · have hgo : pos = spanD p s s.size 0 := by rw [← hsp, hone, if_neg hpp]
        have HG := Lib.hid hgo
        have HP : Hid (p (Utf8.decode s pos).1 = false) := Lib.hid (by simpa using hpp)
        clear hgo hsp hone hpp
        go_wp2_with (go_at_fn g; refine (hp _ _ hdl).mono ?_; rw [HP.out]; rintro e w' ⟨rfl, q, rfl⟩)
        go_ret
        exact ⟨congrArg (fun n : Nat => Ending.returned (.int .i64 (n : Int))) HG.out, below_drewN' hbw2 q⟩
    · have hnx : ∀ ty, (Instr.next (.pointer (some ⟨w.heap.size, 0, none⟩)) true ty).run Tryd.prog wr = _ := fun ty => Lib.run_next_end_at wr w.heap.size s pos ty hit hps
      have hend : s.size = spanD p s s.size 0 := by
        rw [← hsp]
        cases b with
        | zero => simp only [spanD]
        | succ b => simp only [spanD]; rw [if_neg hps]
      have HE := Lib.hid hend
      clear hend hsp
      go_wp2
      go_ret
      exact ⟨congrArg (fun n : Nat => Ending.returned (.int .i64 (n : Int))) HE.out, hbw⟩
end Go.Proofs.YtlcbdgkkkljfnaaDoor.Lx
end

section
/- What the lexer's functions compute, on lists of bytes. -/
namespace Go.Proofs.YtlcbdgkkkljfnaaDoor.Lx
open Go

def letB (x : Nat) : Bool := decide (97 ≤ x) && decide (x ≤ 122) || decide (65 ≤ x) && decide (x ≤ 90)
def digB (x : Nat) : Bool := decide (48 ≤ x) && decide (x ≤ 57)
def innB (x : Nat) : Bool := letB x || digB x || decide (x = 95)
def noNl (x : Nat) : Bool := !decide (x = 10)
def byB (p : Nat → Bool) (b : UInt8) : Bool := p b.toNat

/-- How many bytes say nothing: the flag tells whether a remark is going on. -/
def skip : Bool → List UInt8 → Nat
  | _, [] => 0
  | true, c :: r => if c.toNat = 10 then 1 + skip false r else 1 + skip true r
  | false, c :: r => if c.toNat = 32 ∨ c.toNat = 9 ∨ c.toNat = 10 then 1 + skip false r else if c.toNat = 35 then 1 + skip true r else 0

theorem skip_le : ∀ (b : Bool) (l : List UInt8), skip b l ≤ l.length
  | _, [] => by simp [skip]
  | true, c :: r => by
    have h1 := skip_le false r; have h2 := skip_le true r
    simp only [skip]; split <;> simp <;> omega
  | false, c :: r => by
    have h1 := skip_le false r; have h2 := skip_le true r
    simp only [skip]; split
    · simp; omega
    · split <;> simp; omega

/-- A remark: up to the line's end, and on. -/
theorem skip_true : ∀ (l : List UInt8), skip true l = wh (byB noNl) l + skip false (l.drop (wh (byB noNl) l))
  | [] => by simp [skip, wh]
  | c :: r => by
    by_cases h : c.toNat = 10
    · have hw : wh (byB noNl) (c :: r) = 0 := by rw [wh_cons]; simp [byB, noNl, h]
      rw [hw]; simp [skip, h]
    · have hw : wh (byB noNl) (c :: r) = wh (byB noNl) r + 1 := by rw [wh_cons]; simp [byB, noNl, h]; omega
      rw [hw]
      have ih := skip_true r
      simp only [skip, h, if_false, List.drop_succ_cons]
      omega

theorem wh_spanD (p : Nat → Bool) (c : Bool) (hr : ∀ r, 128 ≤ r → p r = c) (s : ByteArray) : spanD p s s.size 0 = wh (byB p) s.data.toList := by
  have h := spanD_wh p (byB p) c (fun _ _ => rfl) (fun b hb => hr _ hb) hr s s.size 0 (Nat.zero_le _) (by omega)
  simpa using h

theorem wh_letters (s : ByteArray) : spanD innB s s.size 0 = wh (byB innB) s.data.toList :=
  wh_spanD innB false (fun r h => by unfold innB letB digB; simp; omega) s
theorem wh_digits (s : ByteArray) : spanD digB s s.size 0 = wh (byB digB) s.data.toList :=
  wh_spanD digB false (fun r h => by unfold digB; simp; omega) s
theorem wh_noNl (s : ByteArray) : spanD noNl s s.size 0 = wh (byB noNl) s.data.toList :=
  wh_spanD noNl true (fun r h => by unfold noNl; simp; omega) s

/-- A number: 'none': too great. -/
def numL : Int → List UInt8 → Option Int
  | n, [] => some n
  | n, c :: r => if n > 115292150460684697 then none else numL (10 * n + ((c.toNat : Int) - 48)) r
def numF (l : List UInt8) : Int × Int :=
  match numL 0 l with
  | none => (0, 111)
  | some n => if 40 < l.length ∨ 1152921504606846976 < n then (0, 111) else (n, 0)

/-- The signs. -/
def signBytes : List UInt8 := [123, 32, 125, 32, 40, 32, 41, 32, 91, 32, 93, 32, 59, 32, 58, 32, 44, 32, 61, 32, 61, 61, 32, 33, 61, 32, 60, 32, 60, 61, 32, 62, 32, 62, 61, 32, 43, 32, 45, 32, 42, 32, 47, 32, 33, 32, 38, 38, 32, 124, 124]
def signsL : List (List UInt8) := [[123], [125], [40], [41], [91], [93], [59], [58], [44], [61], [61, 61], [33, 61], [60], [60, 61], [62], [62, 61], [43], [45], [42], [47], [33], [38, 38], [124, 124]]
theorem fields_signs : Lib.fields signBytes = signsL := by decide
def better (l best x : List UInt8) : List UInt8 := if x.isPrefixOf l = true ∧ best.length < x.length then x else best
def signF (l : List UInt8) : List UInt8 := signsL.foldl (better l) []
end Go.Proofs.YtlcbdgkkkljfnaaDoor.Lx
namespace Go.Proofs.YtlcbdgkkkljfnaaDoor.Lx
/-- The token that begins a text: kind, bytes, number, error. -/
def tokF : List UInt8 → Int × List UInt8 × Int × Int
  | [] => (0, [], 0, 0)
  | c :: r =>
    if byB letB c = true then (if 16 < wh (byB innB) (c :: r) then (0, [], 0, 111) else (0, (c :: r).take (wh (byB innB) (c :: r)), 0, 0))
    else if byB digB c = true then (1, (c :: r).take (wh (byB digB) (c :: r)), (numF ((c :: r).take (wh (byB digB) (c :: r)))).1, (numF ((c :: r).take (wh (byB digB) (c :: r)))).2)
    else if signF (c :: r) = [] then (0, [], 0, 110) else (2, signF (c :: r), 0, 0)
end Go.Proofs.YtlcbdgkkkljfnaaDoor.Lx
end

section
/- The walks of the lexer's small functions: letter, digit, inner, nothing, number, sign. -/
namespace Go.Proofs.YtlcbdgkkkljfnaaDoor.Lx
open Go Go.RowKit Go.Proofs

theorem letter_any (x : Nat) (w : World) : Calls Tryd.prog 27 #[.int .i32 x] w fun e w' => e = .returned (.bool (letB x)) ∧ w = w' := by
  by_cases h1 : 97 ≤ x <;> by_cases h2 : x ≤ 122 <;> by_cases h3 : 65 ≤ x <;> by_cases h4 : x ≤ 90
  all_goals
    have z1 : (97 : Int) ≤ (x : Int) ↔ 97 ≤ x := by omega
    have z2 : (x : Int) ≤ 122 ↔ x ≤ 122 := by omega
    have z3 : (65 : Int) ≤ (x : Int) ↔ 65 ≤ x := by omega
    have z4 : (x : Int) ≤ 90 ↔ x ≤ 90 := by omega
    first
    | (exfalso; omega)
    | (go_enter Tryd.func27, Tryd.ntmps27
       go_wp2
       all_goals first | (exfalso; omega) | (go_ret; exact ⟨by simp [letB, h1, h2, h3, h4], rfl⟩))
theorem digit_any (x : Nat) (w : World) : Calls Tryd.prog 29 #[.int .i32 x] w fun e w' => e = .returned (.bool (digB x)) ∧ w = w' := by
  by_cases h1 : 48 ≤ x <;> by_cases h2 : x ≤ 57
  all_goals
    have z1 : (48 : Int) ≤ (x : Int) ↔ 48 ≤ x := by omega
    have z2 : (x : Int) ≤ 57 ↔ x ≤ 57 := by omega
    first
    | (exfalso; omega)
    | (go_enter Tryd.func29, Tryd.ntmps29
       go_wp2
       all_goals first | (exfalso; omega) | (go_ret; exact ⟨by simp [digB, h1, h2], rfl⟩))
theorem inner_any (x : Nat) (w : World) : Calls Tryd.prog 28 #[.int .i32 x] w fun e w' => e = .returned (.bool (innB x)) ∧ w = w' := by
  by_cases h1 : letB x = true
  · have H1 := Lib.hid h1
    have H : Hid (innB x = true) := Lib.hid (by simp [innB, h1])
    clear h1
    go_enter Tryd.func28, Tryd.ntmps28
    go_wp2_with (go_at_call 27; refine (letter_any x _).mono ?_; rw [H1.out]; rintro e w' ⟨rfl, rfl⟩)
    go_ret
    exact ⟨by rw [H.out]; rfl, rfl⟩
  · have H1 : Hid (letB x = false) := Lib.hid (by simpa using h1)
    by_cases h2 : digB x = true
    · have H2 := Lib.hid h2
      have H : Hid (innB x = true) := Lib.hid (by simp [innB, h2])
      clear h1 h2
      go_enter Tryd.func28, Tryd.ntmps28
      go_wp2_with (first | (go_at_call 27; refine (letter_any x _).mono ?_; rw [H1.out]; rintro e w' ⟨rfl, rfl⟩) | (go_at_call 29; refine (digit_any x _).mono ?_; rw [H2.out]; rintro e w' ⟨rfl, rfl⟩))
      go_ret
      exact ⟨by rw [H.out]; rfl, rfl⟩
    · have H2 : Hid (digB x = false) := Lib.hid (by simpa using h2)
      have H : Hid (innB x = decide (x = 95)) := Lib.hid (by simp [innB, h1, h2])
      clear h1 h2
      by_cases h3 : x = 95
      · have H3 : Hid (innB x = true) := Lib.hid (by rw [H.out, decide_eq_true h3])
        have z : ((x : Int) == 95) = true := by simp; omega
        clear H h3
        go_enter Tryd.func28, Tryd.ntmps28
        go_wp2_with (first | (go_at_call 27; refine (letter_any x _).mono ?_; rw [H1.out]; rintro e w' ⟨rfl, rfl⟩) | (go_at_call 29; refine (digit_any x _).mono ?_; rw [H2.out]; rintro e w' ⟨rfl, rfl⟩))
        go_ret
        exact ⟨by rw [H3.out]; rfl, rfl⟩
      · have H3 : Hid (innB x = false) := Lib.hid (by rw [H.out, decide_eq_false h3])
        have z : ((x : Int) == 95) = false := by simp; omega
        clear H h3
        go_enter Tryd.func28, Tryd.ntmps28
        go_wp2_with (first | (go_at_call 27; refine (letter_any x _).mono ?_; rw [H1.out]; rintro e w' ⟨rfl, rfl⟩) | (go_at_call 29; refine (digit_any x _).mono ?_; rw [H2.out]; rintro e w' ⟨rfl, rfl⟩))
        go_ret
        exact ⟨by rw [H3.out]; rfl, rfl⟩
theorem noNl_any (x : Nat) (w : World) : Calls Tryd.prog 26 #[.int .i32 x] w fun e w' => e = .returned (.bool (noNl x)) ∧ w = w' := by
  by_cases h1 : x = 10
  all_goals
    go_enter Tryd.func26, Tryd.ntmps26
    go_wp2
    go_ret
    refine ⟨?_, rfl⟩
    simp [noNl, h1]
    try omega

theorem tells_inner : Tells 28 innB := fun W x _ => (inner_any x W).mono fun _ _ ⟨h, k⟩ => ⟨h, 0, k ▸ rfl⟩
theorem tells_digit : Tells 29 digB := fun W x _ => (digit_any x W).mono fun _ _ ⟨h, k⟩ => ⟨h, 0, k ▸ rfl⟩
theorem tells_noNl : Tells 26 noNl := fun W x _ => (noNl_any x W).mono fun _ _ ⟨h, k⟩ => ⟨h, 0, k ▸ rfl⟩

theorem while_inner (s : ByteArray) (w : World) : Calls Tryd.prog 25 #[.string s, .func (.func 28) #[] #[]] w fun e w' => e = .returned (.int .i64 (wh (byB innB) s.data.toList)) ∧ Below w.heap.size w w' := by
  have h := while_any 28 (enters_of Tryd.func28 (by kernel_rfl) rfl) innB tells_inner s w
  rw [wh_letters] at h
  exact h
theorem while_digit (s : ByteArray) (w : World) : Calls Tryd.prog 25 #[.string s, .func (.func 29) #[] #[]] w fun e w' => e = .returned (.int .i64 (wh (byB digB) s.data.toList)) ∧ Below w.heap.size w w' := by
  have h := while_any 29 (enters_of Tryd.func29 (by kernel_rfl) rfl) digB tells_digit s w
  rw [wh_digits] at h
  exact h
theorem while_noNl (s : ByteArray) (w : World) : Calls Tryd.prog 25 #[.string s, .func (.func 26) #[] #[]] w fun e w' => e = .returned (.int .i64 (wh (byB noNl) s.data.toList)) ∧ Below w.heap.size w w' := by
  have h := while_any 26 (enters_of Tryd.func26 (by kernel_rfl) rfl) noNl tells_noNl s w
  rw [wh_noNl] at h
  exact h
end Go.Proofs.YtlcbdgkkkljfnaaDoor.Lx
end

section
/- The walks of nothing, number, sign. -/
namespace Go.Proofs.YtlcbdgkkkljfnaaDoor.Lx
open Go Go.RowKit Go.Proofs

theorem get_cons {s : ByteArray} {i : Nat} (h : i < s.size) : s.data.toList.drop i = s[i] :: s.data.toList.drop (i + 1) := drop_cons s i h

theorem ret_i64 {a b : Int} (h : a = b) : Ending.returned (.int .i64 a) = .returned (.int .i64 b) := by rw [h]

set_option maxHeartbeats 1000000 in
theorem nothing_any (s : ByteArray) (w : World) (hs : s.size ≤ 140737488355328) :
    Calls Tryd.prog 15 #[.string s] w fun e w' => e = .returned (.int .i64 (skip false s.data.toList)) ∧ Below w.heap.size w w' := by
  go_enter Tryd.func15, Tryd.ntmps15
  go_wp2_with fail
  go_loopw [3] (fun n wr => ∃ k : Nat, k ≤ s.size ∧ n = .int .i64 k ∧ k + skip false (s.data.toList.drop k) = skip false s.data.toList ∧ Below w.heap.size w wr) (fun n _ => s.size - (intOf n).toNat)
  case atStart => exact ⟨0, Nat.zero_le _, rfl, by simp, Below.refl _ _⟩
  case round =>
    obtain ⟨k, hk, rfl, hsk, hbw⟩ := hrel
    by_cases hlt : k < s.size
    · have hd := get_cons hlt
      have hone : skip false (s.data.toList.drop k) = if s[k].toNat = 32 ∨ s[k].toNat = 9 ∨ s[k].toNat = 10 then 1 + skip false (s.data.toList.drop (k + 1)) else if s[k].toNat = 35 then 1 + skip true (s.data.toList.drop (k + 1)) else 0 := by rw [hd]; rfl
      by_cases hb : s[k].toNat = 32 ∨ s[k].toNat = 9 ∨ s[k].toNat = 10
      · have HS : Hid ((k + 1) + skip false (s.data.toList.drop (k + 1)) = skip false s.data.toList) := Lib.hid (by rw [← hsk, hone, if_pos hb]; omega)
        clear hd hone hsk
        rcases hb with hb | hb | hb
        · have z32 : ((s[k].toNat : Int) == 32) = true := by simp; omega
          clear hb
          go_wp2
          go_roundw
          case rel => exact ⟨k + 1, by omega, by go_num, HS.out, hbw⟩
          case measure => simp [intOf]; omega
        · have z32 : ((s[k].toNat : Int) == 32) = false := by simp; omega
          have z9 : ((s[k].toNat : Int) == 9) = true := by simp; omega
          clear hb
          go_wp2
          go_roundw
          case rel => exact ⟨k + 1, by omega, by go_num, HS.out, hbw⟩
          case measure => simp [intOf]; omega
        · have z32 : ((s[k].toNat : Int) == 32) = false := by simp; omega
          have z9 : ((s[k].toNat : Int) == 9) = false := by simp; omega
          have z10 : ((s[k].toNat : Int) == 10) = true := by simp; omega
          clear hb
          go_wp2
          go_roundw
          case rel => exact ⟨k + 1, by omega, by go_num, HS.out, hbw⟩
          case measure => simp [intOf]; omega
      · have hn : s[k].toNat ≠ 32 ∧ s[k].toNat ≠ 9 ∧ s[k].toNat ≠ 10 := by omega
        have z32 : ((s[k].toNat : Int) == 32) = false := by simp; omega
        have z9 : ((s[k].toNat : Int) == 9) = false := by simp; omega
        have z10 : ((s[k].toNat : Int) == 10) = false := by simp; omega
        by_cases h35 : s[k].toNat = 35
        · have hw := wh_le (byB noNl) (s.data.toList.drop k)
          have hlen : (s.data.toList.drop k).length = s.size - k := by simp
          have hpos : 1 ≤ wh (byB noNl) (s.data.toList.drop k) := by
            rw [hd, wh_cons]; simp [byB, noNl, h35]
          have HS : Hid ((k + wh (byB noNl) (s.data.toList.drop k)) + skip false (s.data.toList.drop (k + wh (byB noNl) (s.data.toList.drop k))) = skip false s.data.toList) := Lib.hid (by
            rw [← hsk, hone, if_neg hb, if_pos h35, ← List.drop_drop]
            have h2 := skip_true (s.data.toList.drop k)
            have h3 : skip true (s.data.toList.drop k) = 1 + skip true (s.data.toList.drop (k + 1)) := by rw [hd]; simp [skip, h35]
            omega)
          have z35 : ((s[k].toNat : Int) == 35) = true := by simp; omega
          have HE : Hid (s.data.toList.drop k = (s.extract k s.size).data.toList) := Lib.hid (Lib.extract_to_end s k).symm
          generalize hm : wh (byB noNl) (s.data.toList.drop k) = m at *
          have HM := Lib.hid hm
          clear hd hone hsk hb h35 hm
          rw [hlen] at hw
          clear hlen
          go_wp2_with (go_at_call 25; refine (while_noNl _ _).mono ?_; rw [← HE.out, HM.out]; rintro e w' ⟨rfl, hb2⟩)
          go_roundw
          case rel => exact ⟨k + m, by omega, by go_num, HS.out, hbw.trans (hb2.mono hbw.size)⟩
          case measure => simp [intOf]; omega
        · have HS : Hid (k = skip false s.data.toList) := Lib.hid (by rw [← hsk, hone, if_neg hb, if_neg h35]; omega)
          have z35 : ((s[k].toNat : Int) == 35) = false := by simp; omega
          clear hd hone hsk hb h35
          go_wp2
          go_ret
          exact ⟨ret_i64 (by rw [← HS.out]), hbw⟩
    · have HS : Hid (k = skip false s.data.toList) := Lib.hid (by
        have : s.data.toList.drop k = [] := List.drop_eq_nil_of_le (by simp; omega)
        rw [← hsk, this]; simp [skip])
      clear hsk
      go_wp2
      go_ret
      exact ⟨ret_i64 (by rw [← HS.out]), hbw⟩
end Go.Proofs.YtlcbdgkkkljfnaaDoor.Lx
end

section
/- The walks of number and sign. -/
namespace Go.Proofs.YtlcbdgkkkljfnaaDoor.P
open Go Go.RowKit
/-- The world holds the library's table of blanks, and goes on holding it. -/
structure TabT (w : World) : Prop where
  space : Lib.TabBelow Tryd.prog w.heap.size w "strings.asciiSpace" .u8 Lib.asciiSpaceTab
theorem TabT.later {w w' : World} (h : TabT w) (hb : Below w.heap.size w w') : TabT w' :=
  ⟨fun w2 h2 => h.space w2 (hb.trans (h2.mono hb.size))⟩
end Go.Proofs.YtlcbdgkkkljfnaaDoor.P
namespace Go.Proofs.YtlcbdgkkkljfnaaDoor.Lx
open Go Go.RowKit Go.Proofs
open Go.Proofs.YtlcbdgkkkljfnaaDoor.P (TabT)

/-- What number hands back. -/
def NumEnd (s : ByteArray) (w : World) (e : Ending) (w' : World) : Prop :=
  e = .returned (.tuple #[.int .i64 (numF s.data.toList).1, .int .i64 (numF s.data.toList).2]) ∧ Below w.heap.size w w'
theorem numEnd_no {s : ByteArray} {w w' : World} (h : numF s.data.toList = (0, 111)) (hb : Below w.heap.size w w') : NumEnd s w (.returned (.tuple #[.int .i64 0, .int .i64 111])) w' := by
  unfold NumEnd; rw [h]; exact ⟨rfl, hb⟩
theorem numEnd_yes {s : ByteArray} {w w' : World} {n : Int} (h : numF s.data.toList = (n, 0)) (hb : Below w.heap.size w w') : NumEnd s w (.returned (.tuple #[.int .i64 n, .int .i64 0])) w' := by
  unfold NumEnd; rw [h]; exact ⟨rfl, hb⟩

set_option maxHeartbeats 1000000 in
theorem number_any (s : ByteArray) (w : World) (hdig : ∀ (i : Nat) (h : i < s.size), 48 ≤ (s[i]'h).toNat ∧ (s[i]'h).toNat ≤ 57) :
    Calls Tryd.prog 30 #[.string s] w (NumEnd s w) := by
  go_enter Tryd.func30, Tryd.ntmps30
  go_wp2_with fail
  go_loopw [4, 6] (fun n _ wr => ∃ (pos : Nat) (m : Int), pos ≤ s.size ∧ wr.heap[w.heap.size]? = some (.stringIter s pos) ∧ Below w.heap.size w wr ∧ n = .int .i64 m ∧ 0 ≤ m ∧ m ≤ 1152921504606846979 ∧ numL m (s.data.toList.drop pos) = numL 0 s.data.toList) (fun _ _ wr => s.size - wr.iterPos w.heap.size)
  case atStart =>
    exact ⟨0, 0, Nat.zero_le _, World.iter_heap w s 0, (Below.refl _ w).alloc (Nat.le_refl _) _, rfl, by omega, by omega, by simp⟩
  case round =>
    obtain ⟨pos, m, hpos, hit, hbw, rfl, hm0, hm1, hnum⟩ := hrel
    have hsz : w.heap.size < wr.heap.size := (Array.getElem?_eq_some_iff.1 hit).1
    by_cases hps : pos < s.size
    · have hdg := hdig pos hps
      have hnx : ∀ ty, (Instr.next (.pointer (some ⟨w.heap.size, 0, none⟩)) true ty).run Tryd.prog wr = _ := fun ty => Lib.run_next_ascii_at wr w.heap.size s pos ty hit hps (by omega)
      have hit2 := Lib.iterAt_heap wr w.heap.size s pos (pos + 1) hit
      have hbw2 := Lib.below_iterAt hbw (k := w.heap.size) (Nat.le_refl _) s (pos + 1)
      have hone : numL m (s.data.toList.drop pos) = if m > 115292150460684697 then none else numL (10 * m + ((s[pos].toNat : Int) - 48)) (s.data.toList.drop (pos + 1)) := by rw [get_cons hps]; rfl
      by_cases hbig : 115292150460684697 < m
      · have HN : Hid (numF s.data.toList = (0, 111)) := Lib.hid (by unfold numF; rw [← hnum, hone, if_pos hbig])
        have z : decide (115292150460684697 < m) = true := decide_eq_true hbig
        clear hone hnum hbig
        go_wp2
        go_ret2
        exact numEnd_no HN.out hbw2
      · have HN : Hid (numL (10 * m + ((s[pos].toNat : Int) - 48)) (s.data.toList.drop (pos + 1)) = numL 0 s.data.toList) := Lib.hid (by rw [← hnum, hone, if_neg hbig])
        have z : decide (115292150460684697 < m) = false := decide_eq_false hbig
        have hb2 : m ≤ 115292150460684697 := by omega
        clear hone hnum hbig
        go_wp2
        go_roundw
        case rel =>
          exact ⟨pos + 1, _, by omega, hit2, hbw2, rfl, by omega, by omega, HN.out⟩
        case measure =>
          simp only [World.iterPos, hit2, hit]
          omega
    · have hnx : ∀ ty, (Instr.next (.pointer (some ⟨w.heap.size, 0, none⟩)) true ty).run Tryd.prog wr = _ := fun ty => Lib.run_next_end_at wr w.heap.size s pos ty hit hps
      have hend : numL 0 s.data.toList = some m := by
        have : s.data.toList.drop pos = [] := List.drop_eq_nil_of_le (by simp; omega)
        rw [← hnum, this]; rfl
      have hlen : s.data.toList.length = s.size := by simp
      by_cases h40 : 40 < s.size
      · have HN : Hid (numF s.data.toList = (0, 111)) := Lib.hid (by unfold numF; rw [hend]; simp only; rw [if_pos (by left; omega)])
        have z : decide (40 < s.size) = true := decide_eq_true h40
        have z' : decide ((40 : Int) < (s.size : Int)) = true := decide_eq_true (by omega)
        clear hend hnum hlen h40
        go_wp2
        go_ret2
        exact numEnd_no HN.out hbw
      · have z : decide (40 < s.size) = false := decide_eq_false h40
        have z' : decide ((40 : Int) < (s.size : Int)) = false := decide_eq_false (by omega)
        by_cases hbig : 1152921504606846976 < m
        · have HN : Hid (numF s.data.toList = (0, 111)) := Lib.hid (by unfold numF; rw [hend]; simp only; rw [if_pos (by right; omega)])
          have z : decide (1152921504606846976 < m) = true := decide_eq_true hbig
          clear hend hnum hlen h40 hbig
          go_wp2
          go_ret2
          exact numEnd_no HN.out hbw
        · have HN : Hid (numF s.data.toList = (m, 0)) := Lib.hid (by unfold numF; rw [hend]; simp only; rw [if_neg (by omega)])
          have z : decide (1152921504606846976 < m) = false := decide_eq_false hbig
          clear hend hnum hlen h40 hbig
          go_wp2
          go_ret2
          exact numEnd_yes HN.out hbw


def strOf (l : List UInt8) : ByteArray := ⟨l.toArray⟩
theorem strOf_list (l : List UInt8) : (strOf l).data.toList = l := rfl

def signS : ByteArray := ⟨#[123, 32, 125, 32, 40, 32, 41, 32, 91, 32, 93, 32, 59, 32, 58, 32, 44, 32, 61, 32, 61, 61, 32, 33, 61, 32, 60, 32, 60, 61, 32, 62, 32, 62, 61, 32, 43, 32, 45, 32, 42, 32, 47, 32, 33, 32, 38, 38, 32, 124, 124]⟩
theorem ascii_signs : ∀ (j : Nat) b, signBytes[j]? = some b → b.toNat < 128 := by
  have h : ∀ b ∈ signBytes, b.toNat < 128 := by decide
  intro j b hj
  exact h b (List.mem_of_getElem? hj)
theorem fields_call (w : World) (hT : TabT w) : Calls Tryd.prog 40 #[.string signS] w fun e w' => e = .returned (.slice (some ⟨w.heap.size, 0, none⟩) 23 23) ∧ w' = w.alloc (.cells (signsL.map fun l => Value.string ⟨l.toArray⟩).toArray 9) := by
  have h := Tryd.strings_Fields signS w (by decide) ascii_signs hT.space.here
  rw [show signS.data.toList = signBytes from rfl, fields_signs] at h
  exact h
end Go.Proofs.YtlcbdgkkkljfnaaDoor.Lx
end

section
/- The rows' listed variables: what they give, and a world that holds them. -/
namespace Go.Proofs.YtlcbdgkkkljfnaaDoor
open Go Go.RowKit
theorem own : ownKnob Tryd.prog.godebug = none := by kernel_rfl
theorem laidOut : laidOutB Tryd.prog = true := by kernel_rfl
theorem gS : Tryd.prog.globalNamed "strings.asciiSpace" = some 1 := by kernel_rfl
theorem gSType : (Tryd.prog.globals[1]?).map (·.type) = some 72 := by kernel_rfl
theorem cellsB : Tryd.prog.cellsOf 5 = 1 := by kernel_rfl
theorem cellsS : Tryd.prog.cellsOf 72 = 256 := by kernel_rfl

theorem tabIs_mem {P : Program} {W : World} {name : String} {k : IntKind} {zs : List Int} {l : List (String × DataW Unit)} {g : Nat} {t e : TypeId} {n : Nat}
    (hg : P.globalNamed name = some g) (hty : (P.globals[g]?).map (·.type) = some t) (ht : P.underlying t = some (.array n e)) (he : P.underlying e = some (.int k)) (hce : P.cellsOf e = 1) (hct : P.cellsOf t = n)
    (h : laidMet P l W) (hm : (name, Lib.tabData k zs) ∈ l) : Lib.TabIs P W name k zs := by
  obtain ⟨g', t', cs, fuel, p, hg', ht', hvar, hd⟩ := Lib.laidMet.reads h hm
  obtain rfl := Option.some.inj (hg.symm.trans hg')
  obtain rfl := Option.some.inj (hty.symm.trans ht')
  unfold Lib.TabIs
  rw [hvar, ← Lib.cells_of_tab ht he hce hct hd]

def laidBoth : List (String × DataW Unit) := [("unicode.White_Space", Rows.laid_unicode_White_Space), ("strings.asciiSpace", Rows.laid_strings_asciiSpace)]
theorem data_space : (Rows.laid_strings_asciiSpace : DataW Unit) = Lib.tabData .u8 Lib.asciiSpaceTab := by kernel_rfl

/-- What the rows' list gives. -/
theorem tabs {W : World} (h : laidMetH Tryd.prog laidBoth W) : P.TabT W :=
  ⟨Lib.tabBelow_of_tabIs (tabIs_mem gS gSType Tryd.underlying72 Tryd.underlying5 cellsB cellsS (show laidMet Tryd.prog laidBoth W from h) (by rw [← data_space]; exact List.mem_cons_of_mem _ (List.mem_cons_self)))⟩

noncomputable def laidWorld (os : Os) : World :=
  let N := (World.settled Tryd.prog os).heap.size
  let w0 := World.holding Tryd.prog os ⟨#[
    .cells #[.int .u16 9, .int .u16 13, .int .u16 1, .int .u16 32, .int .u16 133, .int .u16 101, .int .u16 160, .int .u16 5760, .int .u16 5600, .int .u16 8192, .int .u16 8202, .int .u16 1, .int .u16 8232, .int .u16 8233, .int .u16 1, .int .u16 8239, .int .u16 8287, .int .u16 48, .int .u16 12288, .int .u16 12288, .int .u16 1] 90,
    .cells #[.slice (some ⟨N, 0, none⟩) 7 7, .slice none 0 0, .int .i64 2] 87], #[], []⟩
  let put (h : Array Obj) (g : Nat) (cs : Array Value) : Array Obj := h.modify g fun
    | .cells _ t frozen => .cells cs t frozen
    | o => o
  let h1 := put w0.heap 1 (Lib.asciiSpaceTab.map fun z => Value.int .u8 z).toArray
  let h2 := put h1 2 #[.pointer (some ⟨N + 1, 0, none⟩)]
  { w0 with heap := h2 }
theorem laid_met (os : Os) (args : Array Value) : laidMet Tryd.prog laidBoth ((laidWorld os).forCall (fun _ _ => 0) ⟨#[], args, []⟩).memory :=
  laidMet_of_run' 8 (by kernel_rfl) (by kernel_rfl)
end Go.Proofs.YtlcbdgkkkljfnaaDoor
end

section
namespace Go.Proofs.YtlcbdgkkkljfnaaDoor.P
open Go.RowKit Go.Proofs.YtlcbdgkkkljfnaaDoorW.PrintWords Go.Proofs.YtlcbdgkkkljfnaaDoorW.PrintLast Go.Proofs.YtlcbdgkkkljfnaaDoorW.PrintMore
attribute [local go_sem] max2_int min2_int max_two min_two max_three min_three max_four min_four   -- for this text's walks alone
set_option linter.unusedVariables false
set_option linter.unusedSimpArgs false



def errW : Option Int → Value
  | none => .nilIface
  | some c => .iface 0 (.int .i64 c)
theorem errW_none : errW none = .nilIface := rfl
theorem errW_some (c : Int) : errW (some c) = .iface 0 (.int .i64 c) := rfl

theorem info9 : (Tryd.prog.info? 9).map (fun i => (i.zero, i.size, i.bytes)) = some (some (.string ⟨#[]⟩), 1, 16) := by kernel_rfl
theorem info31 : (Tryd.prog.info? 31).map (fun i => (i.zero, i.size, i.bytes)) = some (some (.agg #[(.int .i64 0), (.string ⟨#[]⟩), (.int .i64 0), (.int .i64 0)]), 4, 40) := by kernel_rfl
theorem info32 : (Tryd.prog.info? 32).map (fun i => (i.zero, i.size, i.bytes)) = some (some (.agg #[(.int .i64 0), (.string ⟨#[]⟩), (.int .i64 0), (.int .i64 0)]), 4, 40) := by kernel_rfl
-- the values' own types
/-! #### struct type 32 -/
structure S32 where
  f0 : Int
  f1 : ByteArray
  f2 : Int
  f3 : Int
def z32 : S32 := ⟨(0 : Int), (⟨#[]⟩ : ByteArray), (0 : Int), (0 : Int)⟩
def k32 : Kd S32 := Kd.iso (Kd.pair (Kd.int .i64) (Kd.pair Kd.string (Kd.pair (Kd.int .i64) (Kd.int .i64)))) (fun x : S32 => (x.f0, x.f1, x.f2, x.f3))
theorem k32_open {w : World} {x : S32} {cs : List Value} (h : k32.K w x cs) : cs = [.int .i64 x.f0, .string x.f1, .int .i64 x.f2, .int .i64 x.f3] := by
  obtain ⟨_, _, rfl, rfl, ⟨_, _, rfl, rfl, ⟨_, _, rfl, rfl, rfl⟩⟩⟩ := h
  exact rfl
theorem k32_openM {w : World} {base : Nat} {ok : Nat → Prop} {x : S32} {cs : List Value} (h : k32.M w base ok x cs) : cs = [.int .i64 x.f0, .string x.f1, .int .i64 x.f2, .int .i64 x.f3] := by
  obtain ⟨_, _, rfl, rfl, ⟨_, _, rfl, rfl, ⟨_, _, rfl, rfl, rfl⟩⟩⟩ := h
  exact rfl
theorem k32_mk (w : World) (x : S32)  : k32.K w x [.int .i64 x.f0, .string x.f1, .int .i64 x.f2, .int .i64 x.f3] := ⟨[.int .i64 x.f0], [.string x.f1, .int .i64 x.f2, .int .i64 x.f3], rfl, rfl, ⟨[.string x.f1], [.int .i64 x.f2, .int .i64 x.f3], rfl, rfl, ⟨[.int .i64 x.f2], [.int .i64 x.f3], rfl, rfl, rfl⟩⟩⟩
theorem k32_mkM (w : World) (base : Nat) (ok : Nat → Prop) (x : S32)  : k32.M w base ok x [.int .i64 x.f0, .string x.f1, .int .i64 x.f2, .int .i64 x.f3] := ⟨[.int .i64 x.f0], [.string x.f1, .int .i64 x.f2, .int .i64 x.f3], rfl, rfl, ⟨[.string x.f1], [.int .i64 x.f2, .int .i64 x.f3], rfl, rfl, ⟨[.int .i64 x.f2], [.int .i64 x.f3], rfl, rfl, rfl⟩⟩⟩
def rd_T32 (xs : List S32) (i : Int) : S32 := xs.getD i.toNat z32
theorem at_T32 {w : World} {A : Option Addr} {n : Nat} {xs : List S32} (h : Kd.C k32 w A n xs) (i : Int) (h0 : 0 ≤ i) (h1 : i < n) : ∃ ad , A = some ad ∧ w.cell? (ad.add (i.toNat * 4)) = some (.int .i64 (rd_T32 xs i).f0) ∧ w.cell? ⟨(ad.add (i.toNat * 4)).block, (ad.add (i.toNat * 4)).off + 1, none⟩ = some (.string (rd_T32 xs i).f1) ∧ w.cell? ⟨(ad.add (i.toNat * 4)).block, (ad.add (i.toNat * 4)).off + 2, none⟩ = some (.int .i64 (rd_T32 xs i).f2) ∧ w.cell? ⟨(ad.add (i.toNat * 4)).block, (ad.add (i.toNat * 4)).off + 3, none⟩ = some (.int .i64 (rd_T32 xs i).f3) := by
  obtain ⟨ad, c, e, _, hK, hc0⟩ := Kd.C_get h z32 i h0 h1
  have hc : ∀ j u, c[j]? = some u → w.cell? (ad.add (i.toNat * 4 + j)) = some u := hc0
  obtain rfl := k32_open hK
  exact ⟨ad, e, hc 0 _ rfl, by rw [← add_field _ _ 1 (by omega)]; exact hc 1 _ rfl, by rw [← add_field _ _ 2 (by omega)]; exact hc 2 _ rfl, by rw [← add_field _ _ 3 (by omega)]; exact hc 3 _ rfl⟩

def rd_L5 (xs : List (List ByteArray)) (i : Int) : (List ByteArray) := xs.getD i.toNat ([] : List ByteArray)
theorem at_L5 {w : World} {A : Option Addr} {n : Nat} {xs : List (List ByteArray)} (h : Kd.C (Kd.slice 9 Kd.string) w A n xs) (i : Int) (h0 : 0 ≤ i) (h1 : i < n) : ∃ ad A0 c0, A = some ad ∧ w.cell? (ad.add i.toNat) = some (.slice A0 (rd_L5 xs i).length c0) ∧ (rd_L5 xs i).length ≤ c0 ∧ Kd.string.C w A0 (rd_L5 xs i).length (rd_L5 xs i) := by
  obtain ⟨ad, c, e, _, hK, hc0⟩ := Kd.C_get h ([] : List ByteArray) i h0 h1
  have hc : ∀ j u, c[j]? = some u → w.cell? (ad.add (i.toNat * 1 + j)) = some u := hc0
  obtain ⟨A0, c0, rfl, l0, g0⟩ := hK
  exact ⟨ad, A0, c0, e, by have hq := hc 0 _ rfl; rwa [Nat.mul_one, Nat.add_zero] at hq, l0, g0⟩

/-! #### struct type 31 -/
structure S31 where
  f0 : Int
  f1 : ByteArray
  f2 : Int
  f3 : Int
def z31 : S31 := ⟨(0 : Int), (⟨#[]⟩ : ByteArray), (0 : Int), (0 : Int)⟩
def k31 : Kd S31 := Kd.iso (Kd.pair (Kd.int .i64) (Kd.pair Kd.string (Kd.pair (Kd.int .i64) (Kd.int .i64)))) (fun x : S31 => (x.f0, x.f1, x.f2, x.f3))
theorem k31_open {w : World} {x : S31} {cs : List Value} (h : k31.K w x cs) : cs = [.int .i64 x.f0, .string x.f1, .int .i64 x.f2, .int .i64 x.f3] := by
  obtain ⟨_, _, rfl, rfl, ⟨_, _, rfl, rfl, ⟨_, _, rfl, rfl, rfl⟩⟩⟩ := h
  exact rfl
theorem k31_openM {w : World} {base : Nat} {ok : Nat → Prop} {x : S31} {cs : List Value} (h : k31.M w base ok x cs) : cs = [.int .i64 x.f0, .string x.f1, .int .i64 x.f2, .int .i64 x.f3] := by
  obtain ⟨_, _, rfl, rfl, ⟨_, _, rfl, rfl, ⟨_, _, rfl, rfl, rfl⟩⟩⟩ := h
  exact rfl
theorem k31_mk (w : World) (x : S31)  : k31.K w x [.int .i64 x.f0, .string x.f1, .int .i64 x.f2, .int .i64 x.f3] := ⟨[.int .i64 x.f0], [.string x.f1, .int .i64 x.f2, .int .i64 x.f3], rfl, rfl, ⟨[.string x.f1], [.int .i64 x.f2, .int .i64 x.f3], rfl, rfl, ⟨[.int .i64 x.f2], [.int .i64 x.f3], rfl, rfl, rfl⟩⟩⟩
theorem k31_mkM (w : World) (base : Nat) (ok : Nat → Prop) (x : S31)  : k31.M w base ok x [.int .i64 x.f0, .string x.f1, .int .i64 x.f2, .int .i64 x.f3] := ⟨[.int .i64 x.f0], [.string x.f1, .int .i64 x.f2, .int .i64 x.f3], rfl, rfl, ⟨[.string x.f1], [.int .i64 x.f2, .int .i64 x.f3], rfl, rfl, ⟨[.int .i64 x.f2], [.int .i64 x.f3], rfl, rfl, rfl⟩⟩⟩
def rd_T31 (xs : List S31) (i : Int) : S31 := xs.getD i.toNat z31
theorem at_T31 {w : World} {A : Option Addr} {n : Nat} {xs : List S31} (h : Kd.C k31 w A n xs) (i : Int) (h0 : 0 ≤ i) (h1 : i < n) : ∃ ad , A = some ad ∧ w.cell? (ad.add (i.toNat * 4)) = some (.int .i64 (rd_T31 xs i).f0) ∧ w.cell? ⟨(ad.add (i.toNat * 4)).block, (ad.add (i.toNat * 4)).off + 1, none⟩ = some (.string (rd_T31 xs i).f1) ∧ w.cell? ⟨(ad.add (i.toNat * 4)).block, (ad.add (i.toNat * 4)).off + 2, none⟩ = some (.int .i64 (rd_T31 xs i).f2) ∧ w.cell? ⟨(ad.add (i.toNat * 4)).block, (ad.add (i.toNat * 4)).off + 3, none⟩ = some (.int .i64 (rd_T31 xs i).f3) := by
  obtain ⟨ad, c, e, _, hK, hc0⟩ := Kd.C_get h z31 i h0 h1
  have hc : ∀ j u, c[j]? = some u → w.cell? (ad.add (i.toNat * 4 + j)) = some u := hc0
  obtain rfl := k31_open hK
  exact ⟨ad, e, hc 0 _ rfl, by rw [← add_field _ _ 1 (by omega)]; exact hc 1 _ rfl, by rw [← add_field _ _ 2 (by omega)]; exact hc 2 _ rfl, by rw [← add_field _ _ 3 (by omega)]; exact hc 3 _ rfl⟩

end Go.Proofs.YtlcbdgkkkljfnaaDoor.P
end

section
/- A cell behind a store into the same block, without a condition: for the printed walks. -/
namespace Go.Proofs.YtlcbdgkkkljfnaaDoor.P
open Go Go.RowKit
theorem cell_set_at (w : World) (b i j : Nat) (v : Value) : (w.setCell ⟨b, i, none⟩ v).cell? ⟨b, j, none⟩ = if i = j then (w.cell? ⟨b, j, none⟩).map (fun _ => v) else w.cell? ⟨b, j, none⟩ := by
  split
  · rename_i h
    subst h
    cases hc : w.cell? ⟨b, i, none⟩ with
    | none =>
      simp only [World.cell?, World.setCell, Array.getElem?_modify, if_true] at hc ⊢
      cases hb : w.heap[b]? with
      | none => simp
      | some o =>
        cases o <;> simp_all
    | some u => exact World.cell?_setCell_same _ _ _ hc
  · rename_i h
    exact World.cell?_setCell_other _ _ _ _ (by intro e; injection e with _ e2; exact h e2)
end Go.Proofs.YtlcbdgkkkljfnaaDoor.P
end

section
namespace Go.Proofs.YtlcbdgkkkljfnaaDoor.P
open Go.RowKit Go.Proofs.YtlcbdgkkkljfnaaDoorW.PrintWords Go.Proofs.YtlcbdgkkkljfnaaDoorW.PrintLast Go.Proofs.YtlcbdgkkkljfnaaDoorW.PrintMore
attribute [local go_sem low] cell_set_at
attribute [local go_sem] max2_int min2_int max_two min_two max_three min_three max_four min_four   -- for this text's walks alone
set_option linter.unusedVariables false
set_option linter.unusedSimpArgs false

/-! ### helmsmanref11_letter: function 17 -/
def helmsmanref11_letter.f (a0 : Int) : Option (Bool) := if a0 ≥ 97 then (if a0 ≤ 122 then (some true) else (if a0 ≥ 65 then (some (decide (a0 ≤ 90))) else (some false))) else (if a0 ≥ 65 then (some (decide (a0 ≤ 90))) else (some false))
set_option maxHeartbeats 8000000 in
set_option maxRecDepth 100000 in
theorem helmsmanref11_letter.calls (a0 : Int) (r : Bool) (w : World) (h : helmsmanref11_letter.f a0 = some r) :
    Calls Tryd.prog 17 #[.int .u8 a0] w fun e w' => e = .returned (.bool r) ∧ Drawn0 w w' := by
  have H : (if a0 ≥ 97 then (if a0 ≤ 122 then (some true) else (if a0 ≥ 65 then (some (decide (a0 ≤ 90))) else (some false))) else (if a0 ≥ 65 then (some (decide (a0 ≤ 90))) else (some false))) = some r := h
  clear h
  by_cases c2 : a0 ≥ 97
  · rw [if_pos c2] at H
    have c2b0 : decide (97 ≤ a0) = true := decide_eq_true c2
    clear c2
    by_cases c3 : a0 ≤ 122
    · rw [if_pos c3] at H
      have c3b0 : decide (a0 ≤ 122) = true := decide_eq_true c3
      clear c3
      obtain rfl := Option.some.inj H
      go_enter Tryd.func17, Tryd.ntmps17
      go_wp2
      go_ret
      exact ⟨by first | rfl | (simp; done) | (simp [*]; done), by repeat (first | exact Drawn0.refl _ | apply Drawn0.step)⟩
    · rw [if_neg c3] at H
      have c3b0 : decide (a0 ≤ 122) = false := decide_eq_false c3
      clear c3
      by_cases c4 : a0 ≥ 65
      · rw [if_pos c4] at H
        have c4b0 : decide (65 ≤ a0) = true := decide_eq_true c4
        clear c4
        obtain rfl := Option.some.inj H
        go_enter Tryd.func17, Tryd.ntmps17
        go_wp2
        go_ret
        exact ⟨by first | rfl | (simp; done) | (simp [*]; done), by repeat (first | exact Drawn0.refl _ | apply Drawn0.step)⟩
      · rw [if_neg c4] at H
        have c4b0 : decide (65 ≤ a0) = false := decide_eq_false c4
        clear c4
        obtain rfl := Option.some.inj H
        go_enter Tryd.func17, Tryd.ntmps17
        go_wp2
        go_ret
        exact ⟨by first | rfl | (simp; done) | (simp [*]; done), by repeat (first | exact Drawn0.refl _ | apply Drawn0.step)⟩
  · rw [if_neg c2] at H
    have c2b0 : decide (97 ≤ a0) = false := decide_eq_false c2
    clear c2
    by_cases c5 : a0 ≥ 65
    · rw [if_pos c5] at H
      have c5b0 : decide (65 ≤ a0) = true := decide_eq_true c5
      clear c5
      obtain rfl := Option.some.inj H
      go_enter Tryd.func17, Tryd.ntmps17
      go_wp2
      go_ret
      exact ⟨by first | rfl | (simp; done) | (simp [*]; done), by repeat (first | exact Drawn0.refl _ | apply Drawn0.step)⟩
    · rw [if_neg c5] at H
      have c5b0 : decide (65 ≤ a0) = false := decide_eq_false c5
      clear c5
      obtain rfl := Option.some.inj H
      go_enter Tryd.func17, Tryd.ntmps17
      go_wp2
      go_ret
      exact ⟨by first | rfl | (simp; done) | (simp [*]; done), by repeat (first | exact Drawn0.refl _ | apply Drawn0.step)⟩

end Go.Proofs.YtlcbdgkkkljfnaaDoor.P
end

section
namespace Go.Proofs.YtlcbdgkkkljfnaaDoor.P
open Go.RowKit Go.Proofs.YtlcbdgkkkljfnaaDoorW.PrintWords Go.Proofs.YtlcbdgkkkljfnaaDoorW.PrintLast Go.Proofs.YtlcbdgkkkljfnaaDoorW.PrintMore
attribute [local go_sem low] cell_set_at
attribute [local go_sem] max2_int min2_int max_two min_two max_three min_three max_four min_four   -- for this text's walks alone
set_option linter.unusedVariables false
set_option linter.unusedSimpArgs false

/-! ### helmsmanref11_digit: function 18 -/
def helmsmanref11_digit.f (a0 : Int) : Option (Bool) := if a0 ≥ 48 then (some (decide (a0 ≤ 57))) else (some false)
set_option maxHeartbeats 8000000 in
set_option maxRecDepth 100000 in
theorem helmsmanref11_digit.calls (a0 : Int) (r : Bool) (w : World) (h : helmsmanref11_digit.f a0 = some r) :
    Calls Tryd.prog 18 #[.int .u8 a0] w fun e w' => e = .returned (.bool r) ∧ Drawn0 w w' := by
  have H : (if a0 ≥ 48 then (some (decide (a0 ≤ 57))) else (some false)) = some r := h
  clear h
  by_cases c2 : a0 ≥ 48
  · rw [if_pos c2] at H
    have c2b0 : decide (48 ≤ a0) = true := decide_eq_true c2
    clear c2
    obtain rfl := Option.some.inj H
    go_enter Tryd.func18, Tryd.ntmps18
    go_wp2
    go_ret
    exact ⟨by first | rfl | (simp; done) | (simp [*]; done), by repeat (first | exact Drawn0.refl _ | apply Drawn0.step)⟩
  · rw [if_neg c2] at H
    have c2b0 : decide (48 ≤ a0) = false := decide_eq_false c2
    clear c2
    obtain rfl := Option.some.inj H
    go_enter Tryd.func18, Tryd.ntmps18
    go_wp2
    go_ret
    exact ⟨by first | rfl | (simp; done) | (simp [*]; done), by repeat (first | exact Drawn0.refl _ | apply Drawn0.step)⟩

end Go.Proofs.YtlcbdgkkkljfnaaDoor.P
end

section
namespace Go.Proofs.YtlcbdgkkkljfnaaDoor.P
open Go.RowKit Go.Proofs.YtlcbdgkkkljfnaaDoorW.PrintWords Go.Proofs.YtlcbdgkkkljfnaaDoorW.PrintLast Go.Proofs.YtlcbdgkkkljfnaaDoorW.PrintMore
attribute [local go_sem low] cell_set_at
attribute [local go_sem] max2_int min2_int max_two min_two max_three min_three max_four min_four   -- for this text's walks alone
set_option linter.unusedVariables false
set_option linter.unusedSimpArgs false

/-! ### helmsmanref11_Number: function 19 -/
def helmsmanref11_Number.l0 : Nat → ByteArray → Int → Int → Option (Int × Bool)
  | 0, _, _, _ => none
  | k + 1, x0, x4, x5 => if x5 < (x0.size : Int) then (if x4 > 115292150460684697 then (some (0, false)) else (if 0 ≤ x5 then (if (wrap64 ((wrap64 ((wrap64 (x4 * 10)) - 48)) + (wrap64 (bt x0 x5)))) > 1152921504606846976 then (some (0, false)) else (helmsmanref11_Number.l0 k x0 (wrap64 ((wrap64 ((wrap64 (x4 * 10)) - 48)) + (wrap64 (bt x0 x5)))) (wrap64 (x5 + 1)))) else (none))) else (some (x4, decide ((x0.size : Int) ≤ 40)))
def helmsmanref11_Number.f (k : Nat) (a0 : ByteArray) : Option (Int × Bool) := helmsmanref11_Number.l0 k a0 0 0
theorem helmsmanref11_Number.mono_l : ∀ k, (∀ y0 y1 y2, LeO (helmsmanref11_Number.l0 k y0 y1 y2) (helmsmanref11_Number.l0 (k + 1) y0 y1 y2))
  | 0 => fun _ _ _ r h => by simp [helmsmanref11_Number.l0] at h
  | k + 1 => by
    have ih0 := helmsmanref11_Number.mono_l k
    · intro y0 y1 y2
      unfold helmsmanref11_Number.l0
      repeat' first
      | (with_reducible exact ih0 _ _ _)
      | (with_reducible exact LeO.refl _)
      | (with_reducible exact LeO.none _)
      | (with_reducible refine LeO.ite ?_ ?_)
      | (with_reducible refine LeO.bind ?_ (fun _ => ?_))
      | exact ih0 _ _ _
      | exact LeO.none _
      | refine LeO.ite ?_ ?_
      | refine LeO.bind ?_ (fun _ => ?_)
theorem helmsmanref11_Number.mono : ∀ a0 k, LeO (helmsmanref11_Number.f k a0) (helmsmanref11_Number.f (k + 1) a0) := by
  intro a0 k
  have ih0 := helmsmanref11_Number.mono_l k
  unfold helmsmanref11_Number.f
  repeat' first
      | (with_reducible exact ih0 _ _ _)
      | (with_reducible exact LeO.refl _)
      | (with_reducible exact LeO.none _)
      | (with_reducible refine LeO.ite ?_ ?_)
      | (with_reducible refine LeO.bind ?_ (fun _ => ?_))
      | exact ih0 _ _ _
      | exact LeO.none _
      | refine LeO.ite ?_ ?_
      | refine LeO.bind ?_ (fun _ => ?_)
set_option maxHeartbeats 8000000 in
set_option maxRecDepth 100000 in
theorem helmsmanref11_Number.calls (k : Nat) (a0 : ByteArray) (r1 : Int) (r2 : Bool) (w : World) (h : helmsmanref11_Number.f k a0 = some (r1, r2)) :
    Calls Tryd.prog 19 #[.string a0] w fun e w' => e = .returned (.tuple #[.int .i64 r1, .bool r2]) ∧ Drawn0 w w' := by
  have H : (helmsmanref11_Number.l0 k a0 0 0) = some (r1, r2) := h
  clear h
  have H' := Aside0.mk H
  clear H
  go_enter Tryd.func19, Tryd.ntmps19
  go_wp2
  (try simp only [Act.put, List.setIfInBounds_toArray, List.set_cons_succ, List.set_cons_zero])
  go_loopg [4, 5] k (fun kq v4 v5 w' => ∃ (x4_1 : Int) (x5_1 : Int), v4 = .int .i64 x4_1 ∧ v5 = .int .i64 x5_1 ∧ Aside0 (helmsmanref11_Number.l0 kq a0 x4_1 x5_1 = some (r1, r2)) ∧ Aside0 (kq ≤ k) ∧ Drawn0 w w')
  case atStart => exact ⟨(0), (0), (by first | rfl | (simp; done) | (simp [*]; done)), (by first | rfl | (simp; done) | (simp [*]; done)), H', ⟨Nat.le_refl _⟩, by repeat (first | exact Drawn0.refl _ | apply Drawn0.step)⟩
  case round =>
    clear H'
    try clear c1
    obtain ⟨x4_1, x5_1, rfl, rfl, HA, HK1, ⟨m1, rfl⟩⟩ := hrel
    cases gk with
    | zero => exact absurd HA.out (by simp [helmsmanref11_Number.l0])
    | succ k1 =>
      have H := HA.out
      clear HA
      simp only [helmsmanref11_Number.l0] at H
      by_cases c2 : x5_1 < (a0.size : Int)
      · rw [if_pos c2] at H
        have c2b0 : decide (x5_1 < (a0.size : Int)) = true := decide_eq_true c2
        clear c2
        by_cases c3 : x4_1 > 115292150460684697
        · rw [if_pos c3] at H
          have c3b0 : decide (115292150460684697 < x4_1) = true := decide_eq_true c3
          clear c3
          simp only [Option.some.injEq, Prod.mk.injEq] at H
          obtain ⟨rfl, rfl⟩ := H
          go_wp2
          go_ret2
          exact ⟨by first | rfl | (simp; done) | (simp [*]; done), by repeat (first | exact Drawn0.refl _ | apply Drawn0.step)⟩
        · rw [if_neg c3] at H
          have c3b0 : decide (115292150460684697 < x4_1) = false := decide_eq_false c3
          clear c3
          by_cases c4 : 0 ≤ x5_1
          · rw [if_pos c4] at H
            have c4b0 : decide (0 ≤ x5_1) = true := decide_eq_true c4
            clear c4
            by_cases c6 : (wrap64 ((wrap64 ((wrap64 (x4_1 * 10)) - 48)) + (wrap64 (bt a0 x5_1)))) > 1152921504606846976
            · rw [if_pos c6] at H
              have c6b0 : decide (1152921504606846976 < (wrap64 ((wrap64 ((wrap64 (x4_1 * 10)) - 48)) + (wrap64 (bt a0 x5_1))))) = true := decide_eq_true c6
              clear c6
              simp only [Option.some.injEq, Prod.mk.injEq] at H
              obtain ⟨rfl, rfl⟩ := H
              have p5 : 0 ≤ (x5_1 : Int) := of_decide_eq_true (by first | (with_reducible assumption) | assumption)
              have q5 : x5_1 < (a0.size : Int) := of_decide_eq_true (by first | (with_reducible assumption) | assumption)
              have hx5 := bt_at a0 x5_1
              replace p5 := eq_true p5
              replace q5 := eq_true q5
              go_wp2
              go_ret2
              exact ⟨by first | rfl | (simp; done) | (simp [*]; done), by repeat (first | exact Drawn0.refl _ | apply Drawn0.step)⟩
            · rw [if_neg c6] at H
              have c6b0 : decide (1152921504606846976 < (wrap64 ((wrap64 ((wrap64 (x4_1 * 10)) - 48)) + (wrap64 (bt a0 x5_1))))) = false := decide_eq_false c6
              clear c6
              have H' := Aside0.mk H
              clear H
              have p5 : 0 ≤ (x5_1 : Int) := of_decide_eq_true (by first | (with_reducible assumption) | assumption)
              have q5 : x5_1 < (a0.size : Int) := of_decide_eq_true (by first | (with_reducible assumption) | assumption)
              have hx5 := bt_at a0 x5_1
              replace p5 := eq_true p5
              replace q5 := eq_true q5
              go_wp2
              go_roundg k1
              case measure => have := HK1.out; omega
              case rel => exact ⟨(wrap64 ((wrap64 ((wrap64 (x4_1 * 10)) - 48)) + (wrap64 (bt a0 x5_1)))), (wrap64 (x5_1 + 1)), (by first | rfl | (simp; done) | (simp [*]; done)), (by first | rfl | (simp; done) | (simp [*]; done)), H', ⟨by have := HK1.out; omega⟩, by repeat (first | exact Drawn0.refl _ | apply Drawn0.step)⟩
          · rw [if_neg c4] at H
            exact absurd H (by simp)
      · rw [if_neg c2] at H
        have c2b0 : decide (x5_1 < (a0.size : Int)) = false := decide_eq_false c2
        clear c2
        simp only [Option.some.injEq, Prod.mk.injEq] at H
        obtain ⟨rfl, rfl⟩ := H
        go_wp2
        go_ret2
        exact ⟨by first | rfl | (simp; done) | (simp [*]; done), by repeat (first | exact Drawn0.refl _ | apply Drawn0.step)⟩

end Go.Proofs.YtlcbdgkkkljfnaaDoor.P
end

section
namespace Go.Proofs.YtlcbdgkkkljfnaaDoor.P
open Go.RowKit Go.Proofs.YtlcbdgkkkljfnaaDoorW.PrintWords Go.Proofs.YtlcbdgkkkljfnaaDoorW.PrintLast Go.Proofs.YtlcbdgkkkljfnaaDoorW.PrintMore
attribute [local go_sem low] cell_set_at
attribute [local go_sem] max2_int min2_int max_two min_two max_three min_three max_four min_four   -- for this text's walks alone
set_option linter.unusedVariables false
set_option linter.unusedSimpArgs false

/-! ### helmsmanref11_two: function 20 -/
def helmsmanref11_two.f (a0 : ByteArray) : Option (Bool) := if a0.toList = ([61, 61] : List UInt8) then (some true) else (if a0.toList = ([33, 61] : List UInt8) then (some true) else (if a0.toList = ([60, 61] : List UInt8) then (some true) else (if a0.toList = ([62, 61] : List UInt8) then (some true) else (if a0.toList = ([38, 38] : List UInt8) then (some true) else (some (a0.toList == ([124, 124] : List UInt8)))))))
set_option maxHeartbeats 8000000 in
set_option maxRecDepth 100000 in
theorem helmsmanref11_two.calls (a0 : ByteArray) (r : Bool) (w : World) (h : helmsmanref11_two.f a0 = some r) :
    Calls Tryd.prog 20 #[.string a0] w fun e w' => e = .returned (.bool r) ∧ Drawn0 w w' := by
  have H : (if a0.toList = ([61, 61] : List UInt8) then (some true) else (if a0.toList = ([33, 61] : List UInt8) then (some true) else (if a0.toList = ([60, 61] : List UInt8) then (some true) else (if a0.toList = ([62, 61] : List UInt8) then (some true) else (if a0.toList = ([38, 38] : List UInt8) then (some true) else (some (a0.toList == ([124, 124] : List UInt8)))))))) = some r := h
  clear h
  by_cases c2 : a0.toList = ([61, 61] : List UInt8)
  · rw [if_pos c2] at H
    have c2b0 : (a0.toList == ([61, 61] : List UInt8)) = true := beq_iff_eq.mpr c2
    have c2b1 : (a0.toList != ([61, 61] : List UInt8)) = false := bne_eq_false_iff_eq.mpr c2
    clear c2
    obtain rfl := Option.some.inj H
    go_enter Tryd.func20, Tryd.ntmps20
    go_wp2
    go_ret
    exact ⟨by first | rfl | (simp; done) | (simp [*]; done), by repeat (first | exact Drawn0.refl _ | apply Drawn0.step)⟩
  · rw [if_neg c2] at H
    have c2b0 : (a0.toList == ([61, 61] : List UInt8)) = false := beq_eq_false_iff_ne.mpr c2
    have c2b1 : (a0.toList != ([61, 61] : List UInt8)) = true := bne_iff_ne.mpr c2
    by_cases c3 : a0.toList = ([33, 61] : List UInt8)
    · rw [if_pos c3] at H
      have c3b0 : (a0.toList == ([33, 61] : List UInt8)) = true := beq_iff_eq.mpr c3
      have c3b1 : (a0.toList != ([33, 61] : List UInt8)) = false := bne_eq_false_iff_eq.mpr c3
      clear c3
      obtain rfl := Option.some.inj H
      go_enter Tryd.func20, Tryd.ntmps20
      go_wp2
      go_ret
      exact ⟨by first | rfl | (simp; done) | (simp [*]; done), by repeat (first | exact Drawn0.refl _ | apply Drawn0.step)⟩
    · rw [if_neg c3] at H
      have c3b0 : (a0.toList == ([33, 61] : List UInt8)) = false := beq_eq_false_iff_ne.mpr c3
      have c3b1 : (a0.toList != ([33, 61] : List UInt8)) = true := bne_iff_ne.mpr c3
      by_cases c4 : a0.toList = ([60, 61] : List UInt8)
      · rw [if_pos c4] at H
        have c4b0 : (a0.toList == ([60, 61] : List UInt8)) = true := beq_iff_eq.mpr c4
        have c4b1 : (a0.toList != ([60, 61] : List UInt8)) = false := bne_eq_false_iff_eq.mpr c4
        clear c4
        obtain rfl := Option.some.inj H
        go_enter Tryd.func20, Tryd.ntmps20
        go_wp2
        go_ret
        exact ⟨by first | rfl | (simp; done) | (simp [*]; done), by repeat (first | exact Drawn0.refl _ | apply Drawn0.step)⟩
      · rw [if_neg c4] at H
        have c4b0 : (a0.toList == ([60, 61] : List UInt8)) = false := beq_eq_false_iff_ne.mpr c4
        have c4b1 : (a0.toList != ([60, 61] : List UInt8)) = true := bne_iff_ne.mpr c4
        by_cases c5 : a0.toList = ([62, 61] : List UInt8)
        · rw [if_pos c5] at H
          have c5b0 : (a0.toList == ([62, 61] : List UInt8)) = true := beq_iff_eq.mpr c5
          have c5b1 : (a0.toList != ([62, 61] : List UInt8)) = false := bne_eq_false_iff_eq.mpr c5
          clear c5
          obtain rfl := Option.some.inj H
          go_enter Tryd.func20, Tryd.ntmps20
          go_wp2
          go_ret
          exact ⟨by first | rfl | (simp; done) | (simp [*]; done), by repeat (first | exact Drawn0.refl _ | apply Drawn0.step)⟩
        · rw [if_neg c5] at H
          have c5b0 : (a0.toList == ([62, 61] : List UInt8)) = false := beq_eq_false_iff_ne.mpr c5
          have c5b1 : (a0.toList != ([62, 61] : List UInt8)) = true := bne_iff_ne.mpr c5
          by_cases c6 : a0.toList = ([38, 38] : List UInt8)
          · rw [if_pos c6] at H
            have c6b0 : (a0.toList == ([38, 38] : List UInt8)) = true := beq_iff_eq.mpr c6
            have c6b1 : (a0.toList != ([38, 38] : List UInt8)) = false := bne_eq_false_iff_eq.mpr c6
            clear c6
            obtain rfl := Option.some.inj H
            go_enter Tryd.func20, Tryd.ntmps20
            go_wp2
            go_ret
            exact ⟨by first | rfl | (simp; done) | (simp [*]; done), by repeat (first | exact Drawn0.refl _ | apply Drawn0.step)⟩
          · rw [if_neg c6] at H
            have c6b0 : (a0.toList == ([38, 38] : List UInt8)) = false := beq_eq_false_iff_ne.mpr c6
            have c6b1 : (a0.toList != ([38, 38] : List UInt8)) = true := bne_iff_ne.mpr c6
            obtain rfl := Option.some.inj H
            go_enter Tryd.func20, Tryd.ntmps20
            go_wp2
            go_ret
            exact ⟨by first | rfl | (simp; done) | (simp [*]; done), by repeat (first | exact Drawn0.refl _ | apply Drawn0.step)⟩

end Go.Proofs.YtlcbdgkkkljfnaaDoor.P
end

section
namespace Go.Proofs.YtlcbdgkkkljfnaaDoor.P
open Go.RowKit Go.Proofs.YtlcbdgkkkljfnaaDoorW.PrintWords Go.Proofs.YtlcbdgkkkljfnaaDoorW.PrintLast Go.Proofs.YtlcbdgkkkljfnaaDoorW.PrintMore
attribute [local go_sem low] cell_set_at
attribute [local go_sem] max2_int min2_int max_two min_two max_three min_three max_four min_four   -- for this text's walks alone
set_option linter.unusedVariables false
set_option linter.unusedSimpArgs false

/-! ### helmsmanref11_one: function 21 -/
def helmsmanref11_one.l0 : Nat → Int → ByteArray → Int → Option (Bool)
  | 0, _, _, _ => none
  | k + 1, x0, x3, x4 => if x4 < (x3.size : Int) then (if 0 ≤ x4 then (if (bt x3 x4) = x0 then (some true) else (helmsmanref11_one.l0 k x0 x3 (wrap64 (x4 + 1)))) else (none)) else (some false)
def helmsmanref11_one.f (k : Nat) (a0 : Int) : Option (Bool) := helmsmanref11_one.l0 k a0 (⟨#[123, 125, 40, 41, 91, 93, 59, 58, 44, 61, 60, 62, 43, 45, 42, 47, 33]⟩ : ByteArray) 0
theorem helmsmanref11_one.mono_l : ∀ k, (∀ y0 y1 y2, LeO (helmsmanref11_one.l0 k y0 y1 y2) (helmsmanref11_one.l0 (k + 1) y0 y1 y2))
  | 0 => fun _ _ _ r h => by simp [helmsmanref11_one.l0] at h
  | k + 1 => by
    have ih0 := helmsmanref11_one.mono_l k
    · intro y0 y1 y2
      unfold helmsmanref11_one.l0
      repeat' first
      | (with_reducible exact ih0 _ _ _)
      | (with_reducible exact LeO.refl _)
      | (with_reducible exact LeO.none _)
      | (with_reducible refine LeO.ite ?_ ?_)
      | (with_reducible refine LeO.bind ?_ (fun _ => ?_))
      | exact ih0 _ _ _
      | exact LeO.none _
      | refine LeO.ite ?_ ?_
      | refine LeO.bind ?_ (fun _ => ?_)
theorem helmsmanref11_one.mono : ∀ a0 k, LeO (helmsmanref11_one.f k a0) (helmsmanref11_one.f (k + 1) a0) := by
  intro a0 k
  have ih0 := helmsmanref11_one.mono_l k
  unfold helmsmanref11_one.f
  repeat' first
      | (with_reducible exact ih0 _ _ _)
      | (with_reducible exact LeO.refl _)
      | (with_reducible exact LeO.none _)
      | (with_reducible refine LeO.ite ?_ ?_)
      | (with_reducible refine LeO.bind ?_ (fun _ => ?_))
      | exact ih0 _ _ _
      | exact LeO.none _
      | refine LeO.ite ?_ ?_
      | refine LeO.bind ?_ (fun _ => ?_)
set_option maxHeartbeats 8000000 in
set_option maxRecDepth 100000 in
theorem helmsmanref11_one.calls (k : Nat) (a0 : Int) (r : Bool) (w : World) (h : helmsmanref11_one.f k a0 = some r) :
    Calls Tryd.prog 21 #[.int .u8 a0] w fun e w' => e = .returned (.bool r) ∧ Drawn0 w w' := by
  have H : (helmsmanref11_one.l0 k a0 (⟨#[123, 125, 40, 41, 91, 93, 59, 58, 44, 61, 60, 62, 43, 45, 42, 47, 33]⟩ : ByteArray) 0) = some r := h
  clear h
  have H' := Aside0.mk H
  clear H
  go_enter Tryd.func21, Tryd.ntmps21
  go_wp2
  (try simp only [Act.put, List.setIfInBounds_toArray, List.set_cons_succ, List.set_cons_zero])
  go_loopg [4] k (fun kq v4 w' => ∃ (x4_1 : Int), v4 = .int .i64 x4_1 ∧ Aside0 (helmsmanref11_one.l0 kq a0 (⟨#[123, 125, 40, 41, 91, 93, 59, 58, 44, 61, 60, 62, 43, 45, 42, 47, 33]⟩ : ByteArray) x4_1 = some r) ∧ Aside0 (kq ≤ k) ∧ Drawn0 w w')
  case atStart => exact ⟨(0), (by first | rfl | (simp; done) | (simp [*]; done)), H', ⟨Nat.le_refl _⟩, by repeat (first | exact Drawn0.refl _ | apply Drawn0.step)⟩
  case round =>
    clear H'
    obtain ⟨x4_1, rfl, HA, HK1, ⟨m1, rfl⟩⟩ := hrel
    cases gk with
    | zero => exact absurd HA.out (by simp [helmsmanref11_one.l0])
    | succ k1 =>
      have H := HA.out
      clear HA
      simp only [helmsmanref11_one.l0] at H
      by_cases c2 : x4_1 < ((⟨#[123, 125, 40, 41, 91, 93, 59, 58, 44, 61, 60, 62, 43, 45, 42, 47, 33]⟩ : ByteArray).size : Int)
      · rw [if_pos c2] at H
        have c2b0 : decide (x4_1 < 17) = true := decide_eq_true c2
        clear c2
        by_cases c3 : 0 ≤ x4_1
        · rw [if_pos c3] at H
          have c3b0 : decide (0 ≤ x4_1) = true := decide_eq_true c3
          clear c3
          by_cases c5 : (bt (⟨#[123, 125, 40, 41, 91, 93, 59, 58, 44, 61, 60, 62, 43, 45, 42, 47, 33]⟩ : ByteArray) x4_1) = a0
          · rw [if_pos c5] at H
            have c5b0 : ((bt (⟨#[123, 125, 40, 41, 91, 93, 59, 58, 44, 61, 60, 62, 43, 45, 42, 47, 33]⟩ : ByteArray) x4_1) == a0) = true := beq_iff_eq.mpr c5
            have c5b1 : ((bt (⟨#[123, 125, 40, 41, 91, 93, 59, 58, 44, 61, 60, 62, 43, 45, 42, 47, 33]⟩ : ByteArray) x4_1) != a0) = false := bne_eq_false_iff_eq.mpr c5
            clear c5
            obtain rfl := Option.some.inj H
            have p4 : 0 ≤ (x4_1 : Int) := of_decide_eq_true (by first | (with_reducible assumption) | assumption)
            have q4 : x4_1 < (17 : Int) := of_decide_eq_true (by first | (with_reducible assumption) | assumption)
            have hx4 := bt_at (⟨#[123, 125, 40, 41, 91, 93, 59, 58, 44, 61, 60, 62, 43, 45, 42, 47, 33]⟩ : ByteArray) x4_1
            replace p4 := eq_true p4
            replace q4 := eq_true q4
            go_wp2
            go_ret
            exact ⟨by first | rfl | (simp; done) | (simp [*]; done), by repeat (first | exact Drawn0.refl _ | apply Drawn0.step)⟩
          · rw [if_neg c5] at H
            have c5b0 : ((bt (⟨#[123, 125, 40, 41, 91, 93, 59, 58, 44, 61, 60, 62, 43, 45, 42, 47, 33]⟩ : ByteArray) x4_1) == a0) = false := beq_eq_false_iff_ne.mpr c5
            have c5b1 : ((bt (⟨#[123, 125, 40, 41, 91, 93, 59, 58, 44, 61, 60, 62, 43, 45, 42, 47, 33]⟩ : ByteArray) x4_1) != a0) = true := bne_iff_ne.mpr c5
            have H' := Aside0.mk H
            clear H
            have p4 : 0 ≤ (x4_1 : Int) := of_decide_eq_true (by first | (with_reducible assumption) | assumption)
            have q4 : x4_1 < (17 : Int) := of_decide_eq_true (by first | (with_reducible assumption) | assumption)
            have hx4 := bt_at (⟨#[123, 125, 40, 41, 91, 93, 59, 58, 44, 61, 60, 62, 43, 45, 42, 47, 33]⟩ : ByteArray) x4_1
            replace p4 := eq_true p4
            replace q4 := eq_true q4
            go_wp2
            go_roundg k1
            case measure => have := HK1.out; omega
            case rel => exact ⟨(wrap64 (x4_1 + 1)), (by first | rfl | (simp; done) | (simp [*]; done)), H', ⟨by have := HK1.out; omega⟩, by repeat (first | exact Drawn0.refl _ | apply Drawn0.step)⟩
        · rw [if_neg c3] at H
          exact absurd H (by simp)
      · rw [if_neg c2] at H
        have c2b0 : decide (x4_1 < 17) = false := decide_eq_false c2
        clear c2
        obtain rfl := Option.some.inj H
        go_wp2
        go_ret
        exact ⟨by first | rfl | (simp; done) | (simp [*]; done), by repeat (first | exact Drawn0.refl _ | apply Drawn0.step)⟩

end Go.Proofs.YtlcbdgkkkljfnaaDoor.P
end

section
namespace Go.Proofs.YtlcbdgkkkljfnaaDoor.P
open Go.RowKit Go.Proofs.YtlcbdgkkkljfnaaDoorW.PrintWords Go.Proofs.YtlcbdgkkkljfnaaDoorW.PrintLast Go.Proofs.YtlcbdgkkkljfnaaDoorW.PrintMore
attribute [local go_sem low] cell_set_at
attribute [local go_sem] max2_int min2_int max_two min_two max_three min_three max_four min_four   -- for this text's walks alone
set_option linter.unusedVariables false
set_option linter.unusedSimpArgs false

/-! ### helmsmanref11_Lex: function 10 -/
mutual
def helmsmanref11_Lex.l0 : Nat → ByteArray → List (S31) → Int → Option ((List (S31)) × Int × Int)
  | 0, _, _, _ => none
  | k + 1, x0, x5, x6 => if x6 < (x0.size : Int) then (if 0 ≤ x6 then (if (bt x0 x6) = 32 then (helmsmanref11_Lex.j1 k x0 x5 x6 (bt x0 x6) (wrap64 (x6 + 1)) true) else (if (bt x0 x6) = 9 then (helmsmanref11_Lex.j1 k x0 x5 x6 (bt x0 x6) (wrap64 (x6 + 1)) true) else (helmsmanref11_Lex.j1 k x0 x5 x6 (bt x0 x6) (wrap64 (x6 + 1)) ((bt x0 x6) == 10)))) else (none)) else (some (x5, (x0.size : Int), 0))
def helmsmanref11_Lex.j1 : Nat → ByteArray → List (S31) → Int → Int → Int → Bool → Option ((List (S31)) × Int × Int)
  | 0, _, _, _, _, _, _ => none
  | k + 1, x0, x5, x6, x7, x8, x32 => if x32 = true then (helmsmanref11_Lex.l0 k x0 x5 x8) else (if x7 = 35 then (helmsmanref11_Lex.l1 k x0 x5 x6) else ((helmsmanref11_letter.f x7).bind fun t153 => (if t153 = true then (helmsmanref11_Lex.l2 k x0 x5 x6 x8) else ((helmsmanref11_digit.f x7).bind fun t162 => (if t162 = true then (helmsmanref11_Lex.l3 k x0 x5 x6 x8) else (if (wrap64 (x6 + 2)) ≤ (x0.size : Int) then (if 0 ≤ x6 then (if x6 ≤ (wrap64 (x6 + 2)) then ((helmsmanref11_two.f (x0.extract (x6 : Int).toNat ((wrap64 (x6 + 2)) : Int).toNat)).bind fun t174 => (helmsmanref11_Lex.j5 k x0 x5 x6 x7 x8 t174)) else (none)) else (none)) else (helmsmanref11_Lex.j5 k x0 x5 x6 x7 x8 false)))))))
def helmsmanref11_Lex.l1 : Nat → ByteArray → List (S31) → Int → Option ((List (S31)) × Int × Int)
  | 0, _, _, _ => none
  | k + 1, x0, x5, x6 => if x6 < (x0.size : Int) then (if 0 ≤ x6 then (if (bt x0 x6) = 10 then (helmsmanref11_Lex.l0 k x0 x5 x6) else (helmsmanref11_Lex.l1 k x0 x5 (wrap64 (x6 + 1)))) else (none)) else (helmsmanref11_Lex.l0 k x0 x5 x6)
def helmsmanref11_Lex.l2 : Nat → ByteArray → List (S31) → Int → Int → Option ((List (S31)) × Int × Int)
  | 0, _, _, _, _ => none
  | k + 1, x0, x5, x6, x8 => if x8 < (x0.size : Int) then (if 0 ≤ x8 then ((helmsmanref11_letter.f (bt x0 x8)).bind fun t154 => (if t154 = true then (helmsmanref11_Lex.l2 k x0 x5 x6 (wrap64 (x8 + 1))) else ((helmsmanref11_digit.f (bt x0 x8)).bind fun t155 => (if t155 = true then (helmsmanref11_Lex.l2 k x0 x5 x6 (wrap64 (x8 + 1))) else (if (bt x0 x8) = 95 then (helmsmanref11_Lex.l2 k x0 x5 x6 (wrap64 (x8 + 1))) else (if (wrap64 (x8 - x6)) > 16 then (some (([] : List (S31)), x6, 111)) else (if 0 ≤ x6 then (if x6 ≤ x8 then (if x8 ≤ (x0.size : Int) then (if x5.length < 3518437208883 then (helmsmanref11_Lex.l0 k x0 (x5 ++ [(⟨0, x0.extract (x6 : Int).toNat (x8 : Int).toNat, 0, x6⟩ : S31)]) x8) else (none)) else (none)) else (none)) else (none)))))))) else (none)) else (if (wrap64 (x8 - x6)) > 16 then (some (([] : List (S31)), x6, 111)) else (if 0 ≤ x6 then (if x6 ≤ x8 then (if x8 ≤ (x0.size : Int) then (if x5.length < 3518437208883 then (helmsmanref11_Lex.l0 k x0 (x5 ++ [(⟨0, x0.extract (x6 : Int).toNat (x8 : Int).toNat, 0, x6⟩ : S31)]) x8) else (none)) else (none)) else (none)) else (none)))
def helmsmanref11_Lex.l3 : Nat → ByteArray → List (S31) → Int → Int → Option ((List (S31)) × Int × Int)
  | 0, _, _, _, _ => none
  | k + 1, x0, x5, x6, x8 => if x8 < (x0.size : Int) then (if 0 ≤ x8 then ((helmsmanref11_digit.f (bt x0 x8)).bind fun t163 => (if t163 = true then (helmsmanref11_Lex.l3 k x0 x5 x6 (wrap64 (x8 + 1))) else (if 0 ≤ x6 then (if x6 ≤ x8 then (if x8 ≤ (x0.size : Int) then ((helmsmanref11_Number.f k (x0.extract (x6 : Int).toNat (x8 : Int).toNat)).bind fun bt164 => (if bt164.2 = true then (if x5.length < 3518437208883 then (helmsmanref11_Lex.l0 k x0 (x5 ++ [(⟨1, x0.extract (x6 : Int).toNat (x8 : Int).toNat, bt164.1, x6⟩ : S31)]) x8) else (none)) else (some (([] : List (S31)), x6, 111)))) else (none)) else (none)) else (none)))) else (none)) else (if 0 ≤ x6 then (if x6 ≤ x8 then (if x8 ≤ (x0.size : Int) then ((helmsmanref11_Number.f k (x0.extract (x6 : Int).toNat (x8 : Int).toNat)).bind fun bt169 => (if bt169.2 = true then (if x5.length < 3518437208883 then (helmsmanref11_Lex.l0 k x0 (x5 ++ [(⟨1, x0.extract (x6 : Int).toNat (x8 : Int).toNat, bt169.1, x6⟩ : S31)]) x8) else (none)) else (some (([] : List (S31)), x6, 111)))) else (none)) else (none)) else (none))
def helmsmanref11_Lex.j5 : Nat → ByteArray → List (S31) → Int → Int → Int → Bool → Option ((List (S31)) × Int × Int)
  | 0, _, _, _, _, _, _ => none
  | k + 1, x0, x5, x6, x7, x8, x137 => if x137 = true then (if 0 ≤ x6 then (if x6 ≤ (wrap64 (x6 + 2)) then (if (wrap64 (x6 + 2)) ≤ (x0.size : Int) then (if x5.length < 3518437208883 then (helmsmanref11_Lex.l0 k x0 (x5 ++ [(⟨2, x0.extract (x6 : Int).toNat ((wrap64 (x6 + 2)) : Int).toNat, 0, x6⟩ : S31)]) (wrap64 (x6 + 2))) else (none)) else (none)) else (none)) else (none)) else ((helmsmanref11_one.f k x7).bind fun t178 => (if t178 = true then (if 0 ≤ x6 then (if x6 ≤ x8 then (if x8 ≤ (x0.size : Int) then (if x5.length < 3518437208883 then (helmsmanref11_Lex.l0 k x0 (x5 ++ [(⟨2, x0.extract (x6 : Int).toNat (x8 : Int).toNat, 0, x6⟩ : S31)]) x8) else (none)) else (none)) else (none)) else (none)) else (some (([] : List (S31)), x6, 110))))
end
def helmsmanref11_Lex.f (k : Nat) (a0 : ByteArray) : Option ((List (S31)) × Int × Int) := if (a0.size : Int) > 4096 then (some (([] : List (S31)), 0, 111)) else (helmsmanref11_Lex.l0 k a0 ([] : List (S31)) 0)
theorem helmsmanref11_Lex.mono_l : ∀ k, (∀ y0 y1 y2, LeO (helmsmanref11_Lex.l0 k y0 y1 y2) (helmsmanref11_Lex.l0 (k + 1) y0 y1 y2)) ∧ (∀ y0 y1 y2 y3 y4 y5, LeO (helmsmanref11_Lex.j1 k y0 y1 y2 y3 y4 y5) (helmsmanref11_Lex.j1 (k + 1) y0 y1 y2 y3 y4 y5)) ∧ (∀ y0 y1 y2, LeO (helmsmanref11_Lex.l1 k y0 y1 y2) (helmsmanref11_Lex.l1 (k + 1) y0 y1 y2)) ∧ (∀ y0 y1 y2 y3, LeO (helmsmanref11_Lex.l2 k y0 y1 y2 y3) (helmsmanref11_Lex.l2 (k + 1) y0 y1 y2 y3)) ∧ (∀ y0 y1 y2 y3, LeO (helmsmanref11_Lex.l3 k y0 y1 y2 y3) (helmsmanref11_Lex.l3 (k + 1) y0 y1 y2 y3)) ∧ (∀ y0 y1 y2 y3 y4 y5, LeO (helmsmanref11_Lex.j5 k y0 y1 y2 y3 y4 y5) (helmsmanref11_Lex.j5 (k + 1) y0 y1 y2 y3 y4 y5))
  | 0 => ⟨fun _ _ _ r h => by simp [helmsmanref11_Lex.l0] at h, fun _ _ _ _ _ _ r h => by simp [helmsmanref11_Lex.j1] at h, fun _ _ _ r h => by simp [helmsmanref11_Lex.l1] at h, fun _ _ _ _ r h => by simp [helmsmanref11_Lex.l2] at h, fun _ _ _ _ r h => by simp [helmsmanref11_Lex.l3] at h, fun _ _ _ _ _ _ r h => by simp [helmsmanref11_Lex.j5] at h⟩
  | k + 1 => by
    obtain ⟨ih0, ih1, ih2, ih3, ih4, ih5⟩ := helmsmanref11_Lex.mono_l k
    refine ⟨?_, ?_, ?_, ?_, ?_, ?_⟩
    · intro y0 y1 y2
      unfold helmsmanref11_Lex.l0
      repeat' first
      | (with_reducible exact ih0 _ _ _)
      | (with_reducible exact ih1 _ _ _ _ _ _)
      | (with_reducible exact ih2 _ _ _)
      | (with_reducible exact ih3 _ _ _ _)
      | (with_reducible exact ih4 _ _ _ _)
      | (with_reducible exact ih5 _ _ _ _ _ _)
      | (with_reducible exact helmsmanref11_Number.mono _ _)
      | (with_reducible exact helmsmanref11_one.mono _ _)
      | (with_reducible exact LeO.refl _)
      | (with_reducible exact LeO.none _)
      | (with_reducible refine LeO.ite ?_ ?_)
      | (with_reducible refine LeO.bind ?_ (fun _ => ?_))
      | exact ih0 _ _ _
      | exact ih1 _ _ _ _ _ _
      | exact ih2 _ _ _
      | exact ih3 _ _ _ _
      | exact ih4 _ _ _ _
      | exact ih5 _ _ _ _ _ _
      | exact helmsmanref11_Number.mono _ _
      | exact helmsmanref11_one.mono _ _
      | exact LeO.none _
      | refine LeO.ite ?_ ?_
      | refine LeO.bind ?_ (fun _ => ?_)
    · intro y0 y1 y2 y3 y4 y5
      unfold helmsmanref11_Lex.j1
      repeat' first
      | (with_reducible exact ih0 _ _ _)
      | (with_reducible exact ih1 _ _ _ _ _ _)
      | (with_reducible exact ih2 _ _ _)
      | (with_reducible exact ih3 _ _ _ _)
      | (with_reducible exact ih4 _ _ _ _)
      | (with_reducible exact ih5 _ _ _ _ _ _)
      | (with_reducible exact helmsmanref11_Number.mono _ _)
      | (with_reducible exact helmsmanref11_one.mono _ _)
      | (with_reducible exact LeO.refl _)
      | (with_reducible exact LeO.none _)
      | (with_reducible refine LeO.ite ?_ ?_)
      | (with_reducible refine LeO.bind ?_ (fun _ => ?_))
      | exact ih0 _ _ _
      | exact ih1 _ _ _ _ _ _
      | exact ih2 _ _ _
      | exact ih3 _ _ _ _
      | exact ih4 _ _ _ _
      | exact ih5 _ _ _ _ _ _
      | exact helmsmanref11_Number.mono _ _
      | exact helmsmanref11_one.mono _ _
      | exact LeO.none _
      | refine LeO.ite ?_ ?_
      | refine LeO.bind ?_ (fun _ => ?_)
    · intro y0 y1 y2
      unfold helmsmanref11_Lex.l1
      repeat' first
      | (with_reducible exact ih0 _ _ _)
      | (with_reducible exact ih1 _ _ _ _ _ _)
      | (with_reducible exact ih2 _ _ _)
      | (with_reducible exact ih3 _ _ _ _)
      | (with_reducible exact ih4 _ _ _ _)
      | (with_reducible exact ih5 _ _ _ _ _ _)
      | (with_reducible exact helmsmanref11_Number.mono _ _)
      | (with_reducible exact helmsmanref11_one.mono _ _)
      | (with_reducible exact LeO.refl _)
      | (with_reducible exact LeO.none _)
      | (with_reducible refine LeO.ite ?_ ?_)
      | (with_reducible refine LeO.bind ?_ (fun _ => ?_))
      | exact ih0 _ _ _
      | exact ih1 _ _ _ _ _ _
      | exact ih2 _ _ _
      | exact ih3 _ _ _ _
      | exact ih4 _ _ _ _
      | exact ih5 _ _ _ _ _ _
      | exact helmsmanref11_Number.mono _ _
      | exact helmsmanref11_one.mono _ _
      | exact LeO.none _
      | refine LeO.ite ?_ ?_
      | refine LeO.bind ?_ (fun _ => ?_)
    · intro y0 y1 y2 y3
      unfold helmsmanref11_Lex.l2
      repeat' first
      | (with_reducible exact ih0 _ _ _)
      | (with_reducible exact ih1 _ _ _ _ _ _)
      | (with_reducible exact ih2 _ _ _)
      | (with_reducible exact ih3 _ _ _ _)
      | (with_reducible exact ih4 _ _ _ _)
      | (with_reducible exact ih5 _ _ _ _ _ _)
      | (with_reducible exact helmsmanref11_Number.mono _ _)
      | (with_reducible exact helmsmanref11_one.mono _ _)
      | (with_reducible exact LeO.refl _)
      | (with_reducible exact LeO.none _)
      | (with_reducible refine LeO.ite ?_ ?_)
      | (with_reducible refine LeO.bind ?_ (fun _ => ?_))
      | exact ih0 _ _ _
      | exact ih1 _ _ _ _ _ _
      | exact ih2 _ _ _
      | exact ih3 _ _ _ _
      | exact ih4 _ _ _ _
      | exact ih5 _ _ _ _ _ _
      | exact helmsmanref11_Number.mono _ _
      | exact helmsmanref11_one.mono _ _
      | exact LeO.none _
      | refine LeO.ite ?_ ?_
      | refine LeO.bind ?_ (fun _ => ?_)
    · intro y0 y1 y2 y3
      unfold helmsmanref11_Lex.l3
      repeat' first
      | (with_reducible exact ih0 _ _ _)
      | (with_reducible exact ih1 _ _ _ _ _ _)
      | (with_reducible exact ih2 _ _ _)
      | (with_reducible exact ih3 _ _ _ _)
      | (with_reducible exact ih4 _ _ _ _)
      | (with_reducible exact ih5 _ _ _ _ _ _)
      | (with_reducible exact helmsmanref11_Number.mono _ _)
      | (with_reducible exact helmsmanref11_one.mono _ _)
      | (with_reducible exact LeO.refl _)
      | (with_reducible exact LeO.none _)
      | (with_reducible refine LeO.ite ?_ ?_)
      | (with_reducible refine LeO.bind ?_ (fun _ => ?_))
      | exact ih0 _ _ _
      | exact ih1 _ _ _ _ _ _
      | exact ih2 _ _ _
      | exact ih3 _ _ _ _
      | exact ih4 _ _ _ _
      | exact ih5 _ _ _ _ _ _
      | exact helmsmanref11_Number.mono _ _
      | exact helmsmanref11_one.mono _ _
      | exact LeO.none _
      | refine LeO.ite ?_ ?_
      | refine LeO.bind ?_ (fun _ => ?_)
    · intro y0 y1 y2 y3 y4 y5
      unfold helmsmanref11_Lex.j5
      repeat' first
      | (with_reducible exact ih0 _ _ _)
      | (with_reducible exact ih1 _ _ _ _ _ _)
      | (with_reducible exact ih2 _ _ _)
      | (with_reducible exact ih3 _ _ _ _)
      | (with_reducible exact ih4 _ _ _ _)
      | (with_reducible exact ih5 _ _ _ _ _ _)
      | (with_reducible exact helmsmanref11_Number.mono _ _)
      | (with_reducible exact helmsmanref11_one.mono _ _)
      | (with_reducible exact LeO.refl _)
      | (with_reducible exact LeO.none _)
      | (with_reducible refine LeO.ite ?_ ?_)
      | (with_reducible refine LeO.bind ?_ (fun _ => ?_))
      | exact ih0 _ _ _
      | exact ih1 _ _ _ _ _ _
      | exact ih2 _ _ _
      | exact ih3 _ _ _ _
      | exact ih4 _ _ _ _
      | exact ih5 _ _ _ _ _ _
      | exact helmsmanref11_Number.mono _ _
      | exact helmsmanref11_one.mono _ _
      | exact LeO.none _
      | refine LeO.ite ?_ ?_
      | refine LeO.bind ?_ (fun _ => ?_)
theorem helmsmanref11_Lex.mono : ∀ a0 k, LeO (helmsmanref11_Lex.f k a0) (helmsmanref11_Lex.f (k + 1) a0) := by
  intro a0 k
  obtain ⟨ih0, ih1, ih2, ih3, ih4, ih5⟩ := helmsmanref11_Lex.mono_l k
  unfold helmsmanref11_Lex.f
  repeat' first
      | (with_reducible exact ih0 _ _ _)
      | (with_reducible exact ih1 _ _ _ _ _ _)
      | (with_reducible exact ih2 _ _ _)
      | (with_reducible exact ih3 _ _ _ _)
      | (with_reducible exact ih4 _ _ _ _)
      | (with_reducible exact ih5 _ _ _ _ _ _)
      | (with_reducible exact helmsmanref11_Number.mono _ _)
      | (with_reducible exact helmsmanref11_one.mono _ _)
      | (with_reducible exact LeO.refl _)
      | (with_reducible exact LeO.none _)
      | (with_reducible refine LeO.ite ?_ ?_)
      | (with_reducible refine LeO.bind ?_ (fun _ => ?_))
      | exact ih0 _ _ _
      | exact ih1 _ _ _ _ _ _
      | exact ih2 _ _ _
      | exact ih3 _ _ _ _
      | exact ih4 _ _ _ _
      | exact ih5 _ _ _ _ _ _
      | exact helmsmanref11_Number.mono _ _
      | exact helmsmanref11_one.mono _ _
      | exact LeO.none _
      | refine LeO.ite ?_ ?_
      | refine LeO.bind ?_ (fun _ => ?_)
set_option maxHeartbeats 8000000 in
set_option maxRecDepth 100000 in
theorem helmsmanref11_Lex.calls (k : Nat) (a0 : ByteArray) (r1 : List (S31)) (r2 : Int) (r3 : Int) (w : World) (h : helmsmanref11_Lex.f k a0 = some (r1, r2, r3)) :
    Calls Tryd.prog 10 #[.string a0] w fun e w' => ∃ v0_ : Value, e = .returned (.tuple #[v0_, .int .i64 r2, .int .i64 r3]) ∧ Kd.R k31 31 w' w.heap.size (fun _ => True) v0_ r1 ∧ Below w.heap.size w w' := by
  have hu31 := Tryd.underlying31
  have HB := Aside0.mk (Below.refl w.heap.size w)
  have H : (if (a0.size : Int) > 4096 then (some (([] : List (S31)), 0, 111)) else (helmsmanref11_Lex.l0 k a0 ([] : List (S31)) 0)) = some (r1, r2, r3) := h
  clear h
  by_cases c2 : (a0.size : Int) > 4096
  · rw [if_pos c2] at H
    have c2b0 : decide (4096 < (a0.size : Int)) = true := decide_eq_true c2
    have c2b1 : decide (4096 < a0.size) = true := decide_eq_true (by omega)
    clear c2
    simp only [Option.some.injEq, Prod.mk.injEq] at H
    obtain ⟨rfl, rfl, rfl⟩ := H
    go_enter Tryd.func10, Tryd.ntmps10
    go_wp2
    go_ret3
    exact ⟨_, by first | rfl | (simp [errW_none, errW_some] <;> rfl) | (simp [*, errW_none, errW_some] <;> rfl), by first | exact Kd.R_nil _ _ _ _ _ | exact Kd.N_nil _ _ _ _ _ | exact Kd.V_nil _ _ _ _ _ | exact Kd.Q_nil _ _ _ _ _ | exact Kd.S_nil _ _ _ _ _, by repeat (first | (with_reducible first | exact HB.out | apply below_alloc | apply pw_below_drewN | apply below_drew1) | exact HB.out)⟩
  · rw [if_neg c2] at H
    have c2b0 : decide (4096 < (a0.size : Int)) = false := decide_eq_false c2
    have c2b1 : decide (4096 < a0.size) = false := decide_eq_false (by omega)
    clear c2
    have H' := Aside0.mk H
    clear H
    go_enter Tryd.func10, Tryd.ntmps10
    go_wp2
    (try simp only [Act.put, List.setIfInBounds_toArray, List.set_cons_succ, List.set_cons_zero])
    go_loopg [5, 6] k (fun kq v5 v6 w' => ∃ (x5_1 : List (S31)) (x6_1 : Int), v6 = .int .i64 x6_1 ∧ Aside0 (helmsmanref11_Lex.l0 kq a0 x5_1 x6_1 = some (r1, r2, r3)) ∧ Aside0 (kq ≤ k) ∧ Aside0 (Kd.R k31 31 w' w.heap.size (fun _ => True) v5 x5_1) ∧ Aside0 (Below w.heap.size w w'))
    case atStart => exact ⟨(([] : List (S31))), (0), (by first | rfl | (simp; done) | (simp [*]; done)), H', ⟨Nat.le_refl _⟩, ⟨by first | exact Kd.R_nil _ _ _ _ _ | exact Kd.N_nil _ _ _ _ _ | exact Kd.V_nil _ _ _ _ _ | exact Kd.Q_nil _ _ _ _ _ | exact Kd.S_nil _ _ _ _ _⟩, ⟨by repeat (first | (with_reducible first | exact HB.out | apply below_alloc | apply pw_below_drewN | apply below_drew1) | exact HB.out)⟩⟩
    case round =>
      clear H'
      try clear c1
      try clear c2
      try clear c2b0
      try clear c2b1
      try clear p2
      obtain ⟨x5_1, x6_1, rfl, HA, HK1, HO_5, HB⟩ := hrel
      cases gk with
      | zero => exact absurd HA.out (by simp [helmsmanref11_Lex.l0])
      | succ k1 =>
        have H := HA.out
        clear HA
        simp only [helmsmanref11_Lex.l0] at H
        by_cases c3 : x6_1 < (a0.size : Int)
        · rw [if_pos c3] at H
          have c3b0 : decide (x6_1 < (a0.size : Int)) = true := decide_eq_true c3
          clear c3
          by_cases c4 : 0 ≤ x6_1
          · rw [if_pos c4] at H
            have c4b0 : decide (0 ≤ x6_1) = true := decide_eq_true c4
            clear c4
            have HC6 := Aside0.mk H
            clear H
            have p5 : 0 ≤ (x6_1 : Int) := of_decide_eq_true (by first | (with_reducible assumption) | assumption)
            have q5 : x6_1 < (a0.size : Int) := of_decide_eq_true (by first | (with_reducible assumption) | assumption)
            have hx5 := bt_at a0 x6_1
            replace p5 := eq_true p5
            replace q5 := eq_true q5
            go_upto_region 8 with (fail)
            go_cut [32] (fun v32 wc => ∃ (kq : Nat) (x32_5 : Bool), v32 = .bool x32_5 ∧ Aside0 (helmsmanref11_Lex.j1 kq a0 x5_1 x6_1 (bt a0 x6_1) (wrap64 (x6_1 + 1)) x32_5 = some (r1, r2, r3)) ∧ Aside0 (kq ≤ k1) ∧ Aside0 (Kd.R k31 31 wc w.heap.size (fun _ => True) u5 x5_1) ∧ Aside0 (Below w.heap.size w wc))
            case first =>
              have H := HC6.out
              clear HC6
              by_cases c7 : (bt a0 x6_1) = 32
              · rw [if_pos c7] at H
                have c7b0 : ((bt a0 x6_1) == 32) = true := beq_iff_eq.mpr c7
                have c7b1 : ((bt a0 x6_1) != 32) = false := bne_eq_false_iff_eq.mpr c7
                clear c7
                (first | rw [c7b0] | (simp only [i64_w, i32_w]; rw [c7b0]) | skip)
                have H' := Aside0.mk H
                clear H
                go_wp2
                go_meet
                case rel => exact ⟨_, (true), (by first | rfl | (simp; done) | (simp [*]; done)), H', ⟨by have := HK1.out; first | omega | exact Nat.le_refl _⟩, ⟨by (with_reducible repeat (first | apply Kd.R_alloc | apply Kd.R_drewN | apply Kd.R_drew)); exact HO_5.out⟩, ⟨by repeat (first | (with_reducible first | exact HB.out | apply below_alloc | apply pw_below_drewN | apply below_drew1) | exact HB.out)⟩⟩
              · rw [if_neg c7] at H
                have c7b0 : ((bt a0 x6_1) == 32) = false := beq_eq_false_iff_ne.mpr c7
                have c7b1 : ((bt a0 x6_1) != 32) = true := bne_iff_ne.mpr c7
                (first | rw [c7b0] | (simp only [i64_w, i32_w]; rw [c7b0]) | skip)
                by_cases c8 : (bt a0 x6_1) = 9
                · rw [if_pos c8] at H
                  have c8b0 : ((bt a0 x6_1) == 9) = true := beq_iff_eq.mpr c8
                  have c8b1 : ((bt a0 x6_1) != 9) = false := bne_eq_false_iff_eq.mpr c8
                  clear c8
                  have H' := Aside0.mk H
                  clear H
                  go_wp2
                  go_meet
                  case rel => exact ⟨_, (true), (by first | rfl | (simp; done) | (simp [*]; done)), H', ⟨by have := HK1.out; first | omega | exact Nat.le_refl _⟩, ⟨by (with_reducible repeat (first | apply Kd.R_alloc | apply Kd.R_drewN | apply Kd.R_drew)); exact HO_5.out⟩, ⟨by repeat (first | (with_reducible first | exact HB.out | apply below_alloc | apply pw_below_drewN | apply below_drew1) | exact HB.out)⟩⟩
                · rw [if_neg c8] at H
                  have c8b0 : ((bt a0 x6_1) == 9) = false := beq_eq_false_iff_ne.mpr c8
                  have c8b1 : ((bt a0 x6_1) != 9) = true := bne_iff_ne.mpr c8
                  have H' := Aside0.mk H
                  clear H
                  go_wp2
                  go_meet
                  case rel => exact ⟨_, (((bt a0 x6_1) == 10)), (by first | rfl | (simp; done) | (simp [*]; done)), H', ⟨by have := HK1.out; first | omega | exact Nat.le_refl _⟩, ⟨by (with_reducible repeat (first | apply Kd.R_alloc | apply Kd.R_drewN | apply Kd.R_drew)); exact HO_5.out⟩, ⟨by repeat (first | (with_reducible first | exact HB.out | apply below_alloc | apply pw_below_drewN | apply below_drew1) | exact HB.out)⟩⟩
            case rest =>
              clear HC6
              try clear c1
              try clear c2
              try clear c2b0
              try clear c2b1
              try clear p2
              try clear c3
              try clear c3b0
              try clear c4
              try clear c4b0
              try clear p5
              try clear q5
              try clear hx5
              try clear p6
              try clear c7
              try clear c7b0
              try clear c7b1
              try clear c8
              try clear c8b0
              try clear c8b1
              try clear p2
              try clear p5
              try clear q5
              obtain ⟨kq, x32_5, rfl, HA, HJ5, HO_5, HB⟩ := hcut
              cases kq with
              | zero => exact absurd HA.out (by simp [helmsmanref11_Lex.j1])
              | succ kj5 =>
                have H := HA.out
                clear HA
                simp only [helmsmanref11_Lex.j1] at H
                by_cases c9 : x32_5 = true
                · subst c9
                  have H1 : (helmsmanref11_Lex.l0 kj5 a0 x5_1 (wrap64 (x6_1 + 1))) = some (r1, r2, r3) := by rw [if_pos rfl] at H; exact H
                  clear H
                  have H := H1
                  clear H1
                  have H' := Aside0.mk H
                  clear H
                  go_wp2
                  go_roundg kj5
                  case measure => have := HK1.out; have := HJ5.out; omega
                  case rel => exact ⟨(x5_1), ((wrap64 (x6_1 + 1))), (by first | rfl | (simp; done) | (simp [*]; done)), H', ⟨by have := HK1.out; have := HJ5.out; omega⟩, ⟨by (with_reducible repeat (first | apply Kd.R_alloc | apply Kd.R_drewN | apply Kd.R_drew)); exact HO_5.out⟩, ⟨by repeat (first | (with_reducible first | exact HB.out | apply below_alloc | apply pw_below_drewN | apply below_drew1) | exact HB.out)⟩⟩
                · replace c9 := Bool.eq_false_iff.mpr c9
                  subst c9
                  have H1 : (if (bt a0 x6_1) = 35 then (helmsmanref11_Lex.l1 kj5 a0 x5_1 x6_1) else ((helmsmanref11_letter.f (bt a0 x6_1)).bind fun t153 => (if t153 = true then (helmsmanref11_Lex.l2 kj5 a0 x5_1 x6_1 (wrap64 (x6_1 + 1))) else ((helmsmanref11_digit.f (bt a0 x6_1)).bind fun t162 => (if t162 = true then (helmsmanref11_Lex.l3 kj5 a0 x5_1 x6_1 (wrap64 (x6_1 + 1))) else (if (wrap64 (x6_1 + 2)) ≤ (a0.size : Int) then (if 0 ≤ x6_1 then (if x6_1 ≤ (wrap64 (x6_1 + 2)) then ((helmsmanref11_two.f (a0.extract (x6_1 : Int).toNat ((wrap64 (x6_1 + 2)) : Int).toNat)).bind fun t174 => (helmsmanref11_Lex.j5 kj5 a0 x5_1 x6_1 (bt a0 x6_1) (wrap64 (x6_1 + 1)) t174)) else (none)) else (none)) else (helmsmanref11_Lex.j5 kj5 a0 x5_1 x6_1 (bt a0 x6_1) (wrap64 (x6_1 + 1)) false))))))) = some (r1, r2, r3) := by rw [if_neg (show ¬ (false = true) by decide)] at H; exact H
                  clear H
                  have H := H1
                  clear H1
                  by_cases c10 : (bt a0 x6_1) = 35
                  · rw [if_pos c10] at H
                    have c10b0 : ((bt a0 x6_1) == 35) = true := beq_iff_eq.mpr c10
                    have c10b1 : ((bt a0 x6_1) != 35) = false := bne_eq_false_iff_eq.mpr c10
                    clear c10
                    have H' := Aside0.mk H
                    clear H
                    go_wp2
                    (try simp only [Act.put, List.setIfInBounds_toArray, List.set_cons_succ, List.set_cons_zero])
                    go_loopg [6] kj5 (fun kq v6 w' => ∃ (x6_3 : Int), v6 = .int .i64 x6_3 ∧ Aside0 (helmsmanref11_Lex.l1 kq a0 x5_1 x6_3 = some (r1, r2, r3)) ∧ Aside0 (kq ≤ kj5) ∧ Aside0 (Kd.R k31 31 w' w.heap.size (fun _ => True) u5 x5_1) ∧ Aside0 (Below w.heap.size w w'))
                    case atStart => exact ⟨(x6_1), (by first | rfl | (simp; done) | (simp [*]; done)), H', ⟨Nat.le_refl _⟩, ⟨by (with_reducible repeat (first | apply Kd.R_alloc | apply Kd.R_drewN | apply Kd.R_drew)); exact HO_5.out⟩, ⟨by repeat (first | (with_reducible first | exact HB.out | apply below_alloc | apply pw_below_drewN | apply below_drew1) | exact HB.out)⟩⟩
                    case round =>
                      clear H'
                      try clear c1
                      try clear c2
                      try clear c2b0
                      try clear c2b1
                      try clear p2
                      try clear c3
                      try clear c3b0
                      try clear c4
                      try clear c4b0
                      try clear p5
                      try clear q5
                      try clear hx5
                      try clear p6
                      try clear c7
                      try clear c7b0
                      try clear c7b1
                      try clear c8
                      try clear c8b0
                      try clear c8b1
                      try clear c9
                      try clear c10
                      try clear c10b0
                      try clear c10b1
                      try clear p2
                      try clear p5
                      try clear p6
                      try clear q5
                      obtain ⟨x6_3, rfl, HA, HK3, HO_5, HB⟩ := hrel
                      cases gk with
                      | zero => exact absurd HA.out (by simp [helmsmanref11_Lex.l1])
                      | succ k3 =>
                        have H := HA.out
                        clear HA
                        simp only [helmsmanref11_Lex.l1] at H
                        by_cases c11 : x6_3 < (a0.size : Int)
                        · rw [if_pos c11] at H
                          have c11b0 : decide (x6_3 < (a0.size : Int)) = true := decide_eq_true c11
                          clear c11
                          by_cases c12 : 0 ≤ x6_3
                          · rw [if_pos c12] at H
                            have c12b0 : decide (0 ≤ x6_3) = true := decide_eq_true c12
                            clear c12
                            by_cases c14 : (bt a0 x6_3) = 10
                            · rw [if_pos c14] at H
                              have c14b0 : ((bt a0 x6_3) == 10) = true := beq_iff_eq.mpr c14
                              have c14b1 : ((bt a0 x6_3) != 10) = false := bne_eq_false_iff_eq.mpr c14
                              clear c14
                              have H' := Aside0.mk H
                              clear H
                              have p13 : 0 ≤ (x6_3 : Int) := of_decide_eq_true (by first | (with_reducible assumption) | assumption)
                              have q13 : x6_3 < (a0.size : Int) := of_decide_eq_true (by first | (with_reducible assumption) | assumption)
                              have hx13 := bt_at a0 x6_3
                              replace p13 := eq_true p13
                              replace q13 := eq_true q13
                              go_wp2
                              go_roundg k3
                              case measure => have := HK1.out; have := HJ5.out; have := HK3.out; omega
                              case rel => exact ⟨(x5_1), (x6_3), (by first | rfl | (simp; done) | (simp [*]; done)), H', ⟨by have := HK1.out; have := HJ5.out; have := HK3.out; omega⟩, ⟨by (with_reducible repeat (first | apply Kd.R_alloc | apply Kd.R_drewN | apply Kd.R_drew)); exact HO_5.out⟩, ⟨by repeat (first | (with_reducible first | exact HB.out | apply below_alloc | apply pw_below_drewN | apply below_drew1) | exact HB.out)⟩⟩
                            · rw [if_neg c14] at H
                              have c14b0 : ((bt a0 x6_3) == 10) = false := beq_eq_false_iff_ne.mpr c14
                              have c14b1 : ((bt a0 x6_3) != 10) = true := bne_iff_ne.mpr c14
                              have H' := Aside0.mk H
                              clear H
                              have p13 : 0 ≤ (x6_3 : Int) := of_decide_eq_true (by first | (with_reducible assumption) | assumption)
                              have q13 : x6_3 < (a0.size : Int) := of_decide_eq_true (by first | (with_reducible assumption) | assumption)
                              have hx13 := bt_at a0 x6_3
                              replace p13 := eq_true p13
                              replace q13 := eq_true q13
                              go_wp2
                              go_roundg k3
                              case measure => have := HK1.out; have := HJ5.out; have := HK3.out; omega
                              case rel => exact ⟨(wrap64 (x6_3 + 1)), (by first | rfl | (simp; done) | (simp [*]; done)), H', ⟨by have := HK1.out; have := HJ5.out; have := HK3.out; omega⟩, ⟨by (with_reducible repeat (first | apply Kd.R_alloc | apply Kd.R_drewN | apply Kd.R_drew)); exact HO_5.out⟩, ⟨by repeat (first | (with_reducible first | exact HB.out | apply below_alloc | apply pw_below_drewN | apply below_drew1) | exact HB.out)⟩⟩
                          · rw [if_neg c12] at H
                            exact absurd H (by simp)
                        · rw [if_neg c11] at H
                          have c11b0 : decide (x6_3 < (a0.size : Int)) = false := decide_eq_false c11
                          clear c11
                          have H' := Aside0.mk H
                          clear H
                          go_wp2
                          go_roundg k3
                          case measure => have := HK1.out; have := HJ5.out; have := HK3.out; omega
                          case rel => exact ⟨(x5_1), (x6_3), (by first | rfl | (simp; done) | (simp [*]; done)), H', ⟨by have := HK1.out; have := HJ5.out; have := HK3.out; omega⟩, ⟨by (with_reducible repeat (first | apply Kd.R_alloc | apply Kd.R_drewN | apply Kd.R_drew)); exact HO_5.out⟩, ⟨by repeat (first | (with_reducible first | exact HB.out | apply below_alloc | apply pw_below_drewN | apply below_drew1) | exact HB.out)⟩⟩
                  · rw [if_neg c10] at H
                    have c10b0 : ((bt a0 x6_1) == 35) = false := beq_eq_false_iff_ne.mpr c10
                    have c10b1 : ((bt a0 x6_1) != 35) = true := bne_iff_ne.mpr c10
                    replace H := Option.bind_eq_some_iff.mp H
                    obtain ⟨t153, A150, H⟩ := H
                    replace H : (if t153 = true then (helmsmanref11_Lex.l2 kj5 a0 x5_1 x6_1 (wrap64 (x6_1 + 1))) else ((helmsmanref11_digit.f (bt a0 x6_1)).bind fun t162 => (if t162 = true then (helmsmanref11_Lex.l3 kj5 a0 x5_1 x6_1 (wrap64 (x6_1 + 1))) else (if (wrap64 (x6_1 + 2)) ≤ (a0.size : Int) then (if 0 ≤ x6_1 then (if x6_1 ≤ (wrap64 (x6_1 + 2)) then ((helmsmanref11_two.f (a0.extract (x6_1 : Int).toNat ((wrap64 (x6_1 + 2)) : Int).toNat)).bind fun t174 => (helmsmanref11_Lex.j5 kj5 a0 x5_1 x6_1 (bt a0 x6_1) (wrap64 (x6_1 + 1)) t174)) else (none)) else (none)) else (helmsmanref11_Lex.j5 kj5 a0 x5_1 x6_1 (bt a0 x6_1) (wrap64 (x6_1 + 1)) false))))) = some (r1, r2, r3) := H
                    have A15 := Aside0.mk A150
                    clear A150
                    by_cases c16 : t153 = true
                    · subst c16
                      have H1 : (helmsmanref11_Lex.l2 kj5 a0 x5_1 x6_1 (wrap64 (x6_1 + 1))) = some (r1, r2, r3) := by rw [if_pos rfl] at H; exact H
                      clear H
                      have H := H1
                      clear H1
                      have H' := Aside0.mk H
                      clear H
                      go_wp2_with (first | ((with_reducible refine gate_callee (f := 17) rfl ?_); refine goesL_ (some 49) rfl rfl Tryd.func17 (by kernel_rfl) rfl #[.int .u8 (bt a0 x6_1)] rfl (by (try simp only [List.map_toArray, List.map_cons, List.map_nil]); first | done | rfl | (simp only [List.length_drop, List.length_take]; rfl)) ?_; (with_reducible refine (helmsmanref11_letter.calls (bt a0 x6_1) true _ A15.out).mono ?_); rintro e w' ⟨rfl, ⟨nd, rfl⟩⟩; refine ⟨_, rfl, ?_⟩))
                      (try simp only [Act.put, List.setIfInBounds_toArray, List.set_cons_succ, List.set_cons_zero])
                      go_loopg [8] kj5 (fun kq v8 w' => ∃ (x8_3 : Int), v8 = .int .i64 x8_3 ∧ Aside0 (helmsmanref11_Lex.l2 kq a0 x5_1 x6_1 x8_3 = some (r1, r2, r3)) ∧ Aside0 (kq ≤ kj5) ∧ Aside0 (Kd.R k31 31 w' w.heap.size (fun _ => True) u5 x5_1) ∧ Aside0 (Below w.heap.size w w'))
                      case atStart => exact ⟨((wrap64 (x6_1 + 1))), (by first | rfl | (simp; done) | (simp [*]; done)), H', ⟨Nat.le_refl _⟩, ⟨by (with_reducible repeat (first | apply Kd.R_alloc | apply Kd.R_drewN | apply Kd.R_drew)); exact HO_5.out⟩, ⟨by repeat (first | (with_reducible first | exact HB.out | apply below_alloc | apply pw_below_drewN | apply below_drew1) | exact HB.out)⟩⟩
                      case round =>
                        clear H'
                        try clear c1
                        try clear p1
                        try clear q1
                        try clear hx1
                        try clear c2
                        try clear c2b0
                        try clear c2b1
                        try clear p2
                        try clear c3
                        try clear c3b0
                        try clear c4
                        try clear c4b0
                        try clear p5
                        try clear q5
                        try clear hx5
                        try clear p6
                        try clear c7
                        try clear c7b0
                        try clear c7b1
                        try clear c8
                        try clear c8b0
                        try clear c8b1
                        try clear c9
                        try clear c10
                        try clear c10b0
                        try clear c10b1
                        try clear c11
                        try clear c11b0
                        try clear c12
                        try clear c12b0
                        try clear p13
                        try clear q13
                        try clear hx13
                        try clear c14
                        try clear c14b0
                        try clear c14b1
                        try clear c16
                        try clear p13
                        try clear p2
                        try clear p5
                        try clear p6
                        try clear q13
                        try clear q5
                        obtain ⟨x8_3, rfl, HA, HK3, HO_5, HB⟩ := hrel
                        cases gk with
                        | zero => exact absurd HA.out (by simp [helmsmanref11_Lex.l2])
                        | succ k3 =>
                          have H := HA.out
                          clear HA
                          simp only [helmsmanref11_Lex.l2] at H
                          by_cases c17 : x8_3 < (a0.size : Int)
                          · rw [if_pos c17] at H
                            have c17b0 : decide (x8_3 < (a0.size : Int)) = true := decide_eq_true c17
                            clear c17
                            by_cases c18 : 0 ≤ x8_3
                            · rw [if_pos c18] at H
                              have c18b0 : decide (0 ≤ x8_3) = true := decide_eq_true c18
                              clear c18
                              replace H := Option.bind_eq_some_iff.mp H
                              obtain ⟨t154, A200, H⟩ := H
                              replace H : (if t154 = true then (helmsmanref11_Lex.l2 k3 a0 x5_1 x6_1 (wrap64 (x8_3 + 1))) else ((helmsmanref11_digit.f (bt a0 x8_3)).bind fun t155 => (if t155 = true then (helmsmanref11_Lex.l2 k3 a0 x5_1 x6_1 (wrap64 (x8_3 + 1))) else (if (bt a0 x8_3) = 95 then (helmsmanref11_Lex.l2 k3 a0 x5_1 x6_1 (wrap64 (x8_3 + 1))) else (if (wrap64 (x8_3 - x6_1)) > 16 then (some (([] : List (S31)), x6_1, 111)) else (if 0 ≤ x6_1 then (if x6_1 ≤ x8_3 then (if x8_3 ≤ (a0.size : Int) then (if x5_1.length < 3518437208883 then (helmsmanref11_Lex.l0 k3 a0 (x5_1 ++ [(⟨0, a0.extract (x6_1 : Int).toNat (x8_3 : Int).toNat, 0, x6_1⟩ : S31)]) x8_3) else (none)) else (none)) else (none)) else (none))))))) = some (r1, r2, r3) := H
                              have A20 := Aside0.mk A200
                              clear A200
                              by_cases c21 : t154 = true
                              · subst c21
                                have H1 : (helmsmanref11_Lex.l2 k3 a0 x5_1 x6_1 (wrap64 (x8_3 + 1))) = some (r1, r2, r3) := by rw [if_pos rfl] at H; exact H
                                clear H
                                have H := H1
                                clear H1
                                have H' := Aside0.mk H
                                clear H
                                have p19 : 0 ≤ (x8_3 : Int) := of_decide_eq_true (by first | (with_reducible assumption) | assumption)
                                have q19 : x8_3 < (a0.size : Int) := of_decide_eq_true (by first | (with_reducible assumption) | assumption)
                                have hx19 := bt_at a0 x8_3
                                replace p19 := eq_true p19
                                replace q19 := eq_true q19
                                go_wp2_with (first | (go_at_call 17; (with_reducible refine (helmsmanref11_letter.calls (bt a0 x8_3) true _ A20.out).mono ?_); rintro e w' ⟨rfl, ⟨nd, rfl⟩⟩))
                                go_roundg k3
                                case measure => have := HK1.out; have := HJ5.out; have := HK3.out; omega
                                case rel => exact ⟨(wrap64 (x8_3 + 1)), (by first | rfl | (simp; done) | (simp [*]; done)), H', ⟨by have := HK1.out; have := HJ5.out; have := HK3.out; omega⟩, ⟨by (with_reducible repeat (first | apply Kd.R_alloc | apply Kd.R_drewN | apply Kd.R_drew)); exact HO_5.out⟩, ⟨by repeat (first | (with_reducible first | exact HB.out | apply below_alloc | apply pw_below_drewN | apply below_drew1) | exact HB.out)⟩⟩
                              · replace c21 := Bool.eq_false_iff.mpr c21
                                subst c21
                                have H1 : ((helmsmanref11_digit.f (bt a0 x8_3)).bind fun t155 => (if t155 = true then (helmsmanref11_Lex.l2 k3 a0 x5_1 x6_1 (wrap64 (x8_3 + 1))) else (if (bt a0 x8_3) = 95 then (helmsmanref11_Lex.l2 k3 a0 x5_1 x6_1 (wrap64 (x8_3 + 1))) else (if (wrap64 (x8_3 - x6_1)) > 16 then (some (([] : List (S31)), x6_1, 111)) else (if 0 ≤ x6_1 then (if x6_1 ≤ x8_3 then (if x8_3 ≤ (a0.size : Int) then (if x5_1.length < 3518437208883 then (helmsmanref11_Lex.l0 k3 a0 (x5_1 ++ [(⟨0, a0.extract (x6_1 : Int).toNat (x8_3 : Int).toNat, 0, x6_1⟩ : S31)]) x8_3) else (none)) else (none)) else (none)) else (none)))))) = some (r1, r2, r3) := by rw [if_neg (show ¬ (false = true) by decide)] at H; exact H
                                clear H
                                have H := H1
                                clear H1
                                replace H := Option.bind_eq_some_iff.mp H
                                obtain ⟨t155, A230, H⟩ := H
                                replace H : (if t155 = true then (helmsmanref11_Lex.l2 k3 a0 x5_1 x6_1 (wrap64 (x8_3 + 1))) else (if (bt a0 x8_3) = 95 then (helmsmanref11_Lex.l2 k3 a0 x5_1 x6_1 (wrap64 (x8_3 + 1))) else (if (wrap64 (x8_3 - x6_1)) > 16 then (some (([] : List (S31)), x6_1, 111)) else (if 0 ≤ x6_1 then (if x6_1 ≤ x8_3 then (if x8_3 ≤ (a0.size : Int) then (if x5_1.length < 3518437208883 then (helmsmanref11_Lex.l0 k3 a0 (x5_1 ++ [(⟨0, a0.extract (x6_1 : Int).toNat (x8_3 : Int).toNat, 0, x6_1⟩ : S31)]) x8_3) else (none)) else (none)) else (none)) else (none))))) = some (r1, r2, r3) := H
                                have A23 := Aside0.mk A230
                                clear A230
                                by_cases c24 : t155 = true
                                · subst c24
                                  have H1 : (helmsmanref11_Lex.l2 k3 a0 x5_1 x6_1 (wrap64 (x8_3 + 1))) = some (r1, r2, r3) := by rw [if_pos rfl] at H; exact H
                                  clear H
                                  have H := H1
                                  clear H1
                                  have H' := Aside0.mk H
                                  clear H
                                  have p19 : 0 ≤ (x8_3 : Int) := of_decide_eq_true (by first | (with_reducible assumption) | assumption)
                                  have q19 : x8_3 < (a0.size : Int) := of_decide_eq_true (by first | (with_reducible assumption) | assumption)
                                  have hx19 := bt_at a0 x8_3
                                  replace p19 := eq_true p19
                                  replace q19 := eq_true q19
                                  go_wp2_with (first | (go_at_call 17; (with_reducible refine (helmsmanref11_letter.calls (bt a0 x8_3) false _ A20.out).mono ?_); rintro e w' ⟨rfl, ⟨nd, rfl⟩⟩; have p22 : 0 ≤ (x8_3 : Int) := of_decide_eq_true (by first | (with_reducible assumption) | assumption); have q22 : x8_3 < (a0.size : Int) := of_decide_eq_true (by first | (with_reducible assumption) | assumption); have hx22 := bt_at a0 x8_3; replace p22 := eq_true p22; replace q22 := eq_true q22) | (go_at_call 18; (with_reducible refine (helmsmanref11_digit.calls (bt a0 x8_3) true _ A23.out).mono ?_); rintro e w' ⟨rfl, ⟨nd, rfl⟩⟩))
                                  go_roundg k3
                                  case measure => have := HK1.out; have := HJ5.out; have := HK3.out; omega
                                  case rel => exact ⟨(wrap64 (x8_3 + 1)), (by first | rfl | (simp; done) | (simp [*]; done)), H', ⟨by have := HK1.out; have := HJ5.out; have := HK3.out; omega⟩, ⟨by (with_reducible repeat (first | apply Kd.R_alloc | apply Kd.R_drewN | apply Kd.R_drew)); exact HO_5.out⟩, ⟨by repeat (first | (with_reducible first | exact HB.out | apply below_alloc | apply pw_below_drewN | apply below_drew1) | exact HB.out)⟩⟩
                                · replace c24 := Bool.eq_false_iff.mpr c24
                                  subst c24
                                  have H1 : (if (bt a0 x8_3) = 95 then (helmsmanref11_Lex.l2 k3 a0 x5_1 x6_1 (wrap64 (x8_3 + 1))) else (if (wrap64 (x8_3 - x6_1)) > 16 then (some (([] : List (S31)), x6_1, 111)) else (if 0 ≤ x6_1 then (if x6_1 ≤ x8_3 then (if x8_3 ≤ (a0.size : Int) then (if x5_1.length < 3518437208883 then (helmsmanref11_Lex.l0 k3 a0 (x5_1 ++ [(⟨0, a0.extract (x6_1 : Int).toNat (x8_3 : Int).toNat, 0, x6_1⟩ : S31)]) x8_3) else (none)) else (none)) else (none)) else (none)))) = some (r1, r2, r3) := by rw [if_neg (show ¬ (false = true) by decide)] at H; exact H
                                  clear H
                                  have H := H1
                                  clear H1
                                  by_cases c26 : (bt a0 x8_3) = 95
                                  · rw [if_pos c26] at H
                                    have c26b0 : ((bt a0 x8_3) == 95) = true := beq_iff_eq.mpr c26
                                    have c26b1 : ((bt a0 x8_3) != 95) = false := bne_eq_false_iff_eq.mpr c26
                                    clear c26
                                    have H' := Aside0.mk H
                                    clear H
                                    have p19 : 0 ≤ (x8_3 : Int) := of_decide_eq_true (by first | (with_reducible assumption) | assumption)
                                    have q19 : x8_3 < (a0.size : Int) := of_decide_eq_true (by first | (with_reducible assumption) | assumption)
                                    have hx19 := bt_at a0 x8_3
                                    replace p19 := eq_true p19
                                    replace q19 := eq_true q19
                                    go_wp2_with (first | (go_at_call 17; (with_reducible refine (helmsmanref11_letter.calls (bt a0 x8_3) false _ A20.out).mono ?_); rintro e w' ⟨rfl, ⟨nd, rfl⟩⟩; have p22 : 0 ≤ (x8_3 : Int) := of_decide_eq_true (by first | (with_reducible assumption) | assumption); have q22 : x8_3 < (a0.size : Int) := of_decide_eq_true (by first | (with_reducible assumption) | assumption); have hx22 := bt_at a0 x8_3; replace p22 := eq_true p22; replace q22 := eq_true q22) | (go_at_call 18; (with_reducible refine (helmsmanref11_digit.calls (bt a0 x8_3) false _ A23.out).mono ?_); rintro e w' ⟨rfl, ⟨nd, rfl⟩⟩; have p25 : 0 ≤ (x8_3 : Int) := of_decide_eq_true (by first | (with_reducible assumption) | assumption); have q25 : x8_3 < (a0.size : Int) := of_decide_eq_true (by first | (with_reducible assumption) | assumption); have hx25 := bt_at a0 x8_3; replace p25 := eq_true p25; replace q25 := eq_true q25))
                                    go_roundg k3
                                    case measure => have := HK1.out; have := HJ5.out; have := HK3.out; omega
                                    case rel => exact ⟨(wrap64 (x8_3 + 1)), (by first | rfl | (simp; done) | (simp [*]; done)), H', ⟨by have := HK1.out; have := HJ5.out; have := HK3.out; omega⟩, ⟨by (with_reducible repeat (first | apply Kd.R_alloc | apply Kd.R_drewN | apply Kd.R_drew)); exact HO_5.out⟩, ⟨by repeat (first | (with_reducible first | exact HB.out | apply below_alloc | apply pw_below_drewN | apply below_drew1) | exact HB.out)⟩⟩
                                  · rw [if_neg c26] at H
                                    have c26b0 : ((bt a0 x8_3) == 95) = false := beq_eq_false_iff_ne.mpr c26
                                    have c26b1 : ((bt a0 x8_3) != 95) = true := bne_iff_ne.mpr c26
                                    by_cases c27 : (wrap64 (x8_3 - x6_1)) > 16
                                    · rw [if_pos c27] at H
                                      have c27b0 : decide (16 < (wrap64 (x8_3 - x6_1))) = true := decide_eq_true c27
                                      clear c27
                                      simp only [Option.some.injEq, Prod.mk.injEq] at H
                                      obtain ⟨rfl, rfl, rfl⟩ := H
                                      have p19 : 0 ≤ (x8_3 : Int) := of_decide_eq_true (by first | (with_reducible assumption) | assumption)
                                      have q19 : x8_3 < (a0.size : Int) := of_decide_eq_true (by first | (with_reducible assumption) | assumption)
                                      have hx19 := bt_at a0 x8_3
                                      replace p19 := eq_true p19
                                      replace q19 := eq_true q19
                                      go_wp2_with (first | (go_at_call 17; (with_reducible refine (helmsmanref11_letter.calls (bt a0 x8_3) false _ A20.out).mono ?_); rintro e w' ⟨rfl, ⟨nd, rfl⟩⟩; have p22 : 0 ≤ (x8_3 : Int) := of_decide_eq_true (by first | (with_reducible assumption) | assumption); have q22 : x8_3 < (a0.size : Int) := of_decide_eq_true (by first | (with_reducible assumption) | assumption); have hx22 := bt_at a0 x8_3; replace p22 := eq_true p22; replace q22 := eq_true q22) | (go_at_call 18; (with_reducible refine (helmsmanref11_digit.calls (bt a0 x8_3) false _ A23.out).mono ?_); rintro e w' ⟨rfl, ⟨nd, rfl⟩⟩; have p25 : 0 ≤ (x8_3 : Int) := of_decide_eq_true (by first | (with_reducible assumption) | assumption); have q25 : x8_3 < (a0.size : Int) := of_decide_eq_true (by first | (with_reducible assumption) | assumption); have hx25 := bt_at a0 x8_3; replace p25 := eq_true p25; replace q25 := eq_true q25))
                                      go_ret3
                                      exact ⟨_, by first | rfl | (simp [errW_none, errW_some] <;> rfl) | (simp [*, errW_none, errW_some] <;> rfl), by first | exact Kd.R_nil _ _ _ _ _ | exact Kd.N_nil _ _ _ _ _ | exact Kd.V_nil _ _ _ _ _ | exact Kd.Q_nil _ _ _ _ _ | exact Kd.S_nil _ _ _ _ _, by repeat (first | (with_reducible first | exact HB.out | apply below_alloc | apply pw_below_drewN | apply below_drew1) | exact HB.out)⟩
                                    · rw [if_neg c27] at H
                                      have c27b0 : decide (16 < (wrap64 (x8_3 - x6_1))) = false := decide_eq_false c27
                                      clear c27
                                      by_cases c28 : 0 ≤ x6_1
                                      · rw [if_pos c28] at H
                                        have c28b0 := eq_true c28
                                        have c28b1 : decide (0 ≤ x6_1) = true := decide_eq_true c28
                                        clear c28
                                        by_cases c29 : x6_1 ≤ x8_3
                                        · rw [if_pos c29] at H
                                          have c29b0 := eq_true c29
                                          have c29b1 : decide (x6_1 ≤ x8_3) = true := decide_eq_true c29
                                          clear c29
                                          by_cases c30 : x8_3 ≤ (a0.size : Int)
                                          · rw [if_pos c30] at H
                                            have c30b0 := eq_true c30
                                            have c30b1 : decide (x8_3 ≤ (a0.size : Int)) = true := decide_eq_true c30
                                            clear c30
                                            by_cases c31 : x5_1.length < 3518437208883
                                            · rw [if_pos c31] at H
                                              have LMc31 := Aside0.mk c31
                                              clear c31
                                              obtain ⟨y156, hy156⟩ : ∃ y_ : List (S31), y_ = (x5_1 ++ [(⟨0, a0.extract (x6_1 : Int).toNat (x8_3 : Int).toNat, 0, x6_1⟩ : S31)]) := ⟨_, rfl⟩
                                              replace H : (helmsmanref11_Lex.l0 k3 a0 y156 x8_3) = some (r1, r2, r3) := by first | (rw [hy156]; with_reducible exact H) | (have H2_ := (Option.bind_some _ _).symm.trans H; rw [hy156]; with_reducible exact H2_) | (have H2_ := (Option.bind_some _ _).symm.trans H; with_reducible exact H2_) | with_reducible exact H | (rw [hy156]; exact H) | exact H
                                              have Ny156 := Aside0.mk hy156
                                              clear hy156
                                              have H' := Aside0.mk H
                                              clear H
                                              have p19 : 0 ≤ (x8_3 : Int) := of_decide_eq_true (by first | (with_reducible assumption) | assumption)
                                              have q19 : x8_3 < (a0.size : Int) := of_decide_eq_true (by first | (with_reducible assumption) | assumption)
                                              have hx19 := bt_at a0 x8_3
                                              replace p19 := eq_true p19
                                              replace q19 := eq_true q19
                                              go_wp2_with (first | (go_at_call 17; (with_reducible refine (helmsmanref11_letter.calls (bt a0 x8_3) false _ A20.out).mono ?_); rintro e w' ⟨rfl, ⟨nd, rfl⟩⟩; have p22 : 0 ≤ (x8_3 : Int) := of_decide_eq_true (by first | (with_reducible assumption) | assumption); have q22 : x8_3 < (a0.size : Int) := of_decide_eq_true (by first | (with_reducible assumption) | assumption); have hx22 := bt_at a0 x8_3; replace p22 := eq_true p22; replace q22 := eq_true q22) | (go_at_call 18; (with_reducible refine (helmsmanref11_digit.calls (bt a0 x8_3) false _ A23.out).mono ?_); rintro e w' ⟨rfl, ⟨nd, rfl⟩⟩; have p25 : 0 ≤ (x8_3 : Int) := of_decide_eq_true (by first | (with_reducible assumption) | assumption); have q25 : x8_3 < (a0.size : Int) := of_decide_eq_true (by first | (with_reducible assumption) | assumption); have hx25 := bt_at a0 x8_3; replace p25 := eq_true p25; replace q25 := eq_true q25) | ((with_reducible refine gate_builtin (b := .append) (xs := #[.tmp 79, .tmp 86]) rfl ?_); at_builtin; refine Kd.R_append k31 (w0 := w) w.heap.size rfl (.tmp 79) (.tmp 86) 27 31 (.agg #[(.int .i64 0), (.string ⟨#[]⟩), (.int .i64 0), (.int .i64 0)]) 40 rfl Tryd.underlying27 info31 rfl (by decide) (by omega) u5 x5_1 (⟨0, a0.extract (x6_1 : Int).toNat (x8_3 : Int).toNat, 0, x6_1⟩ : S31) [.int .i64 0, .string (a0.extract (x6_1 : Int).toNat (x8_3 : Int).toNat), .int .i64 0, .int .i64 x6_1] (fun _ => True) (fun _ => False) rfl rfl ?aP (fun _ hk => hk.elim) ?aF ?aO ?aB ?aS ?aL ?_; (case aP => exact k31_mkM _ _ _ (⟨0, a0.extract (x6_1 : Int).toNat (x8_3 : Int).toNat, 0, x6_1⟩ : S31)); (case aB => exact (by repeat (first | (with_reducible first | exact HB.out | apply below_alloc | apply pw_below_drewN | apply below_drew1) | exact HB.out))); (case aF => exact (fun _ _ => trivial)); (case aO => exact (by (with_reducible repeat (first | apply Kd.R_alloc | apply Kd.R_drewN | apply Kd.R_drew)); exact HO_5.out)); (case aS => exact (below_size (by repeat (first | (with_reducible first | exact HB.out | apply below_alloc | apply pw_below_drewN | apply below_drew1) | exact HB.out)))); (case aL => have := LMc31.out; omega); intro v157 w32 ho hb hg hat; rw [← Ny156.out] at ho; have n0_ := Aside0.mk (hb); have n1_ := Aside0.mk (ho); clear HB; clear HO_5; have HB := n0_; have HO158 := n1_; clear n0_ n1_; clear ho hb hg hat))
                                              go_roundg k3
                                              case measure => have := HK1.out; have := HJ5.out; have := HK3.out; omega
                                              case rel => exact ⟨(y156), (x8_3), (by first | rfl | (simp; done) | (simp [*]; done)), H', ⟨by have := HK1.out; have := HJ5.out; have := HK3.out; omega⟩, ⟨by (with_reducible repeat (first | apply Kd.R_alloc | apply Kd.R_drewN | apply Kd.R_drew)); exact HO158.out⟩, ⟨by repeat (first | (with_reducible first | exact HB.out | apply below_alloc | apply pw_below_drewN | apply below_drew1) | exact HB.out)⟩⟩
                                            · rw [if_neg c31] at H
                                              exact absurd H (by simp)
                                          · rw [if_neg c30] at H
                                            exact absurd H (by simp)
                                        · rw [if_neg c29] at H
                                          exact absurd H (by simp)
                                      · rw [if_neg c28] at H
                                        exact absurd H (by simp)
                            · rw [if_neg c18] at H
                              exact absurd H (by simp)
                          · rw [if_neg c17] at H
                            have c17b0 : decide (x8_3 < (a0.size : Int)) = false := decide_eq_false c17
                            clear c17
                            by_cases c33 : (wrap64 (x8_3 - x6_1)) > 16
                            · rw [if_pos c33] at H
                              have c33b0 : decide (16 < (wrap64 (x8_3 - x6_1))) = true := decide_eq_true c33
                              clear c33
                              simp only [Option.some.injEq, Prod.mk.injEq] at H
                              obtain ⟨rfl, rfl, rfl⟩ := H
                              go_wp2
                              go_ret3
                              exact ⟨_, by first | rfl | (simp [errW_none, errW_some] <;> rfl) | (simp [*, errW_none, errW_some] <;> rfl), by first | exact Kd.R_nil _ _ _ _ _ | exact Kd.N_nil _ _ _ _ _ | exact Kd.V_nil _ _ _ _ _ | exact Kd.Q_nil _ _ _ _ _ | exact Kd.S_nil _ _ _ _ _, by repeat (first | (with_reducible first | exact HB.out | apply below_alloc | apply pw_below_drewN | apply below_drew1) | exact HB.out)⟩
                            · rw [if_neg c33] at H
                              have c33b0 : decide (16 < (wrap64 (x8_3 - x6_1))) = false := decide_eq_false c33
                              clear c33
                              by_cases c34 : 0 ≤ x6_1
                              · rw [if_pos c34] at H
                                have c34b0 := eq_true c34
                                have c34b1 : decide (0 ≤ x6_1) = true := decide_eq_true c34
                                clear c34
                                by_cases c35 : x6_1 ≤ x8_3
                                · rw [if_pos c35] at H
                                  have c35b0 := eq_true c35
                                  have c35b1 : decide (x6_1 ≤ x8_3) = true := decide_eq_true c35
                                  clear c35
                                  by_cases c36 : x8_3 ≤ (a0.size : Int)
                                  · rw [if_pos c36] at H
                                    have c36b0 := eq_true c36
                                    have c36b1 : decide (x8_3 ≤ (a0.size : Int)) = true := decide_eq_true c36
                                    clear c36
                                    by_cases c37 : x5_1.length < 3518437208883
                                    · rw [if_pos c37] at H
                                      have LMc37 := Aside0.mk c37
                                      clear c37
                                      obtain ⟨y159, hy159⟩ : ∃ y_ : List (S31), y_ = (x5_1 ++ [(⟨0, a0.extract (x6_1 : Int).toNat (x8_3 : Int).toNat, 0, x6_1⟩ : S31)]) := ⟨_, rfl⟩
                                      replace H : (helmsmanref11_Lex.l0 k3 a0 y159 x8_3) = some (r1, r2, r3) := by first | (rw [hy159]; with_reducible exact H) | (have H2_ := (Option.bind_some _ _).symm.trans H; rw [hy159]; with_reducible exact H2_) | (have H2_ := (Option.bind_some _ _).symm.trans H; with_reducible exact H2_) | with_reducible exact H | (rw [hy159]; exact H) | exact H
                                      have Ny159 := Aside0.mk hy159
                                      clear hy159
                                      have H' := Aside0.mk H
                                      clear H
                                      go_wp2_with (first | ((with_reducible refine gate_builtin (b := .append) (xs := #[.tmp 79, .tmp 86]) rfl ?_); at_builtin; refine Kd.R_append k31 (w0 := w) w.heap.size rfl (.tmp 79) (.tmp 86) 27 31 (.agg #[(.int .i64 0), (.string ⟨#[]⟩), (.int .i64 0), (.int .i64 0)]) 40 rfl Tryd.underlying27 info31 rfl (by decide) (by omega) u5 x5_1 (⟨0, a0.extract (x6_1 : Int).toNat (x8_3 : Int).toNat, 0, x6_1⟩ : S31) [.int .i64 0, .string (a0.extract (x6_1 : Int).toNat (x8_3 : Int).toNat), .int .i64 0, .int .i64 x6_1] (fun _ => True) (fun _ => False) rfl rfl ?aP (fun _ hk => hk.elim) ?aF ?aO ?aB ?aS ?aL ?_; (case aP => exact k31_mkM _ _ _ (⟨0, a0.extract (x6_1 : Int).toNat (x8_3 : Int).toNat, 0, x6_1⟩ : S31)); (case aB => exact (by repeat (first | (with_reducible first | exact HB.out | apply below_alloc | apply pw_below_drewN | apply below_drew1) | exact HB.out))); (case aF => exact (fun _ _ => trivial)); (case aO => exact (by (with_reducible repeat (first | apply Kd.R_alloc | apply Kd.R_drewN | apply Kd.R_drew)); exact HO_5.out)); (case aS => exact (below_size (by repeat (first | (with_reducible first | exact HB.out | apply below_alloc | apply pw_below_drewN | apply below_drew1) | exact HB.out)))); (case aL => have := LMc37.out; omega); intro v160 w38 ho hb hg hat; rw [← Ny159.out] at ho; have n0_ := Aside0.mk (hb); have n1_ := Aside0.mk (ho); clear HB; clear HO_5; have HB := n0_; have HO161 := n1_; clear n0_ n1_; clear ho hb hg hat))
                                      go_roundg k3
                                      case measure => have := HK1.out; have := HJ5.out; have := HK3.out; omega
                                      case rel => exact ⟨(y159), (x8_3), (by first | rfl | (simp; done) | (simp [*]; done)), H', ⟨by have := HK1.out; have := HJ5.out; have := HK3.out; omega⟩, ⟨by (with_reducible repeat (first | apply Kd.R_alloc | apply Kd.R_drewN | apply Kd.R_drew)); exact HO161.out⟩, ⟨by repeat (first | (with_reducible first | exact HB.out | apply below_alloc | apply pw_below_drewN | apply below_drew1) | exact HB.out)⟩⟩
                                    · rw [if_neg c37] at H
                                      exact absurd H (by simp)
                                  · rw [if_neg c36] at H
                                    exact absurd H (by simp)
                                · rw [if_neg c35] at H
                                  exact absurd H (by simp)
                              · rw [if_neg c34] at H
                                exact absurd H (by simp)
                    · replace c16 := Bool.eq_false_iff.mpr c16
                      subst c16
                      have H1 : ((helmsmanref11_digit.f (bt a0 x6_1)).bind fun t162 => (if t162 = true then (helmsmanref11_Lex.l3 kj5 a0 x5_1 x6_1 (wrap64 (x6_1 + 1))) else (if (wrap64 (x6_1 + 2)) ≤ (a0.size : Int) then (if 0 ≤ x6_1 then (if x6_1 ≤ (wrap64 (x6_1 + 2)) then ((helmsmanref11_two.f (a0.extract (x6_1 : Int).toNat ((wrap64 (x6_1 + 2)) : Int).toNat)).bind fun t174 => (helmsmanref11_Lex.j5 kj5 a0 x5_1 x6_1 (bt a0 x6_1) (wrap64 (x6_1 + 1)) t174)) else (none)) else (none)) else (helmsmanref11_Lex.j5 kj5 a0 x5_1 x6_1 (bt a0 x6_1) (wrap64 (x6_1 + 1)) false)))) = some (r1, r2, r3) := by rw [if_neg (show ¬ (false = true) by decide)] at H; exact H
                      clear H
                      have H := H1
                      clear H1
                      replace H := Option.bind_eq_some_iff.mp H
                      obtain ⟨t162, A390, H⟩ := H
                      replace H : (if t162 = true then (helmsmanref11_Lex.l3 kj5 a0 x5_1 x6_1 (wrap64 (x6_1 + 1))) else (if (wrap64 (x6_1 + 2)) ≤ (a0.size : Int) then (if 0 ≤ x6_1 then (if x6_1 ≤ (wrap64 (x6_1 + 2)) then ((helmsmanref11_two.f (a0.extract (x6_1 : Int).toNat ((wrap64 (x6_1 + 2)) : Int).toNat)).bind fun t174 => (helmsmanref11_Lex.j5 kj5 a0 x5_1 x6_1 (bt a0 x6_1) (wrap64 (x6_1 + 1)) t174)) else (none)) else (none)) else (helmsmanref11_Lex.j5 kj5 a0 x5_1 x6_1 (bt a0 x6_1) (wrap64 (x6_1 + 1)) false))) = some (r1, r2, r3) := H
                      have A39 := Aside0.mk A390
                      clear A390
                      by_cases c40 : t162 = true
                      · subst c40
                        have H1 : (helmsmanref11_Lex.l3 kj5 a0 x5_1 x6_1 (wrap64 (x6_1 + 1))) = some (r1, r2, r3) := by rw [if_pos rfl] at H; exact H
                        clear H
                        have H := H1
                        clear H1
                        have H' := Aside0.mk H
                        clear H
                        go_wp2_with (first | ((with_reducible refine gate_callee (f := 17) rfl ?_); refine goesL_ (some 49) rfl rfl Tryd.func17 (by kernel_rfl) rfl #[.int .u8 (bt a0 x6_1)] rfl (by (try simp only [List.map_toArray, List.map_cons, List.map_nil]); first | done | rfl | (simp only [List.length_drop, List.length_take]; rfl)) ?_; (with_reducible refine (helmsmanref11_letter.calls (bt a0 x6_1) false _ A15.out).mono ?_); rintro e w' ⟨rfl, ⟨nd, rfl⟩⟩; refine ⟨_, rfl, ?_⟩) | ((with_reducible refine gate_callee (f := 18) rfl ?_); refine goesL_ (some 90) rfl rfl Tryd.func18 (by kernel_rfl) rfl #[.int .u8 (bt a0 x6_1)] rfl (by (try simp only [List.map_toArray, List.map_cons, List.map_nil]); first | done | rfl | (simp only [List.length_drop, List.length_take]; rfl)) ?_; (with_reducible refine (helmsmanref11_digit.calls (bt a0 x6_1) true _ A39.out).mono ?_); rintro e w' ⟨rfl, ⟨nd, rfl⟩⟩; refine ⟨_, rfl, ?_⟩))
                        (try simp only [Act.put, List.setIfInBounds_toArray, List.set_cons_succ, List.set_cons_zero])
                        go_loopg [8] kj5 (fun kq v8 w' => ∃ (x8_3 : Int), v8 = .int .i64 x8_3 ∧ Aside0 (helmsmanref11_Lex.l3 kq a0 x5_1 x6_1 x8_3 = some (r1, r2, r3)) ∧ Aside0 (kq ≤ kj5) ∧ Aside0 (Kd.R k31 31 w' w.heap.size (fun _ => True) u5 x5_1) ∧ Aside0 (Below w.heap.size w w'))
                        case atStart => exact ⟨((wrap64 (x6_1 + 1))), (by first | rfl | (simp; done) | (simp [*]; done)), H', ⟨Nat.le_refl _⟩, ⟨by (with_reducible repeat (first | apply Kd.R_alloc | apply Kd.R_drewN | apply Kd.R_drew)); exact HO_5.out⟩, ⟨by repeat (first | (with_reducible first | exact HB.out | apply below_alloc | apply pw_below_drewN | apply below_drew1) | exact HB.out)⟩⟩
                        case round =>
                          clear H'
                          try clear c1
                          try clear p1
                          try clear q1
                          try clear hx1
                          try clear c2
                          try clear c2b0
                          try clear c2b1
                          try clear p2
                          try clear q2
                          try clear hx2
                          try clear c3
                          try clear c3b0
                          try clear c4
                          try clear c4b0
                          try clear p5
                          try clear q5
                          try clear hx5
                          try clear p6
                          try clear c7
                          try clear c7b0
                          try clear c7b1
                          try clear c8
                          try clear c8b0
                          try clear c8b1
                          try clear c9
                          try clear c10
                          try clear c10b0
                          try clear c10b1
                          try clear c11
                          try clear c11b0
                          try clear c12
                          try clear c12b0
                          try clear p13
                          try clear q13
                          try clear hx13
                          try clear c14
                          try clear c14b0
                          try clear c14b1
                          try clear c16
                          try clear c17
                          try clear c17b0
                          try clear c18
                          try clear c18b0
                          try clear p19
                          try clear q19
                          try clear hx19
                          try clear c21
                          try clear p22
                          try clear q22
                          try clear hx22
                          try clear c24
                          try clear p25
                          try clear q25
                          try clear hx25
                          try clear c26
                          try clear c26b0
                          try clear c26b1
                          try clear c27
                          try clear c27b0
                          try clear c28
                          try clear c28b0
                          try clear c28b1
                          try clear c29
                          try clear c29b0
                          try clear c29b1
                          try clear c30
                          try clear c30b0
                          try clear c30b1
                          try clear c31
                          try clear c33
                          try clear c33b0
                          try clear c34
                          try clear c34b0
                          try clear c34b1
                          try clear c35
                          try clear c35b0
                          try clear c35b1
                          try clear c36
                          try clear c36b0
                          try clear c36b1
                          try clear c37
                          try clear c40
                          try clear p1
                          try clear p13
                          try clear p19
                          try clear p2
                          try clear p22
                          try clear p25
                          try clear p5
                          try clear p6
                          try clear q1
                          try clear q13
                          try clear q19
                          try clear q22
                          try clear q25
                          try clear q5
                          obtain ⟨x8_3, rfl, HA, HK3, HO_5, HB⟩ := hrel
                          cases gk with
                          | zero => exact absurd HA.out (by simp [helmsmanref11_Lex.l3])
                          | succ k3 =>
                            have H := HA.out
                            clear HA
                            simp only [helmsmanref11_Lex.l3] at H
                            by_cases c41 : x8_3 < (a0.size : Int)
                            · rw [if_pos c41] at H
                              have c41b0 : decide (x8_3 < (a0.size : Int)) = true := decide_eq_true c41
                              clear c41
                              by_cases c42 : 0 ≤ x8_3
                              · rw [if_pos c42] at H
                                have c42b0 : decide (0 ≤ x8_3) = true := decide_eq_true c42
                                clear c42
                                replace H := Option.bind_eq_some_iff.mp H
                                obtain ⟨t163, A440, H⟩ := H
                                replace H : (if t163 = true then (helmsmanref11_Lex.l3 k3 a0 x5_1 x6_1 (wrap64 (x8_3 + 1))) else (if 0 ≤ x6_1 then (if x6_1 ≤ x8_3 then (if x8_3 ≤ (a0.size : Int) then ((helmsmanref11_Number.f k3 (a0.extract (x6_1 : Int).toNat (x8_3 : Int).toNat)).bind fun bt164 => (if bt164.2 = true then (if x5_1.length < 3518437208883 then (helmsmanref11_Lex.l0 k3 a0 (x5_1 ++ [(⟨1, a0.extract (x6_1 : Int).toNat (x8_3 : Int).toNat, bt164.1, x6_1⟩ : S31)]) x8_3) else (none)) else (some (([] : List (S31)), x6_1, 111)))) else (none)) else (none)) else (none))) = some (r1, r2, r3) := H
                                have A44 := Aside0.mk A440
                                clear A440
                                by_cases c45 : t163 = true
                                · subst c45
                                  have H1 : (helmsmanref11_Lex.l3 k3 a0 x5_1 x6_1 (wrap64 (x8_3 + 1))) = some (r1, r2, r3) := by rw [if_pos rfl] at H; exact H
                                  clear H
                                  have H := H1
                                  clear H1
                                  have H' := Aside0.mk H
                                  clear H
                                  have p43 : 0 ≤ (x8_3 : Int) := of_decide_eq_true (by first | (with_reducible assumption) | assumption)
                                  have q43 : x8_3 < (a0.size : Int) := of_decide_eq_true (by first | (with_reducible assumption) | assumption)
                                  have hx43 := bt_at a0 x8_3
                                  replace p43 := eq_true p43
                                  replace q43 := eq_true q43
                                  go_wp2_with (first | (go_at_call 18; (with_reducible refine (helmsmanref11_digit.calls (bt a0 x8_3) true _ A44.out).mono ?_); rintro e w' ⟨rfl, ⟨nd, rfl⟩⟩))
                                  go_roundg k3
                                  case measure => have := HK1.out; have := HJ5.out; have := HK3.out; omega
                                  case rel => exact ⟨(wrap64 (x8_3 + 1)), (by first | rfl | (simp; done) | (simp [*]; done)), H', ⟨by have := HK1.out; have := HJ5.out; have := HK3.out; omega⟩, ⟨by (with_reducible repeat (first | apply Kd.R_alloc | apply Kd.R_drewN | apply Kd.R_drew)); exact HO_5.out⟩, ⟨by repeat (first | (with_reducible first | exact HB.out | apply below_alloc | apply pw_below_drewN | apply below_drew1) | exact HB.out)⟩⟩
                                · replace c45 := Bool.eq_false_iff.mpr c45
                                  subst c45
                                  have H1 : (if 0 ≤ x6_1 then (if x6_1 ≤ x8_3 then (if x8_3 ≤ (a0.size : Int) then ((helmsmanref11_Number.f k3 (a0.extract (x6_1 : Int).toNat (x8_3 : Int).toNat)).bind fun bt164 => (if bt164.2 = true then (if x5_1.length < 3518437208883 then (helmsmanref11_Lex.l0 k3 a0 (x5_1 ++ [(⟨1, a0.extract (x6_1 : Int).toNat (x8_3 : Int).toNat, bt164.1, x6_1⟩ : S31)]) x8_3) else (none)) else (some (([] : List (S31)), x6_1, 111)))) else (none)) else (none)) else (none)) = some (r1, r2, r3) := by rw [if_neg (show ¬ (false = true) by decide)] at H; exact H
                                  clear H
                                  have H := H1
                                  clear H1
                                  by_cases c46 : 0 ≤ x6_1
                                  · rw [if_pos c46] at H
                                    have c46b0 := eq_true c46
                                    have c46b1 : decide (0 ≤ x6_1) = true := decide_eq_true c46
                                    clear c46
                                    by_cases c47 : x6_1 ≤ x8_3
                                    · rw [if_pos c47] at H
                                      have c47b0 := eq_true c47
                                      have c47b1 : decide (x6_1 ≤ x8_3) = true := decide_eq_true c47
                                      clear c47
                                      by_cases c48 : x8_3 ≤ (a0.size : Int)
                                      · rw [if_pos c48] at H
                                        have c48b0 := eq_true c48
                                        have c48b1 : decide (x8_3 ≤ (a0.size : Int)) = true := decide_eq_true c48
                                        clear c48
                                        replace H := Option.bind_eq_some_iff.mp H
                                        obtain ⟨⟨t164, t165⟩, A490, H⟩ := H
                                        replace H : (if t165 = true then (if x5_1.length < 3518437208883 then (helmsmanref11_Lex.l0 k3 a0 (x5_1 ++ [(⟨1, a0.extract (x6_1 : Int).toNat (x8_3 : Int).toNat, t164, x6_1⟩ : S31)]) x8_3) else (none)) else (some (([] : List (S31)), x6_1, 111))) = some (r1, r2, r3) := H
                                        have A49 := Aside0.mk A490
                                        clear A490
                                        by_cases c50 : t165 = true
                                        · subst c50
                                          have H1 : (if x5_1.length < 3518437208883 then (helmsmanref11_Lex.l0 k3 a0 (x5_1 ++ [(⟨1, a0.extract (x6_1 : Int).toNat (x8_3 : Int).toNat, t164, x6_1⟩ : S31)]) x8_3) else (none)) = some (r1, r2, r3) := by rw [if_pos rfl] at H; exact H
                                          clear H
                                          have H := H1
                                          clear H1
                                          have c51b0 := eq_true (of_decide_eq_true (by first | (with_reducible assumption) | assumption) : 0 ≤ x6_1)
                                          have c52b0 := eq_true (of_decide_eq_true (by first | (with_reducible assumption) | assumption) : x6_1 ≤ x8_3)
                                          have c53b0 := eq_true (of_decide_eq_true (by first | (with_reducible assumption) | assumption) : x8_3 ≤ (a0.size : Int))
                                          by_cases c54 : x5_1.length < 3518437208883
                                          · rw [if_pos c54] at H
                                            have LMc54 := Aside0.mk c54
                                            clear c54
                                            obtain ⟨y166, hy166⟩ : ∃ y_ : List (S31), y_ = (x5_1 ++ [(⟨1, a0.extract (x6_1 : Int).toNat (x8_3 : Int).toNat, t164, x6_1⟩ : S31)]) := ⟨_, rfl⟩
                                            replace H : (helmsmanref11_Lex.l0 k3 a0 y166 x8_3) = some (r1, r2, r3) := by first | (rw [hy166]; with_reducible exact H) | (have H2_ := (Option.bind_some _ _).symm.trans H; rw [hy166]; with_reducible exact H2_) | (have H2_ := (Option.bind_some _ _).symm.trans H; with_reducible exact H2_) | with_reducible exact H | (rw [hy166]; exact H) | exact H
                                            have Ny166 := Aside0.mk hy166
                                            clear hy166
                                            have H' := Aside0.mk H
                                            clear H
                                            have p43 : 0 ≤ (x8_3 : Int) := of_decide_eq_true (by first | (with_reducible assumption) | assumption)
                                            have q43 : x8_3 < (a0.size : Int) := of_decide_eq_true (by first | (with_reducible assumption) | assumption)
                                            have hx43 := bt_at a0 x8_3
                                            replace p43 := eq_true p43
                                            replace q43 := eq_true q43
                                            go_wp2_with (first | (go_at_call 18; (with_reducible refine (helmsmanref11_digit.calls (bt a0 x8_3) false _ A44.out).mono ?_); rintro e w' ⟨rfl, ⟨nd, rfl⟩⟩) | ((with_reducible refine gate_callee (f := 19) rfl ?_); refine goesL_ (some 108) rfl rfl Tryd.func19 (by kernel_rfl) rfl #[.string (a0.extract (x6_1 : Int).toNat (x8_3 : Int).toNat)] rfl (by (try simp only [List.map_toArray, List.map_cons, List.map_nil]); first | done | rfl | (simp only [List.length_drop, List.length_take]; rfl)) ?_; (with_reducible refine (helmsmanref11_Number.calls k3 (a0.extract (x6_1 : Int).toNat (x8_3 : Int).toNat) t164 true _ A49.out).mono ?_); rintro e w' ⟨rfl, ⟨nd, rfl⟩⟩; refine ⟨_, rfl, ?_⟩) | ((with_reducible refine gate_builtin (b := .append) (xs := #[.tmp 114, .tmp 122]) rfl ?_); at_builtin; refine Kd.R_append k31 (w0 := w) w.heap.size rfl (.tmp 114) (.tmp 122) 27 31 (.agg #[(.int .i64 0), (.string ⟨#[]⟩), (.int .i64 0), (.int .i64 0)]) 40 rfl Tryd.underlying27 info31 rfl (by decide) (by omega) u5 x5_1 (⟨1, a0.extract (x6_1 : Int).toNat (x8_3 : Int).toNat, t164, x6_1⟩ : S31) [.int .i64 1, .string (a0.extract (x6_1 : Int).toNat (x8_3 : Int).toNat), .int .i64 t164, .int .i64 x6_1] (fun _ => True) (fun _ => False) rfl rfl ?aP (fun _ hk => hk.elim) ?aF ?aO ?aB ?aS ?aL ?_; (case aP => exact k31_mkM _ _ _ (⟨1, a0.extract (x6_1 : Int).toNat (x8_3 : Int).toNat, t164, x6_1⟩ : S31)); (case aB => exact (by repeat (first | (with_reducible first | exact HB.out | apply below_alloc | apply pw_below_drewN | apply below_drew1) | exact HB.out))); (case aF => exact (fun _ _ => trivial)); (case aO => exact (by (with_reducible repeat (first | apply Kd.R_alloc | apply Kd.R_drewN | apply Kd.R_drew)); exact HO_5.out)); (case aS => exact (below_size (by repeat (first | (with_reducible first | exact HB.out | apply below_alloc | apply pw_below_drewN | apply below_drew1) | exact HB.out)))); (case aL => have := LMc54.out; omega); intro v167 w55 ho hb hg hat; rw [← Ny166.out] at ho; have n0_ := Aside0.mk (hb); have n1_ := Aside0.mk (ho); clear HB; clear HO_5; have HB := n0_; have HO168 := n1_; clear n0_ n1_; clear ho hb hg hat))
                                            go_roundg k3
                                            case measure => have := HK1.out; have := HJ5.out; have := HK3.out; omega
                                            case rel => exact ⟨(y166), (x8_3), (by first | rfl | (simp; done) | (simp [*]; done)), H', ⟨by have := HK1.out; have := HJ5.out; have := HK3.out; omega⟩, ⟨by (with_reducible repeat (first | apply Kd.R_alloc | apply Kd.R_drewN | apply Kd.R_drew)); exact HO168.out⟩, ⟨by repeat (first | (with_reducible first | exact HB.out | apply below_alloc | apply pw_below_drewN | apply below_drew1) | exact HB.out)⟩⟩
                                          · rw [if_neg c54] at H
                                            exact absurd H (by simp)
                                        · replace c50 := Bool.eq_false_iff.mpr c50
                                          subst c50
                                          have H1 : (some (([] : List (S31)), x6_1, 111)) = some (r1, r2, r3) := by rw [if_neg (show ¬ (false = true) by decide)] at H; exact H
                                          clear H
                                          have H := H1
                                          clear H1
                                          simp only [Option.some.injEq, Prod.mk.injEq] at H
                                          obtain ⟨rfl, rfl, rfl⟩ := H
                                          have p43 : 0 ≤ (x8_3 : Int) := of_decide_eq_true (by first | (with_reducible assumption) | assumption)
                                          have q43 : x8_3 < (a0.size : Int) := of_decide_eq_true (by first | (with_reducible assumption) | assumption)
                                          have hx43 := bt_at a0 x8_3
                                          replace p43 := eq_true p43
                                          replace q43 := eq_true q43
                                          go_wp2_with (first | (go_at_call 18; (with_reducible refine (helmsmanref11_digit.calls (bt a0 x8_3) false _ A44.out).mono ?_); rintro e w' ⟨rfl, ⟨nd, rfl⟩⟩) | ((with_reducible refine gate_callee (f := 19) rfl ?_); refine goesL_ (some 108) rfl rfl Tryd.func19 (by kernel_rfl) rfl #[.string (a0.extract (x6_1 : Int).toNat (x8_3 : Int).toNat)] rfl (by (try simp only [List.map_toArray, List.map_cons, List.map_nil]); first | done | rfl | (simp only [List.length_drop, List.length_take]; rfl)) ?_; (with_reducible refine (helmsmanref11_Number.calls k3 (a0.extract (x6_1 : Int).toNat (x8_3 : Int).toNat) t164 false _ A49.out).mono ?_); rintro e w' ⟨rfl, ⟨nd, rfl⟩⟩; refine ⟨_, rfl, ?_⟩))
                                          go_ret3
                                          exact ⟨_, by first | rfl | (simp [errW_none, errW_some] <;> rfl) | (simp [*, errW_none, errW_some] <;> rfl), by first | exact Kd.R_nil _ _ _ _ _ | exact Kd.N_nil _ _ _ _ _ | exact Kd.V_nil _ _ _ _ _ | exact Kd.Q_nil _ _ _ _ _ | exact Kd.S_nil _ _ _ _ _, by repeat (first | (with_reducible first | exact HB.out | apply below_alloc | apply pw_below_drewN | apply below_drew1) | exact HB.out)⟩
                                      · rw [if_neg c48] at H
                                        exact absurd H (by simp)
                                    · rw [if_neg c47] at H
                                      exact absurd H (by simp)
                                  · rw [if_neg c46] at H
                                    exact absurd H (by simp)
                              · rw [if_neg c42] at H
                                exact absurd H (by simp)
                            · rw [if_neg c41] at H
                              have c41b0 : decide (x8_3 < (a0.size : Int)) = false := decide_eq_false c41
                              clear c41
                              by_cases c56 : 0 ≤ x6_1
                              · rw [if_pos c56] at H
                                have c56b0 := eq_true c56
                                have c56b1 : decide (0 ≤ x6_1) = true := decide_eq_true c56
                                clear c56
                                by_cases c57 : x6_1 ≤ x8_3
                                · rw [if_pos c57] at H
                                  have c57b0 := eq_true c57
                                  have c57b1 : decide (x6_1 ≤ x8_3) = true := decide_eq_true c57
                                  clear c57
                                  by_cases c58 : x8_3 ≤ (a0.size : Int)
                                  · rw [if_pos c58] at H
                                    have c58b0 := eq_true c58
                                    have c58b1 : decide (x8_3 ≤ (a0.size : Int)) = true := decide_eq_true c58
                                    clear c58
                                    replace H := Option.bind_eq_some_iff.mp H
                                    obtain ⟨⟨t169, t170⟩, A590, H⟩ := H
                                    replace H : (if t170 = true then (if x5_1.length < 3518437208883 then (helmsmanref11_Lex.l0 k3 a0 (x5_1 ++ [(⟨1, a0.extract (x6_1 : Int).toNat (x8_3 : Int).toNat, t169, x6_1⟩ : S31)]) x8_3) else (none)) else (some (([] : List (S31)), x6_1, 111))) = some (r1, r2, r3) := H
                                    have A59 := Aside0.mk A590
                                    clear A590
                                    by_cases c60 : t170 = true
                                    · subst c60
                                      have H1 : (if x5_1.length < 3518437208883 then (helmsmanref11_Lex.l0 k3 a0 (x5_1 ++ [(⟨1, a0.extract (x6_1 : Int).toNat (x8_3 : Int).toNat, t169, x6_1⟩ : S31)]) x8_3) else (none)) = some (r1, r2, r3) := by rw [if_pos rfl] at H; exact H
                                      clear H
                                      have H := H1
                                      clear H1
                                      have c61b0 := eq_true (of_decide_eq_true (by first | (with_reducible assumption) | assumption) : 0 ≤ x6_1)
                                      have c62b0 := eq_true (of_decide_eq_true (by first | (with_reducible assumption) | assumption) : x6_1 ≤ x8_3)
                                      have c63b0 := eq_true (of_decide_eq_true (by first | (with_reducible assumption) | assumption) : x8_3 ≤ (a0.size : Int))
                                      by_cases c64 : x5_1.length < 3518437208883
                                      · rw [if_pos c64] at H
                                        have LMc64 := Aside0.mk c64
                                        clear c64
                                        obtain ⟨y171, hy171⟩ : ∃ y_ : List (S31), y_ = (x5_1 ++ [(⟨1, a0.extract (x6_1 : Int).toNat (x8_3 : Int).toNat, t169, x6_1⟩ : S31)]) := ⟨_, rfl⟩
                                        replace H : (helmsmanref11_Lex.l0 k3 a0 y171 x8_3) = some (r1, r2, r3) := by first | (rw [hy171]; with_reducible exact H) | (have H2_ := (Option.bind_some _ _).symm.trans H; rw [hy171]; with_reducible exact H2_) | (have H2_ := (Option.bind_some _ _).symm.trans H; with_reducible exact H2_) | with_reducible exact H | (rw [hy171]; exact H) | exact H
                                        have Ny171 := Aside0.mk hy171
                                        clear hy171
                                        have H' := Aside0.mk H
                                        clear H
                                        go_wp2_with (first | ((with_reducible refine gate_callee (f := 19) rfl ?_); refine goesL_ (some 108) rfl rfl Tryd.func19 (by kernel_rfl) rfl #[.string (a0.extract (x6_1 : Int).toNat (x8_3 : Int).toNat)] rfl (by (try simp only [List.map_toArray, List.map_cons, List.map_nil]); first | done | rfl | (simp only [List.length_drop, List.length_take]; rfl)) ?_; (with_reducible refine (helmsmanref11_Number.calls k3 (a0.extract (x6_1 : Int).toNat (x8_3 : Int).toNat) t169 true _ A59.out).mono ?_); rintro e w' ⟨rfl, ⟨nd, rfl⟩⟩; refine ⟨_, rfl, ?_⟩) | ((with_reducible refine gate_builtin (b := .append) (xs := #[.tmp 114, .tmp 122]) rfl ?_); at_builtin; refine Kd.R_append k31 (w0 := w) w.heap.size rfl (.tmp 114) (.tmp 122) 27 31 (.agg #[(.int .i64 0), (.string ⟨#[]⟩), (.int .i64 0), (.int .i64 0)]) 40 rfl Tryd.underlying27 info31 rfl (by decide) (by omega) u5 x5_1 (⟨1, a0.extract (x6_1 : Int).toNat (x8_3 : Int).toNat, t169, x6_1⟩ : S31) [.int .i64 1, .string (a0.extract (x6_1 : Int).toNat (x8_3 : Int).toNat), .int .i64 t169, .int .i64 x6_1] (fun _ => True) (fun _ => False) rfl rfl ?aP (fun _ hk => hk.elim) ?aF ?aO ?aB ?aS ?aL ?_; (case aP => exact k31_mkM _ _ _ (⟨1, a0.extract (x6_1 : Int).toNat (x8_3 : Int).toNat, t169, x6_1⟩ : S31)); (case aB => exact (by repeat (first | (with_reducible first | exact HB.out | apply below_alloc | apply pw_below_drewN | apply below_drew1) | exact HB.out))); (case aF => exact (fun _ _ => trivial)); (case aO => exact (by (with_reducible repeat (first | apply Kd.R_alloc | apply Kd.R_drewN | apply Kd.R_drew)); exact HO_5.out)); (case aS => exact (below_size (by repeat (first | (with_reducible first | exact HB.out | apply below_alloc | apply pw_below_drewN | apply below_drew1) | exact HB.out)))); (case aL => have := LMc64.out; omega); intro v172 w65 ho hb hg hat; rw [← Ny171.out] at ho; have n0_ := Aside0.mk (hb); have n1_ := Aside0.mk (ho); clear HB; clear HO_5; have HB := n0_; have HO173 := n1_; clear n0_ n1_; clear ho hb hg hat))
                                        go_roundg k3
                                        case measure => have := HK1.out; have := HJ5.out; have := HK3.out; omega
                                        case rel => exact ⟨(y171), (x8_3), (by first | rfl | (simp; done) | (simp [*]; done)), H', ⟨by have := HK1.out; have := HJ5.out; have := HK3.out; omega⟩, ⟨by (with_reducible repeat (first | apply Kd.R_alloc | apply Kd.R_drewN | apply Kd.R_drew)); exact HO173.out⟩, ⟨by repeat (first | (with_reducible first | exact HB.out | apply below_alloc | apply pw_below_drewN | apply below_drew1) | exact HB.out)⟩⟩
                                      · rw [if_neg c64] at H
                                        exact absurd H (by simp)
                                    · replace c60 := Bool.eq_false_iff.mpr c60
                                      subst c60
                                      have H1 : (some (([] : List (S31)), x6_1, 111)) = some (r1, r2, r3) := by rw [if_neg (show ¬ (false = true) by decide)] at H; exact H
                                      clear H
                                      have H := H1
                                      clear H1
                                      simp only [Option.some.injEq, Prod.mk.injEq] at H
                                      obtain ⟨rfl, rfl, rfl⟩ := H
                                      go_wp2_with (first | ((with_reducible refine gate_callee (f := 19) rfl ?_); refine goesL_ (some 108) rfl rfl Tryd.func19 (by kernel_rfl) rfl #[.string (a0.extract (x6_1 : Int).toNat (x8_3 : Int).toNat)] rfl (by (try simp only [List.map_toArray, List.map_cons, List.map_nil]); first | done | rfl | (simp only [List.length_drop, List.length_take]; rfl)) ?_; (with_reducible refine (helmsmanref11_Number.calls k3 (a0.extract (x6_1 : Int).toNat (x8_3 : Int).toNat) t169 false _ A59.out).mono ?_); rintro e w' ⟨rfl, ⟨nd, rfl⟩⟩; refine ⟨_, rfl, ?_⟩))
                                      go_ret3
                                      exact ⟨_, by first | rfl | (simp [errW_none, errW_some] <;> rfl) | (simp [*, errW_none, errW_some] <;> rfl), by first | exact Kd.R_nil _ _ _ _ _ | exact Kd.N_nil _ _ _ _ _ | exact Kd.V_nil _ _ _ _ _ | exact Kd.Q_nil _ _ _ _ _ | exact Kd.S_nil _ _ _ _ _, by repeat (first | (with_reducible first | exact HB.out | apply below_alloc | apply pw_below_drewN | apply below_drew1) | exact HB.out)⟩
                                  · rw [if_neg c58] at H
                                    exact absurd H (by simp)
                                · rw [if_neg c57] at H
                                  exact absurd H (by simp)
                              · rw [if_neg c56] at H
                                exact absurd H (by simp)
                      · replace c40 := Bool.eq_false_iff.mpr c40
                        subst c40
                        have H1 : (if (wrap64 (x6_1 + 2)) ≤ (a0.size : Int) then (if 0 ≤ x6_1 then (if x6_1 ≤ (wrap64 (x6_1 + 2)) then ((helmsmanref11_two.f (a0.extract (x6_1 : Int).toNat ((wrap64 (x6_1 + 2)) : Int).toNat)).bind fun t174 => (helmsmanref11_Lex.j5 kj5 a0 x5_1 x6_1 (bt a0 x6_1) (wrap64 (x6_1 + 1)) t174)) else (none)) else (none)) else (helmsmanref11_Lex.j5 kj5 a0 x5_1 x6_1 (bt a0 x6_1) (wrap64 (x6_1 + 1)) false)) = some (r1, r2, r3) := by rw [if_neg (show ¬ (false = true) by decide)] at H; exact H
                        clear H
                        have H := H1
                        clear H1
                        have HC66 := Aside0.mk H
                        clear H
                        go_upto_region 28 with (first | ((with_reducible refine gate_callee (f := 17) rfl ?_); refine goesL_ (some 49) rfl rfl Tryd.func17 (by kernel_rfl) rfl #[.int .u8 (bt a0 x6_1)] rfl (by (try simp only [List.map_toArray, List.map_cons, List.map_nil]); first | done | rfl | (simp only [List.length_drop, List.length_take]; rfl)) ?_; (with_reducible refine (helmsmanref11_letter.calls (bt a0 x6_1) false _ A15.out).mono ?_); rintro e w' ⟨rfl, ⟨nd, rfl⟩⟩; refine ⟨_, rfl, ?_⟩) | ((with_reducible refine gate_callee (f := 18) rfl ?_); refine goesL_ (some 90) rfl rfl Tryd.func18 (by kernel_rfl) rfl #[.int .u8 (bt a0 x6_1)] rfl (by (try simp only [List.map_toArray, List.map_cons, List.map_nil]); first | done | rfl | (simp only [List.length_drop, List.length_take]; rfl)) ?_; (with_reducible refine (helmsmanref11_digit.calls (bt a0 x6_1) false _ A39.out).mono ?_); rintro e w' ⟨rfl, ⟨nd, rfl⟩⟩; refine ⟨_, rfl, ?_⟩))
                        (try simp only [Act.put, List.setIfInBounds_toArray, List.set_cons_zero, List.set_cons_succ])
                        go_cut [137] (fun v137 wc => ∃ (kq : Nat) (x137_65 : Bool), v137 = .bool x137_65 ∧ Aside0 (helmsmanref11_Lex.j5 kq a0 x5_1 x6_1 (bt a0 x6_1) (wrap64 (x6_1 + 1)) x137_65 = some (r1, r2, r3)) ∧ Aside0 (kq ≤ kj5) ∧ Aside0 (Kd.R k31 31 wc w.heap.size (fun _ => True) u5 x5_1) ∧ Aside0 (Below w.heap.size w wc))
                        case first =>
                          have H := HC66.out
                          clear HC66
                          by_cases c67 : (wrap64 (x6_1 + 2)) ≤ (a0.size : Int)
                          · rw [if_pos c67] at H
                            have c67b0 : decide ((wrap64 (x6_1 + 2)) ≤ (a0.size : Int)) = true := decide_eq_true c67
                            clear c67
                            (first | rw [c67b0] | (simp only [i64_w, i32_w]; rw [c67b0]) | skip)
                            by_cases c68 : 0 ≤ x6_1
                            · rw [if_pos c68] at H
                              have c68b0 := eq_true c68
                              have c68b1 : decide (0 ≤ x6_1) = true := decide_eq_true c68
                              clear c68
                              by_cases c69 : x6_1 ≤ (wrap64 (x6_1 + 2))
                              · rw [if_pos c69] at H
                                have c69b0 := eq_true c69
                                have c69b1 : decide (x6_1 ≤ (wrap64 (x6_1 + 2))) = true := decide_eq_true c69
                                have c70b0 := eq_true (of_decide_eq_true (by first | (with_reducible assumption) | assumption) : (wrap64 (x6_1 + 2)) ≤ (a0.size : Int))
                                replace H := Option.bind_eq_some_iff.mp H
                                obtain ⟨t174, A710, H⟩ := H
                                replace H : (helmsmanref11_Lex.j5 kj5 a0 x5_1 x6_1 (bt a0 x6_1) (wrap64 (x6_1 + 1)) t174) = some (r1, r2, r3) := H
                                have A71 := Aside0.mk A710
                                clear A710
                                have H' := Aside0.mk H
                                clear H
                                go_wp2_with (first | (go_at_call 20; (with_reducible refine (helmsmanref11_two.calls (a0.extract (x6_1 : Int).toNat ((wrap64 (x6_1 + 2)) : Int).toNat) t174 _ A71.out).mono ?_); rintro e w' ⟨rfl, ⟨nd, rfl⟩⟩))
                                go_meet
                                case rel => exact ⟨_, (t174), (by first | rfl | (simp; done) | (simp [*]; done)), H', ⟨by have := HK1.out; have := HJ5.out; first | omega | exact Nat.le_refl _⟩, ⟨by (with_reducible repeat (first | apply Kd.R_alloc | apply Kd.R_drewN | apply Kd.R_drew)); exact HO_5.out⟩, ⟨by repeat (first | (with_reducible first | exact HB.out | apply below_alloc | apply pw_below_drewN | apply below_drew1) | exact HB.out)⟩⟩
                              · rw [if_neg c69] at H
                                exact absurd H (by simp)
                            · rw [if_neg c68] at H
                              exact absurd H (by simp)
                          · rw [if_neg c67] at H
                            have c67b0 : decide ((wrap64 (x6_1 + 2)) ≤ (a0.size : Int)) = false := decide_eq_false c67
                            clear c67
                            (first | rw [c67b0] | (simp only [i64_w, i32_w]; rw [c67b0]) | skip)
                            have H' := Aside0.mk H
                            clear H
                            go_wp2
                            go_meet
                            case rel => exact ⟨_, (false), (by first | rfl | (simp; done) | (simp [*]; done)), H', ⟨by have := HK1.out; have := HJ5.out; first | omega | exact Nat.le_refl _⟩, ⟨by (with_reducible repeat (first | apply Kd.R_alloc | apply Kd.R_drewN | apply Kd.R_drew)); exact HO_5.out⟩, ⟨by repeat (first | (with_reducible first | exact HB.out | apply below_alloc | apply pw_below_drewN | apply below_drew1) | exact HB.out)⟩⟩
                        case rest =>
                          clear HC66
                          try clear c1
                          try clear p1
                          try clear q1
                          try clear hx1
                          try clear c2
                          try clear c2b0
                          try clear c2b1
                          try clear p2
                          try clear q2
                          try clear hx2
                          try clear c3
                          try clear c3b0
                          try clear c4
                          try clear c4b0
                          try clear p4
                          try clear q4
                          try clear hx4
                          try clear c5
                          try clear p5
                          try clear q5
                          try clear hx5
                          try clear c6
                          try clear p6
                          try clear c7
                          try clear c7b0
                          try clear c7b1
                          try clear c8
                          try clear c8b0
                          try clear c8b1
                          try clear c9
                          try clear c10
                          try clear c10b0
                          try clear c10b1
                          try clear c11
                          try clear c11b0
                          try clear c12
                          try clear c12b0
                          try clear p13
                          try clear q13
                          try clear hx13
                          try clear c14
                          try clear c14b0
                          try clear c14b1
                          try clear c16
                          try clear c17
                          try clear c17b0
                          try clear c18
                          try clear c18b0
                          try clear c19
                          try clear p19
                          try clear q19
                          try clear hx19
                          try clear c21
                          try clear p22
                          try clear q22
                          try clear hx22
                          try clear c24
                          try clear p25
                          try clear q25
                          try clear hx25
                          try clear c26
                          try clear c26b0
                          try clear c26b1
                          try clear c27
                          try clear c27b0
                          try clear c28
                          try clear c28b0
                          try clear c28b1
                          try clear c29
                          try clear c29b0
                          try clear c29b1
                          try clear c30
                          try clear c30b0
                          try clear c30b1
                          try clear c31
                          try clear c33
                          try clear c33b0
                          try clear c34
                          try clear c34b0
                          try clear c34b1
                          try clear c35
                          try clear c35b0
                          try clear c35b1
                          try clear c36
                          try clear c36b0
                          try clear c36b1
                          try clear c37
                          try clear c40
                          try clear c41
                          try clear c41b0
                          try clear c42
                          try clear c42b0
                          try clear p43
                          try clear q43
                          try clear hx43
                          try clear c45
                          try clear c46
                          try clear c46b0
                          try clear c46b1
                          try clear c47
                          try clear c47b0
                          try clear c47b1
                          try clear c48
                          try clear c48b0
                          try clear c48b1
                          try clear c50
                          try clear c51
                          try clear c51b0
                          try clear c52
                          try clear c52b0
                          try clear c53
                          try clear c53b0
                          try clear c54
                          try clear c56
                          try clear c56b0
                          try clear c56b1
                          try clear c57
                          try clear c57b0
                          try clear c57b1
                          try clear c58
                          try clear c58b0
                          try clear c58b1
                          try clear c60
                          try clear c61
                          try clear c61b0
                          try clear c62
                          try clear c62b0
                          try clear c63
                          try clear c63b0
                          try clear c64
                          try clear p64
                          try clear c67
                          try clear c67b0
                          try clear c68
                          try clear c68b0
                          try clear c68b1
                          try clear c69
                          try clear c69b0
                          try clear c69b1
                          try clear c70
                          try clear c70b0
                          try clear p1
                          try clear p13
                          try clear p19
                          try clear p2
                          try clear p22
                          try clear p25
                          try clear p43
                          try clear p5
                          try clear p6
                          try clear q1
                          try clear q13
                          try clear q19
                          try clear q2
                          try clear q22
                          try clear q25
                          try clear q43
                          try clear q5
                          obtain ⟨kq, x137_65, rfl, HA, HJ65, HO_5, HB⟩ := hcut
                          cases kq with
                          | zero => exact absurd HA.out (by simp [helmsmanref11_Lex.j5])
                          | succ kj65 =>
                            have H := HA.out
                            clear HA
                            simp only [helmsmanref11_Lex.j5] at H
                            by_cases c72 : x137_65 = true
                            · subst c72
                              have H1 : (if 0 ≤ x6_1 then (if x6_1 ≤ (wrap64 (x6_1 + 2)) then (if (wrap64 (x6_1 + 2)) ≤ (a0.size : Int) then (if x5_1.length < 3518437208883 then (helmsmanref11_Lex.l0 kj65 a0 (x5_1 ++ [(⟨2, a0.extract (x6_1 : Int).toNat ((wrap64 (x6_1 + 2)) : Int).toNat, 0, x6_1⟩ : S31)]) (wrap64 (x6_1 + 2))) else (none)) else (none)) else (none)) else (none)) = some (r1, r2, r3) := by rw [if_pos rfl] at H; exact H
                              clear H
                              have H := H1
                              clear H1
                              by_cases c73 : 0 ≤ x6_1
                              · rw [if_pos c73] at H
                                have c73b0 := eq_true c73
                                have c73b1 : decide (0 ≤ x6_1) = true := decide_eq_true c73
                                clear c73
                                by_cases c74 : x6_1 ≤ (wrap64 (x6_1 + 2))
                                · rw [if_pos c74] at H
                                  have c74b0 := eq_true c74
                                  have c74b1 : decide (x6_1 ≤ (wrap64 (x6_1 + 2))) = true := decide_eq_true c74
                                  by_cases c75 : (wrap64 (x6_1 + 2)) ≤ (a0.size : Int)
                                  · rw [if_pos c75] at H
                                    have c75b0 := eq_true c75
                                    have c75b1 : decide ((wrap64 (x6_1 + 2)) ≤ (a0.size : Int)) = true := decide_eq_true c75
                                    by_cases c76 : x5_1.length < 3518437208883
                                    · rw [if_pos c76] at H
                                      have LMc76 := Aside0.mk c76
                                      clear c76
                                      obtain ⟨y175, hy175⟩ : ∃ y_ : List (S31), y_ = (x5_1 ++ [(⟨2, a0.extract (x6_1 : Int).toNat ((wrap64 (x6_1 + 2)) : Int).toNat, 0, x6_1⟩ : S31)]) := ⟨_, rfl⟩
                                      replace H : (helmsmanref11_Lex.l0 kj65 a0 y175 (wrap64 (x6_1 + 2))) = some (r1, r2, r3) := by first | (rw [hy175]; with_reducible exact H) | (have H2_ := (Option.bind_some _ _).symm.trans H; rw [hy175]; with_reducible exact H2_) | (have H2_ := (Option.bind_some _ _).symm.trans H; with_reducible exact H2_) | with_reducible exact H | (rw [hy175]; exact H) | exact H
                                      have Ny175 := Aside0.mk hy175
                                      clear hy175
                                      have H' := Aside0.mk H
                                      clear H
                                      go_wp2_with (first | ((with_reducible refine gate_builtin (b := .append) (xs := #[.tmp 144, .tmp 151]) rfl ?_); at_builtin; refine Kd.R_append k31 (w0 := w) w.heap.size rfl (.tmp 144) (.tmp 151) 27 31 (.agg #[(.int .i64 0), (.string ⟨#[]⟩), (.int .i64 0), (.int .i64 0)]) 40 rfl Tryd.underlying27 info31 rfl (by decide) (by omega) u5 x5_1 (⟨2, a0.extract (x6_1 : Int).toNat ((wrap64 (x6_1 + 2)) : Int).toNat, 0, x6_1⟩ : S31) [.int .i64 2, .string (a0.extract (x6_1 : Int).toNat ((wrap64 (x6_1 + 2)) : Int).toNat), .int .i64 0, .int .i64 x6_1] (fun _ => True) (fun _ => False) rfl rfl ?aP (fun _ hk => hk.elim) ?aF ?aO ?aB ?aS ?aL ?_; (case aP => exact k31_mkM _ _ _ (⟨2, a0.extract (x6_1 : Int).toNat ((wrap64 (x6_1 + 2)) : Int).toNat, 0, x6_1⟩ : S31)); (case aB => exact (by repeat (first | (with_reducible first | exact HB.out | apply below_alloc | apply pw_below_drewN | apply below_drew1) | exact HB.out))); (case aF => exact (fun _ _ => trivial)); (case aO => exact (by (with_reducible repeat (first | apply Kd.R_alloc | apply Kd.R_drewN | apply Kd.R_drew)); exact HO_5.out)); (case aS => exact (below_size (by repeat (first | (with_reducible first | exact HB.out | apply below_alloc | apply pw_below_drewN | apply below_drew1) | exact HB.out)))); (case aL => have := LMc76.out; omega); intro v176 w77 ho hb hg hat; rw [← Ny175.out] at ho; have n0_ := Aside0.mk (hb); have n1_ := Aside0.mk (ho); clear HB; clear HO_5; have HB := n0_; have HO177 := n1_; clear n0_ n1_; clear ho hb hg hat))
                                      go_roundg kj65
                                      case measure => have := HK1.out; have := HJ5.out; have := HJ65.out; omega
                                      case rel => exact ⟨(y175), (wrap64 (x6_1 + 2)), (by first | rfl | (simp; done) | (simp [*]; done)), H', ⟨by have := HK1.out; have := HJ5.out; have := HJ65.out; omega⟩, ⟨by (with_reducible repeat (first | apply Kd.R_alloc | apply Kd.R_drewN | apply Kd.R_drew)); exact HO177.out⟩, ⟨by repeat (first | (with_reducible first | exact HB.out | apply below_alloc | apply pw_below_drewN | apply below_drew1) | exact HB.out)⟩⟩
                                    · rw [if_neg c76] at H
                                      exact absurd H (by simp)
                                  · rw [if_neg c75] at H
                                    exact absurd H (by simp)
                                · rw [if_neg c74] at H
                                  exact absurd H (by simp)
                              · rw [if_neg c73] at H
                                exact absurd H (by simp)
                            · replace c72 := Bool.eq_false_iff.mpr c72
                              subst c72
                              have H1 : ((helmsmanref11_one.f kj65 (bt a0 x6_1)).bind fun t178 => (if t178 = true then (if 0 ≤ x6_1 then (if x6_1 ≤ (wrap64 (x6_1 + 1)) then (if (wrap64 (x6_1 + 1)) ≤ (a0.size : Int) then (if x5_1.length < 3518437208883 then (helmsmanref11_Lex.l0 kj65 a0 (x5_1 ++ [(⟨2, a0.extract (x6_1 : Int).toNat ((wrap64 (x6_1 + 1)) : Int).toNat, 0, x6_1⟩ : S31)]) (wrap64 (x6_1 + 1))) else (none)) else (none)) else (none)) else (none)) else (some (([] : List (S31)), x6_1, 110)))) = some (r1, r2, r3) := by rw [if_neg (show ¬ (false = true) by decide)] at H; exact H
                              clear H
                              have H := H1
                              clear H1
                              replace H := Option.bind_eq_some_iff.mp H
                              obtain ⟨t178, A780, H⟩ := H
                              replace H : (if t178 = true then (if 0 ≤ x6_1 then (if x6_1 ≤ (wrap64 (x6_1 + 1)) then (if (wrap64 (x6_1 + 1)) ≤ (a0.size : Int) then (if x5_1.length < 3518437208883 then (helmsmanref11_Lex.l0 kj65 a0 (x5_1 ++ [(⟨2, a0.extract (x6_1 : Int).toNat ((wrap64 (x6_1 + 1)) : Int).toNat, 0, x6_1⟩ : S31)]) (wrap64 (x6_1 + 1))) else (none)) else (none)) else (none)) else (none)) else (some (([] : List (S31)), x6_1, 110))) = some (r1, r2, r3) := H
                              have A78 := Aside0.mk A780
                              clear A780
                              by_cases c79 : t178 = true
                              · subst c79
                                have H1 : (if 0 ≤ x6_1 then (if x6_1 ≤ (wrap64 (x6_1 + 1)) then (if (wrap64 (x6_1 + 1)) ≤ (a0.size : Int) then (if x5_1.length < 3518437208883 then (helmsmanref11_Lex.l0 kj65 a0 (x5_1 ++ [(⟨2, a0.extract (x6_1 : Int).toNat ((wrap64 (x6_1 + 1)) : Int).toNat, 0, x6_1⟩ : S31)]) (wrap64 (x6_1 + 1))) else (none)) else (none)) else (none)) else (none)) = some (r1, r2, r3) := by rw [if_pos rfl] at H; exact H
                                clear H
                                have H := H1
                                clear H1
                                by_cases c80 : 0 ≤ x6_1
                                · rw [if_pos c80] at H
                                  have c80b0 := eq_true c80
                                  have c80b1 : decide (0 ≤ x6_1) = true := decide_eq_true c80
                                  clear c80
                                  by_cases c81 : x6_1 ≤ (wrap64 (x6_1 + 1))
                                  · rw [if_pos c81] at H
                                    have c81b0 := eq_true c81
                                    have c81b1 : decide (x6_1 ≤ (wrap64 (x6_1 + 1))) = true := decide_eq_true c81
                                    by_cases c82 : (wrap64 (x6_1 + 1)) ≤ (a0.size : Int)
                                    · rw [if_pos c82] at H
                                      have c82b0 := eq_true c82
                                      have c82b1 : decide ((wrap64 (x6_1 + 1)) ≤ (a0.size : Int)) = true := decide_eq_true c82
                                      by_cases c83 : x5_1.length < 3518437208883
                                      · rw [if_pos c83] at H
                                        have LMc83 := Aside0.mk c83
                                        clear c83
                                        obtain ⟨y179, hy179⟩ : ∃ y_ : List (S31), y_ = (x5_1 ++ [(⟨2, a0.extract (x6_1 : Int).toNat ((wrap64 (x6_1 + 1)) : Int).toNat, 0, x6_1⟩ : S31)]) := ⟨_, rfl⟩
                                        replace H : (helmsmanref11_Lex.l0 kj65 a0 y179 (wrap64 (x6_1 + 1))) = some (r1, r2, r3) := by first | (rw [hy179]; with_reducible exact H) | (have H2_ := (Option.bind_some _ _).symm.trans H; rw [hy179]; with_reducible exact H2_) | (have H2_ := (Option.bind_some _ _).symm.trans H; with_reducible exact H2_) | with_reducible exact H | (rw [hy179]; exact H) | exact H
                                        have Ny179 := Aside0.mk hy179
                                        clear hy179
                                        have H' := Aside0.mk H
                                        clear H
                                        go_wp2_with (first | ((with_reducible refine gate_callee (f := 21) rfl ?_); refine goesL_ (some 141) rfl rfl Tryd.func21 (by kernel_rfl) rfl #[.int .u8 (bt a0 x6_1)] rfl (by (try simp only [List.map_toArray, List.map_cons, List.map_nil]); first | done | rfl | (simp only [List.length_drop, List.length_take]; rfl)) ?_; (with_reducible refine (helmsmanref11_one.calls kj65 (bt a0 x6_1) true _ A78.out).mono ?_); rintro e w' ⟨rfl, ⟨nd, rfl⟩⟩; refine ⟨_, rfl, ?_⟩) | ((with_reducible refine gate_builtin (b := .append) (xs := #[.tmp 144, .tmp 151]) rfl ?_); at_builtin; refine Kd.R_append k31 (w0 := w) w.heap.size rfl (.tmp 144) (.tmp 151) 27 31 (.agg #[(.int .i64 0), (.string ⟨#[]⟩), (.int .i64 0), (.int .i64 0)]) 40 rfl Tryd.underlying27 info31 rfl (by decide) (by omega) u5 x5_1 (⟨2, a0.extract (x6_1 : Int).toNat ((wrap64 (x6_1 + 1)) : Int).toNat, 0, x6_1⟩ : S31) [.int .i64 2, .string (a0.extract (x6_1 : Int).toNat ((wrap64 (x6_1 + 1)) : Int).toNat), .int .i64 0, .int .i64 x6_1] (fun _ => True) (fun _ => False) rfl rfl ?aP (fun _ hk => hk.elim) ?aF ?aO ?aB ?aS ?aL ?_; (case aP => exact k31_mkM _ _ _ (⟨2, a0.extract (x6_1 : Int).toNat ((wrap64 (x6_1 + 1)) : Int).toNat, 0, x6_1⟩ : S31)); (case aB => exact (by repeat (first | (with_reducible first | exact HB.out | apply below_alloc | apply pw_below_drewN | apply below_drew1) | exact HB.out))); (case aF => exact (fun _ _ => trivial)); (case aO => exact (by (with_reducible repeat (first | apply Kd.R_alloc | apply Kd.R_drewN | apply Kd.R_drew)); exact HO_5.out)); (case aS => exact (below_size (by repeat (first | (with_reducible first | exact HB.out | apply below_alloc | apply pw_below_drewN | apply below_drew1) | exact HB.out)))); (case aL => have := LMc83.out; omega); intro v180 w84 ho hb hg hat; rw [← Ny179.out] at ho; have n0_ := Aside0.mk (hb); have n1_ := Aside0.mk (ho); clear HB; clear HO_5; have HB := n0_; have HO181 := n1_; clear n0_ n1_; clear ho hb hg hat))
                                        go_roundg kj65
                                        case measure => have := HK1.out; have := HJ5.out; have := HJ65.out; omega
                                        case rel => exact ⟨(y179), ((wrap64 (x6_1 + 1))), (by first | rfl | (simp; done) | (simp [*]; done)), H', ⟨by have := HK1.out; have := HJ5.out; have := HJ65.out; omega⟩, ⟨by (with_reducible repeat (first | apply Kd.R_alloc | apply Kd.R_drewN | apply Kd.R_drew)); exact HO181.out⟩, ⟨by repeat (first | (with_reducible first | exact HB.out | apply below_alloc | apply pw_below_drewN | apply below_drew1) | exact HB.out)⟩⟩
                                      · rw [if_neg c83] at H
                                        exact absurd H (by simp)
                                    · rw [if_neg c82] at H
                                      exact absurd H (by simp)
                                  · rw [if_neg c81] at H
                                    exact absurd H (by simp)
                                · rw [if_neg c80] at H
                                  exact absurd H (by simp)
                              · replace c79 := Bool.eq_false_iff.mpr c79
                                subst c79
                                have H1 : (some (([] : List (S31)), x6_1, 110)) = some (r1, r2, r3) := by rw [if_neg (show ¬ (false = true) by decide)] at H; exact H
                                clear H
                                have H := H1
                                clear H1
                                simp only [Option.some.injEq, Prod.mk.injEq] at H
                                obtain ⟨rfl, rfl, rfl⟩ := H
                                go_wp2_with (first | ((with_reducible refine gate_callee (f := 21) rfl ?_); refine goesL_ (some 141) rfl rfl Tryd.func21 (by kernel_rfl) rfl #[.int .u8 (bt a0 x6_1)] rfl (by (try simp only [List.map_toArray, List.map_cons, List.map_nil]); first | done | rfl | (simp only [List.length_drop, List.length_take]; rfl)) ?_; (with_reducible refine (helmsmanref11_one.calls kj65 (bt a0 x6_1) false _ A78.out).mono ?_); rintro e w' ⟨rfl, ⟨nd, rfl⟩⟩; refine ⟨_, rfl, ?_⟩))
                                go_ret3
                                exact ⟨_, by first | rfl | (simp [errW_none, errW_some] <;> rfl) | (simp [*, errW_none, errW_some] <;> rfl), by first | exact Kd.R_nil _ _ _ _ _ | exact Kd.N_nil _ _ _ _ _ | exact Kd.V_nil _ _ _ _ _ | exact Kd.Q_nil _ _ _ _ _ | exact Kd.S_nil _ _ _ _ _, by repeat (first | (with_reducible first | exact HB.out | apply below_alloc | apply pw_below_drewN | apply below_drew1) | exact HB.out)⟩
          · rw [if_neg c4] at H
            exact absurd H (by simp)
        · rw [if_neg c3] at H
          have c3b0 : decide (x6_1 < (a0.size : Int)) = false := decide_eq_false c3
          clear c3
          simp only [Option.some.injEq, Prod.mk.injEq] at H
          obtain ⟨rfl, rfl, rfl⟩ := H
          go_wp2
          go_ret3
          exact ⟨_, by first | rfl | (simp [errW_none, errW_some] <;> rfl) | (simp [*, errW_none, errW_some] <;> rfl), by (with_reducible repeat (first | apply Kd.R_alloc | apply Kd.R_drewN | apply Kd.R_drew)); exact HO_5.out, by repeat (first | (with_reducible first | exact HB.out | apply below_alloc | apply pw_below_drewN | apply below_drew1) | exact HB.out)⟩

end Go.Proofs.YtlcbdgkkkljfnaaDoor.P
end

section
namespace Go.Proofs.YtlcbdgkkkljfnaaDoor.P
open Go.RowKit Go.Proofs.YtlcbdgkkkljfnaaDoorW.PrintWords Go.Proofs.YtlcbdgkkkljfnaaDoorW.PrintLast Go.Proofs.YtlcbdgkkkljfnaaDoorW.PrintMore
attribute [local go_sem low] cell_set_at
attribute [local go_sem] max2_int min2_int max_two min_two max_three min_three max_four min_four   -- for this text's walks alone
set_option linter.unusedVariables false
set_option linter.unusedSimpArgs false

theorem eqA32 (d : Nat) (w : World) (x0 y0 : Int) (x1 y1 : ByteArray) (x2 y2 : Int) (x3 y3 : Int) :
    (Op.equalIn (d + 2) 32 (.agg #[.int .i64 x0, .string x1, .int .i64 x2, .int .i64 x3]) (.agg #[.int .i64 y0, .string y1, .int .i64 y2, .int .i64 y3])).run Tryd.prog w = .ok (x0 == y0 && (x1.toList == y1.toList && (x2 == y2 && (x3 == y3)))) w := by
  refine eqA_of Tryd.underlying32 (by kernel_rfl) ?_
  refine eqf_cons (by rfl) (by go_simp; rfl) (by go_simp; rfl) (by go_simp) ?_
  refine eqf_cons (by rfl) (by go_simp; rfl) (by go_simp; rfl) (by go_simp) ?_
  refine eqf_cons (by rfl) (by go_simp; rfl) (by go_simp; rfl) (by go_simp) ?_
  exact eqf_last (by rfl) (by go_simp; rfl) (by go_simp; rfl) (by go_simp)
end Go.Proofs.YtlcbdgkkkljfnaaDoor.P
end

section
/- The walks of sign and token. -/
namespace Go.Proofs.YtlcbdgkkkljfnaaDoor.Lx
open Go Go.RowKit Go.Proofs
open Go.Proofs.YtlcbdgkkkljfnaaDoor.P (TabT)

theorem take_snoc {l : List (List UInt8)} {k : Nat} {x : List UInt8} (h : l[k]? = some x) : l.take (k + 1) = l.take k ++ [x] := by
  rw [List.take_add_one, h]; rfl
theorem fold_snoc (l : List UInt8) {k : Nat} {x : List UInt8} (h : signsL[k]? = some x) : (signsL.take (k + 1)).foldl (better l) [] = better l ((signsL.take k).foldl (better l) []) x := by
  rw [take_snoc h, List.foldl_append]; rfl
theorem ret_str {a b : ByteArray} (h : a = b) : Ending.returned (.string a) = .returned (.string b) := by rw [h]
theorem strOf_size (l : List UInt8) : (strOf l).size = l.length := by simp [strOf, ByteArray.size]

theorem sign_cell (w : World) {k : Nat} {x : List UInt8} (hx : signsL[k]? = some x) :
    (w.alloc (.cells (signsL.map fun l => Value.string ⟨l.toArray⟩).toArray 9)).cell? ⟨w.heap.size, k, none⟩ = some (.string (strOf x)) := by
  have h : ((signsL.map fun l => Value.string ⟨l.toArray⟩).toArray)[k]? = some (.string (strOf x)) := by simp [hx, strOf]
  exact (World.cell?_alloc_at _ _ _ _ rfl).trans h

set_option maxHeartbeats 1000000 in
theorem sign_any (s : ByteArray) (w : World) (hT : TabT w) :
    Calls Tryd.prog 31 #[.string s] w fun e w' => e = .returned (.string (strOf (signF s.data.toList))) ∧ Below w.heap.size w w' := by
  have hf := fields_call w hT
  clear hT
  have e0 : (⟨#[]⟩ : ByteArray) = strOf [] := rfl
  go_enter Tryd.func31, Tryd.ntmps31
  go_wp2_with (go_at_call 40; refine hf.mono ?_; rintro e w' ⟨rfl, rfl⟩)
  go_loopw [3, 5, 8] (fun best _ i wr => ∃ k : Nat, k ≤ 23 ∧ i = .int .i64 k ∧ best = .string (strOf ((signsL.take k).foldl (better s.data.toList) [])) ∧ wr = w.alloc (.cells (signsL.map fun l => Value.string ⟨l.toArray⟩).toArray 9)) (fun _ _ i _ => 23 - (intOf i).toNat)
  case atStart => exact ⟨0, by omega, rfl, rfl, rfl⟩
  case round =>
    obtain ⟨k, hk, rfl, rfl, rfl⟩ := hrel
    by_cases hlt : k < 23
    · obtain ⟨x, hx⟩ : ∃ x, signsL[k]? = some x := ⟨signsL[k]'hlt, List.getElem?_eq_getElem _⟩
      have hcell : (w.alloc (.cells (signsL.map fun l => Value.string ⟨l.toArray⟩).toArray 9)).cell? ⟨w.heap.size, k, none⟩ = some (.string (strOf x)) := by
        exact sign_cell w hx
      have hfs := fold_snoc s.data.toList hx
      have HX := Lib.hid hx
      have HFS := Lib.hid hfs
      clear hx hfs
      generalize hbst : (signsL.take k).foldl (better s.data.toList) [] = best at HFS
      have hsz := strOf_size best
      have hszx := strOf_size x
      by_cases hp : x.isPrefixOf s.data.toList = true
      · have HP : Hid (Lib.hasPrefix s.data.toList (strOf x).data.toList = true) := Lib.hid hp
        by_cases hl : best.length < x.length
        · have z : decide ((strOf best).size < (strOf x).size) = true := decide_eq_true (by omega)
          have z' : decide (((strOf best).size : Int) < ((strOf x).size : Int)) = true := decide_eq_true (by omega)
          have HB : Hid (x = (signsL.take (k + 1)).foldl (better s.data.toList) []) := Lib.hid (by rw [HFS.out]; unfold better; rw [if_pos ⟨hp, hl⟩])
          clear hp hl hsz hszx hbst
          go_wp2_with (go_at_call 41; refine (Tryd.strings_HasPrefix _ _ _).mono ?_; rw [HP.out]; rintro e w' ⟨rfl, rfl⟩)
          go_roundw
          case rel => exact ⟨k + 1, by omega, by go_num, by rw [← HB.out], trivial⟩
          case measure => simp [intOf]; omega
        · have z : decide ((strOf best).size < (strOf x).size) = false := decide_eq_false (by omega)
          have z' : decide (((strOf best).size : Int) < ((strOf x).size : Int)) = false := decide_eq_false (by omega)
          have HB : Hid (best = (signsL.take (k + 1)).foldl (better s.data.toList) []) := Lib.hid (by rw [HFS.out]; unfold better; rw [if_neg (fun h => hl h.2)])
          clear hp hl hsz hszx hbst
          go_wp2_with (go_at_call 41; refine (Tryd.strings_HasPrefix _ _ _).mono ?_; rw [HP.out]; rintro e w' ⟨rfl, rfl⟩)
          go_roundw
          case rel => exact ⟨k + 1, by omega, by go_num, by rw [← HB.out], trivial⟩
          case measure => simp [intOf]; omega
      · have HP : Hid (Lib.hasPrefix s.data.toList (strOf x).data.toList = false) := Lib.hid (by unfold Lib.hasPrefix; rw [strOf_list]; exact (Bool.not_eq_true _).mp hp)
        have HB : Hid (best = (signsL.take (k + 1)).foldl (better s.data.toList) []) := Lib.hid (by rw [HFS.out]; unfold better; rw [if_neg (fun h => hp h.1)])
        clear hp hsz hszx hbst
        go_wp2_with (go_at_call 41; refine (Tryd.strings_HasPrefix _ _ _).mono ?_; rw [HP.out]; rintro e w' ⟨rfl, rfl⟩)
        go_roundw
        case rel => exact ⟨k + 1, by omega, by go_num, by rw [← HB.out], trivial⟩
        case measure => simp [intOf]; omega
    · obtain rfl : k = 23 := by omega
      go_wp2
      go_ret
      exact ⟨ret_str rfl, (Below.refl _ w).alloc (Nat.le_refl _) _⟩
end Go.Proofs.YtlcbdgkkkljfnaaDoor.Lx
end

section
/- The contracts that are proved by hand, in the form in which the printed ones stand. -/
namespace Go.Proofs.YtlcbdgkkkljfnaaDoor.P
open Go Go.RowKit Go.Proofs Go.Proofs.YtlcbdgkkkljfnaaDoor.Lx
open Go.Proofs.YtlcbdgkkkljfnaaDoorW.PrintWords

theorem drawn_same {w w' : World} (h : w = w') : Drawn0 w w' := ⟨0, h ▸ rfl⟩
theorem drawn_same' {w w' : World} (h : w' = w) : Drawn0 w w' := ⟨0, h ▸ rfl⟩

def lexer_letter.f (a0 : Int) : Option Bool := if 0 ≤ a0 then some (letB a0.toNat) else none
theorem lexer_letter.calls (a0 : Int) (r : Bool) (w : World) (h : lexer_letter.f a0 = some r) :
    Calls Tryd.prog 27 #[.int .i32 a0] w fun e w' => e = .returned (.bool r) ∧ Drawn0 w w' := by
  unfold lexer_letter.f at h
  split at h
  · rename_i h0
    obtain rfl := Option.some.inj h
    obtain ⟨n, rfl⟩ : ∃ n : Nat, a0 = n := ⟨a0.toNat, by omega⟩
    exact (letter_any n w).mono fun _ _ ⟨he, hw⟩ => ⟨he, drawn_same hw⟩
  · cases h
def lexer_digit.f (a0 : Int) : Option Bool := if 0 ≤ a0 then some (digB a0.toNat) else none
theorem lexer_digit.calls (a0 : Int) (r : Bool) (w : World) (h : lexer_digit.f a0 = some r) :
    Calls Tryd.prog 29 #[.int .i32 a0] w fun e w' => e = .returned (.bool r) ∧ Drawn0 w w' := by
  unfold lexer_digit.f at h
  split at h
  · rename_i h0
    obtain rfl := Option.some.inj h
    obtain ⟨n, rfl⟩ : ∃ n : Nat, a0 = n := ⟨a0.toNat, by omega⟩
    exact (digit_any n w).mono fun _ _ ⟨he, hw⟩ => ⟨he, drawn_same hw⟩
  · cases h
def lexer_while_inner.f (a0 : ByteArray) : Option Int := some (wh (byB innB) a0.data.toList)
theorem lexer_while_inner.calls (a0 : ByteArray) (r : Int) (w : World) (h : lexer_while_inner.f a0 = some r) :
    Calls Tryd.prog 25 #[.string a0, .func (.func 28) #[] #[]] w fun e w' => e = .returned (.int .i64 r) ∧ Below w.heap.size w w' := by
  obtain rfl := Option.some.inj h
  exact while_inner a0 w
def lexer_while_digit.f (a0 : ByteArray) : Option Int := some (wh (byB digB) a0.data.toList)
theorem lexer_while_digit.calls (a0 : ByteArray) (r : Int) (w : World) (h : lexer_while_digit.f a0 = some r) :
    Calls Tryd.prog 25 #[.string a0, .func (.func 29) #[] #[]] w fun e w' => e = .returned (.int .i64 r) ∧ Below w.heap.size w w' := by
  obtain rfl := Option.some.inj h
  exact while_digit a0 w
def lexer_nothing.f (a0 : ByteArray) : Option Int := if a0.size ≤ 140737488355328 then some (skip false a0.data.toList) else none
theorem lexer_nothing.calls (a0 : ByteArray) (r : Int) (w : World) (h : lexer_nothing.f a0 = some r) :
    Calls Tryd.prog 15 #[.string a0] w fun e w' => e = .returned (.int .i64 r) ∧ Below w.heap.size w w' := by
  unfold lexer_nothing.f at h
  split at h
  · rename_i h0
    obtain rfl := Option.some.inj h
    exact nothing_any a0 w h0
  · cases h
def lexer_number.f (a0 : ByteArray) : Option (Int × Int) := if a0.data.toList.all (byB digB) = true then some (numF a0.data.toList) else none
theorem lexer_number.calls (a0 : ByteArray) (r1 : Int) (r2 : Int) (w : World) (h : lexer_number.f a0 = some (r1, r2)) :
    Calls Tryd.prog 30 #[.string a0] w fun e w' => e = .returned (.tuple #[.int .i64 r1, .int .i64 r2]) ∧ Below w.heap.size w w' := by
  unfold lexer_number.f at h
  split at h
  · rename_i h0
    have h1 := Option.some.inj h
    refine (number_any a0 w ?_).mono ?_
    · intro i hi
      have := List.all_eq_true.mp h0 (a0[i]'hi) (by
        have : a0.data.toList[i]? = some (a0[i]'hi) := by rw [List.getElem?_eq_getElem (by simpa using hi)]; rfl
        exact List.mem_of_getElem? this)
      unfold byB digB at this
      simpa using this
    · rintro e w' ⟨he, hb⟩
      rw [h1] at he
      exact ⟨he, hb⟩
  · cases h
def lexer_sign.f (a0 : ByteArray) : Option ByteArray := some (strOf (signF a0.data.toList))
theorem lexer_sign.calls (a0 : ByteArray) (r : ByteArray) (w : World) (hT : TabT w) (h : lexer_sign.f a0 = some r) :
    Calls Tryd.prog 31 #[.string a0] w fun e w' => e = .returned (.string r) ∧ Below w.heap.size w w' := by
  obtain rfl := Option.some.inj h
  exact sign_any a0 w hT

theorem spot_none {w : World} {b o : Nat} {f : Option Nat} {v : Value} (h : w.cell? (Addr.add ⟨b, o, f⟩ 0) = some v) : f = none ∧ b < w.heap.size := by
  simp only [Addr.add, if_true, World.cell?] at h
  split at h
  · rename_i hc
    split at h
    · cases h
    · rename_i hs
      refine ⟨by cases f <;> simp_all, (Array.getElem?_eq_some_iff.1 hc).1⟩
  · cases h
theorem add_none (b o j : Nat) : Addr.add ⟨b, o, none⟩ j = ⟨b, o + j, none⟩ := by
  unfold Addr.add
  split
  · rename_i h; subst h; rfl
  · rfl

def joinF (l : List ByteArray) (s : ByteArray) : List UInt8 := Lib.join (l.map (·.data.toList)) s.data.toList
def strings_Join.f (l0 : List ByteArray) (a1 : ByteArray) : Option ByteArray :=
  if (joinF l0 a1).length ≤ 140737488355328 ∧ l0.length ≤ 140737488355328 then some (strOf (joinF l0 a1)) else none
theorem strings_Join.calls (A0 : Option Addr) (c0 : Nat) (l0 : List ByteArray) (a1 : ByteArray) (r : ByteArray) (w : World) (hr0 : Kd.C Kd.string w A0 l0.length l0) (hc0 : l0.length ≤ c0) (h : strings_Join.f l0 a1 = some r) :
    Calls Tryd.prog 22 #[.slice A0 l0.length c0, .string a1] w fun e w' => e = .returned (.string r) ∧ Below w.heap.size w w' := by
  unfold strings_Join.f at h
  split at h
  · rename_i hl
    obtain ⟨hl, hn⟩ := hl
    obtain rfl := Option.some.inj h
    cases l0 with
    | nil => exact (Tryd.strings_Join_none A0 c0 a1 w).mono fun _ _ ⟨he, hw⟩ => ⟨he, hw ▸ Below.refl _ _⟩
    | cons x xs =>
      obtain ⟨ad, hA, hcells⟩ := hr0.2.2 (by simp)
      subst hA
      have hget : ∀ (j : Nat) y, (x :: xs)[j]? = some y → w.cell? (ad.add j) = some (.string y) := by
        intro j y hj
        obtain ⟨c, _, hK, hc⟩ := hcells j y hj
        obtain rfl : c = [.string y] := hK
        have := hc 0 _ rfl
        simpa [Kd.string, Kd.scalar] using this
      obtain ⟨b, o, f⟩ := ad
      have h0 := hget 0 x rfl
      obtain ⟨rfl, hb⟩ := spot_none h0
      refine Tryd.strings_Join b o c0 (x :: xs) a1 w (fun j y hj => ?_) hb hn hc0 hl
      have := hget j y hj
      rw [add_none] at this
      exact this
  · cases h
def strings_Count.f (a0 a1 : ByteArray) : Option Int :=
  match a1 with
  | ⟨⟨[c]⟩⟩ => some (Lib.countByte a0.data.toList c)
  | _ => none
theorem strings_Count.calls (a0 : ByteArray) (a1 : ByteArray) (r : Int) (w : World) (h : strings_Count.f a0 a1 = some r) :
    Calls Tryd.prog 23 #[.string a0, .string a1] w fun e w' => e = .returned (.int .i64 r) ∧ Drawn0 w w' := by
  unfold strings_Count.f at h
  split at h
  · obtain rfl := Option.some.inj h
    exact (Tryd.strings_Count_one a0 _ w).mono fun _ _ ⟨he, hw⟩ => ⟨he, drawn_same' hw⟩
  · cases h
def strings_LastIndex.f (a0 a1 : ByteArray) : Option Int := if a0.size < 4611686018427387904 then some (Lib.lastIndex a0.data.toList a1.data.toList) else none
theorem strings_LastIndex.calls (a0 : ByteArray) (a1 : ByteArray) (r : Int) (w : World) (h : strings_LastIndex.f a0 a1 = some r) :
    Calls Tryd.prog 24 #[.string a0, .string a1] w fun e w' => e = .returned (.int .i64 r) ∧ Drawn0 w w' := by
  unfold strings_LastIndex.f at h
  split at h
  · rename_i h0
    obtain rfl := Option.some.inj h
    exact (Tryd.strings_LastIndex a0 a1 h0 w).mono fun _ _ ⟨he, hw⟩ => ⟨he, drawn_same' hw⟩
  · cases h
end Go.Proofs.YtlcbdgkkkljfnaaDoor.P
end

section
namespace Go.Proofs.YtlcbdgkkkljfnaaDoor.P
open Go.RowKit Go.Proofs.YtlcbdgkkkljfnaaDoorW.PrintWords Go.Proofs.YtlcbdgkkkljfnaaDoorW.PrintLast Go.Proofs.YtlcbdgkkkljfnaaDoorW.PrintMore
attribute [local go_sem low] cell_set_at
attribute [local go_sem] max2_int min2_int max_two min_two max_three min_three max_four min_four   -- for this text's walks alone
set_option linter.unusedVariables false
set_option linter.unusedSimpArgs false

/-! ### lexer_token: function 16 -/
def lexer_token.f (a0 : ByteArray) : Option (Int × ByteArray × Int × Int × Int) := if 0 < (a0.size : Int) then ((lexer_letter.f (wrap32 (bt a0 0))).bind fun t102 => (if t102 = true then ((lexer_while_inner.f a0).bind fun t103 => (if t103 > 16 then (some (0, (⟨#[]⟩ : ByteArray), 0, 0, 111)) else (if 0 ≤ t103 then (if t103 ≤ (a0.size : Int) then (some (0, a0.extract 0 (t103 : Int).toNat, 0, 0, 0)) else (none)) else (none)))) else ((lexer_digit.f (wrap32 (bt a0 0))).bind fun t104 => (if t104 = true then ((lexer_while_digit.f a0).bind fun t105 => (if 0 ≤ t105 then (if t105 ≤ (a0.size : Int) then ((lexer_number.f (a0.extract 0 (t105 : Int).toNat)).bind fun bt106 => (some (1, a0.extract 0 (t105 : Int).toNat, bt106.1, 0, bt106.2))) else (none)) else (none))) else ((lexer_sign.f a0).bind fun t108 => (if t108.toList = ([] : List UInt8) then (some (0, (⟨#[]⟩ : ByteArray), 0, 0, 110)) else (some (2, t108, 0, 0, 0)))))))) else (none)
set_option maxHeartbeats 8000000 in
set_option maxRecDepth 100000 in
theorem lexer_token.calls (a0 : ByteArray) (r1 : Int) (r2 : ByteArray) (r3 : Int) (r4 : Int) (r5 : Int) (w : World) (hT : TabT w) (h : lexer_token.f a0 = some (r1, r2, r3, r4, r5)) :
    Calls Tryd.prog 16 #[.string a0] w fun e w' => e = .returned (.tuple #[.agg #[.int .i64 r1, .string r2, .int .i64 r3, .int .i64 r4], .int .i64 r5]) ∧ Below w.heap.size w w' := by
  have hu32 := Tryd.underlying32
  have HB := Aside0.mk (Below.refl w.heap.size w)
  have H : (if 0 < (a0.size : Int) then ((lexer_letter.f (wrap32 (bt a0 0))).bind fun t102 => (if t102 = true then ((lexer_while_inner.f a0).bind fun t103 => (if t103 > 16 then (some (0, (⟨#[]⟩ : ByteArray), 0, 0, 111)) else (if 0 ≤ t103 then (if t103 ≤ (a0.size : Int) then (some (0, a0.extract 0 (t103 : Int).toNat, 0, 0, 0)) else (none)) else (none)))) else ((lexer_digit.f (wrap32 (bt a0 0))).bind fun t104 => (if t104 = true then ((lexer_while_digit.f a0).bind fun t105 => (if 0 ≤ t105 then (if t105 ≤ (a0.size : Int) then ((lexer_number.f (a0.extract 0 (t105 : Int).toNat)).bind fun bt106 => (some (1, a0.extract 0 (t105 : Int).toNat, bt106.1, 0, bt106.2))) else (none)) else (none))) else ((lexer_sign.f a0).bind fun t108 => (if t108.toList = ([] : List UInt8) then (some (0, (⟨#[]⟩ : ByteArray), 0, 0, 110)) else (some (2, t108, 0, 0, 0)))))))) else (none)) = some (r1, r2, r3, r4, r5) := h
  clear h
  by_cases c2 : 0 < (a0.size : Int)
  · rw [if_pos c2] at H
    have c2b0 : decide (0 < (a0.size : Int)) = true := decide_eq_true c2
    have c2b1 : decide (0 < a0.size) = true := decide_eq_true (by omega)
    clear c2
    replace H := Option.bind_eq_some_iff.mp H
    obtain ⟨t102, A40, H⟩ := H
    replace H : (if t102 = true then ((lexer_while_inner.f a0).bind fun t103 => (if t103 > 16 then (some (0, (⟨#[]⟩ : ByteArray), 0, 0, 111)) else (if 0 ≤ t103 then (if t103 ≤ (a0.size : Int) then (some (0, a0.extract 0 (t103 : Int).toNat, 0, 0, 0)) else (none)) else (none)))) else ((lexer_digit.f (wrap32 (bt a0 0))).bind fun t104 => (if t104 = true then ((lexer_while_digit.f a0).bind fun t105 => (if 0 ≤ t105 then (if t105 ≤ (a0.size : Int) then ((lexer_number.f (a0.extract 0 (t105 : Int).toNat)).bind fun bt106 => (some (1, a0.extract 0 (t105 : Int).toNat, bt106.1, 0, bt106.2))) else (none)) else (none))) else ((lexer_sign.f a0).bind fun t108 => (if t108.toList = ([] : List UInt8) then (some (0, (⟨#[]⟩ : ByteArray), 0, 0, 110)) else (some (2, t108, 0, 0, 0))))))) = some (r1, r2, r3, r4, r5) := H
    have A4 := Aside0.mk A40
    clear A40
    by_cases c5 : t102 = true
    · subst c5
      have H1 : ((lexer_while_inner.f a0).bind fun t103 => (if t103 > 16 then (some (0, (⟨#[]⟩ : ByteArray), 0, 0, 111)) else (if 0 ≤ t103 then (if t103 ≤ (a0.size : Int) then (some (0, a0.extract 0 (t103 : Int).toNat, 0, 0, 0)) else (none)) else (none)))) = some (r1, r2, r3, r4, r5) := by rw [if_pos rfl] at H; exact H
      clear H
      have H := H1
      clear H1
      replace H := Option.bind_eq_some_iff.mp H
      obtain ⟨t103, A60, H⟩ := H
      replace H : (if t103 > 16 then (some (0, (⟨#[]⟩ : ByteArray), 0, 0, 111)) else (if 0 ≤ t103 then (if t103 ≤ (a0.size : Int) then (some (0, a0.extract 0 (t103 : Int).toNat, 0, 0, 0)) else (none)) else (none))) = some (r1, r2, r3, r4, r5) := H
      have A6 := Aside0.mk A60
      clear A60
      by_cases c7 : t103 > 16
      · rw [if_pos c7] at H
        have c7b0 : decide (16 < t103) = true := decide_eq_true c7
        clear c7
        simp only [Option.some.injEq, Prod.mk.injEq] at H
        obtain ⟨rfl, rfl, rfl, rfl, rfl⟩ := H
        go_enter Tryd.func16, Tryd.ntmps16
        go_wp2_with (first | ((with_reducible refine gate_dst (N := 2) rfl ?_); refine box_event ?hg (N := 2) ?hd (cs := #[.int .i64 0, .string (⟨#[]⟩ : ByteArray), .int .i64 0, .int .i64 0]) (t := 32) ?hr ?_; (case hd => rfl); (case hg => rfl); (case hr => first | (go_simp; done) | (go_simp; rfl)); intro gb101 hg w8 hbox hb; have n0_ := Aside0.mk (below_step (by repeat (first | (with_reducible first | exact HB.out | apply below_alloc | apply pw_below_drewN | apply below_drew1) | exact HB.out)) hb); have n1_ := Aside0.mk (hbox); have n2_ := Aside0.mk ((by rw [hg]; exact (below_size (by repeat (first | (with_reducible first | exact HB.out | apply below_alloc | apply pw_below_drewN | apply below_drew1) | exact HB.out))) : w.heap.size ≤ gb101)); have n3_ := Aside0.mk ((by rw [hg]; exact (below_size (by repeat (first | (with_reducible first | exact HB.out | apply below_alloc | apply pw_below_drewN | apply below_drew1) | exact HB.out))) : w.heap.size ≤ gb101)); clear HB; have HB := n0_; have BK101 := n1_; have GW101 := n2_; have GE101 := n3_; clear n0_ n1_ n2_ n3_; clear hb hbox hg; have p3 : 0 ≤ (0 : Int) := (by omega); have q3 : 0 < a0.size := (by have : (0 : Int) < (a0.size : Int) := of_decide_eq_true (by first | (with_reducible assumption) | assumption); omega); have hx3 : ∀ h : 0 < a0.size, ((a0[0]'h).toNat : Int) = bt a0 0 := bt_at a0 0; clear p3; have qi3 : (0 < (a0.size : Int)) = True := eq_true (of_decide_eq_true (by first | (with_reducible assumption) | assumption)); replace q3 := eq_true q3) | ((with_reducible refine gate_callee (f := 27) rfl ?_); refine goesL_ (some 15) rfl rfl Tryd.func27 (by kernel_rfl) rfl #[.int .i32 (wrap32 (bt a0 0))] rfl (by (try simp only [List.map_toArray, List.map_cons, List.map_nil]); first | done | rfl | (simp only [List.length_drop, List.length_take]; rfl)) ?_; (with_reducible refine (lexer_letter.calls (wrap32 (bt a0 0)) true _ A4.out).mono ?_); rintro e w' ⟨rfl, ⟨nd, rfl⟩⟩; refine ⟨_, rfl, ?_⟩; (try (rw [drewN_self w8]; generalize hq_ : World.drewN w8 _ = w8; have n0_ : Aside0 (w8.heap[gb101]? = some (.cells #[.int .i64 0, .string (⟨#[]⟩ : ByteArray), .int .i64 0, .int .i64 0] 32 (0, 0))) := ⟨by rw [← hq_]; exact (by (with_reducible repeat (first | refine blk_drewN ?_ _ | refine blk_drew ?_ | refine blk_alloc ?_ _)); exact BK101.out)⟩; have n1_ : Aside0 (Below w.heap.size w w8) := ⟨by rw [← hq_]; exact (by repeat (first | (with_reducible first | exact HB.out | apply below_alloc | apply pw_below_drewN | apply below_drew1 | refine below_set ?_ GE101.out) | exact HB.out))⟩; clear BK101 HB hq_; have BK101 := n0_; have HB := n1_; clear n0_ n1_))) | ((with_reducible refine gate_callee (f := 25) rfl ?_); refine goesL_ (some 17) rfl rfl Tryd.func25 (by kernel_rfl) rfl #[.string a0, .func (.func 28) #[] #[]] rfl (by (try simp only [List.map_toArray, List.map_cons, List.map_nil]); first | done | rfl | (simp only [List.length_drop, List.length_take]; rfl)) ?_; (with_reducible refine (lexer_while_inner.calls a0 t103 _ A6.out).mono ?_); rintro e w9 ⟨rfl, hb⟩; refine ⟨_, rfl, ?_⟩; have n0_ := Aside0.mk (blk_below (g := gb101) (o := .cells #[.int .i64 0, .string (⟨#[]⟩ : ByteArray), .int .i64 0, .int .i64 0] 32 (0, 0)) (by (with_reducible repeat (first | refine blk_drewN ?_ _ | refine blk_drew ?_ | refine blk_alloc ?_ _)); exact BK101.out) hb); have n1_ := Aside0.mk (below_step (by repeat (first | (with_reducible first | exact HB.out | apply below_alloc | apply pw_below_drewN | apply below_drew1 | refine below_set ?_ GE101.out) | exact HB.out)) hb); clear BK101; clear HB; have BK101 := n0_; have HB := n1_; clear n0_ n1_; (try clear hb); (try clear hb2); (try clear hk); (try clear hi); have hcz10_0 : w9.cell? ⟨gb101, 0, none⟩ = some (.int .i64 0) := (blk_cell BK101.out 0).trans rfl; have hcz10_1 : w9.cell? ⟨gb101, 1, none⟩ = some (.string (⟨#[]⟩ : ByteArray)) := (blk_cell BK101.out 1).trans rfl; have hcz10_2 : w9.cell? ⟨gb101, 2, none⟩ = some (.int .i64 0) := (blk_cell BK101.out 2).trans rfl; have hcz10_3 : w9.cell? ⟨gb101, 3, none⟩ = some (.int .i64 0) := (blk_cell BK101.out 3).trans rfl; have hfz10_0 := blk_frozen BK101.out 0; have hfz10_1 := blk_frozen BK101.out 1; have hfz10_2 := blk_frozen BK101.out 2; have hfz10_3 := blk_frozen BK101.out 3))
        refine bodyPost_ret (results_ct rfl _ _ gb101 32 #[.int .i64 0, .string (⟨#[]⟩ : ByteArray), .int .i64 0, .int .i64 0] (0, 0) _ rfl (by (with_reducible repeat (first | refine blk_drewN ?_ _ | refine blk_drew ?_ | refine blk_alloc ?_ _)); refine blk_put (cs := #[.int .i64 0, .string (⟨#[]⟩ : ByteArray), .int .i64 0, .int .i64 0]) ?_ 3 _ rfl; (with_reducible repeat (first | refine blk_drewN ?_ _ | refine blk_drew ?_ | refine blk_alloc ?_ _)); refine blk_put (cs := #[.int .i64 0, .string (⟨#[]⟩ : ByteArray), .int .i64 0, .int .i64 0]) ?_ 2 _ rfl; (with_reducible repeat (first | refine blk_drewN ?_ _ | refine blk_drew ?_ | refine blk_alloc ?_ _)); refine blk_put (cs := #[.int .i64 0, .string (⟨#[]⟩ : ByteArray), .int .i64 0, .int .i64 0]) ?_ 1 _ rfl; (with_reducible repeat (first | refine blk_drewN ?_ _ | refine blk_drew ?_ | refine blk_alloc ?_ _)); refine blk_put (cs := #[.int .i64 0, .string (⟨#[]⟩ : ByteArray), .int .i64 0, .int .i64 0]) ?_ 0 _ rfl; (with_reducible repeat (first | refine blk_drewN ?_ _ | refine blk_drew ?_ | refine blk_alloc ?_ _)); exact BK101.out) Tryd.underlying32 rfl (by kernel_rfl)) rfl ?_
        exact ⟨by first | rfl | (simp [errW_none, errW_some] <;> rfl) | (simp [*, errW_none, errW_some] <;> rfl), by repeat (first | (with_reducible first | exact HB.out | apply below_alloc | apply pw_below_drewN | apply below_drew1 | refine below_set ?_ GE101.out) | exact HB.out)⟩
      · rw [if_neg c7] at H
        have c7b0 : decide (16 < t103) = false := decide_eq_false c7
        clear c7
        by_cases c11 : 0 ≤ t103
        · rw [if_pos c11] at H
          have c11b0 := eq_true c11
          have c11b1 : decide (0 ≤ t103) = true := decide_eq_true c11
          clear c11
          by_cases c12 : t103 ≤ (a0.size : Int)
          · rw [if_pos c12] at H
            have c12b0 := eq_true c12
            have c12b1 : decide (t103 ≤ (a0.size : Int)) = true := decide_eq_true c12
            clear c12
            simp only [Option.some.injEq, Prod.mk.injEq] at H
            obtain ⟨rfl, rfl, rfl, rfl, rfl⟩ := H
            go_enter Tryd.func16, Tryd.ntmps16
            go_wp2_with (first | ((with_reducible refine gate_dst (N := 2) rfl ?_); refine box_event ?hg (N := 2) ?hd (cs := #[.int .i64 0, .string (⟨#[]⟩ : ByteArray), .int .i64 0, .int .i64 0]) (t := 32) ?hr ?_; (case hd => rfl); (case hg => rfl); (case hr => first | (go_simp; done) | (go_simp; rfl)); intro gb101 hg w13 hbox hb; have n0_ := Aside0.mk (below_step (by repeat (first | (with_reducible first | exact HB.out | apply below_alloc | apply pw_below_drewN | apply below_drew1) | exact HB.out)) hb); have n1_ := Aside0.mk (hbox); have n2_ := Aside0.mk ((by rw [hg]; exact (below_size (by repeat (first | (with_reducible first | exact HB.out | apply below_alloc | apply pw_below_drewN | apply below_drew1) | exact HB.out))) : w.heap.size ≤ gb101)); have n3_ := Aside0.mk ((by rw [hg]; exact (below_size (by repeat (first | (with_reducible first | exact HB.out | apply below_alloc | apply pw_below_drewN | apply below_drew1) | exact HB.out))) : w.heap.size ≤ gb101)); clear HB; have HB := n0_; have BK101 := n1_; have GW101 := n2_; have GE101 := n3_; clear n0_ n1_ n2_ n3_; clear hb hbox hg; have p3 : 0 ≤ (0 : Int) := (by omega); have q3 : 0 < a0.size := (by have : (0 : Int) < (a0.size : Int) := of_decide_eq_true (by first | (with_reducible assumption) | assumption); omega); have hx3 : ∀ h : 0 < a0.size, ((a0[0]'h).toNat : Int) = bt a0 0 := bt_at a0 0; clear p3; have qi3 : (0 < (a0.size : Int)) = True := eq_true (of_decide_eq_true (by first | (with_reducible assumption) | assumption)); replace q3 := eq_true q3) | ((with_reducible refine gate_callee (f := 27) rfl ?_); refine goesL_ (some 15) rfl rfl Tryd.func27 (by kernel_rfl) rfl #[.int .i32 (wrap32 (bt a0 0))] rfl (by (try simp only [List.map_toArray, List.map_cons, List.map_nil]); first | done | rfl | (simp only [List.length_drop, List.length_take]; rfl)) ?_; (with_reducible refine (lexer_letter.calls (wrap32 (bt a0 0)) true _ A4.out).mono ?_); rintro e w' ⟨rfl, ⟨nd, rfl⟩⟩; refine ⟨_, rfl, ?_⟩; (try (rw [drewN_self w13]; generalize hq_ : World.drewN w13 _ = w13; have n0_ : Aside0 (w13.heap[gb101]? = some (.cells #[.int .i64 0, .string (⟨#[]⟩ : ByteArray), .int .i64 0, .int .i64 0] 32 (0, 0))) := ⟨by rw [← hq_]; exact (by (with_reducible repeat (first | refine blk_drewN ?_ _ | refine blk_drew ?_ | refine blk_alloc ?_ _)); exact BK101.out)⟩; have n1_ : Aside0 (Below w.heap.size w w13) := ⟨by rw [← hq_]; exact (by repeat (first | (with_reducible first | exact HB.out | apply below_alloc | apply pw_below_drewN | apply below_drew1 | refine below_set ?_ GE101.out) | exact HB.out))⟩; clear BK101 HB hq_; have BK101 := n0_; have HB := n1_; clear n0_ n1_))) | ((with_reducible refine gate_callee (f := 25) rfl ?_); refine goesL_ (some 17) rfl rfl Tryd.func25 (by kernel_rfl) rfl #[.string a0, .func (.func 28) #[] #[]] rfl (by (try simp only [List.map_toArray, List.map_cons, List.map_nil]); first | done | rfl | (simp only [List.length_drop, List.length_take]; rfl)) ?_; (with_reducible refine (lexer_while_inner.calls a0 t103 _ A6.out).mono ?_); rintro e w14 ⟨rfl, hb⟩; refine ⟨_, rfl, ?_⟩; have n0_ := Aside0.mk (blk_below (g := gb101) (o := .cells #[.int .i64 0, .string (⟨#[]⟩ : ByteArray), .int .i64 0, .int .i64 0] 32 (0, 0)) (by (with_reducible repeat (first | refine blk_drewN ?_ _ | refine blk_drew ?_ | refine blk_alloc ?_ _)); exact BK101.out) hb); have n1_ := Aside0.mk (below_step (by repeat (first | (with_reducible first | exact HB.out | apply below_alloc | apply pw_below_drewN | apply below_drew1 | refine below_set ?_ GE101.out) | exact HB.out)) hb); clear BK101; clear HB; have BK101 := n0_; have HB := n1_; clear n0_ n1_; (try clear hb); (try clear hb2); (try clear hk); (try clear hi); have hcz15_0 : w14.cell? ⟨gb101, 0, none⟩ = some (.int .i64 0) := (blk_cell BK101.out 0).trans rfl; have hcz15_1 : w14.cell? ⟨gb101, 1, none⟩ = some (.string (⟨#[]⟩ : ByteArray)) := (blk_cell BK101.out 1).trans rfl; have hcz15_2 : w14.cell? ⟨gb101, 2, none⟩ = some (.int .i64 0) := (blk_cell BK101.out 2).trans rfl; have hcz15_3 : w14.cell? ⟨gb101, 3, none⟩ = some (.int .i64 0) := (blk_cell BK101.out 3).trans rfl; have hfz15_0 := blk_frozen BK101.out 0; have hfz15_1 := blk_frozen BK101.out 1; have hfz15_2 := blk_frozen BK101.out 2; have hfz15_3 := blk_frozen BK101.out 3))
            refine bodyPost_ret (results_ct rfl _ _ gb101 32 #[.int .i64 0, .string (a0.extract 0 (t103 : Int).toNat), .int .i64 0, .int .i64 0] (0, 0) _ rfl (by (with_reducible repeat (first | refine blk_drewN ?_ _ | refine blk_drew ?_ | refine blk_alloc ?_ _)); refine blk_put (cs := #[.int .i64 0, .string (a0.extract 0 (t103 : Int).toNat), .int .i64 0, .int .i64 0]) ?_ 3 _ rfl; (with_reducible repeat (first | refine blk_drewN ?_ _ | refine blk_drew ?_ | refine blk_alloc ?_ _)); refine blk_put (cs := #[.int .i64 0, .string (a0.extract 0 (t103 : Int).toNat), .int .i64 0, .int .i64 0]) ?_ 2 _ rfl; (with_reducible repeat (first | refine blk_drewN ?_ _ | refine blk_drew ?_ | refine blk_alloc ?_ _)); refine blk_put (cs := #[.int .i64 0, .string (⟨#[]⟩ : ByteArray), .int .i64 0, .int .i64 0]) ?_ 1 _ rfl; (with_reducible repeat (first | refine blk_drewN ?_ _ | refine blk_drew ?_ | refine blk_alloc ?_ _)); refine blk_put (cs := #[.int .i64 0, .string (⟨#[]⟩ : ByteArray), .int .i64 0, .int .i64 0]) ?_ 0 _ rfl; (with_reducible repeat (first | refine blk_drewN ?_ _ | refine blk_drew ?_ | refine blk_alloc ?_ _)); exact BK101.out) Tryd.underlying32 rfl (by kernel_rfl)) rfl ?_
            exact ⟨by first | rfl | (simp [errW_none, errW_some] <;> rfl) | (simp [*, errW_none, errW_some] <;> rfl), by repeat (first | (with_reducible first | exact HB.out | apply below_alloc | apply pw_below_drewN | apply below_drew1 | refine below_set ?_ GE101.out) | exact HB.out)⟩
          · rw [if_neg c12] at H
            exact absurd H (by simp)
        · rw [if_neg c11] at H
          exact absurd H (by simp)
    · replace c5 := Bool.eq_false_iff.mpr c5
      subst c5
      have H1 : ((lexer_digit.f (wrap32 (bt a0 0))).bind fun t104 => (if t104 = true then ((lexer_while_digit.f a0).bind fun t105 => (if 0 ≤ t105 then (if t105 ≤ (a0.size : Int) then ((lexer_number.f (a0.extract 0 (t105 : Int).toNat)).bind fun bt106 => (some (1, a0.extract 0 (t105 : Int).toNat, bt106.1, 0, bt106.2))) else (none)) else (none))) else ((lexer_sign.f a0).bind fun t108 => (if t108.toList = ([] : List UInt8) then (some (0, (⟨#[]⟩ : ByteArray), 0, 0, 110)) else (some (2, t108, 0, 0, 0)))))) = some (r1, r2, r3, r4, r5) := by rw [if_neg (show ¬ (false = true) by decide)] at H; exact H
      clear H
      have H := H1
      clear H1
      replace H := Option.bind_eq_some_iff.mp H
      obtain ⟨t104, A160, H⟩ := H
      replace H : (if t104 = true then ((lexer_while_digit.f a0).bind fun t105 => (if 0 ≤ t105 then (if t105 ≤ (a0.size : Int) then ((lexer_number.f (a0.extract 0 (t105 : Int).toNat)).bind fun bt106 => (some (1, a0.extract 0 (t105 : Int).toNat, bt106.1, 0, bt106.2))) else (none)) else (none))) else ((lexer_sign.f a0).bind fun t108 => (if t108.toList = ([] : List UInt8) then (some (0, (⟨#[]⟩ : ByteArray), 0, 0, 110)) else (some (2, t108, 0, 0, 0))))) = some (r1, r2, r3, r4, r5) := H
      have A16 := Aside0.mk A160
      clear A160
      by_cases c17 : t104 = true
      · subst c17
        have H1 : ((lexer_while_digit.f a0).bind fun t105 => (if 0 ≤ t105 then (if t105 ≤ (a0.size : Int) then ((lexer_number.f (a0.extract 0 (t105 : Int).toNat)).bind fun bt106 => (some (1, a0.extract 0 (t105 : Int).toNat, bt106.1, 0, bt106.2))) else (none)) else (none))) = some (r1, r2, r3, r4, r5) := by rw [if_pos rfl] at H; exact H
        clear H
        have H := H1
        clear H1
        replace H := Option.bind_eq_some_iff.mp H
        obtain ⟨t105, A180, H⟩ := H
        replace H : (if 0 ≤ t105 then (if t105 ≤ (a0.size : Int) then ((lexer_number.f (a0.extract 0 (t105 : Int).toNat)).bind fun bt106 => (some (1, a0.extract 0 (t105 : Int).toNat, bt106.1, 0, bt106.2))) else (none)) else (none)) = some (r1, r2, r3, r4, r5) := H
        have A18 := Aside0.mk A180
        clear A180
        by_cases c19 : 0 ≤ t105
        · rw [if_pos c19] at H
          have c19b0 := eq_true c19
          have c19b1 : decide (0 ≤ t105) = true := decide_eq_true c19
          clear c19
          by_cases c20 : t105 ≤ (a0.size : Int)
          · rw [if_pos c20] at H
            have c20b0 := eq_true c20
            have c20b1 : decide (t105 ≤ (a0.size : Int)) = true := decide_eq_true c20
            clear c20
            replace H := Option.bind_eq_some_iff.mp H
            obtain ⟨⟨t106, t107⟩, A210, H⟩ := H
            replace H : (some (1, a0.extract 0 (t105 : Int).toNat, t106, 0, t107)) = some (r1, r2, r3, r4, r5) := H
            have A21 := Aside0.mk A210
            clear A210
            have c22b0 := eq_true (of_decide_eq_true (by first | (with_reducible assumption) | assumption) : 0 ≤ t105)
            have c23b0 := eq_true (of_decide_eq_true (by first | (with_reducible assumption) | assumption) : t105 ≤ (a0.size : Int))
            simp only [Option.some.injEq, Prod.mk.injEq] at H
            obtain ⟨rfl, rfl, rfl, rfl, rfl⟩ := H
            go_enter Tryd.func16, Tryd.ntmps16
            go_wp2_with (first | ((with_reducible refine gate_dst (N := 2) rfl ?_); refine box_event ?hg (N := 2) ?hd (cs := #[.int .i64 0, .string (⟨#[]⟩ : ByteArray), .int .i64 0, .int .i64 0]) (t := 32) ?hr ?_; (case hd => rfl); (case hg => rfl); (case hr => first | (go_simp; done) | (go_simp; rfl)); intro gb101 hg w24 hbox hb; have n0_ := Aside0.mk (below_step (by repeat (first | (with_reducible first | exact HB.out | apply below_alloc | apply pw_below_drewN | apply below_drew1) | exact HB.out)) hb); have n1_ := Aside0.mk (hbox); have n2_ := Aside0.mk ((by rw [hg]; exact (below_size (by repeat (first | (with_reducible first | exact HB.out | apply below_alloc | apply pw_below_drewN | apply below_drew1) | exact HB.out))) : w.heap.size ≤ gb101)); have n3_ := Aside0.mk ((by rw [hg]; exact (below_size (by repeat (first | (with_reducible first | exact HB.out | apply below_alloc | apply pw_below_drewN | apply below_drew1) | exact HB.out))) : w.heap.size ≤ gb101)); clear HB; have HB := n0_; have BK101 := n1_; have GW101 := n2_; have GE101 := n3_; clear n0_ n1_ n2_ n3_; clear hb hbox hg; have p3 : 0 ≤ (0 : Int) := (by omega); have q3 : 0 < a0.size := (by have : (0 : Int) < (a0.size : Int) := of_decide_eq_true (by first | (with_reducible assumption) | assumption); omega); have hx3 : ∀ h : 0 < a0.size, ((a0[0]'h).toNat : Int) = bt a0 0 := bt_at a0 0; clear p3; have qi3 : (0 < (a0.size : Int)) = True := eq_true (of_decide_eq_true (by first | (with_reducible assumption) | assumption)); replace q3 := eq_true q3) | ((with_reducible refine gate_callee (f := 27) rfl ?_); refine goesL_ (some 15) rfl rfl Tryd.func27 (by kernel_rfl) rfl #[.int .i32 (wrap32 (bt a0 0))] rfl (by (try simp only [List.map_toArray, List.map_cons, List.map_nil]); first | done | rfl | (simp only [List.length_drop, List.length_take]; rfl)) ?_; (with_reducible refine (lexer_letter.calls (wrap32 (bt a0 0)) false _ A4.out).mono ?_); rintro e w' ⟨rfl, ⟨nd, rfl⟩⟩; refine ⟨_, rfl, ?_⟩; (try (rw [drewN_self w24]; generalize hq_ : World.drewN w24 _ = w24; have n0_ : Aside0 (w24.heap[gb101]? = some (.cells #[.int .i64 0, .string (⟨#[]⟩ : ByteArray), .int .i64 0, .int .i64 0] 32 (0, 0))) := ⟨by rw [← hq_]; exact (by (with_reducible repeat (first | refine blk_drewN ?_ _ | refine blk_drew ?_ | refine blk_alloc ?_ _)); exact BK101.out)⟩; have n1_ : Aside0 (Below w.heap.size w w24) := ⟨by rw [← hq_]; exact (by repeat (first | (with_reducible first | exact HB.out | apply below_alloc | apply pw_below_drewN | apply below_drew1 | refine below_set ?_ GE101.out) | exact HB.out))⟩; clear BK101 HB hq_; have BK101 := n0_; have HB := n1_; clear n0_ n1_))) | ((with_reducible refine gate_callee (f := 29) rfl ?_); refine goesL_ (some 27) rfl rfl Tryd.func29 (by kernel_rfl) rfl #[.int .i32 (wrap32 (bt a0 0))] rfl (by (try simp only [List.map_toArray, List.map_cons, List.map_nil]); first | done | rfl | (simp only [List.length_drop, List.length_take]; rfl)) ?_; (with_reducible refine (lexer_digit.calls (wrap32 (bt a0 0)) true _ A16.out).mono ?_); rintro e w' ⟨rfl, ⟨nd, rfl⟩⟩; refine ⟨_, rfl, ?_⟩; (try (rw [drewN_self w24]; generalize hq_ : World.drewN w24 _ = w24; have n0_ : Aside0 (w24.heap[gb101]? = some (.cells #[.int .i64 0, .string (⟨#[]⟩ : ByteArray), .int .i64 0, .int .i64 0] 32 (0, 0))) := ⟨by rw [← hq_]; exact (by (with_reducible repeat (first | refine blk_drewN ?_ _ | refine blk_drew ?_ | refine blk_alloc ?_ _)); exact BK101.out)⟩; have n1_ : Aside0 (Below w.heap.size w w24) := ⟨by rw [← hq_]; exact (by repeat (first | (with_reducible first | exact HB.out | apply below_alloc | apply pw_below_drewN | apply below_drew1 | refine below_set ?_ GE101.out) | exact HB.out))⟩; clear BK101 HB hq_; have BK101 := n0_; have HB := n1_; clear n0_ n1_))) | ((with_reducible refine gate_callee (f := 25) rfl ?_); refine goesL_ (some 29) rfl rfl Tryd.func25 (by kernel_rfl) rfl #[.string a0, .func (.func 29) #[] #[]] rfl (by (try simp only [List.map_toArray, List.map_cons, List.map_nil]); first | done | rfl | (simp only [List.length_drop, List.length_take]; rfl)) ?_; (with_reducible refine (lexer_while_digit.calls a0 t105 _ A18.out).mono ?_); rintro e w25 ⟨rfl, hb⟩; refine ⟨_, rfl, ?_⟩; have n0_ := Aside0.mk (blk_below (g := gb101) (o := .cells #[.int .i64 0, .string (⟨#[]⟩ : ByteArray), .int .i64 0, .int .i64 0] 32 (0, 0)) (by (with_reducible repeat (first | refine blk_drewN ?_ _ | refine blk_drew ?_ | refine blk_alloc ?_ _)); exact BK101.out) hb); have n1_ := Aside0.mk (below_step (by repeat (first | (with_reducible first | exact HB.out | apply below_alloc | apply pw_below_drewN | apply below_drew1 | refine below_set ?_ GE101.out) | exact HB.out)) hb); clear BK101; clear HB; have BK101 := n0_; have HB := n1_; clear n0_ n1_; (try clear hb); (try clear hb2); (try clear hk); (try clear hi)) | ((with_reducible refine gate_callee (f := 30) rfl ?_); refine goesL_ (some 34) rfl rfl Tryd.func30 (by kernel_rfl) rfl #[.string (a0.extract 0 (t105 : Int).toNat)] rfl (by (try simp only [List.map_toArray, List.map_cons, List.map_nil]); first | done | rfl | (simp only [List.length_drop, List.length_take]; rfl)) ?_; (with_reducible refine (lexer_number.calls (a0.extract 0 (t105 : Int).toNat) t106 t107 _ A21.out).mono ?_); rintro e w26 ⟨rfl, hb⟩; refine ⟨_, rfl, ?_⟩; have n0_ := Aside0.mk (blk_below (g := gb101) (o := .cells #[.int .i64 0, .string (⟨#[]⟩ : ByteArray), .int .i64 0, .int .i64 0] 32 (0, 0)) (by (with_reducible repeat (first | refine blk_drewN ?_ _ | refine blk_drew ?_ | refine blk_alloc ?_ _)); exact BK101.out) hb); have n1_ := Aside0.mk (below_step (by repeat (first | (with_reducible first | exact HB.out | apply below_alloc | apply pw_below_drewN | apply below_drew1 | refine below_set ?_ GE101.out) | exact HB.out)) hb); clear BK101; clear HB; have BK101 := n0_; have HB := n1_; clear n0_ n1_; (try clear hb); (try clear hb2); (try clear hk); (try clear hi); have hcz27_0 : w26.cell? ⟨gb101, 0, none⟩ = some (.int .i64 0) := (blk_cell BK101.out 0).trans rfl; have hcz27_1 : w26.cell? ⟨gb101, 1, none⟩ = some (.string (⟨#[]⟩ : ByteArray)) := (blk_cell BK101.out 1).trans rfl; have hcz27_2 : w26.cell? ⟨gb101, 2, none⟩ = some (.int .i64 0) := (blk_cell BK101.out 2).trans rfl; have hcz27_3 : w26.cell? ⟨gb101, 3, none⟩ = some (.int .i64 0) := (blk_cell BK101.out 3).trans rfl; have hfz27_0 := blk_frozen BK101.out 0; have hfz27_1 := blk_frozen BK101.out 1; have hfz27_2 := blk_frozen BK101.out 2; have hfz27_3 := blk_frozen BK101.out 3))
            refine bodyPost_ret (results_ct rfl _ _ gb101 32 #[.int .i64 1, .string (a0.extract 0 (t105 : Int).toNat), .int .i64 t106, .int .i64 0] (0, 0) _ rfl (by (with_reducible repeat (first | refine blk_drewN ?_ _ | refine blk_drew ?_ | refine blk_alloc ?_ _)); refine blk_put (cs := #[.int .i64 1, .string (a0.extract 0 (t105 : Int).toNat), .int .i64 t106, .int .i64 0]) ?_ 3 _ rfl; (with_reducible repeat (first | refine blk_drewN ?_ _ | refine blk_drew ?_ | refine blk_alloc ?_ _)); refine blk_put (cs := #[.int .i64 1, .string (a0.extract 0 (t105 : Int).toNat), .int .i64 0, .int .i64 0]) ?_ 2 _ rfl; (with_reducible repeat (first | refine blk_drewN ?_ _ | refine blk_drew ?_ | refine blk_alloc ?_ _)); refine blk_put (cs := #[.int .i64 1, .string (⟨#[]⟩ : ByteArray), .int .i64 0, .int .i64 0]) ?_ 1 _ rfl; (with_reducible repeat (first | refine blk_drewN ?_ _ | refine blk_drew ?_ | refine blk_alloc ?_ _)); refine blk_put (cs := #[.int .i64 0, .string (⟨#[]⟩ : ByteArray), .int .i64 0, .int .i64 0]) ?_ 0 _ rfl; (with_reducible repeat (first | refine blk_drewN ?_ _ | refine blk_drew ?_ | refine blk_alloc ?_ _)); exact BK101.out) Tryd.underlying32 rfl (by kernel_rfl)) rfl ?_
            exact ⟨by first | rfl | (simp [errW_none, errW_some] <;> rfl) | (simp [*, errW_none, errW_some] <;> rfl), by repeat (first | (with_reducible first | exact HB.out | apply below_alloc | apply pw_below_drewN | apply below_drew1 | refine below_set ?_ GE101.out) | exact HB.out)⟩
          · rw [if_neg c20] at H
            exact absurd H (by simp)
        · rw [if_neg c19] at H
          exact absurd H (by simp)
      · replace c17 := Bool.eq_false_iff.mpr c17
        subst c17
        have H1 : ((lexer_sign.f a0).bind fun t108 => (if t108.toList = ([] : List UInt8) then (some (0, (⟨#[]⟩ : ByteArray), 0, 0, 110)) else (some (2, t108, 0, 0, 0)))) = some (r1, r2, r3, r4, r5) := by rw [if_neg (show ¬ (false = true) by decide)] at H; exact H
        clear H
        have H := H1
        clear H1
        replace H := Option.bind_eq_some_iff.mp H
        obtain ⟨t108, A280, H⟩ := H
        replace H : (if t108.toList = ([] : List UInt8) then (some (0, (⟨#[]⟩ : ByteArray), 0, 0, 110)) else (some (2, t108, 0, 0, 0))) = some (r1, r2, r3, r4, r5) := H
        have A28 := Aside0.mk A280
        clear A280
        by_cases c29 : t108.toList = ([] : List UInt8)
        · rw [if_pos c29] at H
          have c29b0 : (t108.toList == ([] : List UInt8)) = true := beq_iff_eq.mpr c29
          have c29b1 : (t108.toList != ([] : List UInt8)) = false := bne_eq_false_iff_eq.mpr c29
          clear c29
          simp only [Option.some.injEq, Prod.mk.injEq] at H
          obtain ⟨rfl, rfl, rfl, rfl, rfl⟩ := H
          go_enter Tryd.func16, Tryd.ntmps16
          go_wp2_with (first | ((with_reducible refine gate_dst (N := 2) rfl ?_); refine box_event ?hg (N := 2) ?hd (cs := #[.int .i64 0, .string (⟨#[]⟩ : ByteArray), .int .i64 0, .int .i64 0]) (t := 32) ?hr ?_; (case hd => rfl); (case hg => rfl); (case hr => first | (go_simp; done) | (go_simp; rfl)); intro gb101 hg w30 hbox hb; have n0_ := Aside0.mk (below_step (by repeat (first | (with_reducible first | exact HB.out | apply below_alloc | apply pw_below_drewN | apply below_drew1) | exact HB.out)) hb); have n1_ := Aside0.mk (hbox); have n2_ := Aside0.mk ((by rw [hg]; exact (below_size (by repeat (first | (with_reducible first | exact HB.out | apply below_alloc | apply pw_below_drewN | apply below_drew1) | exact HB.out))) : w.heap.size ≤ gb101)); have n3_ := Aside0.mk ((by rw [hg]; exact (below_size (by repeat (first | (with_reducible first | exact HB.out | apply below_alloc | apply pw_below_drewN | apply below_drew1) | exact HB.out))) : w.heap.size ≤ gb101)); clear HB; have HB := n0_; have BK101 := n1_; have GW101 := n2_; have GE101 := n3_; clear n0_ n1_ n2_ n3_; clear hb hbox hg; have p3 : 0 ≤ (0 : Int) := (by omega); have q3 : 0 < a0.size := (by have : (0 : Int) < (a0.size : Int) := of_decide_eq_true (by first | (with_reducible assumption) | assumption); omega); have hx3 : ∀ h : 0 < a0.size, ((a0[0]'h).toNat : Int) = bt a0 0 := bt_at a0 0; clear p3; have qi3 : (0 < (a0.size : Int)) = True := eq_true (of_decide_eq_true (by first | (with_reducible assumption) | assumption)); replace q3 := eq_true q3) | ((with_reducible refine gate_callee (f := 27) rfl ?_); refine goesL_ (some 15) rfl rfl Tryd.func27 (by kernel_rfl) rfl #[.int .i32 (wrap32 (bt a0 0))] rfl (by (try simp only [List.map_toArray, List.map_cons, List.map_nil]); first | done | rfl | (simp only [List.length_drop, List.length_take]; rfl)) ?_; (with_reducible refine (lexer_letter.calls (wrap32 (bt a0 0)) false _ A4.out).mono ?_); rintro e w' ⟨rfl, ⟨nd, rfl⟩⟩; refine ⟨_, rfl, ?_⟩; (try (rw [drewN_self w30]; generalize hq_ : World.drewN w30 _ = w30; have n0_ : Aside0 (w30.heap[gb101]? = some (.cells #[.int .i64 0, .string (⟨#[]⟩ : ByteArray), .int .i64 0, .int .i64 0] 32 (0, 0))) := ⟨by rw [← hq_]; exact (by (with_reducible repeat (first | refine blk_drewN ?_ _ | refine blk_drew ?_ | refine blk_alloc ?_ _)); exact BK101.out)⟩; have n1_ : Aside0 (Below w.heap.size w w30) := ⟨by rw [← hq_]; exact (by repeat (first | (with_reducible first | exact HB.out | apply below_alloc | apply pw_below_drewN | apply below_drew1 | refine below_set ?_ GE101.out) | exact HB.out))⟩; clear BK101 HB hq_; have BK101 := n0_; have HB := n1_; clear n0_ n1_))) | ((with_reducible refine gate_callee (f := 29) rfl ?_); refine goesL_ (some 27) rfl rfl Tryd.func29 (by kernel_rfl) rfl #[.int .i32 (wrap32 (bt a0 0))] rfl (by (try simp only [List.map_toArray, List.map_cons, List.map_nil]); first | done | rfl | (simp only [List.length_drop, List.length_take]; rfl)) ?_; (with_reducible refine (lexer_digit.calls (wrap32 (bt a0 0)) false _ A16.out).mono ?_); rintro e w' ⟨rfl, ⟨nd, rfl⟩⟩; refine ⟨_, rfl, ?_⟩; (try (rw [drewN_self w30]; generalize hq_ : World.drewN w30 _ = w30; have n0_ : Aside0 (w30.heap[gb101]? = some (.cells #[.int .i64 0, .string (⟨#[]⟩ : ByteArray), .int .i64 0, .int .i64 0] 32 (0, 0))) := ⟨by rw [← hq_]; exact (by (with_reducible repeat (first | refine blk_drewN ?_ _ | refine blk_drew ?_ | refine blk_alloc ?_ _)); exact BK101.out)⟩; have n1_ : Aside0 (Below w.heap.size w w30) := ⟨by rw [← hq_]; exact (by repeat (first | (with_reducible first | exact HB.out | apply below_alloc | apply pw_below_drewN | apply below_drew1 | refine below_set ?_ GE101.out) | exact HB.out))⟩; clear BK101 HB hq_; have BK101 := n0_; have HB := n1_; clear n0_ n1_))) | ((with_reducible refine gate_callee (f := 31) rfl ?_); refine goesL_ (some 44) rfl rfl Tryd.func31 (by kernel_rfl) rfl #[.string a0] rfl (by (try simp only [List.map_toArray, List.map_cons, List.map_nil]); first | done | rfl | (simp only [List.length_drop, List.length_take]; rfl)) ?_; (with_reducible refine (lexer_sign.calls a0 t108 _ ?side1 A28.out).mono ?_); (case side1 => exact hT.later (by repeat (first | (with_reducible first | exact HB.out | apply below_alloc | apply pw_below_drewN | apply below_drew1 | refine below_set ?_ GE101.out) | exact HB.out))); rintro e w31 ⟨rfl, hb⟩; refine ⟨_, rfl, ?_⟩; have n0_ := Aside0.mk (blk_below (g := gb101) (o := .cells #[.int .i64 0, .string (⟨#[]⟩ : ByteArray), .int .i64 0, .int .i64 0] 32 (0, 0)) (by (with_reducible repeat (first | refine blk_drewN ?_ _ | refine blk_drew ?_ | refine blk_alloc ?_ _)); exact BK101.out) hb); have n1_ := Aside0.mk (below_step (by repeat (first | (with_reducible first | exact HB.out | apply below_alloc | apply pw_below_drewN | apply below_drew1 | refine below_set ?_ GE101.out) | exact HB.out)) hb); clear BK101; clear HB; have BK101 := n0_; have HB := n1_; clear n0_ n1_; (try clear hb); (try clear hb2); (try clear hk); (try clear hi); have hcz32_0 : w31.cell? ⟨gb101, 0, none⟩ = some (.int .i64 0) := (blk_cell BK101.out 0).trans rfl; have hcz32_1 : w31.cell? ⟨gb101, 1, none⟩ = some (.string (⟨#[]⟩ : ByteArray)) := (blk_cell BK101.out 1).trans rfl; have hcz32_2 : w31.cell? ⟨gb101, 2, none⟩ = some (.int .i64 0) := (blk_cell BK101.out 2).trans rfl; have hcz32_3 : w31.cell? ⟨gb101, 3, none⟩ = some (.int .i64 0) := (blk_cell BK101.out 3).trans rfl; have hfz32_0 := blk_frozen BK101.out 0; have hfz32_1 := blk_frozen BK101.out 1; have hfz32_2 := blk_frozen BK101.out 2; have hfz32_3 := blk_frozen BK101.out 3))
          refine bodyPost_ret (results_ct rfl _ _ gb101 32 #[.int .i64 0, .string (⟨#[]⟩ : ByteArray), .int .i64 0, .int .i64 0] (0, 0) _ rfl (by (with_reducible repeat (first | refine blk_drewN ?_ _ | refine blk_drew ?_ | refine blk_alloc ?_ _)); refine blk_put (cs := #[.int .i64 0, .string (⟨#[]⟩ : ByteArray), .int .i64 0, .int .i64 0]) ?_ 3 _ rfl; (with_reducible repeat (first | refine blk_drewN ?_ _ | refine blk_drew ?_ | refine blk_alloc ?_ _)); refine blk_put (cs := #[.int .i64 0, .string (⟨#[]⟩ : ByteArray), .int .i64 0, .int .i64 0]) ?_ 2 _ rfl; (with_reducible repeat (first | refine blk_drewN ?_ _ | refine blk_drew ?_ | refine blk_alloc ?_ _)); refine blk_put (cs := #[.int .i64 0, .string (⟨#[]⟩ : ByteArray), .int .i64 0, .int .i64 0]) ?_ 1 _ rfl; (with_reducible repeat (first | refine blk_drewN ?_ _ | refine blk_drew ?_ | refine blk_alloc ?_ _)); refine blk_put (cs := #[.int .i64 0, .string (⟨#[]⟩ : ByteArray), .int .i64 0, .int .i64 0]) ?_ 0 _ rfl; (with_reducible repeat (first | refine blk_drewN ?_ _ | refine blk_drew ?_ | refine blk_alloc ?_ _)); exact BK101.out) Tryd.underlying32 rfl (by kernel_rfl)) rfl ?_
          exact ⟨by first | rfl | (simp [errW_none, errW_some] <;> rfl) | (simp [*, errW_none, errW_some] <;> rfl), by repeat (first | (with_reducible first | exact HB.out | apply below_alloc | apply pw_below_drewN | apply below_drew1 | refine below_set ?_ GE101.out) | exact HB.out)⟩
        · rw [if_neg c29] at H
          have c29b0 : (t108.toList == ([] : List UInt8)) = false := beq_eq_false_iff_ne.mpr c29
          have c29b1 : (t108.toList != ([] : List UInt8)) = true := bne_iff_ne.mpr c29
          simp only [Option.some.injEq, Prod.mk.injEq] at H
          obtain ⟨rfl, rfl, rfl, rfl, rfl⟩ := H
          go_enter Tryd.func16, Tryd.ntmps16
          go_wp2_with (first | ((with_reducible refine gate_dst (N := 2) rfl ?_); refine box_event ?hg (N := 2) ?hd (cs := #[.int .i64 0, .string (⟨#[]⟩ : ByteArray), .int .i64 0, .int .i64 0]) (t := 32) ?hr ?_; (case hd => rfl); (case hg => rfl); (case hr => first | (go_simp; done) | (go_simp; rfl)); intro gb101 hg w33 hbox hb; have n0_ := Aside0.mk (below_step (by repeat (first | (with_reducible first | exact HB.out | apply below_alloc | apply pw_below_drewN | apply below_drew1) | exact HB.out)) hb); have n1_ := Aside0.mk (hbox); have n2_ := Aside0.mk ((by rw [hg]; exact (below_size (by repeat (first | (with_reducible first | exact HB.out | apply below_alloc | apply pw_below_drewN | apply below_drew1) | exact HB.out))) : w.heap.size ≤ gb101)); have n3_ := Aside0.mk ((by rw [hg]; exact (below_size (by repeat (first | (with_reducible first | exact HB.out | apply below_alloc | apply pw_below_drewN | apply below_drew1) | exact HB.out))) : w.heap.size ≤ gb101)); clear HB; have HB := n0_; have BK101 := n1_; have GW101 := n2_; have GE101 := n3_; clear n0_ n1_ n2_ n3_; clear hb hbox hg; have p3 : 0 ≤ (0 : Int) := (by omega); have q3 : 0 < a0.size := (by have : (0 : Int) < (a0.size : Int) := of_decide_eq_true (by first | (with_reducible assumption) | assumption); omega); have hx3 : ∀ h : 0 < a0.size, ((a0[0]'h).toNat : Int) = bt a0 0 := bt_at a0 0; clear p3; have qi3 : (0 < (a0.size : Int)) = True := eq_true (of_decide_eq_true (by first | (with_reducible assumption) | assumption)); replace q3 := eq_true q3) | ((with_reducible refine gate_callee (f := 27) rfl ?_); refine goesL_ (some 15) rfl rfl Tryd.func27 (by kernel_rfl) rfl #[.int .i32 (wrap32 (bt a0 0))] rfl (by (try simp only [List.map_toArray, List.map_cons, List.map_nil]); first | done | rfl | (simp only [List.length_drop, List.length_take]; rfl)) ?_; (with_reducible refine (lexer_letter.calls (wrap32 (bt a0 0)) false _ A4.out).mono ?_); rintro e w' ⟨rfl, ⟨nd, rfl⟩⟩; refine ⟨_, rfl, ?_⟩; (try (rw [drewN_self w33]; generalize hq_ : World.drewN w33 _ = w33; have n0_ : Aside0 (w33.heap[gb101]? = some (.cells #[.int .i64 0, .string (⟨#[]⟩ : ByteArray), .int .i64 0, .int .i64 0] 32 (0, 0))) := ⟨by rw [← hq_]; exact (by (with_reducible repeat (first | refine blk_drewN ?_ _ | refine blk_drew ?_ | refine blk_alloc ?_ _)); exact BK101.out)⟩; have n1_ : Aside0 (Below w.heap.size w w33) := ⟨by rw [← hq_]; exact (by repeat (first | (with_reducible first | exact HB.out | apply below_alloc | apply pw_below_drewN | apply below_drew1 | refine below_set ?_ GE101.out) | exact HB.out))⟩; clear BK101 HB hq_; have BK101 := n0_; have HB := n1_; clear n0_ n1_))) | ((with_reducible refine gate_callee (f := 29) rfl ?_); refine goesL_ (some 27) rfl rfl Tryd.func29 (by kernel_rfl) rfl #[.int .i32 (wrap32 (bt a0 0))] rfl (by (try simp only [List.map_toArray, List.map_cons, List.map_nil]); first | done | rfl | (simp only [List.length_drop, List.length_take]; rfl)) ?_; (with_reducible refine (lexer_digit.calls (wrap32 (bt a0 0)) false _ A16.out).mono ?_); rintro e w' ⟨rfl, ⟨nd, rfl⟩⟩; refine ⟨_, rfl, ?_⟩; (try (rw [drewN_self w33]; generalize hq_ : World.drewN w33 _ = w33; have n0_ : Aside0 (w33.heap[gb101]? = some (.cells #[.int .i64 0, .string (⟨#[]⟩ : ByteArray), .int .i64 0, .int .i64 0] 32 (0, 0))) := ⟨by rw [← hq_]; exact (by (with_reducible repeat (first | refine blk_drewN ?_ _ | refine blk_drew ?_ | refine blk_alloc ?_ _)); exact BK101.out)⟩; have n1_ : Aside0 (Below w.heap.size w w33) := ⟨by rw [← hq_]; exact (by repeat (first | (with_reducible first | exact HB.out | apply below_alloc | apply pw_below_drewN | apply below_drew1 | refine below_set ?_ GE101.out) | exact HB.out))⟩; clear BK101 HB hq_; have BK101 := n0_; have HB := n1_; clear n0_ n1_))) | ((with_reducible refine gate_callee (f := 31) rfl ?_); refine goesL_ (some 44) rfl rfl Tryd.func31 (by kernel_rfl) rfl #[.string a0] rfl (by (try simp only [List.map_toArray, List.map_cons, List.map_nil]); first | done | rfl | (simp only [List.length_drop, List.length_take]; rfl)) ?_; (with_reducible refine (lexer_sign.calls a0 t108 _ ?side1 A28.out).mono ?_); (case side1 => exact hT.later (by repeat (first | (with_reducible first | exact HB.out | apply below_alloc | apply pw_below_drewN | apply below_drew1 | refine below_set ?_ GE101.out) | exact HB.out))); rintro e w34 ⟨rfl, hb⟩; refine ⟨_, rfl, ?_⟩; have n0_ := Aside0.mk (blk_below (g := gb101) (o := .cells #[.int .i64 0, .string (⟨#[]⟩ : ByteArray), .int .i64 0, .int .i64 0] 32 (0, 0)) (by (with_reducible repeat (first | refine blk_drewN ?_ _ | refine blk_drew ?_ | refine blk_alloc ?_ _)); exact BK101.out) hb); have n1_ := Aside0.mk (below_step (by repeat (first | (with_reducible first | exact HB.out | apply below_alloc | apply pw_below_drewN | apply below_drew1 | refine below_set ?_ GE101.out) | exact HB.out)) hb); clear BK101; clear HB; have BK101 := n0_; have HB := n1_; clear n0_ n1_; (try clear hb); (try clear hb2); (try clear hk); (try clear hi); have hcz35_0 : w34.cell? ⟨gb101, 0, none⟩ = some (.int .i64 0) := (blk_cell BK101.out 0).trans rfl; have hcz35_1 : w34.cell? ⟨gb101, 1, none⟩ = some (.string (⟨#[]⟩ : ByteArray)) := (blk_cell BK101.out 1).trans rfl; have hcz35_2 : w34.cell? ⟨gb101, 2, none⟩ = some (.int .i64 0) := (blk_cell BK101.out 2).trans rfl; have hcz35_3 : w34.cell? ⟨gb101, 3, none⟩ = some (.int .i64 0) := (blk_cell BK101.out 3).trans rfl; have hfz35_0 := blk_frozen BK101.out 0; have hfz35_1 := blk_frozen BK101.out 1; have hfz35_2 := blk_frozen BK101.out 2; have hfz35_3 := blk_frozen BK101.out 3))
          refine bodyPost_ret (results_ct rfl _ _ gb101 32 #[.int .i64 2, .string t108, .int .i64 0, .int .i64 0] (0, 0) _ rfl (by (with_reducible repeat (first | refine blk_drewN ?_ _ | refine blk_drew ?_ | refine blk_alloc ?_ _)); refine blk_put (cs := #[.int .i64 2, .string t108, .int .i64 0, .int .i64 0]) ?_ 3 _ rfl; (with_reducible repeat (first | refine blk_drewN ?_ _ | refine blk_drew ?_ | refine blk_alloc ?_ _)); refine blk_put (cs := #[.int .i64 2, .string t108, .int .i64 0, .int .i64 0]) ?_ 2 _ rfl; (with_reducible repeat (first | refine blk_drewN ?_ _ | refine blk_drew ?_ | refine blk_alloc ?_ _)); refine blk_put (cs := #[.int .i64 2, .string (⟨#[]⟩ : ByteArray), .int .i64 0, .int .i64 0]) ?_ 1 _ rfl; (with_reducible repeat (first | refine blk_drewN ?_ _ | refine blk_drew ?_ | refine blk_alloc ?_ _)); refine blk_put (cs := #[.int .i64 0, .string (⟨#[]⟩ : ByteArray), .int .i64 0, .int .i64 0]) ?_ 0 _ rfl; (with_reducible repeat (first | refine blk_drewN ?_ _ | refine blk_drew ?_ | refine blk_alloc ?_ _)); exact BK101.out) Tryd.underlying32 rfl (by kernel_rfl)) rfl ?_
          exact ⟨by first | rfl | (simp [errW_none, errW_some] <;> rfl) | (simp [*, errW_none, errW_some] <;> rfl), by repeat (first | (with_reducible first | exact HB.out | apply below_alloc | apply pw_below_drewN | apply below_drew1 | refine below_set ?_ GE101.out) | exact HB.out)⟩
  · rw [if_neg c2] at H
    exact absurd H (by simp)

end Go.Proofs.YtlcbdgkkkljfnaaDoor.P
end
