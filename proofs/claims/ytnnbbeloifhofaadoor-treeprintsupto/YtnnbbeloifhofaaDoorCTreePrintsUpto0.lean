/- Texts of this claim, joined. -/
import Derived.Shelf.Strings.OnBuilder
import Derived.Shelf.LaysM
import Derived.Shelf.Strconv.Itoa3
import Derived.Shelf.Strings.Repeat
import Derived.Test.YtnnbbeloifhofaaDoorProg
import Derived.Below
import Derived.Deep.Draws
import Derived.Deep.AppendLies
import Derived.Maps.AppendAt
import Derived.OwnWalk
import Derived.Laws.BytesArg
import Derived.Laws.MakeOwn
import Derived.Laws.OwnMore
import Derived.Deep.OwnRows
import Derived.Tactics
import Derived.Lib.ConvBytes
import Derived.Laws.Slices
import Derived.WalkKit
import Derived.KernelRfl
import Derived.RowKit3
import Derived.Deep.LoopGhost
import Derived.Deep.QuietTactic
import Derived.BigQuiet
import Derived.WideLaws
import Derived.Deep.DeepCutAuto
import Derived.Deep.CutBlock
import Derived.Deep.RegionHeld3
import Derived.Laws.Rows
import Derived.Lib.AppendStr
import Derived.ArgAppend
import Derived.Laws.IdiomCopy
import Derived.RowKit
import Derived.Lib.AppendIntMem
import Derived.Test.YtnnbbeloifhofaaDoorRows
import Derived.Lib.LaidU8
import Derived.Lib.LaidTab
import Derived.Lib.LaidIn
import Derived.Deep.DeepHandedRow
import Derived.Deep.DeepWitnessRowRef
import Derived.Lib.Builder
import Derived.Lib.UnsafeStr
import Derived.Shelf.Strings.Builder1
import Derived.Laws.Externs
import Derived.OrdersHeld
import Derived.Laws.BitsLemmas
import Derived.Laws.StructEq
import Derived.Lib.Strings
section
namespace Go.Proofs
open Go.Shelf
def Tryd.lays156_ren:Go.Shelf.Ren:=⟨fun|156=>39|165=>60|166=>58|169=>41|240=>64|241=>68|276=>73|277=>77|n=>n,fun|31=>70|9=>9|3=>3|4=>4|0=>0|20=>20|72=>86|76=>108|70=>83|37=>84|75=>107|127=>113|164=>127|5=>5|80=>92|n=>n,fun|n=>n⟩
theorem Tryd.lays156:Go.Proofs.Lays.n156 Tryd.prog Tryd.lays156_ren:={
  mixed:=by kernel_rfl
  f156:=Tryd.func39.trans (congrArg some (by kernel_rfl))
  f165:=Tryd.func60.trans (congrArg some (by kernel_rfl))
  f166:=Tryd.func58.trans (congrArg some (by kernel_rfl))
  f169:=Tryd.func41.trans (congrArg some (by kernel_rfl))
  f240:=Tryd.func64.trans (congrArg some (by kernel_rfl))
  f241:=Tryd.func68.trans (congrArg some (by kernel_rfl))
  f276:=Tryd.func73.trans (congrArg some (by kernel_rfl))
  f277:=Tryd.func77.trans (congrArg some (by kernel_rfl))
  t0:=Tryd.underlying0
  a0:=Tryd.isAgg0
  z0:=Tryd.sizeOf0
  v0:=Tryd.zeroValue0
  t3:=Tryd.underlying3
  a3:=Tryd.isAgg3
  z3:=Tryd.sizeOf3
  v3:=Tryd.zeroValue3
  t4:=Tryd.underlying4
  a4:=Tryd.isAgg4
  z4:=Tryd.sizeOf4
  v4:=Tryd.zeroValue4
  t9:=Tryd.underlying9
  a9:=Tryd.isAgg9
  z9:=Tryd.sizeOf9
  v9:=Tryd.zeroValue9
  t20:=Tryd.underlying20
  a20:=Tryd.isAgg20
  z20:=Tryd.sizeOf20
  v20:=Tryd.zeroValue20
  t31:=Tryd.underlying70
  a31:=Tryd.isAgg70
  z31:=Tryd.sizeOf70
  v31:=Tryd.zeroValue70
  t37:=Tryd.underlying84
  a37:=Tryd.isAgg84
  z37:=Tryd.sizeOf84
  v37:=Tryd.zeroValue84
  t70:=Tryd.underlying83
  a70:=Tryd.isAgg83
  z70:=Tryd.sizeOf83
  v70:=Tryd.zeroValue83
  t72:=Tryd.underlying86
  a72:=Tryd.isAgg86
  z72:=Tryd.sizeOf86
  v72:=Tryd.zeroValue86
  t75:=Tryd.underlying107
  a75:=Tryd.isAgg107
  z75:=Tryd.sizeOf107
  v75:=Tryd.zeroValue107
  t76:=Tryd.underlying108
  a76:=Tryd.isAgg108
  z76:=Tryd.sizeOf108
  v76:=Tryd.zeroValue108
  t127:=Tryd.underlying113
  a127:=Tryd.isAgg113
  z127:=Tryd.sizeOf113
  v127:=Tryd.zeroValue113
  t164:=Tryd.underlying127
  a164:=Tryd.isAgg127
  z164:=Tryd.sizeOf127
  v164:=Tryd.zeroValue127 }
theorem Tryd.Builder_Extra_156:Builder.Extra Tryd.prog Tryd.lays156_ren:={
  sizeBuilder:=by kernel_rfl
  liesBuilder:=by kernel_rfl
  t5:=Tryd.underlying5
  a5:=Tryd.isAgg5
  z5:=Tryd.sizeOf5
  v5:=Tryd.zeroValue5
  infoByte:=by kernel_rfl
  cellsByte:=by kernel_rfl
  sizeByte:=by kernel_rfl
  neB5:=by decide }
open Go.RowKit in
theorem Tryd.strings_Join_none (a:Option Addr) (c:Nat) (sep:ByteArray) (w:World) :
    Calls Tryd.prog 39 #[.slice a 0 c,.string sep] w fun e w'=>e=.returned (.string ⟨#[]⟩)∧w'=w:=Any.strings_Join_none Tryd.lays156 Tryd.Builder_Extra_156 a c sep w
open Go.RowKit in
theorem Tryd.strings_Join (bk o c:Nat) (xs:List ByteArray) (sep:ByteArray) (w:World) (hcells : ∀ (j:Nat) x,xs[j]?=some x→w.cell? ⟨bk,o+j,none⟩=some (.string x)) (hbk:bk < w.heap.size) (hN:xs.length≤140737488355328) (hcap:xs.length≤c) (hlen:(Lib.join (xs.map (·.data.toList)) sep.data.toList).length≤140737488355328) :
    Calls Tryd.prog 39 #[.slice (some ⟨bk,o,none⟩) xs.length c,.string sep] w fun e w'=>e=.returned (.string ⟨(Lib.join (xs.map (·.data.toList)) sep.data.toList).toArray⟩)∧Below w.heap.size w w':=Any.strings_Join Tryd.lays156 Tryd.Builder_Extra_156 bk o c xs sep w hcells hbk hN hcap hlen
def Tryd.laysM246_ren:Go.Shelf.Ren:=⟨fun|246=>62|283=>69|284=>70|285=>71|286=>72|129=>79|317=>78|318=>80|319=>81|320=>82|337=>83|338=>84|n=>n,fun|2=>2|3=>3|9=>9|4=>4|171=>121|0=>0|53=>122|37=>84|5=>5|173=>125|212=>137|51=>129|20=>20|213=>138|46=>116|232=>142|233=>143|n=>n,fun|17=>0|18=>2|19=>3|n=>n⟩
theorem Tryd.laysM246:Go.Proofs.LaysM.n246 Tryd.prog Tryd.laysM246_ren:={
  mixed:=by kernel_rfl
  f129:=Tryd.func79.trans (congrArg some (by kernel_rfl))
  f246:=Tryd.func62.trans (congrArg some (by kernel_rfl))
  f283:=Tryd.func69.trans (congrArg some (by kernel_rfl))
  f284:=Tryd.func70.trans (congrArg some (by kernel_rfl))
  f285:=Tryd.func71.trans (congrArg some (by kernel_rfl))
  f286:=Tryd.func72.trans (congrArg some (by kernel_rfl))
  f317:=Tryd.func78.trans (congrArg some (by kernel_rfl))
  f318:=Tryd.func80.trans (congrArg some (by kernel_rfl))
  f319:=Tryd.func81.trans (congrArg some (by kernel_rfl))
  f320:=Tryd.func82.trans (congrArg some (by kernel_rfl))
  f337:=Tryd.func83.trans (congrArg some (by kernel_rfl))
  f338:=Tryd.func84.trans (congrArg some (by kernel_rfl))
  t0:=Tryd.underlying0
  a0:=Tryd.isAgg0
  z0:=Tryd.sizeOf0
  v0:=Tryd.zeroValue0
  t2:=Tryd.underlying2
  a2:=Tryd.isAgg2
  z2:=Tryd.sizeOf2
  v2:=Tryd.zeroValue2
  t3:=Tryd.underlying3
  a3:=Tryd.isAgg3
  z3:=Tryd.sizeOf3
  v3:=Tryd.zeroValue3
  t4:=Tryd.underlying4
  a4:=Tryd.isAgg4
  z4:=Tryd.sizeOf4
  v4:=Tryd.zeroValue4
  t5:=Tryd.underlying5
  a5:=Tryd.isAgg5
  z5:=Tryd.sizeOf5
  v5:=Tryd.zeroValue5
  t9:=Tryd.underlying9
  a9:=Tryd.isAgg9
  z9:=Tryd.sizeOf9
  v9:=Tryd.zeroValue9
  t20:=Tryd.underlying20
  a20:=Tryd.isAgg20
  z20:=Tryd.sizeOf20
  v20:=Tryd.zeroValue20
  t37:=Tryd.underlying84
  a37:=Tryd.isAgg84
  z37:=Tryd.sizeOf84
  v37:=Tryd.zeroValue84
  t46:=Tryd.underlying116
  a46:=Tryd.isAgg116
  z46:=Tryd.sizeOf116
  v46:=Tryd.zeroValue116
  t51:=Tryd.underlying129
  a51:=Tryd.isAgg129
  z51:=Tryd.sizeOf129
  v51:=Tryd.zeroValue129
  t53:=Tryd.underlying122
  a53:=Tryd.isAgg122
  z53:=Tryd.sizeOf122
  v53:=Tryd.zeroValue122
  t171:=Tryd.underlying121
  a171:=Tryd.isAgg121
  z171:=Tryd.sizeOf121
  v171:=Tryd.zeroValue121
  t173:=Tryd.underlying125
  a173:=Tryd.isAgg125
  z173:=Tryd.sizeOf125
  v173:=Tryd.zeroValue125
  t212:=Tryd.underlying137
  a212:=Tryd.isAgg137
  z212:=Tryd.sizeOf137
  v212:=Tryd.zeroValue137
  t213:=Tryd.underlying138
  a213:=Tryd.isAgg138
  z213:=Tryd.sizeOf138
  t232:=Tryd.underlying142
  a232:=Tryd.isAgg142
  z232:=Tryd.sizeOf142
  v232:=Tryd.zeroValue142
  t233:=Tryd.underlying143
  a233:=Tryd.isAgg143
  z233:=Tryd.sizeOf143
  v233:=Tryd.zeroValue143
  g17:=by kernel_rfl
  g18:=by kernel_rfl
  g19:=by kernel_rfl
  i0:=by kernel_rfl
  i2:=by kernel_rfl
  i3:=by kernel_rfl
  i4:=by kernel_rfl
  i5:=by kernel_rfl
  i9:=by kernel_rfl
  i20:=by kernel_rfl
  i37:=by kernel_rfl
  i46:=by kernel_rfl
  i51:=by kernel_rfl
  i53:=by kernel_rfl
  i171:=by kernel_rfl
  i173:=by kernel_rfl
  i212:=by kernel_rfl
  i232:=by kernel_rfl
  i233:=by kernel_rfl
  m17:=by kernel_rfl
  m18:=by kernel_rfl
  m19:=by kernel_rfl }
open Go.RowKit Go.Sort Go.Lib in
theorem Tryd.internal_strconv_FormatInt_10 (n:Int) (h0 : -9223372036854775808≤n) (h1:n≤9223372036854775807) (w:World) (htab:Lib.TabIs Tryd.prog w "internal/strconv.uint64pow10" .u64 Lib.pow10Tab) :
    Calls Tryd.prog 62 #[.int .i64 n,.int .i64 10] w fun e w'=>e=.returned (.string ⟨(Lib.itoa n).toArray⟩)∧∃ k os,w'=grow (w.drewN k) os:=Any.internal_strconv_FormatInt_10 Tryd.laysM246 n h0 h1 w htab
def Tryd.lays105_ren:Go.Shelf.Ren:=⟨fun|105=>59|212=>65|99=>66|165=>60|166=>58|170=>67|169=>41|263=>74|264=>75|206=>76|240=>64|241=>68|276=>73|277=>77|n=>n,fun|9=>9|3=>3|4=>4|20=>20|0=>0|46=>116|109=>117|5=>5|72=>86|76=>108|51=>129|146=>130|53=>122|148=>132|70=>83|37=>84|75=>107|127=>113|164=>127|80=>92|n=>n,fun|n=>n⟩
theorem Tryd.lays105:Go.Proofs.Lays.n105 Tryd.prog Tryd.lays105_ren:={
  mixed:=by kernel_rfl
  f99:=Tryd.func66.trans (congrArg some (by kernel_rfl))
  f105:=Tryd.func59.trans (congrArg some (by kernel_rfl))
  f165:=Tryd.func60.trans (congrArg some (by kernel_rfl))
  f166:=Tryd.func58.trans (congrArg some (by kernel_rfl))
  f169:=Tryd.func41.trans (congrArg some (by kernel_rfl))
  f170:=Tryd.func67.trans (congrArg some (by kernel_rfl))
  f206:=Tryd.func76.trans (congrArg some (by kernel_rfl))
  f212:=Tryd.func65.trans (congrArg some (by kernel_rfl))
  f240:=Tryd.func64.trans (congrArg some (by kernel_rfl))
  f241:=Tryd.func68.trans (congrArg some (by kernel_rfl))
  f263:=Tryd.func74.trans (congrArg some (by kernel_rfl))
  f264:=Tryd.func75.trans (congrArg some (by kernel_rfl))
  f276:=Tryd.func73.trans (congrArg some (by kernel_rfl))
  f277:=Tryd.func77.trans (congrArg some (by kernel_rfl))
  t0:=Tryd.underlying0
  a0:=Tryd.isAgg0
  z0:=Tryd.sizeOf0
  v0:=Tryd.zeroValue0
  t3:=Tryd.underlying3
  a3:=Tryd.isAgg3
  z3:=Tryd.sizeOf3
  v3:=Tryd.zeroValue3
  t4:=Tryd.underlying4
  a4:=Tryd.isAgg4
  z4:=Tryd.sizeOf4
  v4:=Tryd.zeroValue4
  t5:=Tryd.underlying5
  a5:=Tryd.isAgg5
  z5:=Tryd.sizeOf5
  v5:=Tryd.zeroValue5
  t9:=Tryd.underlying9
  a9:=Tryd.isAgg9
  z9:=Tryd.sizeOf9
  v9:=Tryd.zeroValue9
  t20:=Tryd.underlying20
  a20:=Tryd.isAgg20
  z20:=Tryd.sizeOf20
  v20:=Tryd.zeroValue20
  t37:=Tryd.underlying84
  a37:=Tryd.isAgg84
  z37:=Tryd.sizeOf84
  v37:=Tryd.zeroValue84
  t46:=Tryd.underlying116
  a46:=Tryd.isAgg116
  z46:=Tryd.sizeOf116
  v46:=Tryd.zeroValue116
  t51:=Tryd.underlying129
  a51:=Tryd.isAgg129
  z51:=Tryd.sizeOf129
  v51:=Tryd.zeroValue129
  t53:=Tryd.underlying122
  a53:=Tryd.isAgg122
  z53:=Tryd.sizeOf122
  v53:=Tryd.zeroValue122
  t70:=Tryd.underlying83
  a70:=Tryd.isAgg83
  z70:=Tryd.sizeOf83
  v70:=Tryd.zeroValue83
  t72:=Tryd.underlying86
  a72:=Tryd.isAgg86
  z72:=Tryd.sizeOf86
  v72:=Tryd.zeroValue86
  t75:=Tryd.underlying107
  a75:=Tryd.isAgg107
  z75:=Tryd.sizeOf107
  v75:=Tryd.zeroValue107
  t76:=Tryd.underlying108
  a76:=Tryd.isAgg108
  z76:=Tryd.sizeOf108
  v76:=Tryd.zeroValue108
  t109:=Tryd.underlying117
  a109:=Tryd.isAgg117
  z109:=Tryd.sizeOf117
  v109:=Tryd.zeroValue117
  t127:=Tryd.underlying113
  a127:=Tryd.isAgg113
  z127:=Tryd.sizeOf113
  v127:=Tryd.zeroValue113
  t146:=Tryd.underlying130
  a146:=Tryd.isAgg130
  z146:=Tryd.sizeOf130
  v146:=Tryd.zeroValue130
  t148:=Tryd.underlying132
  a148:=Tryd.isAgg132
  z148:=Tryd.sizeOf132
  v148:=Tryd.zeroValue132
  t164:=Tryd.underlying127
  a164:=Tryd.isAgg127
  z164:=Tryd.sizeOf127
  v164:=Tryd.zeroValue127 }
theorem Tryd.Builder_Extra_105:Builder.Extra Tryd.prog Tryd.lays105_ren:={
  sizeBuilder:=by kernel_rfl
  liesBuilder:=by kernel_rfl
  t5:=Tryd.underlying5
  a5:=Tryd.isAgg5
  z5:=Tryd.sizeOf5
  v5:=Tryd.zeroValue5
  infoByte:=by kernel_rfl
  cellsByte:=by kernel_rfl
  sizeByte:=by kernel_rfl
  neB5:=by decide }
open Go.RowKit Go.Lib in
theorem Tryd.strings_Repeat (s:ByteArray) (c:Nat) (w:World) (hc:c≤9223372036854775807) (hlen:s.size * c≤140737488355328) :
    Calls Tryd.prog 59 #[.string s,.int .i64 c] w fun e w'=>e=.returned (.string ⟨(Lib.repeatL s.data.toList c).toArray⟩)∧Below w.heap.size w w':=Any.strings_Repeat Tryd.lays105 Tryd.Builder_Extra_105 s c w hc hlen
end Go.Proofs
end
section
set_option linter.unusedVariables false
set_option linter.unusedSimpArgs false
namespace Go.Proofs.YtnnbbeloifhofaaDoorW.PrintWords
open Go.RowKit
structure Aside0 (p:Prop):Prop where mk :: (out:p)
structure Drawn0 (w w':World):Prop where mk :: (out : ∃ n,w'=w.drewN n)
theorem Drawn0.refl (w:World):Drawn0 w w:=⟨⟨0,rfl⟩⟩
theorem Drawn0.step {w w':World} (h:Drawn0 w w') (n:Nat):Drawn0 w (w'.drewN n):=by
  obtain ⟨m,rfl⟩:=h
  exact ⟨⟨m+n,World.drewN_drewN ..⟩⟩
theorem Drawn0.grown {w w':World} (h:Drawn0 w w'):Grown w w':=by
  obtain ⟨n,rfl⟩:=h
  induction n with
  | zero=>exact Grown.refl _
  | succ n ih=>rw [← World.drew_drewN];exact Grown.drew ih
theorem Drawn0.below {w w':World} (h:Drawn0 w w'):Below w.heap.size w w':=by
  obtain ⟨n,rfl⟩:=h
  induction n with
  | zero=>exact Below.refl _ _
  | succ n ih=>rw [← World.drew_drewN];exact ih.drew
def rd (xs:List Int) (i:Int):Int:=xs.getD i.toNat 0
theorem below_alloc {w W:World} (h:Below w.heap.size w W) (o:Obj):Below w.heap.size w (W.alloc o):=h.alloc h.size o
theorem below_drew {B:Nat} {w W:World} (h:Below B w W):Below B w W.drew:=⟨h.os,h.tape,h.output,h.size,h.block⟩
theorem pw_below_drewN {B:Nat} {w W:World} (h:Below B w W) (n:Nat):Below B w (W.drewN n):=⟨h.os,h.tape,h.output,h.size,h.block⟩
theorem below_then {B:Nat} {w w1 w2:World} (h:Below B w w1) (hB:B≤w1.heap.size) (k:Below w1.heap.size w1 w2):Below B w w2:=
  h.trans ⟨k.os,k.tape,k.output,k.size,fun i hi=>k.block i (Nat.lt_of_lt_of_le hi hB)⟩
theorem grown_of_below {w w1:World} (h:Below w.heap.size w w1) (row:Option Nat):w.grownBy w1 row:=⟨h.os,h.tape,h.output,h.size,fun i hi _=>h.block i hi⟩
theorem pw_cell_below {w w1:World} (h:Below w.heap.size w w1) {a:Addr} {v:Value} (hc:w.cell? a=some v):w1.cell? a=some v:=(h.cell (World.block_lt_of_cell? w a hc)).trans hc
theorem add_plain (g j:Nat):(⟨g,0,none⟩:Addr).add j=⟨g,j,none⟩:=by unfold Addr.add;split <;> simp_all
def ReadsInt (w:World) (k:IntKind) (A:Option Addr) (n:Nat) (xs:List Int):Prop:=
  xs.length=n∧n≤9223372036854775807∧(0 < n→∃ ad,A=some ad∧∀ j,j < n→w.cell? (ad.add j)=some (.int k (xs.getD j 0)))
theorem ReadsInt.at_ {w:World} {k:IntKind} {A:Option Addr} {n:Nat} {xs:List Int} (h:ReadsInt w k A n xs) (i:Int) (h0:0≤i) (h1:i < n) : ∃ ad,A=some ad∧w.cell? (ad.add i.toNat)=some (.int k (rd xs i)):=by
  obtain ⟨ad,e,hc⟩:=h.2.2 (by omega)
  exact ⟨ad,e,hc _ (by omega)⟩
theorem ReadsInt.below {w w1:World} {k:IntKind} {A:Option Addr} {n:Nat} {xs:List Int} (h:ReadsInt w k A n xs) (hb:Below w.heap.size w w1):ReadsInt w1 k A n xs:=
  ⟨h.1,h.2.1,fun hn=>by
    obtain ⟨ad,e,hc⟩:=h.2.2 hn
    exact ⟨ad,e,fun j hj=>pw_cell_below hb (hc j hj)⟩⟩
theorem own_nil (W:World) (base:Nat) (e:TypeId) (size:Nat):W.ownsRow base e size (.slice none 0 0) 0 []:=⟨by simp,.inl ⟨rfl,rfl⟩⟩
theorem own_base {w:World} {base:Nat} {e:TypeId} {size n:Nat} {v:Value} {xs:List Value} (h:w.ownsRow base e size v n xs) (k:Nat) (hk:v.ownBlock=some k):base≤k:=by
  rcases h.2 with ⟨rfl,_⟩ | ⟨g,cap,cur,rfl,hb,_⟩
  · simp [Value.ownBlock] at hk
  · have:g=k:=by simpa [Value.ownBlock] using hk
    omega
theorem own_lt {w:World} {base:Nat} {e:TypeId} {size n:Nat} {v:Value} {xs:List Value} (h:w.ownsRow base e size v n xs) (k:Nat) (hk:v.ownBlock=some k):k < w.heap.size:=by
  rcases h.2 with ⟨rfl,_⟩ | ⟨g,cap,cur,rfl,hb,hh,_⟩
  · simp [Value.ownBlock] at hk
  · have:g=k:=by simpa [Value.ownBlock] using hk
    subst this
    exact (Array.getElem?_eq_some_iff.1 hh).1
theorem pw_own_below {w w1:World} {base:Nat} {e:TypeId} {size n:Nat} {v:Value} {xs:List Value} (h:w.ownsRow base e size v n xs) (hb:Below w.heap.size w w1):w1.ownsRow base e size v n xs:=
  h.kept (grown_of_below hb none) (by cases v.ownBlock <;> simp)
theorem ReadsInt.take_ {w:World} {k:IntKind} {A:Option Addr} {n:Nat} {xs:List Int} (h:ReadsInt w k A n xs) (i:Nat) (hi:i≤n):ReadsInt w k A i (xs.take i):=by
  refine ⟨by rw [List.length_take,h.1];omega,by have:=h.2.1;omega,fun hp=>?_⟩
  obtain ⟨ad,e,hc⟩:=h.2.2 (by omega)
  refine ⟨ad,e,fun j hj=>?_⟩
  rw [hc j (by omega)]
  simp [List.getD_eq_getElem?_getD,hj]
def LeO {α:Type} (a b:Option α):Prop:=∀ r,a=some r→b=some r
theorem LeO.refl {α:Type} (a:Option α):LeO a a:=fun _ h=>h
theorem LeO.none {α:Type} (b:Option α):LeO Option.none b:=fun _ h=>by cases h
theorem LeO.trans {α:Type} {a b c:Option α} (h:LeO a b) (k:LeO b c):LeO a c:=fun r hr=>k r (h r hr)
theorem LeO.bind {α β:Type} {a a':Option α} {f f':α→Option β} (h:LeO a a') (k : ∀ x,LeO (f x) (f' x)):LeO (a.bind f) (a'.bind f'):=by
  intro r hr
  obtain ⟨x,hx,hf⟩:=Option.bind_eq_some_iff.1 hr
  exact Option.bind_eq_some_iff.2 ⟨x,h x hx,k x r hf⟩
theorem LeO.map {α β:Type} {a a':Option α} (f:α→β) (h:LeO a a'):LeO (a.map f) (a'.map f):=by
  intro r hr
  obtain ⟨x,hx,hf⟩:=Option.map_eq_some_iff.1 hr
  exact Option.map_eq_some_iff.2 ⟨x,h x hx,hf⟩
theorem more_rounds {α:Type} {g:Nat→Option α} (h : ∀ k,LeO (g k) (g (k+1))) (k:Nat) : ∀ j,LeO (g k) (g (k+j))
  | 0=>LeO.refl _
  | j+1=>(more_rounds h k j).trans (h (k+j))
theorem at_rounds {α:Type} {g:Nat→Option α} (h : ∀ k,LeO (g k) (g (k+1))) {k k':Nat} (hk:k≤k') {r:α} (hr:g k=some r):g k'=some r:=by
  have:=more_rounds h k (k' - k) r hr
  rwa [Nat.add_sub_cancel' hk] at this
theorem together {α β:Type} {g:Nat→Option α} {f:Nat→Option β} (hg : ∀ k,LeO (g k) (g (k+1))) (hf : ∀ k,LeO (f k) (f (k+1))) {r:α} {q:β} (h : ∃ k,g k=some r) (h' : ∃ k,f k=some q) : ∃ k,g k=some r∧f k=some q:=by
  obtain ⟨k,hk⟩:=h
  obtain ⟨k',hk'⟩:=h'
  exact ⟨max k k',at_rounds hg (Nat.le_max_left _ _) hk,at_rounds hf (Nat.le_max_right _ _) hk'⟩
def Reps {α:Type} (R:α→List Value→Prop) (size:Nat) (ps:List α) (cs:List Value):Prop:=
  cs.length=ps.length * size∧∀ j p,ps[j]?=some p→R p ((cs.drop (j * size)).take size)
theorem Reps.none {α:Type} (R:α→List Value→Prop) (size:Nat):Reps R size [] []:=⟨by simp,fun j p h=>by simp at h⟩
theorem Reps.snoc {α:Type} {R:α→List Value→Prop} {size:Nat} {ps:List α} {cs c:List Value} {p:α} (h:Reps R size ps cs) (hp:R p c) (hc:c.length=size):Reps R size (ps++[p]) (cs++c):=by
  refine ⟨by rw [List.length_append,h.1,hc,List.length_append,List.length_singleton,Nat.add_mul,Nat.one_mul],fun j q hq=>?_⟩
  rcases Nat.lt_or_ge j ps.length with hj|hj
  · rw [List.getElem?_append_left hj] at hq
    have h1:j * size+size≤cs.length:=by rw [h.1,← Nat.succ_mul];exact Nat.mul_le_mul_right _ hj
    have h2:=h.2 j q hq
    rw [List.drop_append_of_le_length (by omega),List.take_append_of_le_length (by rw [List.length_drop];omega)]
    exact h2
  · have hj':j=ps.length:=by
      have:=(List.getElem?_eq_some_iff.1 hq).1
      rw [List.length_append,List.length_singleton] at this
      omega
    subst hj'
    have hq':p=q:=by simpa using hq
    subst hq'
    rw [← h.1,List.drop_left,← hc,List.take_length]
    exact hp
theorem Reps.imp_ {α:Type} {R R':α→List Value→Prop} {size:Nat} {ps:List α} {cs:List Value} (h:Reps R size ps cs) (hR : ∀ p c,R p c→R' p c):Reps R' size ps cs:=⟨h.1,fun j p hj=>hR _ _ (h.2 j p hj)⟩
def ReadsRow {α:Type} (R:α→List Value→Prop) (size:Nat) (w:World) (A:Option Addr) (n:Nat) (ps:List α):Prop:=
  ps.length=n∧n≤9223372036854775807∧(0 < n→∃ ad,A=some ad∧∀ j p,ps[j]?=some p→∃ c,c.length=size∧R p c∧∀ i u,c[i]?=some u→w.cell? (ad.add (j * size+i))=some u)
theorem ReadsRow.get_ {α:Type} {R:α→List Value→Prop} {size:Nat} {w:World} {A:Option Addr} {n:Nat} {ps:List α} (h:ReadsRow R size w A n ps) (d:α) (i:Int) (h0:0≤i) (h1:i < n) :
    ∃ ad c,A=some ad∧c.length=size∧R (ps.getD i.toNat d) c∧∀ j u,c[j]?=some u→w.cell? (ad.add (i.toNat * size+j))=some u:=by
  obtain ⟨ad,e,hc⟩:=h.2.2 (by omega)
  have hl:i.toNat < ps.length:=by have:=h.1;omega
  obtain ⟨c,hs,hr,hcell⟩:=hc i.toNat _ (List.getElem?_eq_getElem hl)
  refine ⟨ad,c,e,hs,?_,hcell⟩
  rw [List.getD_eq_getElem?_getD,List.getElem?_eq_getElem hl]
  exact hr
theorem ReadsRow.imp_ {α:Type} {R R':α→List Value→Prop} {size:Nat} {w w1:World} {A:Option Addr} {n:Nat} {ps:List α} (h:ReadsRow R size w A n ps) (hb:Below w.heap.size w w1) (hR : ∀ p c,R p c→R' p c):ReadsRow R' size w1 A n ps:=
  ⟨h.1,h.2.1,fun hn=>by
    obtain ⟨ad,e,hc⟩:=h.2.2 hn
    refine ⟨ad,e,fun j p hj=>?_⟩
    obtain ⟨c,hs,hr,hcell⟩:=hc j p hj
    exact ⟨c,hs,hR _ _ hr,fun i u hu=>pw_cell_below hb (hcell i u hu)⟩⟩
theorem own_reads_row {α:Type} {R:α→List Value→Prop} {w:World} {base n size:Nat} {e:TypeId} {v:Value} {ps:List α} {cs:List Value} (h:w.ownsRow base e size v n cs) (hR:Reps R size ps cs) (hn:ps.length=n) :
    ∃ A c,v=.slice A n c∧ReadsRow R size w A n ps:=by
  rcases Nat.eq_zero_or_pos n with h0|h0
  · rcases h.2 with ⟨rfl,rfl⟩ | ⟨g,cap,cur,rfl,_⟩
    · exact ⟨none,0,rfl,hn,by omega,fun hp=>absurd hp (by omega)⟩
    · exact ⟨_,cap,rfl,hn,by omega,fun hp=>absurd hp (by omega)⟩
  · obtain ⟨g,cap,rfl,_,_⟩:=h.form h0
    have hm:n≤9223372036854775807:=by
      rcases h.2 with ⟨_,h1⟩ | ⟨g',cap',cur,he,_,_,h1,h2,_⟩
      · omega
      · simp only [maxLen] at h2
        omega
    refine ⟨_,cap,rfl,hn,hm,fun _=>⟨_,rfl,fun j p hj=>⟨(cs.drop (j * size)).take size,?_,hR.2 j p hj,fun i u hu=>?_⟩⟩⟩
    · have hjl:=(List.getElem?_eq_some_iff.1 hj).1
      have h1:j * size+size≤cs.length:=by rw [hR.1,← Nat.succ_mul];exact Nat.mul_le_mul_right _ hjl
      rw [List.length_take,List.length_drop]
      omega
    · refine h.cells (g:=g) rfl _ u ?_
      rw [List.getElem?_take] at hu
      split at hu
      · rw [List.getElem?_drop] at hu
        exact hu
      · cases hu
theorem add_field (ad:Addr) (m j:Nat) (hj:0 < j):ad.add (m+j)=⟨(ad.add m).block,(ad.add m).off+j,none⟩:=by
  unfold Addr.add
  by_cases hm:m=0
  · subst hm
    simp [Nat.ne_of_gt hj]
  · simp [hm,Nat.add_assoc]
section
variable {P:Program} {ops:Array Oper} {rest:List Oper} {o:Oper} {a:Act} {Q:Exit→Act→World→Prop}
theorem print_append_cells {w0 W:World} (base:Nat) (hgd:o.guard=none) (s x:Operand) (t e:TypeId) (z:Value) (size bytes:Nat)
    (ho:o.op=.call { callee:=.builtin .append,args:=#[s,x],argTypes:=#[t,t] })
    (ht:P.underlying t=some (.slice e)) (hinfo:(P.info? e).map (fun i=>(i.zero,i.size,i.bytes))=some (some z,size,bytes)) (hz:z.cells.size=size) (hs0:0 < size) (hb0:0 < bytes)
    (v:Value) (n:Nat) (xs ys:List Value) (hs:a.eval s=v) (hx:a.eval x=.slice (some ⟨W.heap.size,0,none⟩) 1 1) (hys:ys.length=size) (h1 : ∀ u ∈ ys,u.oneCell'=true)
    (HO:W.ownsRow base e size v n xs) (HB:Below base w0 W) (hbase:base≤W.heap.size) (hl:(n+1) * bytes≤140737488355328)
    (h : ∀ v1 w1,w1.ownsRow base e size v1 (n+1) (xs++ys)→Below base w0 w1→W.grownBy w1 v.ownBlock→(v1.ownBlock=v.ownBlock∨∃ b,v1.ownBlock=some b∧W.heap.size≤b)→wpList P ops Q rest (a.put o.dst v1) w1) :
    wpList P ops Q (o :: rest) a (W.alloc (.cells ys.toArray e)):=by
  obtain ⟨i0,hi,hzz⟩:=Option.map_eq_some_iff.1 hinfo
  simp only [Prod.mk.injEq] at hzz
  obtain ⟨hz0,hz1,hz2⟩:=hzz
  have hlen:n+1≤140737488355328:=Nat.le_trans (Nat.le_mul_of_pos_right _ hb0) hl
  refine wpList_append_own_at (W.alloc (.cells ys.toArray e)) hgd s x t ho base e i0 z size bytes ht hi hz0 hz1 hz2 hz hs0 v n xs hs (HO.alloc _) ⟨W.heap.size,0,none⟩ 1 1 ys hx (by rw [hys];simp)
    (by simpa using World.news_of_block (cs:=ys.toArray) (t:=e) (fr:=(0,0)) (heap_alloc_new W (.cells ys.toArray e))) h1 (by simp only [maxLen];omega) hl (by simp;omega) ?_
  intro v1 w1 hown hg _ hat
  refine h v1 w1 hown ((HB.alloc hbase _).grown hg (by simp;omega) (own_base HO)) (World.grownBy.trans (World.grownBy_alloc W _ _) hg) ?_
  rcases hat with hat|hat
  · exact .inl hat
  · exact .inr ⟨_,hat,by simp⟩
end
theorem own_ne {w:World} {base:Nat} {e t:TypeId} {size n g:Nat} {v:Value} {xs:List Value} {cs:Array Value} (h:w.ownsRow base e size v n xs) (hg:w.heap[g]?=some (.cells cs t (0,0))) (hne:e≠t):some g≠v.ownBlock:=by
  rcases h.2 with ⟨rfl,_⟩ | ⟨g',cap,cur,rfl,_,hh,_⟩
  · simp [Value.ownBlock]
  · intro he
    have:g=g':=by simpa [Value.ownBlock] using he
    subst this
    rw [hg] at hh
    injection hh with hh
    injection hh with _ ht
    exact hne ht.symm
theorem blk_set {w:World} {g:Nat} {t:TypeId} {cs:Array Value} (h:w.heap[g]?=some (.cells cs t (0,0))) (i:Nat) (u:Value):(w.setCell ⟨g,i,none⟩ u).heap[g]?=some (.cells (cs.setIfInBounds i u) t (0,0)):=by
  simp [World.setCell,Array.getElem?_modify,h]
theorem blk_far {w:World} {g:Nat} {t:TypeId} {cs:Array Value} (h:w.heap[g]?=some (.cells cs t (0,0))) {p:Addr} (hp:g≠p.block) (u:Value):(w.setCell p u).heap[g]?=some (.cells cs t (0,0)):=(Below.heap_setCell w p u g hp).trans h
theorem blk_lt {w:World} {g:Nat} {o:Obj} (h:w.heap[g]?=some o):g < w.heap.size:=(Array.getElem?_eq_some_iff.1 h).1
theorem blk_cell {w:World} {g:Nat} {t:TypeId} {cs:Array Value} (h:w.heap[g]?=some (.cells cs t (0,0))) (i:Nat):w.cell? ⟨g,i,none⟩=cs[i]?:=cell_of_row w g i cs t (0,0) h
theorem blk_frozen {w:World} {g:Nat} {t:TypeId} {cs:Array Value} (h:w.heap[g]?=some (.cells cs t (0,0))) (i:Nat):w.frozen? ⟨g,i,none⟩=false:=by simp [World.frozen?,h]
theorem blk_grown {w w1:World} {g:Nat} {o:Obj} {row:Option Nat} (h:w.heap[g]?=some o) (hg:w.grownBy w1 row) (hne:some g≠row):w1.heap[g]?=some o:=(hg.block g (blk_lt h) hne).trans h
def KeepBut (w w':World) (g:Nat) (row:Option Nat):Prop:=w.heap.size≤w'.heap.size∧∀ i,i < w.heap.size→i≠g→some i≠row→w'.heap[i]?=w.heap[i]?
theorem KeepBut.refl (w:World) (g:Nat) (row:Option Nat):KeepBut w w g row:=⟨Nat.le_refl _,fun _ _ _ _=>rfl⟩
theorem KeepBut.of_below {w w1:World} (h:Below w.heap.size w w1) (g:Nat) (row:Option Nat):KeepBut w w1 g row:=⟨h.size,fun i hi _ _=>h.block i hi⟩
theorem KeepBut.trans {w w1 w2:World} {g:Nat} {row row1:Option Nat} (h:KeepBut w w1 g row) (k:KeepBut w1 w2 g row1) (hr:row1=row∨∃ b,row1=some b∧w.heap.size≤b):KeepBut w w2 g row:=
  ⟨Nat.le_trans h.1 k.1,fun i hi hg hn=>by
    refine (k.2 i (Nat.lt_of_lt_of_le hi h.1) hg ?_).trans (h.2 i hi hg hn)
    rcases hr with rfl | ⟨b,rfl,hb⟩
    · exact hn
    · intro e
      injection e with e
      omega⟩
theorem KeepBut.blk {w w1:World} {g g':Nat} {row:Option Nat} {o:Obj} (h:KeepBut w w1 g row) (hb:w.heap[g']?=some o) (hg:g'≠g) (hr:some g'≠row):w1.heap[g']?=some o:=(h.2 g' (blk_lt hb) hg hr).trans hb
theorem KeepBut.own {w w1:World} {g:Nat} {row:Option Nat} {base:Nat} {e:TypeId} {size n:Nat} {v:Value} {xs:List Value} (h:KeepBut w w1 g row) (ho:w.ownsRow base e size v n xs) (hg:v.ownBlock≠some g) (hr:v.ownBlock=none∨v.ownBlock≠row):w1.ownsRow base e size v n xs:=by
  obtain ⟨h1,h2⟩:=ho
  refine ⟨h1,?_⟩
  rcases h2 with h2 | ⟨b,cap,cur,rfl,hb,hh,r⟩
  · exact .inl h2
  · refine .inr ⟨b,cap,cur,rfl,hb,h.blk hh ?_ ?_,r⟩
    · intro e
      exact hg (by rw [← e];rfl)
    · rcases hr with hr|hr
      · simp [Value.ownBlock] at hr
      · exact hr
def Ev {α:Type} (g:Nat→Option α) (r:α):Prop:=∃ K,∀ k,K≤k→g k=some r
theorem Ev.of {α:Type} {g:Nat→Option α} {r:α} (hg : ∀ k,LeO (g k) (g (k+1))) {k:Nat} (h:g k=some r):Ev g r:=⟨k,fun _ hk=>at_rounds hg hk h⟩
theorem Ev.now {α:Type} (r:α):Ev (fun _=>some r) r:=⟨0,fun _ _=>rfl⟩
theorem Ev.rounds {α:Type} {g:Nat→Option α} {r:α} (h:Ev g r) : ∃ k,g k=some r:=by
  obtain ⟨K,h⟩:=h
  exact ⟨K,h K (Nat.le_refl _)⟩
theorem Ev.bind {α β:Type} {g:Nat→Option α} {f:Nat→α→Option β} {a:α} {r:β} (h:Ev g a) (k:Ev (fun n=>f n a) r):Ev (fun n=>(g n).bind (f n)) r:=by
  obtain ⟨K,h⟩:=h
  obtain ⟨K',k⟩:=k
  refine ⟨max K K',fun n hn=>?_⟩
  have h1:=h n (by omega)
  have h2:=k n (by omega)
  simp only [h1,Option.bind_some]
  exact h2
theorem Ev.step {α:Type} {g f:Nat→Option α} {r:α} (h : ∀ k,g (k+1)=f k) (k:Ev f r):Ev g r:=by
  obtain ⟨K,k⟩:=k
  refine ⟨K+1,fun n hn=>?_⟩
  obtain ⟨m,rfl⟩ : ∃ m,n=m+1:=⟨n - 1,by omega⟩
  rw [h]
  exact k m (by omega)
theorem Ev.congr {α:Type} {g f:Nat→Option α} {r:α} (h : ∀ k,g k=f k) (k:Ev f r):Ev g r:=by
  obtain ⟨K,k⟩:=k
  exact ⟨K,fun n hn=>(h n).trans (k n hn)⟩
section
variable {P:Program} {ops:Array Oper} {o:Oper} {a:Act} {Q:Exit→Act→World→Prop} {K:Act→World→Prop}
theorem step_append_cells {w0 W:World} (base:Nat) (hw:Region.wanted o (yielded ops a.tmps)=true) (s x:Operand) (t e:TypeId) (z:Value) (size bytes:Nat)
    (ho:o.op=.call { callee:=.builtin .append,args:=#[s,x],argTypes:=#[t,t] })
    (ht:P.underlying t=some (.slice e)) (hinfo:(P.info? e).map (fun i=>(i.zero,i.size,i.bytes))=some (some z,size,bytes)) (hz:z.cells.size=size) (hs0:0 < size) (hb0:0 < bytes)
    (v:Value) (n:Nat) (xs ys:List Value) (hs:a.eval s=v) (hx:a.eval x=.slice (some ⟨W.heap.size,0,none⟩) 1 1) (hys:ys.length=size) (h1 : ∀ u ∈ ys,u.oneCell'=true)
    (HO:W.ownsRow base e size v n xs) (HB:Below base w0 W) (hbase:base≤W.heap.size) (hl:(n+1) * bytes≤140737488355328)
    (h : ∀ v1 w1,w1.ownsRow base e size v1 (n+1) (xs++ys)→Below base w0 w1→W.grownBy w1 v.ownBlock→(v1.ownBlock=v.ownBlock∨∃ b,v1.ownBlock=some b∧W.heap.size≤b)→K (a.put o.dst v1) w1) :
    if Region.wanted o (yielded ops a.tmps)=true then Oper.wp P o a (W.alloc (.cells ys.toArray e)) K Q else K (a.put o.dst undef) (W.alloc (.cells ys.toArray e)):=by
  obtain ⟨i0,hi,hzz⟩:=Option.map_eq_some_iff.1 hinfo
  simp only [Prod.mk.injEq] at hzz
  obtain ⟨hz0,hz1,hz2⟩:=hzz
  have hlen:n+1≤140737488355328:=Nat.le_trans (Nat.le_mul_of_pos_right _ hb0) hl
  rw [if_pos hw]
  obtain ⟨v1,w1,hr,hown,hg,_,hat⟩:=run_append_own_at (P:=P) (W.alloc (.cells ys.toArray e)) base t o.type e i0 z size bytes ht hi hz0 hz1 hz2 hz hs0 v n xs (HO.alloc _) ⟨W.heap.size,0,none⟩ 1 1 ys (by rw [hys];simp)
    (by simpa using World.news_of_block (cs:=ys.toArray) (t:=e) (fr:=(0,0)) (heap_alloc_new W (.cells ys.toArray e))) h1 (by simp only [maxLen];omega) hl (by simp;omega)
  unfold Oper.wp execOp
  simp only [ho,resolve,invoke,builtin,Sem.run_bind,Sem.run_pure,Result.andThen_ok,List.map_toArray,List.map_cons,List.map_nil,hs,hx,hr]
  refine h v1 w1 hown ((HB.alloc hbase _).grown hg (by simp;omega) (own_base HO)) (World.grownBy.trans (World.grownBy_alloc W _ _) hg) ?_
  rcases hat with hat|hat
  · exact .inl hat
  · exact .inr ⟨_,hat,by simp⟩
end
theorem own_weaken {w:World} {base base':Nat} {e:TypeId} {size n:Nat} {v:Value} {xs:List Value} (h:w.ownsRow base e size v n xs) (hb:base'≤base):w.ownsRow base' e size v n xs:=by
  obtain ⟨h1,h2⟩:=h
  refine ⟨h1,?_⟩
  rcases h2 with h2 | ⟨g,cap,cur,rfl,hg,r⟩
  · exact .inl h2
  · exact .inr ⟨g,cap,cur,rfl,Nat.le_trans hb hg,r⟩
section
variable {α:Type} {enc:α→Value} {d:α}
def rdOf (d:α) (xs:List α) (i:Int):α:=xs.getD i.toNat d
def ReadsOf (enc:α→Value) (d:α) (w:World) (A:Option Addr) (n:Nat) (xs:List α):Prop:=
  xs.length=n∧n≤9223372036854775807∧(0 < n→∃ ad,A=some ad∧∀ j,j < n→w.cell? (ad.add j)=some (enc (xs.getD j d)))
theorem ReadsOf.at_ {w:World} {A:Option Addr} {n:Nat} {xs:List α} (h:ReadsOf enc d w A n xs) (i:Int) (h0:0≤i) (h1:i < n) : ∃ ad,A=some ad∧w.cell? (ad.add i.toNat)=some (enc (rdOf d xs i)):=by
  obtain ⟨ad,e,hc⟩:=h.2.2 (by omega)
  exact ⟨ad,e,hc _ (by omega)⟩
theorem ReadsOf.below {w w1:World} {A:Option Addr} {n:Nat} {xs:List α} (h:ReadsOf enc d w A n xs) (hb:Below w.heap.size w w1):ReadsOf enc d w1 A n xs:=
  ⟨h.1,h.2.1,fun hn=>by
    obtain ⟨ad,e,hc⟩:=h.2.2 hn
    exact ⟨ad,e,fun j hj=>pw_cell_below hb (hc j hj)⟩⟩
theorem ReadsOf.take_ {w:World} {A:Option Addr} {n:Nat} {xs:List α} (h:ReadsOf enc d w A n xs) (i:Nat) (hi:i≤n):ReadsOf enc d w A i (xs.take i):=by
  refine ⟨by rw [List.length_take,h.1];omega,by have:=h.2.1;omega,fun hp=>?_⟩
  obtain ⟨ad,e,hc⟩:=h.2.2 (by omega)
  refine ⟨ad,e,fun j hj=>?_⟩
  rw [hc j (by omega)]
  simp [List.getD_eq_getElem?_getD,hj]
end
theorem blk_alloc {w:World} {g:Nat} {o:Obj} (h:w.heap[g]?=some o) (o':Obj):(w.alloc o').heap[g]?=some o:=(Below.heap_alloc w o' g (blk_lt h)).trans h
theorem blk_drew {w:World} {g:Nat} {o:Obj} (h:w.heap[g]?=some o):w.drew.heap[g]?=some o:=h
theorem blk_drewN {w:World} {g:Nat} {o:Obj} (h:w.heap[g]?=some o) (n:Nat):(w.drewN n).heap[g]?=some o:=h
theorem blk_below {w w1:World} {g:Nat} {o:Obj} (h:w.heap[g]?=some o) (hb:Below w.heap.size w w1):w1.heap[g]?=some o:=(hb.block g (blk_lt h)).trans h
theorem blk_new (w:World) (o:Obj):(w.alloc o).heap[w.heap.size]?=some o:=heap_alloc_new w o
theorem own_le {w:World} {base n m c size:Nat} {e:TypeId} {A:Option Addr} {xs:List Value} (h:w.ownsRow base e size (.slice A m c) n xs):m≤c:=by
  rcases h.2 with ⟨he,_⟩ | ⟨g,cap,cur,he,_,_,hnc,_⟩
  · injection he with _ h2 h3
    omega
  · injection he with _ h2 h3
    omega
def OwnRow {α:Type} (R:α→List Value→Prop) (e:TypeId) (size:Nat) (w:World) (base:Nat) (v:Value) (ps:List α):Prop:=
  ∃ inner,w.ownsRow base e size v ps.length inner∧Reps R size ps inner
section
variable {α:Type} {R R':α→List Value→Prop} {e:TypeId} {size:Nat} {w w1:World} {base:Nat} {v:Value} {ps:List α}
theorem OwnRow.none_ (R:α→List Value→Prop) (e:TypeId) (size:Nat) (w:World) (base:Nat):OwnRow R e size w base (.slice none 0 0) []:=⟨[],own_nil _ _ _ _,Reps.none _ _⟩
theorem OwnRow.imp_ (h:OwnRow R e size w base v ps) (hR : ∀ p c,R p c→R' p c):OwnRow R' e size w base v ps:=by
  obtain ⟨inner,ho,hr⟩:=h
  exact ⟨inner,ho,hr.imp_ hR⟩
theorem OwnRow.below (h:OwnRow R e size w base v ps) (hb:Below w.heap.size w w1):OwnRow R e size w1 base v ps:=by
  obtain ⟨inner,ho,hr⟩:=h
  exact ⟨inner,pw_own_below ho hb,hr⟩
theorem OwnRow.reads (h:OwnRow R e size w base v ps) : ∃ A c,v=.slice A ps.length c∧ps.length≤c∧ReadsRow R size w A ps.length ps:=by
  obtain ⟨inner,ho,hr⟩:=h
  obtain ⟨A,c,rfl,hrow⟩:=own_reads_row ho hr rfl
  exact ⟨A,c,rfl,own_le ho,hrow⟩
theorem OwnRow.ne_block (h:OwnRow R e size w base v ps) {g:Nat} {t:TypeId} {cells:Array Value} (hb:w.heap[g]?=some (.cells cells t (0,0))) (ht:e≠t):some g≠v.ownBlock:=by
  obtain ⟨inner,ho,hr⟩:=h
  exact own_ne ho hb ht
theorem OwnRow.lit (W:World) (base:Nat) {inner:List Value} (hr:Reps R size ps inner) (hb:base≤W.heap.size) (hm:ps.length≤9223372036854775807) :
    OwnRow R e size (W.alloc (.cells inner.toArray e)) base (.slice (some ⟨W.heap.size,0,none⟩) ps.length ps.length) ps:=by
  have h:=World.ownsRow_lit (base:=base) (e:=e) (size:=size) W inner.toArray ps.length hb (by simpa [maxLen] using hm) (by simpa using hr.1)
  exact ⟨inner,by simpa using h,hr⟩
end
section
variable {P:Program} {ops:Array Oper} {rest:List Oper} {o:Oper} {a:Act} {Q:Exit→Act→World→Prop} {α:Type} {R:α→List Value→Prop}
theorem OwnRow.append {w0 W:World} (base:Nat) (hgd:o.guard=none) (s x:Operand) (t e:TypeId) (z:Value) (size bytes:Nat)
    (ho:o.op=.call { callee:=.builtin .append,args:=#[s,x],argTypes:=#[t,t] })
    (ht:P.underlying t=some (.slice e)) (hinfo:(P.info? e).map (fun i=>(i.zero,i.size,i.bytes))=some (some z,size,bytes)) (hz:z.cells.size=size) (hs0:0 < size) (hb0:0 < bytes)
    (v:Value) (ps:List α) (p:α) (cs:List Value) (hs:a.eval s=v) (hx:a.eval x=.slice (some ⟨W.heap.size,0,none⟩) 1 1) (hp:R p cs) (hcs:cs.length=size) (h1 : ∀ u ∈ cs,u.oneCell'=true)
    (HO:OwnRow R e size W base v ps) (HB:Below base w0 W) (hbase:base≤W.heap.size) (hl:(ps.length+1) * bytes≤140737488355328)
    (h : ∀ v1 w1,OwnRow R e size w1 base v1 (ps++[p])→Below base w0 w1→W.grownBy w1 v.ownBlock→(v1.ownBlock=v.ownBlock∨∃ b,v1.ownBlock=some b∧W.heap.size≤b)→wpList P ops Q rest (a.put o.dst v1) w1) :
    wpList P ops Q (o :: rest) a (W.alloc (.cells cs.toArray e)):=by
  obtain ⟨inner,hown,hr⟩:=HO
  refine print_append_cells base hgd s x t e z size bytes ho ht hinfo hz hs0 hb0 v ps.length inner cs hs hx hcs h1 hown HB hbase hl ?_
  intro v1 w1 hown1 hb1 hg1 hat1
  exact h v1 w1 ⟨inner++cs,by rw [List.length_append,List.length_singleton];exact hown1,hr.snoc hp hcs⟩ hb1 hg1 hat1
end
structure Kd (α:Type) where
  sz:Nat
  E:List Nat
  K:World→α→List Value→Prop
  M:World→Nat→(Nat→Prop)→α→List Value→Prop
  K_len : ∀ {w x cs},K w x cs→cs.length=sz
  K_one : ∀ {w x cs},K w x cs→∀ u ∈ cs,u.oneCell'=true
  K_below : ∀ {w w1:World} {x cs},Below w.heap.size w w1→K w x cs→K w1 x cs
  K_of_M : ∀ {w base ok x cs},M w base ok x cs→K w x cs
  M_mono : ∀ {w base ok ok' x cs},(∀ k,ok k→ok' k)→M w base ok x cs→M w base ok' x cs
  M_bound : ∀ {w:World} {base ok x cs},M w base ok x cs→M w base (fun k=>ok k∧base≤k∧k < w.heap.size∧∃ q,q ∈ E∧∃ cells,w.heap[k]?=some (.cells cells q (0,0))) x cs
  M_move : ∀ {w w1:World} {base ok x cs},(∀ k,ok k→w1.heap[k]?=w.heap[k]?)→M w base ok x cs→M w1 base ok x cs
  M_lower : ∀ {w base base' ok x cs},base'≤base→M w base ok x cs→M w base' ok x cs
theorem own_move {w w1:World} {base:Nat} {e:TypeId} {size n:Nat} {v:Value} {xs:List Value} (h:w.ownsRow base e size v n xs) (hm : ∀ k,v.ownBlock=some k→w1.heap[k]?=w.heap[k]?):w1.ownsRow base e size v n xs:=by
  obtain ⟨h1,h2⟩:=h
  refine ⟨h1,?_⟩
  rcases h2 with h2 | ⟨g,cap,cur,rfl,hg,hh,r⟩
  · exact .inl h2
  · exact .inr ⟨g,cap,cur,rfl,hg,(hm g (by simp [Value.ownBlock])).trans hh,r⟩
theorem own_typed {w:World} {base:Nat} {e:TypeId} {size n:Nat} {v:Value} {xs:List Value} (h:w.ownsRow base e size v n xs) (k:Nat) (hk:v.ownBlock=some k) : ∃ cells,w.heap[k]?=some (.cells cells e (0,0)):=by
  rcases h.2 with ⟨rfl,_⟩ | ⟨g,cap,cur,rfl,hg,hh,r⟩
  · simp [Value.ownBlock] at hk
  · have:g=k:=by simpa [Value.ownBlock] using hk
    subst this
    exact ⟨cur,hh⟩
namespace Kd
def C {α:Type} (d:Kd α) (w:World) (A:Option Addr) (n:Nat) (xs:List α):Prop:=ReadsRow (d.K w) d.sz w A n xs
def R {α:Type} (d:Kd α) (e:Nat) (w:World) (base:Nat) (ok:Nat→Prop) (v:Value) (xs:List α):Prop:=
  (∀ k,v.ownBlock=some k→ok k)∧OwnRow (d.M w base (fun k=>ok k∧some k≠v.ownBlock)) e d.sz w base v xs
section
variable {α:Type} {d:Kd α} {e:Nat} {w w1:World} {base:Nat} {ok ok':Nat→Prop} {v:Value} {xs:List α}
theorem C_below {A:Option Addr} {n:Nat} (h:d.C w A n xs) (hb:Below w.heap.size w w1):d.C w1 A n xs:=ReadsRow.imp_ h hb (fun _ _ hp=>d.K_below hb hp)
theorem R_nil (d:Kd α) (e:Nat) (w:World) (base:Nat) (ok:Nat→Prop):d.R e w base ok (.slice none 0 0) []:=⟨fun k hk=>by simp [Value.ownBlock] at hk,OwnRow.none_ _ _ _ _ _⟩
theorem R_mono (h:d.R e w base ok v xs) (hok : ∀ k,ok k→ok' k):d.R e w base ok' v xs:=⟨fun k hk=>hok k (h.1 k hk),h.2.imp_ (fun _ _ hp=>d.M_mono (fun k hk=>⟨hok k hk.1,hk.2⟩) hp)⟩
theorem R_bound (h:d.R e w base ok v xs):d.R e w base (fun k=>ok k∧base≤k∧k < w.heap.size∧∃ q,q ∈ e :: d.E∧∃ cells,w.heap[k]?=some (.cells cells q (0,0))) v xs:=by
  obtain ⟨h0,inner,ho,hr⟩:=h
  refine ⟨fun k hk=>?_,inner,ho,hr.imp_ (fun _ _ hp=>d.M_mono (fun k hk=>?_) (d.M_bound hp))⟩
  · obtain ⟨cells,hc⟩:=own_typed ho k hk
    exact ⟨h0 k hk,own_base ho k hk,own_lt ho k hk,e,List.mem_cons_self,cells,hc⟩
  · obtain ⟨⟨h1,h2⟩,h3,h4,q,hq,hc⟩:=hk
    exact ⟨⟨h1,h3,h4,q,List.mem_cons_of_mem _ hq,hc⟩,h2⟩
theorem R_move (h:d.R e w base ok v xs) (hm : ∀ k,ok k→w1.heap[k]?=w.heap[k]?):d.R e w1 base ok v xs:=by
  obtain ⟨h0,inner,ho,hr⟩:=h
  exact ⟨h0,inner,own_move ho (fun k hk=>hm k (h0 k hk)),hr.imp_ (fun _ _ hp=>d.M_move (fun k hk=>hm k hk.1) hp)⟩
theorem R_lower {base':Nat} (h:d.R e w base ok v xs) (hb:base'≤base):d.R e w base' ok v xs:=by
  obtain ⟨h0,inner,ho,hr⟩:=h
  exact ⟨h0,inner,own_weaken ho hb,hr.imp_ (fun _ _ hp=>d.M_lower hb hp)⟩
theorem R_step (h:d.R e w base ok v xs) (hm : ∀ k,ok k→k < w.heap.size→w1.heap[k]?=w.heap[k]?):d.R e w1 base ok v xs:=
  R_mono (R_move (R_bound h) (fun k hk=>hm k hk.1 hk.2.2.1)) (fun _ hk=>hk.1)
theorem M_step {x:α} {cs:List Value} (h:d.M w base ok x cs) (hm : ∀ k,ok k→k < w.heap.size→w1.heap[k]?=w.heap[k]?):d.M w1 base ok x cs:=
  d.M_mono (fun _ hk=>hk.1) (d.M_move (fun k hk=>hm k hk.1 hk.2.2.1) (d.M_bound h))
theorem R_below (h:d.R e w base ok v xs) (hb:Below w.heap.size w w1):d.R e w1 base ok v xs:=R_step h (fun k _ hk=>hb.block k hk)
theorem M_below {x:α} {cs:List Value} (h:d.M w base ok x cs) (hb:Below w.heap.size w w1):d.M w1 base ok x cs:=M_step h (fun k _ hk=>hb.block k hk)
theorem R_far (h:d.R e w base ok v xs) {p:Addr} (hok : ∀ k,ok k→k≠p.block) (u:Value):d.R e (w.setCell p u) base ok v xs:=R_step h (fun k ho _=>Below.heap_setCell w p u k (hok k ho))
theorem R_types (h:d.R e w base ok v xs) {g t:Nat} {cells:Array Value} (hb:w.heap[g]?=some (.cells cells t (0,0))) (ht : ∀ q,q ∈ e :: d.E→q≠t):d.R e w base (fun k=>ok k∧k≠g) v xs:=
  R_mono (R_bound h) (fun k hk=>⟨hk.1,by
    obtain ⟨_,_,_,q,hq,cells',hc⟩:=hk
    rintro rfl
    rw [hc] at hb
    injection hb with hb
    injection hb with _ hb
    exact ht q hq hb⟩)
theorem R_reads (h:d.R e w base ok v xs) : ∃ A c,v=.slice A xs.length c∧xs.length≤c∧d.C w A xs.length xs:=by
  obtain ⟨A,c,he,hl,hr⟩:=OwnRow.reads h.2
  exact ⟨A,c,he,hl,hr.imp_ (Below.refl _ _) (fun _ _ hp=>d.K_of_M hp)⟩
theorem R_slice (h:d.R e w base ok v xs) : ∃ A c,v=.slice A xs.length c:=by
  obtain ⟨A,c,he,_⟩:=R_reads h
  exact ⟨A,c,he⟩
theorem R_own (h:d.R e w base ok v xs) : ∃ inner,w.ownsRow base e d.sz v xs.length inner:=by
  obtain ⟨_,inner,ho,_⟩:=h
  exact ⟨inner,ho⟩
theorem R_ne (h:d.R e w base ok v xs) {g t:Nat} {cells:Array Value} (hb:w.heap[g]?=some (.cells cells t (0,0))) (ht:e≠t):some g≠v.ownBlock:=OwnRow.ne_block h.2 hb ht
end
def scalar {α:Type} (enc:α→Value) (h1 : ∀ x,(enc x).oneCell'=true):Kd α where
  sz:=1
  E:=[]
  K:=fun _ x cs=>cs=[enc x]
  M:=fun _ _ _ x cs=>cs=[enc x]
  K_len:=fun h=>by rw [h];rfl
  K_one:=fun h u hu=>by
    rw [h] at hu
    rw [List.mem_singleton.1 hu]
    exact h1 _
  K_below:=fun _ h=>h
  K_of_M:=fun h=>h
  M_mono:=fun _ h=>h
  M_bound:=fun h=>h
  M_move:=fun _ h=>h
  M_lower:=fun _ h=>h
def int (k:IntKind):Kd Int:=scalar (Value.int k) (fun _=>rfl)
def bool:Kd Bool:=scalar Value.bool (fun _=>rfl)
def string:Kd ByteArray:=scalar Value.string (fun _=>rfl)
def slice {α:Type} (e:Nat) (d:Kd α):Kd (List α) where
  sz:=1
  E:=e :: d.E
  K:=fun w xs cs=>∃ A c,cs=[.slice A xs.length c]∧xs.length≤c∧d.C w A xs.length xs
  M:=fun w base ok xs cs=>∃ v,cs=[v]∧d.R e w base ok v xs
  K_len:=by
    rintro w x cs ⟨A,c,rfl,_⟩
    rfl
  K_one:=by
    rintro w x cs ⟨A,c,rfl,_⟩ u hu
    rw [List.mem_singleton.1 hu]
    rfl
  K_below:=by
    rintro w w1 x cs hb ⟨A,c,rfl,hl,hr⟩
    exact ⟨A,c,rfl,hl,C_below hr hb⟩
  K_of_M:=by
    rintro w base ok x cs ⟨v,rfl,h⟩
    obtain ⟨A,c,rfl,hl,hr⟩:=R_reads h
    exact ⟨A,c,rfl,hl,hr⟩
  M_mono:=by
    rintro w base ok ok' x cs hok ⟨v,rfl,h⟩
    exact ⟨v,rfl,R_mono h hok⟩
  M_bound:=by
    rintro w base ok x cs ⟨v,rfl,h⟩
    exact ⟨v,rfl,R_bound h⟩
  M_move:=by
    rintro w w1 base ok x cs hm ⟨v,rfl,h⟩
    exact ⟨v,rfl,R_move h hm⟩
  M_lower:=by
    rintro w base base' ok x cs hb ⟨v,rfl,h⟩
    exact ⟨v,rfl,R_lower h hb⟩
def pair {α β:Type} (a:Kd α) (b:Kd β):Kd (α × β) where
  sz:=a.sz+b.sz
  E:=a.E++b.E
  K:=fun w x cs=>∃ c0 c1,cs=c0++c1∧a.K w x.1 c0∧b.K w x.2 c1
  M:=fun w base ok x cs=>∃ c0 c1,cs=c0++c1∧a.M w base ok x.1 c0∧b.M w base ok x.2 c1
  K_len:=by
    rintro w x cs ⟨c0,c1,rfl,h0,h1⟩
    rw [List.length_append,a.K_len h0,b.K_len h1]
  K_one:=by
    rintro w x cs ⟨c0,c1,rfl,h0,h1⟩ u hu
    rcases List.mem_append.1 hu with hu|hu
    · exact a.K_one h0 u hu
    · exact b.K_one h1 u hu
  K_below:=by
    rintro w w1 x cs hb ⟨c0,c1,rfl,h0,h1⟩
    exact ⟨c0,c1,rfl,a.K_below hb h0,b.K_below hb h1⟩
  K_of_M:=by
    rintro w base ok x cs ⟨c0,c1,rfl,h0,h1⟩
    exact ⟨c0,c1,rfl,a.K_of_M h0,b.K_of_M h1⟩
  M_mono:=by
    rintro w base ok ok' x cs hok ⟨c0,c1,rfl,h0,h1⟩
    exact ⟨c0,c1,rfl,a.M_mono hok h0,b.M_mono hok h1⟩
  M_bound:=by
    rintro w base ok x cs ⟨c0,c1,rfl,h0,h1⟩
    refine ⟨c0,c1,rfl,a.M_mono ?_ (a.M_bound h0),b.M_mono ?_ (b.M_bound h1)⟩
    · rintro k ⟨h2,h3,h4,q,hq,hc⟩
      exact ⟨h2,h3,h4,q,List.mem_append_left _ hq,hc⟩
    · rintro k ⟨h2,h3,h4,q,hq,hc⟩
      exact ⟨h2,h3,h4,q,List.mem_append_right _ hq,hc⟩
  M_move:=by
    rintro w w1 base ok x cs hm ⟨c0,c1,rfl,h0,h1⟩
    exact ⟨c0,c1,rfl,a.M_move hm h0,b.M_move hm h1⟩
  M_lower:=by
    rintro w base base' ok x cs hb ⟨c0,c1,rfl,h0,h1⟩
    exact ⟨c0,c1,rfl,a.M_lower hb h0,b.M_lower hb h1⟩
def iso {α β:Type} (d:Kd α) (f:β→α):Kd β where
  sz:=d.sz
  E:=d.E
  K:=fun w x cs=>d.K w (f x) cs
  M:=fun w base ok x cs=>d.M w base ok (f x) cs
  K_len:=d.K_len
  K_one:=d.K_one
  K_below:=d.K_below
  K_of_M:=d.K_of_M
  M_mono:=d.M_mono
  M_bound:=d.M_bound
  M_move:=d.M_move
  M_lower:=d.M_lower
def bot {α:Type} (sz:Nat) (E:List Nat):Kd α where
  sz:=sz
  E:=E
  K:=fun _ _ _=>False
  M:=fun _ _ _ _ _=>False
  K_len:=fun h=>h.elim
  K_one:=fun h=>h.elim
  K_below:=fun _ h=>h
  K_of_M:=fun h=>h
  M_mono:=fun _ h=>h
  M_bound:=fun h=>h
  M_move:=fun _ h=>h
  M_lower:=fun _ h=>h
def upto {α:Type} (F:Kd α→Kd α) (sz:Nat) (E:List Nat):Nat→Kd α
  | 0=>bot sz E
  | n+1=>F (upto F sz E n)
def fix {α:Type} (F:Kd α→Kd α) (sz:Nat) (E:List Nat) (hs : ∀ n,(upto F sz E n).sz=sz) (hE : ∀ n q,q ∈ (upto F sz E n).E→q ∈ E):Kd α where
  sz:=sz
  E:=E
  K:=fun w x cs=>∃ n,(upto F sz E n).K w x cs
  M:=fun w base ok x cs=>∃ n,(upto F sz E n).M w base ok x cs
  K_len:=by
    rintro w x cs ⟨n,h⟩
    rw [(upto F sz E n).K_len h,hs n]
  K_one:=by
    rintro w x cs ⟨n,h⟩
    exact (upto F sz E n).K_one h
  K_below:=by
    rintro w w1 x cs hb ⟨n,h⟩
    exact ⟨n,(upto F sz E n).K_below hb h⟩
  K_of_M:=by
    rintro w base ok x cs ⟨n,h⟩
    exact ⟨n,(upto F sz E n).K_of_M h⟩
  M_mono:=by
    rintro w base ok ok' x cs hok ⟨n,h⟩
    exact ⟨n,(upto F sz E n).M_mono hok h⟩
  M_bound:=by
    rintro w base ok x cs ⟨n,h⟩
    refine ⟨n,(upto F sz E n).M_mono ?_ ((upto F sz E n).M_bound h)⟩
    rintro k ⟨h2,h3,h4,q,hq,hc⟩
    exact ⟨h2,h3,h4,q,hE n q hq,hc⟩
  M_move:=by
    rintro w w1 base ok x cs hm ⟨n,h⟩
    exact ⟨n,(upto F sz E n).M_move hm h⟩
  M_lower:=by
    rintro w base base' ok x cs hb ⟨n,h⟩
    exact ⟨n,(upto F sz E n).M_lower hb h⟩
theorem C_get {α:Type} {d:Kd α} {w:World} {A:Option Addr} {n:Nat} {xs:List α} (h:d.C w A n xs) (z:α) (i:Int) (h0:0≤i) (h1:i < n) :
    ∃ ad c,A=some ad∧c.length=d.sz∧d.K w (xs.getD i.toNat z) c∧∀ j u,c[j]?=some u→w.cell? (ad.add (i.toNat * d.sz+j))=some u:=ReadsRow.get_ h z i h0 h1
theorem R_appended {α:Type} {d:Kd α} {e base:Nat} {ok okp:Nat→Prop} {W w1:World} {v v1:Value} {xs:List α} {p:α} {inner cs:List Value} (h0 : ∀ k,v.ownBlock=some k→ok k) (hr:Reps (d.M W base (fun k=>ok k∧some k≠v.ownBlock)) d.sz xs inner) (hp:d.M W base okp p cs) (hokp : ∀ k,okp k→ok k∧some k≠v.ownBlock) (hfresh : ∀ k,W.heap.size≤k→ok k)
    (hown:w1.ownsRow base e d.sz v1 (xs.length+1) (inner++cs)) (hg:W.grownBy w1 v.ownBlock) (hat:v1.ownBlock=v.ownBlock∨∃ b,v1.ownBlock=some b∧W.heap.size≤b):d.R e w1 base ok v1 (xs++[p]):=by
  have hne : ∀ k,some k≠v.ownBlock→k < W.heap.size→some k≠v1.ownBlock:=by
    intro k hk hlt
    rcases hat with hat | ⟨b,hb,hle⟩
    · rw [hat];exact hk
    · rw [hb]
      intro he
      injection he with he
      omega
  have step : ∀ {q:α} {c:List Value} {o:Nat→Prop},d.M W base o q c→(∀ k,o k→ok k∧some k≠v.ownBlock)→d.M w1 base (fun k=>ok k∧some k≠v1.ownBlock) q c:=by
    intro q c o hq ho
    have h1:=d.M_move (w1:=w1) (fun k hk=>hg.block k hk.2.2.1 (ho k hk.1).2) (d.M_bound hq)
    exact d.M_mono (fun k hk=>⟨(ho k hk.1).1,hne k (ho k hk.1).2 hk.2.2.1⟩) h1
  refine ⟨fun k hk=>?_,inner++cs,by rw [List.length_append,List.length_singleton];exact hown,?_⟩
  · rcases hat with hat | ⟨b,hb,hle⟩
    · exact h0 k (hat ▸ hk)
    · rw [hb] at hk
      injection hk with hk
      exact hfresh k (by omega)
  · exact (hr.imp_ (fun _ _ hq=>step hq (fun _ hk=>hk))).snoc (step hp hokp) (d.K_len (d.K_of_M hp))
section
variable {P:Program} {ops:Array Oper} {rest:List Oper} {o:Oper} {a:Act} {Q:Exit→Act→World→Prop} {α:Type}
theorem R_append (d:Kd α) {w0 W:World} (base:Nat) (hgd:o.guard=none) (s x:Operand) (t e:TypeId) (z:Value) (bytes:Nat)
    (ho:o.op=.call { callee:=.builtin .append,args:=#[s,x],argTypes:=#[t,t] })
    (ht:P.underlying t=some (.slice e)) (hinfo:(P.info? e).map (fun i=>(i.zero,i.size,i.bytes))=some (some z,d.sz,bytes)) (hz:z.cells.size=d.sz) (hs0:0 < d.sz) (hb0:0 < bytes)
    (v:Value) (xs:List α) (p:α) (cs:List Value) (ok okp:Nat→Prop) (hs:a.eval s=v) (hx:a.eval x=.slice (some ⟨W.heap.size,0,none⟩) 1 1) (hp:d.M W base okp p cs) (hokp : ∀ k,okp k→ok k∧some k≠v.ownBlock) (hfresh : ∀ k,W.heap.size≤k→ok k)
    (HO:d.R e W base ok v xs) (HB:Below base w0 W) (hbase:base≤W.heap.size) (hl:(xs.length+1) * bytes≤140737488355328)
    (h : ∀ v1 w1,d.R e w1 base ok v1 (xs++[p])→Below base w0 w1→W.grownBy w1 v.ownBlock→(v1.ownBlock=v.ownBlock∨∃ b,v1.ownBlock=some b∧W.heap.size≤b)→wpList P ops Q rest (a.put o.dst v1) w1) :
    wpList P ops Q (o :: rest) a (W.alloc (.cells cs.toArray e)):=by
  obtain ⟨h0,inner,hown,hr⟩:=HO
  refine print_append_cells base hgd s x t e z d.sz bytes ho ht hinfo hz hs0 hb0 v xs.length inner cs hs hx (d.K_len (d.K_of_M hp)) (d.K_one (d.K_of_M hp)) hown HB hbase hl ?_
  intro v1 w1 hown1 hb1 hg1 hat1
  exact h v1 w1 (R_appended h0 hr hp hokp hfresh hown1 hg1 hat1) hb1 hg1 hat1
end
section
variable {P:Program} {ops:Array Oper} {o:Oper} {a:Act} {Q:Exit→Act→World→Prop} {Kc:Act→World→Prop} {α:Type}
theorem R_append_step (d:Kd α) {w0 W:World} (base:Nat) (hw:Region.wanted o (yielded ops a.tmps)=true) (s x:Operand) (t e:TypeId) (z:Value) (bytes:Nat)
    (ho:o.op=.call { callee:=.builtin .append,args:=#[s,x],argTypes:=#[t,t] })
    (ht:P.underlying t=some (.slice e)) (hinfo:(P.info? e).map (fun i=>(i.zero,i.size,i.bytes))=some (some z,d.sz,bytes)) (hz:z.cells.size=d.sz) (hs0:0 < d.sz) (hb0:0 < bytes)
    (v:Value) (xs:List α) (p:α) (cs:List Value) (ok okp:Nat→Prop) (hs:a.eval s=v) (hx:a.eval x=.slice (some ⟨W.heap.size,0,none⟩) 1 1) (hp:d.M W base okp p cs) (hokp : ∀ k,okp k→ok k∧some k≠v.ownBlock) (hfresh : ∀ k,W.heap.size≤k→ok k)
    (HO:d.R e W base ok v xs) (HB:Below base w0 W) (hbase:base≤W.heap.size) (hl:(xs.length+1) * bytes≤140737488355328)
    (h : ∀ v1 w1,d.R e w1 base ok v1 (xs++[p])→Below base w0 w1→W.grownBy w1 v.ownBlock→(v1.ownBlock=v.ownBlock∨∃ b,v1.ownBlock=some b∧W.heap.size≤b)→Kc (a.put o.dst v1) w1) :
    if Region.wanted o (yielded ops a.tmps)=true then Oper.wp P o a (W.alloc (.cells cs.toArray e)) Kc Q else Kc (a.put o.dst undef) (W.alloc (.cells cs.toArray e)):=by
  obtain ⟨h0,inner,hown,hr⟩:=HO
  refine step_append_cells base hw s x t e z d.sz bytes ho ht hinfo hz hs0 hb0 v xs.length inner cs hs hx (d.K_len (d.K_of_M hp)) (d.K_one (d.K_of_M hp)) hown HB hbase hl ?_
  intro v1 w1 hown1 hb1 hg1 hat1
  exact h v1 w1 (R_appended h0 hr hp hokp hfresh hown1 hg1 hat1) hb1 hg1 hat1
end
theorem reads_of_C {α:Type} {enc:α→Value} {d:α} {h1 : ∀ x,(enc x).oneCell'=true} {w:World} {A:Option Addr} {n:Nat} {xs:List α} (h:(scalar enc h1).C w A n xs):ReadsOf enc d w A n xs:=by
  refine ⟨h.1,h.2.1,fun hn=>?_⟩
  obtain ⟨ad,e,hc⟩:=h.2.2 hn
  refine ⟨ad,e,fun j hj=>?_⟩
  have hl:j < xs.length:=by have:=h.1;omega
  obtain ⟨c,_,hK,hcell⟩:=hc j _ (List.getElem?_eq_getElem hl)
  have hK':c=[enc xs[j]]:=hK
  subst hK'
  have:=hcell 0 _ rfl
  simpa [scalar,List.getD_eq_getElem?_getD,List.getElem?_eq_getElem hl] using this
end Kd
namespace Kd
structure Mono {α β:Type} (F:Kd α→Kd β):Prop where
  sz : ∀ d d':Kd α,d.sz=d'.sz→(F d).sz=(F d').sz
  K : ∀ d d':Kd α,d.sz=d'.sz→(∀ w x cs,d.K w x cs→d'.K w x cs)→∀ w x cs,(F d).K w x cs→(F d').K w x cs
  M : ∀ d d':Kd α,d.sz=d'.sz→(∀ w base ok x cs,d.M w base ok x cs→d'.M w base ok x cs)→∀ w base ok x cs,(F d).M w base ok x cs→(F d').M w base ok x cs
theorem mono_const {α β:Type} (k:Kd β):Mono (fun _:Kd α=>k):=⟨fun _ _ _=>rfl,fun _ _ _ _ _ _ _ h=>h,fun _ _ _ _ _ _ _ _ _ h=>h⟩
theorem mono_id {α:Type}:Mono (fun d:Kd α=>d):=⟨fun _ _ h=>h,fun _ _ _ h=>h,fun _ _ _ h=>h⟩
theorem C_imp {α:Type} {d d':Kd α} (hs:d.sz=d'.sz) (h : ∀ w x cs,d.K w x cs→d'.K w x cs) {w:World} {A:Option Addr} {n:Nat} {xs:List α} (hc:d.C w A n xs):d'.C w A n xs:=by
  unfold C at hc ⊢
  rw [← hs]
  exact hc.imp_ (Below.refl _ _) (fun _ _ hp=>h _ _ _ hp)
theorem R_imp {α:Type} {d d':Kd α} (hs:d.sz=d'.sz) (h : ∀ w base ok x cs,d.M w base ok x cs→d'.M w base ok x cs) {e:Nat} {w:World} {base:Nat} {ok:Nat→Prop} {v:Value} {xs:List α} (hr:d.R e w base ok v xs):d'.R e w base ok v xs:=by
  unfold R at hr ⊢
  rw [← hs]
  exact ⟨hr.1,hr.2.imp_ (fun _ _ hp=>h _ _ _ _ _ hp)⟩
theorem mono_slice {α β:Type} (e:Nat) {G:Kd α→Kd β} (hG:Mono G):Mono (fun d=>slice e (G d)):=by
  refine ⟨fun _ _ _=>rfl,?_,?_⟩
  · rintro d d' hs h w x cs ⟨A,c,rfl,hl,hr⟩
    exact ⟨A,c,rfl,hl,C_imp (hG.sz d d' hs) (hG.K d d' hs h) hr⟩
  · rintro d d' hs h w base ok x cs ⟨v,rfl,hr⟩
    exact ⟨v,rfl,R_imp (hG.sz d d' hs) (hG.M d d' hs h) hr⟩
theorem mono_pair {α β γ:Type} {G:Kd α→Kd β} {H:Kd α→Kd γ} (hG:Mono G) (hH:Mono H):Mono (fun d=>pair (G d) (H d)):=by
  refine ⟨fun d d' hs=>?_,?_,?_⟩
  · show (G d).sz+(H d).sz=(G d').sz+(H d').sz
    rw [hG.sz d d' hs,hH.sz d d' hs]
  · rintro d d' hs h w x cs ⟨c0,c1,rfl,h0,h1⟩
    exact ⟨c0,c1,rfl,hG.K d d' hs h _ _ _ h0,hH.K d d' hs h _ _ _ h1⟩
  · rintro d d' hs h w base ok x cs ⟨c0,c1,rfl,h0,h1⟩
    exact ⟨c0,c1,rfl,hG.M d d' hs h _ _ _ _ _ h0,hH.M d d' hs h _ _ _ _ _ h1⟩
theorem mono_iso {α β γ:Type} {G:Kd α→Kd β} (f:γ→β) (hG:Mono G):Mono (fun d=>iso (G d) f):=
  ⟨hG.sz,fun d d' hs h w x cs=>hG.K d d' hs h w (f x) cs,fun d d' hs h w base ok x cs=>hG.M d d' hs h w base ok (f x) cs⟩
def Sub {α β:Type} (F:Kd α→Kd β) (E:List Nat):Prop:=∀ d:Kd α,(∀ q,q ∈ d.E→q ∈ E)→∀ q,q ∈ (F d).E→q ∈ E
theorem sub_const {α β:Type} {E:List Nat} (k:Kd β) (h : ∀ q,q ∈ k.E→q ∈ E):Sub (fun _:Kd α=>k) E:=fun _ _=>h
theorem sub_id {α:Type} {E:List Nat}:Sub (fun d:Kd α=>d) E:=fun _ h=>h
theorem sub_slice {α β:Type} {E:List Nat} (e:Nat) {G:Kd α→Kd β} (he:e ∈ E) (hG:Sub G E):Sub (fun d=>slice e (G d)) E:=fun d h q hq=>by
  rcases List.mem_cons.1 hq with rfl|hq
  · exact he
  · exact hG d h q hq
theorem sub_pair {α β γ:Type} {E:List Nat} {G:Kd α→Kd β} {H:Kd α→Kd γ} (hG:Sub G E) (hH:Sub H E):Sub (fun d=>pair (G d) (H d)) E:=fun d h q hq=>by
  rcases List.mem_append.1 hq with hq|hq
  · exact hG d h q hq
  · exact hH d h q hq
theorem sub_iso {α β γ:Type} {E:List Nat} {G:Kd α→Kd β} (f:γ→β) (hG:Sub G E):Sub (fun d=>iso (G d) f) E:=hG
theorem upto_E {α:Type} {F:Kd α→Kd α} {sz:Nat} {E:List Nat} (h:Sub F E) : ∀ n q,q ∈ (upto F sz E n).E→q ∈ E
  | 0,_,hq=>hq
  | n+1,q,hq=>h _ (upto_E h n) q hq
theorem upto_sz {α:Type} {F:Kd α→Kd α} {sz:Nat} {E:List Nat} (h : ∀ d:Kd α,(F d).sz=sz) : ∀ n,(upto F sz E n).sz=sz
  | 0=>rfl
  | _+1=>h _
section
variable {α:Type} {F:Kd α→Kd α} {sz:Nat} {E:List Nat} {hs : ∀ n,(upto F sz E n).sz=sz} {hE : ∀ n q,q ∈ (upto F sz E n).E→q ∈ E}
theorem upto_K (hm:Mono F) (hs : ∀ n,(upto F sz E n).sz=sz) : ∀ n {w x cs},(upto F sz E n).K w x cs→(upto F sz E (n+1)).K w x cs
  | 0,_,_,_,h=>h.elim
  | n+1,_,_,_,h=>hm.K _ _ (by rw [hs n,hs (n+1)]) (fun _ _ _ hk=>upto_K hm hs n hk) _ _ _ h
theorem upto_M (hm:Mono F) (hs : ∀ n,(upto F sz E n).sz=sz) : ∀ n {w base ok x cs},(upto F sz E n).M w base ok x cs→(upto F sz E (n+1)).M w base ok x cs
  | 0,_,_,_,_,_,h=>h.elim
  | n+1,_,_,_,_,_,h=>hm.M _ _ (by rw [hs n,hs (n+1)]) (fun _ _ _ _ _ hk=>upto_M hm hs n hk) _ _ _ _ _ h
theorem upto_K_le (hm:Mono F) (hs : ∀ n,(upto F sz E n).sz=sz) {n m:Nat} (hnm:n≤m) {w x cs} (h:(upto F sz E n).K w x cs):(upto F sz E m).K w x cs:=by
  obtain ⟨j,rfl⟩:=Nat.exists_eq_add_of_le hnm
  induction j with
  | zero=>exact h
  | succ j ih=>exact upto_K hm hs _ (ih (by omega))
theorem upto_M_le (hm:Mono F) (hs : ∀ n,(upto F sz E n).sz=sz) {n m:Nat} (hnm:n≤m) {w base ok x cs} (h:(upto F sz E n).M w base ok x cs):(upto F sz E m).M w base ok x cs:=by
  obtain ⟨j,rfl⟩:=Nat.exists_eq_add_of_le hnm
  induction j with
  | zero=>exact h
  | succ j ih=>exact upto_M hm hs _ (ih (by omega))
theorem fix_C {n:Nat} {w:World} {A:Option Addr} {m:Nat} {xs:List α} (h:(upto F sz E n).C w A m xs):(fix F sz E hs hE).C w A m xs:=C_imp (d':=fix F sz E hs hE) (hs n) (fun w x cs hp=>(⟨n,hp⟩ : ∃ n,(upto F sz E n).K w x cs)) h
theorem bounded {P:Nat→Nat→Prop} (hP : ∀ n m j,n≤m→P n j→P m j) : ∀ m,(∀ j,j < m→∃ n,P n j)→∃ N,∀ j,j < m→P N j
  | 0,_=>⟨0,fun j hj=>absurd hj (Nat.not_lt_zero j)⟩
  | m+1,h=>by
    obtain ⟨N,hN⟩:=bounded hP m (fun j hj=>h j (by omega))
    obtain ⟨n,hn⟩:=h m (by omega)
    refine ⟨max N n,fun j hj=>?_⟩
    rcases Nat.lt_or_ge j m with hj'|hj'
    · exact hP N _ j (Nat.le_max_left _ _) (hN j hj')
    · have:j=m:=by omega
      subst this
      exact hP n _ j (Nat.le_max_right _ _) hn
theorem reps_bounded {α:Type} {R:Nat→α→List Value→Prop} (hR : ∀ n m p c,n≤m→R n p c→R m p c) {size:Nat} {ps:List α} {cs:List Value} (h:Reps (fun p c=>∃ n,R n p c) size ps cs) : ∃ N,Reps (R N) size ps cs:=by
  obtain ⟨N,hN⟩:=bounded (P:=fun n j=>∀ p,ps[j]?=some p→R n p ((cs.drop (j * size)).take size)) (fun n m j hnm hp p hj=>hR n m p _ hnm (hp p hj)) ps.length
    (fun j hj=>by
      obtain ⟨n,hn⟩:=h.2 j _ (List.getElem?_eq_getElem hj)
      refine ⟨n,fun p hp=>?_⟩
      rw [List.getElem?_eq_getElem hj] at hp
      injection hp with hp
      rw [← hp]
      exact hn)
  exact ⟨N,h.1,fun j p hj=>hN j (List.getElem?_eq_some_iff.1 hj).1 p hj⟩
theorem fix_R_back (hm:Mono F) {e:Nat} {w:World} {base:Nat} {ok:Nat→Prop} {v:Value} {xs:List α} (h:(fix F sz E hs hE).R e w base ok v xs) : ∃ n,(upto F sz E n).R e w base ok v xs:=by
  obtain ⟨h0,inner,ho,hr⟩:=h
  obtain ⟨N,hN⟩:=reps_bounded (R:=fun n p c=>(upto F sz E n).M w base (fun k=>ok k∧some k≠v.ownBlock) p c) (fun n m p c hnm hp=>upto_M_le hm hs hnm hp) hr
  refine ⟨N,h0,inner,?_,?_⟩
  · rw [hs N];exact ho
  · rw [hs N];exact hN
theorem fix_C_back (hm:Mono F) {w:World} {A:Option Addr} {m:Nat} {xs:List α} (h:(fix F sz E hs hE).C w A m xs) : ∃ n,(upto F sz E n).C w A m xs:=by
  rcases Nat.eq_zero_or_pos m with hz|hpos
  · subst hz
    exact ⟨0,h.1,h.2.1,fun hp=>absurd hp (Nat.lt_irrefl 0)⟩
  · obtain ⟨ad,e,hc⟩:=h.2.2 hpos
    obtain ⟨N,hN⟩:=bounded (P:=fun n j=>∀ p,xs[j]?=some p→∃ c,c.length=sz∧(upto F sz E n).K w p c∧∀ i u,c[i]?=some u→w.cell? (ad.add (j * sz+i))=some u)
      (fun n n' j hnm hp p hj=>by
        obtain ⟨c,h1,h2,h3⟩:=hp p hj
        exact ⟨c,h1,upto_K_le hm hs hnm h2,h3⟩) xs.length
      (fun j hj=>by
        obtain ⟨c,h1,⟨n,h2⟩,h3⟩:=hc j _ (List.getElem?_eq_getElem hj)
        refine ⟨n,fun p hp=>?_⟩
        rw [List.getElem?_eq_getElem hj] at hp
        injection hp with hp
        rw [← hp]
        exact ⟨c,h1,h2,h3⟩)
    refine ⟨N,h.1,h.2.1,fun _=>⟨ad,e,fun j p hj=>?_⟩⟩
    rw [hs N]
    exact hN j (List.getElem?_eq_some_iff.1 hj).1 p hj
theorem upto_R_le (hm:Mono F) (hs : ∀ n,(upto F sz E n).sz=sz) {n m:Nat} (hnm:n≤m) {e:Nat} {w:World} {base:Nat} {ok:Nat→Prop} {v:Value} {xs:List α} (h:(upto F sz E n).R e w base ok v xs):(upto F sz E m).R e w base ok v xs:=R_imp (by rw [hs n,hs m]) (fun _ _ _ _ _ hp=>upto_M_le hm hs hnm hp) h
theorem upto_C_le (hm:Mono F) (hs : ∀ n,(upto F sz E n).sz=sz) {n m:Nat} (hnm:n≤m) {w:World} {A:Option Addr} {l:Nat} {xs:List α} (h:(upto F sz E n).C w A l xs):(upto F sz E m).C w A l xs:=C_imp (by rw [hs n,hs m]) (fun _ _ _ hp=>upto_K_le hm hs hnm hp) h
end
end Kd
namespace Kd
theorem R_after {α:Type} {d:Kd α} {e base:Nat} {ok:Nat→Prop} {W w1:World} {u v v1:Value} {xs:List α} (h:d.R e W base (fun k=>ok k∧some k≠v.ownBlock) u xs) (hg:W.grownBy w1 v.ownBlock) (hat:v1.ownBlock=v.ownBlock∨∃ b,v1.ownBlock=some b∧W.heap.size≤b):d.R e w1 base (fun k=>ok k∧some k≠v1.ownBlock) u xs:=by
  refine R_mono (R_move (R_bound h) (fun k hk=>hg.block k hk.2.2.1 hk.1.2)) (fun k hk=>⟨hk.1.1,?_⟩)
  rcases hat with hat | ⟨b,hb,hle⟩
  · rw [hat];exact hk.1.2
  · rw [hb]
    intro he
    injection he with he
    have:=hk.2.2.1
    omega
end Kd
namespace Kd
section
variable {α β:Type} {d:Kd α} {d':Kd β} {e e':Nat} {w w1 W:World} {base b b':Nat} {ok ok' okv oku:Nat→Prop} {v u:Value} {xs:List α} {ys:List β}
theorem R_alloc (h:d.R e w base ok v xs) (o:Obj):d.R e (w.alloc o) base ok v xs:=R_below h (below_alloc (Below.refl _ _) o)
theorem R_drew (h:d.R e w base ok v xs):d.R e w.drew base ok v xs:=R_below h (below_drew (Below.refl _ _))
theorem R_drewN (h:d.R e w base ok v xs) (m:Nat):d.R e (w.drewN m) base ok v xs:=R_below h (pw_below_drewN (Below.refl _ _) m)
theorem C_alloc {A:Option Addr} {n:Nat} (h:d.C w A n xs) (o:Obj):d.C (w.alloc o) A n xs:=C_below h (below_alloc (Below.refl _ _) o)
theorem C_drew {A:Option Addr} {n:Nat} (h:d.C w A n xs):d.C w.drew A n xs:=C_below h (below_drew (Below.refl _ _))
theorem C_drewN {A:Option Addr} {n:Nat} (h:d.C w A n xs) (m:Nat):d.C (w.drewN m) A n xs:=C_below h (pw_below_drewN (Below.refl _ _) m)
theorem C_nil (d:Kd α) (w:World):d.C w none ([]:List α).length []:=⟨rfl,by simp,fun h=>absurd h (Nat.lt_irrefl 0)⟩
theorem R_reads' {A:Option Addr} {n c:Nat} (h:d.R e w base ok (.slice A n c) xs):n=xs.length∧n≤c∧d.C w A xs.length xs:=by
  obtain ⟨A',c',he,hl,hr⟩:=R_reads h
  injection he with h1 h2 h3
  subst h1
  exact ⟨h2,by omega,hr⟩
theorem R_lt (h:d.R e w base ok v xs) : ∀ k,v.ownBlock=some k→k < w.heap.size:=by
  obtain ⟨inner,ho⟩:=R_own h
  exact own_lt ho
theorem R_base (h:d.R e w base ok v xs) : ∀ k,v.ownBlock=some k→base≤k:=by
  obtain ⟨inner,ho⟩:=R_own h
  exact own_base ho
theorem R_away (h:d.R e w base ok v xs) {g:Nat} (hok : ∀ k,ok k→k≠g):some g≠v.ownBlock:=fun e=>hok g (h.1 g e.symm) rfl
end
section
variable {w W:World} {A:Option Addr} {n:Nat}
theorem at_string {xs:List ByteArray} (h:Kd.string.C w A n xs) (i:Int) (h0:0≤i) (h1:i < n) : ∃ ad,A=some ad∧w.cell? (ad.add i.toNat)=some (.string (rdOf ByteArray.empty xs i)):=
  ReadsOf.at_ (reads_of_C (enc:=Value.string) (d:=ByteArray.empty) (h1:=fun _=>rfl) h) i h0 h1
variable {α:Type} {enc:α→Value} {h1 : ∀ x,(enc x).oneCell'=true} {e base g cap:Nat} {ok:Nat→Prop} {xs:List α}
end
section
variable {P:Program} {ops:Array Oper} {rest:List Oper} {o:Oper} {a:Act} {Q:Exit→Act→World→Prop}
theorem event_run {W w1:World} {v:Value} (hgd:o.guard=none) (hrun:(execOp a.eval o).run P W=.ok (.value v) w1) (h:wpList P ops Q rest (a.put o.dst v) w1):wpList P ops Q (o :: rest) a W:=by
  refine wpList_plain hgd fun K hK=>?_
  unfold Oper.wp
  rw [hrun]
  exact hK _ _ h
variable {α:Type}
theorem R_lit (d:Kd α) {w0 W:World} (base e:Nat) (hgd:o.guard=none) {N:Tmp} (_hd:o.dst=some N) {xs:List α} {inner:List Value} {ok okp:Nat→Prop}
    (hrun:(execOp a.eval o).run P W=.ok (.value (.slice (some ⟨W.heap.size,0,none⟩) xs.length xs.length)) (W.alloc (.cells inner.toArray e)))
    (hrep:Reps (d.M W base okp) d.sz xs inner) (hok : ∀ k,okp k→ok k) (hfresh:ok W.heap.size) (HB:Below base w0 W) (hbase:base≤W.heap.size) (hm:xs.length≤9223372036854775807)
    (h : ∀ v1 w1,d.R e w1 base ok v1 xs→Below base w0 w1→W.grownBy w1 none→(∃ b,v1.ownBlock=some b∧W.heap.size≤b)→wpList P ops Q rest (a.put o.dst v1) w1):wpList P ops Q (o :: rest) a W:=by
  refine event_run hgd hrun (h _ _ ⟨fun k hk=>?_,inner,?_,?_⟩ (HB.alloc hbase _) (World.grownBy_alloc W _ none) ⟨W.heap.size,by simp [Value.ownBlock],Nat.le_refl _⟩)
  · have:W.heap.size=k:=by simpa [Value.ownBlock] using hk
    subst this
    exact hfresh
  · have h2:=World.ownsRow_lit (base:=base) (e:=e) (size:=d.sz) W inner.toArray xs.length hbase (by simpa [maxLen] using hm) (by simpa using hrep.1)
    simpa using h2
  · refine hrep.imp_ (fun p c hp=>d.M_mono (fun k hk=>⟨hok k hk.1,fun he=>?_⟩) (M_below (d.M_bound hp) (below_alloc (Below.refl _ _) _)))
    have h3:k=W.heap.size:=by simpa [Value.ownBlock] using he
    have:=hk.2.2.1
    omega
end
end Kd
def QRow (w:World) (base:Nat) (e:TypeId) (size:Nat) (v:Value) (n:Nat) (xs:List Value):Prop:=
  xs.length=n * size∧
  ((n=0∧∃ A,v=.slice A 0 0∧∀ a,A=some a→base≤a.block∧∃ cur,w.heap[a.block]?=some (.cells cur e (0,0)))∨
   ∃ g off cap cur,v=.slice (some ⟨g,off * size,none⟩) n cap∧base≤g∧w.heap[g]?=some (.cells cur e (0,0))∧n≤cap∧off+cap≤maxLen∧cur.size=(off+cap) * size∧(cur.toList.drop (off * size)).take (n * size)=xs)
section
variable {w w1:World} {base n size:Nat} {e:TypeId} {v:Value} {xs:List Value}
theorem q_of_own (h:w.ownsRow base e size v n xs):QRow w base e size v n xs:=by
  obtain ⟨h1,h2⟩:=h
  refine ⟨h1,?_⟩
  rcases h2 with ⟨rfl,h0⟩ | ⟨g,cap,cur,rfl,hb,hh,hnc,hcm,hcs,ht⟩
  · exact .inl ⟨h0,none,rfl,fun a ha=>by cases ha⟩
  · exact .inr ⟨g,0,cap,cur,by rw [Nat.zero_mul],hb,hh,hnc,by rw [Nat.zero_add];exact hcm,by rw [Nat.zero_add];exact hcs,by rw [Nat.zero_mul,List.drop_zero];exact ht⟩
end
namespace Kd
def Q {α:Type} (d:Kd α) (e:Nat) (w:World) (base:Nat) (ok:Nat→Prop) (v:Value) (xs:List α):Prop:=
  (∀ k,v.ownBlock=some k→ok k)∧∃ inner,QRow w base e d.sz v xs.length inner∧Reps (d.M w base (fun k=>ok k∧some k≠v.ownBlock)) d.sz xs inner
section
variable {α:Type} {d:Kd α} {e:Nat} {w w1 W:World} {base:Nat} {ok ok':Nat→Prop} {v:Value} {xs:List α}
theorem Q_of_R (h:d.R e w base ok v xs):d.Q e w base ok v xs:=by
  obtain ⟨h0,inner,ho,hr⟩:=h
  exact ⟨h0,inner,q_of_own ho,hr⟩
theorem Q_nil (d:Kd α) (e:Nat) (w:World) (base:Nat) (ok:Nat→Prop):d.Q e w base ok (.slice none 0 0) []:=Q_of_R (R_nil d e w base ok)
end
end Kd
namespace Kd
section
variable {α:Type} {d:Kd α} {e e':Nat} {w w1 W:World} {base:Nat} {ok:Nat→Prop} {u v:Value} {xs:List α}
theorem R_typed (h:d.R e w base ok v xs) : ∀ k,v.ownBlock=some k→∃ cells,w.heap[k]?=some (.cells cells e (0,0)):=by
  obtain ⟨inner,ho⟩:=R_own h
  exact fun k hk=>own_typed ho k hk
theorem R_over' (h:d.R e W base ok u xs) (hty : ∀ k,v.ownBlock=some k→∃ cells,W.heap[k]?=some (.cells cells e' (0,0))) (ht : ∀ q,q ∈ e :: d.E→q≠e') (hg:W.grownBy w1 v.ownBlock):d.R e w1 base ok u xs:=by
  refine R_mono (R_move (R_bound h) (fun k hk=>hg.block k hk.2.2.1 (fun he=>?_))) (fun _ hk=>hk.1)
  obtain ⟨_,_,_,q,hq,cells,hc⟩:=hk
  obtain ⟨cells',hc'⟩:=hty k he.symm
  rw [hc] at hc'
  injection hc' with hc'
  injection hc' with _ hc'
  exact ht q hq hc'
theorem R_apart' (h:d.R e W base ok u xs) (hty : ∀ k,v.ownBlock=some k→∃ cells,W.heap[k]?=some (.cells cells e' (0,0))) (ht : ∀ q,q ∈ e :: d.E→q≠e'):d.R e W base (fun k=>ok k∧some k≠v.ownBlock) u xs:=by
  refine R_mono (R_bound h) (fun k hk=>⟨hk.1,fun he=>?_⟩)
  obtain ⟨_,_,_,q,hq,cells,hc⟩:=hk
  obtain ⟨cells',hc'⟩:=hty k he.symm
  rw [hc] at hc'
  injection hc' with hc'
  injection hc' with _ hc'
  exact ht q hq hc'
theorem R_elder' (hu:d.R e W base ok u xs) (hbase : ∀ k,v.ownBlock=some k→W.heap.size≤k) (hb:Below W.heap.size W w1):d.R e w1 base (fun k=>ok k∧some k≠v.ownBlock) u xs:=
  R_mono (R_move (R_bound hu) (fun k hk=>hb.block k hk.2.2.1)) (fun k hk=>⟨hk.1,fun he=>by have:=hbase k he.symm;have:=hk.2.2.1;omega⟩)
theorem R_new' (h:d.R e w1 W.heap.size ok v xs) (hlt : ∀ k,u.ownBlock=some k→k < W.heap.size):d.R e w1 W.heap.size (fun k=>ok k∧some k≠u.ownBlock) v xs:=
  R_mono (R_bound h) (fun k hk=>⟨hk.1,fun he=>by have:=hlt k he.symm;have:=hk.2.1;omega⟩)
theorem fresh' (hlt : ∀ k,u.ownBlock=some k→k < W.heap.size) : ∀ k,W.heap.size≤k→some k≠u.ownBlock:=fun k hk he=>by have:=hlt k he.symm;omega
end
end Kd
theorem add_add (a:Addr) (i j:Nat):(a.add i).add j=a.add (i+j):=by
  unfold Addr.add
  by_cases h1:i=0 <;> by_cases h2:j=0 <;> simp [h1,h2,Nat.add_assoc]
theorem below_size {w W:World} (h:Below w.heap.size w W):w.heap.size≤W.heap.size:=h.size
theorem below_step {w W w2:World} (h:Below w.heap.size w W) (k:Below W.heap.size W w2):Below w.heap.size w w2:=below_then h h.size k
theorem ReadsInt.nil (W:World) (k:IntKind):ReadsInt W k none ([]:List Int).length []:=⟨rfl,by simp,fun h=>absurd h (Nat.lt_irrefl 0)⟩
theorem ReadsInt.drewN {W:World} {k:IntKind} {A:Option Addr} {n:Nat} {xs:List Int} (h:ReadsInt W k A n xs) (m:Nat):ReadsInt (W.drewN m) k A n xs:=h
theorem below_set {w W:World} {g j:Nat} {v:Value} (h:Below w.heap.size w W) (hg:w.heap.size≤g):Below w.heap.size w (W.setCell ⟨g,j,none⟩ v):=h.setCell hg _
theorem add_block (a:Addr) (i:Nat):(a.add i).block=a.block:=by unfold Addr.add;split <;> rfl
theorem ReadsOf.nil {α:Type} (enc:α→Value) (d:α) (W:World):ReadsOf enc d W none ([]:List α).length []:=⟨rfl,by simp,fun h=>absurd h (Nat.lt_irrefl 0)⟩
theorem ReadsOf.drewN {α:Type} {enc:α→Value} {d:α} {W:World} {A:Option Addr} {n:Nat} {xs:List α} (h:ReadsOf enc d W A n xs) (m:Nat):ReadsOf enc d (W.drewN m) A n xs:=h
theorem cell_far {W:World} {p a:Addr} (h:a.block≠p.block) (u:Value):(W.setCell p u).cell? a=W.cell? a:=by
  have:=Below.heap_setCell W p u a.block h
  simp [World.cell?,this]
theorem blk_put {w:World} {g:Nat} {t:TypeId} {cs cs':Array Value} (h:w.heap[g]?=some (.cells cs t (0,0))) (i:Nat) (u:Value) (e:cs.setIfInBounds i u=cs'):(w.setCell ⟨g,i,none⟩ u).heap[g]?=some (.cells cs' t (0,0)):=e ▸ blk_set h i u
theorem below_drew1 {base:Nat} {w W:World} (h:Below base w W):Below base w W.drew:=h.drew
namespace Kd
section
variable {α:Type} {d:Kd α} {e base g:Nat} {ok:Nat→Prop} {w w1:World} {v:Value} {xs:List α} {o:Obj}
theorem R_elderB (h:d.R e w base ok v xs) (a:Nat) (ha:w.heap.size≤a):d.R e w base (fun k=>ok k∧k≠a) v xs:=R_mono (R_bound h) (fun k hk=>⟨hk.1,by have:=hk.2.2.1;omega⟩)
theorem R_newB (h:d.R e w1 w.heap.size ok v xs) (hb:w.heap[g]?=some o):d.R e w1 w.heap.size (fun k=>ok k∧k≠g) v xs:=R_mono (R_bound h) (fun k hk=>⟨hk.1,by have:=blk_lt hb;have:=hk.2.1;omega⟩)
theorem freshB (hb:w.heap[g]?=some o) : ∀ k,w.heap.size≤k→k≠g:=fun k hk=>by have:=blk_lt hb;omega
end
end Kd
section
variable {P:Program} {ops:Array Oper} {rest:List Oper} {o:Oper} {a:Act} {Q:Exit→Act→World→Prop}
theorem box_event {W:World} (hgd:o.guard=none) {N:Tmp} (_hd:o.dst=some N) {cs:Array Value} {t:TypeId}
    (hrun:(execOp a.eval o).run P W=.ok (.value (.pointer (some ⟨W.heap.size,0,none⟩))) (W.alloc (.cells cs t (0,0))))
    (h : ∀ g,g=W.heap.size→∀ w1,w1.heap[g]?=some (.cells cs t (0,0))→Below W.heap.size W w1→wpList P ops Q rest (a.put o.dst (.pointer (some ⟨g,0,none⟩))) w1):wpList P ops Q (o :: rest) a W:=
  Kd.event_run hgd hrun (h _ rfl _ (blk_new W _) (below_alloc (Below.refl _ _) _))
end
section
variable {P:Program} {ops:Array Oper} {rest:List Oper} {o:Oper} {a:Act} {Q:Exit→Act→World→Prop}
theorem store_event {W w1:World} (hgd:o.guard=none) {t:TypeId} {p:Tmp} {v:Operand} (_ho:o.op=.store t (.tmp p) v) (hN:o.dst=none)
    (hrun:(execOp a.eval o).run P W=.ok .skip w1) (h : ∀ w',w'=w1→wpList P ops Q rest a w'):wpList P ops Q (o :: rest) a W:=by
  refine wpList_plain hgd fun K hK=>?_
  unfold Oper.wp
  rw [hrun]
  show K (a.put o.dst undef) w1
  rw [hN]
  exact hK _ _ (h _ rfl)
end
section
variable {P:Program} {ops:Array Oper} {rest:List Oper} {o:Oper} {a:Act} {Q:Exit→Act→World→Prop} {W:World}
theorem gate_dst {N:Tmp} (_hN:o.dst=some N) (h:wpList P ops Q (o :: rest) a W):wpList P ops Q (o :: rest) a W:=h
theorem gate_store {t:TypeId} {p:Tmp} {v:Operand} (_ho:o.op=.store t (.tmp p) v) (h:wpList P ops Q (o :: rest) a W):wpList P ops Q (o :: rest) a W:=h
end
section
variable {P:Program} {ops:Array Oper} {o:Oper} {a:Act} {Q:Exit→Act→World→Prop} {Kc:Act→World→Prop}
theorem event_step {W w1:World} {v:Value} (hw:Region.wanted o (yielded ops a.tmps)=true) (hrun:(execOp a.eval o).run P W=.ok (.value v) w1) (h:Kc (a.put o.dst v) w1):if Region.wanted o (yielded ops a.tmps)=true then Oper.wp P o a W Kc Q else Kc (a.put o.dst undef) W:=by
  rw [if_pos hw]
  unfold Oper.wp
  rw [hrun]
  exact h
theorem box_step {W:World} (hw:Region.wanted o (yielded ops a.tmps)=true) {N:Tmp} (_hd:o.dst=some N) {cs:Array Value} {t:TypeId}
    (hrun:(execOp a.eval o).run P W=.ok (.value (.pointer (some ⟨W.heap.size,0,none⟩))) (W.alloc (.cells cs t (0,0))))
    (h : ∀ g,g=W.heap.size→∀ w1,w1.heap[g]?=some (.cells cs t (0,0))→Below W.heap.size W w1→Kc (a.put o.dst (.pointer (some ⟨g,0,none⟩))) w1):if Region.wanted o (yielded ops a.tmps)=true then Oper.wp P o a W Kc Q else Kc (a.put o.dst undef) W:=
  event_step hw hrun (h _ rfl _ (blk_new W _) (below_alloc (Below.refl _ _) _))
namespace Kd
variable {α:Type}
theorem R_lit_step (d:Kd α) {w0 W:World} (base e:Nat) (hw:Region.wanted o (yielded ops a.tmps)=true) {N:Tmp} (_hd:o.dst=some N) {xs:List α} {inner:List Value} {ok okp:Nat→Prop}
    (hrun:(execOp a.eval o).run P W=.ok (.value (.slice (some ⟨W.heap.size,0,none⟩) xs.length xs.length)) (W.alloc (.cells inner.toArray e)))
    (hrep:Reps (d.M W base okp) d.sz xs inner) (hok : ∀ k,okp k→ok k) (hfresh:ok W.heap.size) (HB:Below base w0 W) (hbase:base≤W.heap.size) (hm:xs.length≤9223372036854775807)
    (h : ∀ v1 w1,d.R e w1 base ok v1 xs→Below base w0 w1→W.grownBy w1 none→(∃ b,v1.ownBlock=some b∧W.heap.size≤b)→Kc (a.put o.dst v1) w1):if Region.wanted o (yielded ops a.tmps)=true then Oper.wp P o a W Kc Q else Kc (a.put o.dst undef) W:=by
  refine event_step hw hrun (h _ _ ⟨fun k hk=>?_,inner,?_,?_⟩ (HB.alloc hbase _) (World.grownBy_alloc W _ none) ⟨W.heap.size,by simp [Value.ownBlock],Nat.le_refl _⟩)
  · have:W.heap.size=k:=by simpa [Value.ownBlock] using hk
    subst this
    exact hfresh
  · have h2:=World.ownsRow_lit (base:=base) (e:=e) (size:=d.sz) W inner.toArray xs.length hbase (by simpa [maxLen] using hm) (by simpa using hrep.1)
    simpa using h2
  · refine hrep.imp_ (fun p c hp=>d.M_mono (fun k hk=>⟨hok k hk.1,fun he=>?_⟩) (M_below (d.M_bound hp) (below_alloc (Below.refl _ _) _)))
    have h3:k=W.heap.size:=by simpa [Value.ownBlock] using he
    have:=hk.2.2.1
    omega
end Kd
end
end Go.Proofs.YtnnbbeloifhofaaDoorW.PrintWords
end
section
namespace Go.Proofs.YtnnbbeloifhofaaDoor.P
open Go Go.RowKit Go.Proofs
open Go.Proofs.YtnnbbeloifhofaaDoorW.PrintWords
structure TabT (w:World):Prop where
  pow:Lib.TabBelow Tryd.prog w.heap.size w "internal/strconv.uint64pow10" .u64 Lib.pow10Tab
theorem TabT.later {w w':World} (h:TabT w) (hb:Below w.heap.size w w'):TabT w':=
  ⟨fun w2 h2=>h.pow w2 (hb.trans (h2.mono hb.size))⟩
theorem TabT.now {w:World} (h:TabT w):Lib.TabIs Tryd.prog w "internal/strconv.uint64pow10" .u64 Lib.pow10Tab:=h.pow w (Below.refl _ _)
def strOf (l:List UInt8):ByteArray:=⟨l.toArray⟩
theorem strOf_list (l:List UInt8):(strOf l).data.toList=l:=rfl
theorem strOf_size (l:List UInt8):(strOf l).size=l.length:=by simp [strOf,ByteArray.size]
def itoaB (n:Int):ByteArray:=strOf (Lib.itoa n)
def strconv_FormatInt.f (a0 a1:Int):Option ByteArray:=
  if a1=10∧-9223372036854775808≤a0∧a0≤9223372036854775807 then some (itoaB a0) else none
theorem strconv_FormatInt.calls (a0 a1:Int) (r:ByteArray) (w:World) (hT:TabT w) (h:strconv_FormatInt.f a0 a1=some r) :
    Calls Tryd.prog 62 #[.int .i64 a0,.int .i64 a1] w fun e w'=>e=.returned (.string r)∧Below w.heap.size w w':=by
  unfold strconv_FormatInt.f at h
  split at h
  · rename_i hc
    obtain ⟨rfl,h0,h1⟩:=hc
    obtain rfl:=Option.some.inj h
    exact (Tryd.internal_strconv_FormatInt_10 a0 h0 h1 w hT.now).mono fun e w' ⟨he,k,os,hw⟩=>⟨he,hw ▸ Lib.below_grow _ w (Nat.le_refl _) k os⟩
  · cases h
theorem spot_none {w:World} {b o:Nat} {f:Option Nat} {v:Value} (h:w.cell? (Addr.add ⟨b,o,f⟩ 0)=some v):f=none∧b < w.heap.size:=by
  simp only [Addr.add,if_true,World.cell?] at h
  split at h
  · rename_i hc
    split at h
    · cases h
    · rename_i hs
      refine ⟨by cases f <;> simp_all,(Array.getElem?_eq_some_iff.1 hc).1⟩
  · cases h
theorem add_none (b o j:Nat):Addr.add ⟨b,o,none⟩ j=⟨b,o+j,none⟩:=by
  unfold Addr.add
  split
  · rename_i h;subst h;rfl
  · rfl
def joinF (l:List ByteArray) (s:ByteArray):List UInt8:=Lib.join (l.map (·.data.toList)) s.data.toList
def strings_Join.f (l0:List ByteArray) (a1:ByteArray):Option ByteArray:=
  if (joinF l0 a1).length≤140737488355328∧l0.length≤140737488355328 then some (strOf (joinF l0 a1)) else none
theorem strings_Join.calls (A0:Option Addr) (c0:Nat) (l0:List ByteArray) (a1:ByteArray) (r:ByteArray) (w:World) (hr0:Kd.C Kd.string w A0 l0.length l0) (hc0:l0.length≤c0) (h:strings_Join.f l0 a1=some r) :
    Calls Tryd.prog 39 #[.slice A0 l0.length c0,.string a1] w fun e w'=>e=.returned (.string r)∧Below w.heap.size w w':=by
  unfold strings_Join.f at h
  split at h
  · rename_i hl
    obtain ⟨hl,hn⟩:=hl
    obtain rfl:=Option.some.inj h
    cases l0 with
    | nil=>exact (Tryd.strings_Join_none A0 c0 a1 w).mono fun _ _ ⟨he,hw⟩=>⟨he,hw ▸ Below.refl _ _⟩
    | cons x xs=>
      obtain ⟨ad,hA,hcells⟩:=hr0.2.2 (by simp)
      subst hA
      have hget : ∀ (j:Nat) y,(x :: xs)[j]?=some y→w.cell? (ad.add j)=some (.string y):=by
        intro j y hj
        obtain ⟨c,_,hK,hc⟩:=hcells j y hj
        obtain rfl:c=[.string y]:=hK
        have:=hc 0 _ rfl
        simpa [Kd.string,Kd.scalar] using this
      obtain ⟨b,o,f⟩:=ad
      have h0:=hget 0 x rfl
      obtain ⟨rfl,hb⟩:=spot_none h0
      refine Tryd.strings_Join b o c0 (x :: xs) a1 w (fun j y hj=>?_) hb hn hc0 hl
      have:=hget j y hj
      rw [add_none] at this
      exact this
  · cases h
def strings_Repeat.f (a0:ByteArray) (a1:Int):Option ByteArray:=
  if 0≤a1∧a1≤9223372036854775807∧a0.size * a1.toNat≤140737488355328 then some (strOf (Lib.repeatL a0.data.toList a1.toNat)) else none
theorem strings_Repeat.calls (a0:ByteArray) (a1:Int) (r:ByteArray) (w:World) (h:strings_Repeat.f a0 a1=some r) :
    Calls Tryd.prog 59 #[.string a0,.int .i64 a1] w fun e w'=>e=.returned (.string r)∧Below w.heap.size w w':=by
  unfold strings_Repeat.f at h
  split at h
  · rename_i hc
    obtain ⟨h0,h1,h2⟩:=hc
    obtain rfl:=Option.some.inj h
    have:=Tryd.strings_Repeat a0 a1.toNat w (by omega) h2
    rw [show ((a1.toNat:Nat):Int)=a1 by omega] at this
    exact this
  · cases h
end Go.Proofs.YtnnbbeloifhofaaDoor.P
end
section
namespace Go.Proofs.YtnnbbeloifhofaaDoor
open Go Go.RowKit
theorem own:ownKnob Tryd.prog.godebug=none:=by kernel_rfl
theorem laidOut:laidOutB Tryd.prog=true:=by kernel_rfl
theorem gPow:Tryd.prog.globalNamed "internal/strconv.uint64pow10" = some 0:=by kernel_rfl
theorem gPowType:(Tryd.prog.globals[0]?).map (·.type)=some 137:=by kernel_rfl
theorem cellsU64:Tryd.prog.cellsOf 122=1:=by kernel_rfl
theorem cellsPow:Tryd.prog.cellsOf 137=20:=by kernel_rfl
theorem tabIs_mem {P:Program} {W:World} {name:String} {k:IntKind} {zs:List Int} {l:List (String × DataW Unit)} {g:Nat} {t e:TypeId} {n:Nat}
    (hg:P.globalNamed name=some g) (hty:(P.globals[g]?).map (·.type)=some t) (ht:P.underlying t=some (.array n e)) (he:P.underlying e=some (.int k)) (hce:P.cellsOf e=1) (hct:P.cellsOf t=n)
    (h:laidMet P l W) (hm:(name,Lib.tabData k zs) ∈ l):Lib.TabIs P W name k zs:=by
  obtain ⟨g',t',cs,fuel,p,hg',ht',hvar,hd⟩:=Lib.laidMet.reads h hm
  obtain rfl:=Option.some.inj (hg.symm.trans hg')
  obtain rfl:=Option.some.inj (hty.symm.trans ht')
  unfold Lib.TabIs
  rw [hvar,← Lib.cells_of_tab ht he hce hct hd]
def laidAll:List (String × DataW Unit):=[("math/bits.deBruijn32tab",Rows.laid_math_bits_deBruijn32tab),("math/bits.deBruijn64tab",Rows.laid_math_bits_deBruijn64tab),("internal/strconv.uint64pow10",Rows.laid_internal_strconv_uint64pow10)]
theorem data_pow:(Rows.laid_internal_strconv_uint64pow10:DataW Unit)=Lib.tabData .u64 Lib.pow10Tab:=by kernel_rfl
theorem tabs {W:World} (h:laidMetH Tryd.prog laidAll W):P.TabT W:=
  ⟨Lib.tabBelow_of_tabIs (tabIs_mem gPow gPowType Tryd.underlying137 Tryd.underlying122 cellsU64 cellsPow (show laidMet Tryd.prog laidAll W from h) (by rw [← data_pow];exact List.mem_cons_of_mem _ (List.mem_cons_of_mem _ (List.mem_cons_self))))⟩
def datCells:DataW Unit→Array Value
  | .agg l=>(l.map fun | .lit (.int k n)=>Value.int k n|_=>.bool false).toArray
  | _=>#[]
noncomputable def laidWorld (os:Os):World:=
  let w0:=World.settled Tryd.prog os
  let put (h:Array Obj) (g:Nat) (cs:Array Value):Array Obj:=h.modify g fun
    | .cells _ t frozen=>.cells cs t frozen
    | o=>o
  let h1:=put w0.heap 2 (datCells Rows.laid_math_bits_deBruijn32tab)
  let h2:=put h1 3 (datCells Rows.laid_math_bits_deBruijn64tab)
  let h3:=put h2 0 (datCells Rows.laid_internal_strconv_uint64pow10)
  { w0 with heap:=h3 }
theorem laid_met (os:Os) (args:Array Value):laidMet Tryd.prog laidAll ((laidWorld os).forCall (fun _ _=>0) ⟨#[],args,[]⟩).memory:=
  laidMet_of_run' 8 (by kernel_rfl) (by kernel_rfl)
end Go.Proofs.YtnnbbeloifhofaaDoor
end
section
namespace Go.Proofs.YtnnbbeloifhofaaDoor.P
open Go Go.RowKit Go.Proofs
open Go.Proofs.YtnnbbeloifhofaaDoorW.PrintWords
def PrAt (B b:Nat) (p:Value) (bs:List Value) (d:Int) (w:World):Prop:=
  B≤b∧∃ v,w.heap[b]?=some (.cells #[p,v,.int .i64 d] 88 (0,0))∧w.ownsRow B 5 1 v bs.length bs∧v.ownBlock≠some b
def IsPr (B b:Nat) (bs:List Value) (d:Int) (w:World):Prop:=PrAt B b (.pointer none) bs d w∨PrAt B b (.pointer (some ⟨b,0,none⟩)) bs d w
theorem PrAt.lt {B b:Nat} {p:Value} {bs:List Value} {d:Int} {w:World} (h:PrAt B b p bs d w):b < w.heap.size:=by
  obtain ⟨_,v,hb,_⟩:=h
  rcases Nat.lt_or_ge b w.heap.size with h'|h'
  · exact h'
  · simp [Array.getElem?_eq_none h'] at hb
theorem PrAt.setAddr {B b:Nat} {p:Value} {bs:List Value} {d:Int} {w:World} (h:PrAt B b p bs d w) (q:Value):PrAt B b q bs d (w.setCell ⟨b,0,none⟩ q):=by
  obtain ⟨hB,v,hb,hown,hne⟩:=h
  refine ⟨hB,v,?_,?_,hne⟩
  · simp [World.setCell,Array.getElem?_modify,hb]
  · exact hown.kept (row:=some b) ⟨rfl,rfl,rfl,by simp [World.setCell],fun k _ hk=>Below.heap_setCell _ _ _ _ (fun e=>hk (by simp [e]))⟩ (Or.inr hne)
theorem PrAt.setDeep {B b:Nat} {p:Value} {bs:List Value} {d:Int} {w:World} (h:PrAt B b p bs d w) (d':Int):PrAt B b p bs d' (w.setCell ⟨b,2,none⟩ (.int .i64 d')):=by
  obtain ⟨hB,v,hb,hown,hne⟩:=h
  refine ⟨hB,v,?_,?_,hne⟩
  · simp [World.setCell,Array.getElem?_modify,hb]
  · exact hown.kept (row:=some b) ⟨rfl,rfl,rfl,by simp [World.setCell],fun k _ hk=>Below.heap_setCell _ _ _ _ (fun e=>hk (by simp [e]))⟩ (Or.inr hne)
theorem PrAt.put {B b:Nat} {p v v':Value} {bs':List Value} {d:Int} {w:World} (hB:B≤b) (hb:w.heap[b]?=some (.cells #[p,v,.int .i64 d] 88 (0,0))) (hown:w.ownsRow B 5 1 v' bs'.length bs') :
    PrAt B b p bs' d (w.setCell ⟨b,1,none⟩ v'):=by
  have hne:=Lib.ownBlock_ne hown hb (by decide)
  refine ⟨hB,v',?_,?_,hne⟩
  · simp [World.setCell,Array.getElem?_modify,hb]
  · exact hown.kept (row:=some b) ⟨rfl,rfl,rfl,by simp [World.setCell],fun k _ hk=>Below.heap_setCell _ _ _ _ (fun e=>hk (by simp [e]))⟩ (Or.inr hne)
theorem PrAt.shape {B b:Nat} {p:Value} {bs:List Value} {d:Int} {w:World} (h:PrAt B b p bs d w):w.shape? b=some (88,3):=by
  obtain ⟨_,v,hb,_⟩:=h
  simp [World.shape?,hb]
def Beside (b:Nat) (w w':World):Prop:=∀ g cs t fr,g≠b→t≠5→w.heap[g]?=some (.cells cs t fr)→w'.heap[g]?=some (.cells cs t fr)
theorem Beside.refl (b:Nat) (w:World):Beside b w w:=fun _ _ _ _ _ _ h=>h
theorem Beside.trans {b:Nat} {w w1 w2:World} (h:Beside b w w1) (k:Beside b w1 w2):Beside b w w2:=fun g cs t fr hg ht e=>k g cs t fr hg ht (h g cs t fr hg ht e)
theorem Beside.of {b:Nat} {w w':World} (h:Below w.heap.size w w'):Beside b w w':=fun g cs t fr _ _ e=>by
  have hl:g < w.heap.size:=by
    rcases Nat.lt_or_ge g w.heap.size with h'|h'
    · exact h'
    · simp [Array.getElem?_eq_none h'] at e
  rw [h.block g hl];exact e
theorem Beside.set (b o:Nat) (v:Value) (w:World):Beside b w (w.setCell ⟨b,o,none⟩ v):=fun g cs t fr hg _ e=>by
  rw [Below.heap_setCell _ _ _ _ hg];exact e
theorem sizeBuilder:(Tryd.prog.info? 86).map (·.size)=some 2:=by kernel_rfl
theorem liesBuilder:liesAt Tryd.prog Tryd.prog.depth 88 (3 / Tryd.prog.cellsOf 88) 0 86 1=true:=by kernel_rfl
theorem infoByte:(Tryd.prog.info? 5).map (fun i=>(i.zero,i.size,i.bytes))=some (some (.int .u8 0),1,1):=by kernel_rfl
set_option maxHeartbeats 1000000 in
set_option maxRecDepth 100000 in
theorem copyCheck_used (b:Nat) (w:World) (h0:w.cell? ⟨b,0,none⟩=some (.pointer (some ⟨b,0,none⟩))) :
    Calls Tryd.prog 64 #[.pointer (some ⟨b,0,none⟩)] w fun e w'=>e=.returned (.tuple #[])∧w'=w:=by
  obtain ⟨j,hj,_⟩:=Option.map_eq_some_iff.1 sizeBuilder
  go_enter Tryd.func64,Tryd.ntmps64
  go_wp2
  rw [Lib.run_neq_ptr_same w _ Tryd.underlying83 hj]
  go_wp2
  go_end0
  exact ⟨rfl,rfl⟩
set_option maxHeartbeats 1000000 in
set_option maxRecDepth 100000 in
theorem copyCheck_fresh (b:Nat) (w:World) (h0:w.cell? ⟨b,0,none⟩=some (.pointer none)) (hsh:w.shape? b=some (88,3)) (hfz:w.frozen? ⟨b,0,none⟩=false) :
    Calls Tryd.prog 64 #[.pointer (some ⟨b,0,none⟩)] w fun e w'=>e=.returned (.tuple #[])∧w'=w.setCell ⟨b,0,none⟩ (.pointer (some ⟨b,0,none⟩)):=by
  obtain ⟨j,hj,hjs⟩:=Option.map_eq_some_iff.1 sizeBuilder
  go_enter Tryd.func64,Tryd.ntmps64
  go_wp2
  rw [Lib.run_to_unsafe w ⟨b,0,none⟩ Tryd.underlying83 Tryd.underlying127 hj (by rw [hjs];decide) hsh (Nat.zero_lt_succ 2)]
  simp only [Result.andThen]
  rw [Oper.upon_value]
  go_wp2
  rw [run_callFunc_extern Tryd.func73 (by kernel_rfl) (by kernel_rfl) (by kernel_rfl) (e:=Extern.AbiNoEscape.same) (by kernel_rfl)]
  rw [Lib.run_noEscape]
  simp only [Result.andThen]
  rw [Oper.upon_value]
  go_wp2
  rw [Lib.run_from_unsafe w ⟨b,0,none⟩ Tryd.underlying127 Tryd.underlying83 hj hsh liesBuilder]
  simp only [Result.andThen]
  rw [Oper.upon_value]
  go_wp2
  go_end0
  exact ⟨rfl,rfl⟩
theorem copyCheck_pr (B b:Nat) (bs:List Value) (d:Int) (w:World) (h:IsPr B b bs d w) :
    Calls Tryd.prog 64 #[.pointer (some ⟨b,0,none⟩)] w fun e w'=>e=.returned (.tuple #[])∧PrAt B b (.pointer (some ⟨b,0,none⟩)) bs d w'∧Below B w w'∧Beside b w w':=by
  rcases h with h|h
  · have h':=h
    obtain ⟨hB,v,hb,_,_⟩:=h'
    refine (copyCheck_fresh b w (by rw [Lib.cell_of_heap hb];rfl) h.shape (Lib.frozen_of_heap hb 0)).mono ?_
    rintro e w' ⟨rfl,rfl⟩
    exact ⟨rfl,h.setAddr _,(Below.refl B w).setCell (p:=⟨b,0,none⟩) h.1 _,Beside.set b 0 _ w⟩
  · have h':=h
    obtain ⟨hB,v,hb,_,_⟩:=h'
    refine (copyCheck_used b w (by rw [Lib.cell_of_heap hb];rfl)).mono ?_
    rintro e w' ⟨rfl,rfl⟩
    exact ⟨rfl,h,Below.refl B _,Beside.refl b _⟩
set_option maxHeartbeats 2000000 in
set_option maxRecDepth 100000 in
theorem writeString_pr (B b:Nat) (bs:List Value) (d:Int) (s:ByteArray) (w:World) (h:IsPr B b bs d w) (hlen:bs.length+s.size≤140737488355328) (hBw:B≤w.heap.size) :
    Calls Tryd.prog 58 #[.pointer (some ⟨b,0,none⟩),.string s] w fun e w'=>e=.returned (.tuple #[.int .i64 s.size,.nilIface])∧PrAt B b (.pointer (some ⟨b,0,none⟩)) (bs++Lib.strCells s) d w'∧Below B w w'∧Beside b w w':=by
  obtain ⟨i0,hi,hz0,hz1,hz2⟩:=info_parts infoByte
  go_enter Tryd.func58,Tryd.ntmps58
  go_wp2_with (go_at_call 64;refine (copyCheck_pr B b bs d _ h).mono ?_)
  rintro e w1 ⟨rfl,h1,hb1,hs1⟩
  obtain ⟨hB,v,hbk,hown,hne⟩:=h1
  have c0:w1.cell? ⟨b,0,none⟩=some (.pointer (some ⟨b,0,none⟩)):=by rw [Lib.cell_of_heap hbk];rfl
  have c1:w1.cell? ⟨b,1,none⟩=some v:=by rw [Lib.cell_of_heap hbk];rfl
  go_wp2_with (at_builtin;refine Lib.wpList_append_own_string _ rfl _ _ 84 9 rfl B 5 i0 Tryd.underlying84 Tryd.underlying9 hi hz0 hz1 hz2 _ _ _ rfl hown s rfl ?c3 ?c4 ?c5 ?_)
  case c3=>unfold maxLen;omega
  case c4=>omega
  case c5=>have:=hb1.size;omega
  intro v' w2 hown' hgrow _
  have hlt:b < w1.heap.size:=by
    rcases Nat.lt_or_ge b w1.heap.size with h'|h'
    · exact h'
    · simp [Array.getElem?_eq_none h'] at hbk
  have hb2:w2.heap[b]?=some (.cells #[.pointer (some ⟨b,0,none⟩),v,.int .i64 d] 88 (0,0)):=by
    rw [hgrow.block b hlt (fun e=>hne e.symm)]
    exact hbk
  have d0:w2.cell? ⟨b,0,none⟩=some (.pointer (some ⟨b,0,none⟩)):=by rw [Lib.cell_of_heap hb2];rfl
  have d1:w2.cell? ⟨b,1,none⟩=some v:=by rw [Lib.cell_of_heap hb2];rfl
  have f1:w2.frozen? ⟨b,1,none⟩=false:=Lib.frozen_of_heap hb2 1
  obtain ⟨ao,n',cap,rfl⟩ : ∃ ao n' cap,v'=.slice ao n' cap:=by
    rcases hown'.2 with ⟨hv,_⟩ | ⟨g,cap,cur,hv,_⟩
    · exact ⟨_,_,_,hv⟩
    · exact ⟨_,_,_,hv⟩
  go_wp2
  go_ret2
  refine ⟨rfl,?_,?_,hs1.trans (Beside.trans (fun g cs t fr hg ht e=>?_) (Beside.set b 1 _ w2))⟩
  · exact PrAt.put hB hb2 (bs':=bs++Lib.strCells s) (by simpa [Lib.strCells_length] using hown')
  · exact (hb1.grown hgrow (by have:=hb1.size;omega) (fun k hk=>(hown.lt k hk).1)).setCell (p:=⟨b,1,none⟩) hB _
  · have hl:g < w1.heap.size:=by
      rcases Nat.lt_or_ge g w1.heap.size with h'|h'
      · exact h'
      · simp [Array.getElem?_eq_none h'] at e
    rw [hgrow.block g hl (fun e2=>Lib.ownBlock_ne hown e ht e2.symm)];exact e
end Go.Proofs.YtnnbbeloifhofaaDoor.P
end
section
namespace Go.Proofs.YtnnbbeloifhofaaDoorW.PrintLast
section
variable {P:Program} {ops:Array Oper} {Q:Exit→Act→World→Prop} {md:Region.Mode} {S:World→Prop} {ds:List Nat}
def Region.reachB (md:Region.Mode) (ops:Array Oper) (i:Nat):Nat→Nat→Bool
  | 0,_=>false
  | fuel+1,d=>match ops[d]? with
    | some o=>o.after.any fun e=>Region.binds md e && (e.on == i || Region.reachB md ops i fuel e.on)
    | none=>false
def Region.closedB (md:Region.Mode) (ops:Array Oper) (listed:Array Bool):Bool:=
  (List.range ops.size).all fun j=>!listed.getD j false || match ops[j]? with
    | some o=>o.after.all fun e=>!Region.binds md e || listed.getD e.on false
    | none=>true
def Region.lastB (md:Region.Mode) (ops:Array Oper) (listed:Array Bool) (ds:List Nat) (i:Nat):Bool:=
  ds.all fun d=>listed.getD d true || Region.reachB md ops i ops.size d
def ListedClosed (md:Region.Mode) (ops:Array Oper) (listed:Array Bool):Prop:=
  ∀ j oj,ops[j]?=some oj→listed.getD j false=true→∀ e ∈ oj.after,Region.binds md e=true→listed.getD e.on false=true
theorem Region.closedB_spec {listed:Array Bool} (h:Region.closedB md ops listed=true):ListedClosed md ops listed:=by
  intro j oj hj hl e he hb
  have hlt:j < ops.size:=(Array.getElem?_eq_some_iff.1 hj).1
  have h1:=List.all_eq_true.1 h j (List.mem_range.2 hlt)
  simp only [hl,hj,Bool.not_true,Bool.false_or] at h1
  have h2:=Array.all_eq_true_iff_forall_mem.1 h1 e he
  simpa [hb] using h2
theorem ListedClosed.set {listed:Array Bool} {i:Nat} (h:ListedClosed md ops listed) (hi:i ∈ Region.ready md ops listed):ListedClosed md ops (listed.setIfInBounds i true):=by
  obtain ⟨_,oi,hoi,hall⟩:=mem_ready.1 hi
  intro j oj hj hl e he hb
  by_cases hij:i=j
  · subst hij
    have:oj=oi:=Option.some.inj (hj.symm.trans hoi)
    subst this
    exact getD_set_true (hall e he hb)
  · rw [getD_set_ne false hij] at hl
    exact getD_set_true (h j oj hj hl e he hb)
theorem Region.reach_listed {listed:Array Bool} {i:Nat} (hc:ListedClosed md ops listed) : ∀ (fuel d:Nat),Region.reachB md ops i fuel d=true→listed.getD d false=true→listed.getD i false=true
  | 0,_,h,_=>by simp [Region.reachB] at h
  | fuel+1,d,h,hl=>by
    unfold Region.reachB at h
    cases ho:ops[d]? with
    | none=>rw [ho] at h;simp at h
    | some o=>
      rw [ho] at h
      obtain ⟨e,he,h1⟩:=Array.any_eq_true'.1 h
      simp only [Bool.and_eq_true,Bool.or_eq_true,beq_iff_eq] at h1
      have hle:=hc d o ho hl e he h1.1
      rcases h1.2 with h2|h2
      · rw [← h2];exact hle
      · exact Region.reach_listed hc fuel e.on h2 hle
theorem Region.reach_not_ready {listed:Array Bool} {i d fuel:Nat} (hc:ListedClosed md ops listed) (hr:Region.reachB md ops i fuel d=true) (hun:listed.getD i true=false):d ∉ Region.ready md ops listed:=by
  intro hd
  obtain ⟨_,o,ho,hall⟩:=mem_ready.1 hd
  have hi:listed.getD i false=true:=by
    cases fuel with
    | zero=>simp [Region.reachB] at hr
    | succ n=>
      unfold Region.reachB at hr
      rw [ho] at hr
      obtain ⟨e,he,h1⟩:=Array.any_eq_true'.1 hr
      simp only [Bool.and_eq_true,Bool.or_eq_true,beq_iff_eq] at h1
      have hle:=hall e he h1.1
      rcases h1.2 with h2|h2
      · rw [← h2];exact hle
      · exact Region.reach_listed hc n e.on h2 hle
  rcases Nat.lt_or_ge i listed.size with h'|h'
  · simp [h'] at hun hi
    rw [hun] at hi
    cases hi
  · simp [Array.getElem?_eq_none h'] at hun
def wpAnyLast (P:Program) (md:Region.Mode) (ops:Array Oper) (Q:Exit→Act→World→Prop) (S:World→Prop) (ds:List Nat):Nat→Array Bool→Act→World→Prop
  | 0,listed,a,w=>Region.ready md ops listed=[]∧Q .normal a w
  | fuel+1,listed,a,w=>
    (Region.ready md ops listed=[]→Q .normal a w)∧
    ∀ i ∈ Region.ready md ops listed,wpOp P ops Q i (fun a' w'=>(i ∉ ds→S w→S w')∧wpAnyLast P md ops Q S ds fuel (listed.setIfInBounds i true) a' w') a w
theorem wpAny_of_last : ∀ (fuel:Nat) (listed:Array Bool) (a:Act) (w:World),wpAnyLast P md ops Q S ds fuel listed a w→wpAny P md ops Q fuel listed a w
  | 0,_,_,_,h=>h
  | fuel+1,_,_,_,h=>⟨h.1,fun i hi=>wpOp_mono (fun a' w' h'=>wpAny_of_last fuel _ a' w' h'.2) (h.2 i hi)⟩
theorem wpAnyLast_first {i:Nat} {oi:Oper} {v:Value} (hi:ops[i]?=some oi) (hsel : ∀ (j:Nat) (o:Oper) cs b,ops[j]?=some o→o.op≠.select cs b)
    (hQ : ∀ c a w,Q (.panic c) (a.put oi.dst v) w→Q (.panic c) a w) (n:Nat) :
    ∀ (fuel:Nat) (listed:Array Bool) (a:Act) (w:World),
      (∀ j oj,ops[j]?=some oj→j≠i→listed.getD j true=false→(∀ e ∈ oj.after,Region.binds md e=true→e.on≠i)→oi.apart ops oj=true)→
      ListedClosed md ops listed→(∀ d ∈ ds,listed.getD d true=false→Region.reachB md ops i n d=true)→
      i ∈ Region.ready md ops listed→YieldsIf P ops S oi v a→S w→
      wpAnyLast P md ops Q S ds fuel (listed.setIfInBounds i true) (a.put oi.dst v) w→wpAnyLast P md ops Q S ds (fuel+1) listed a w:=by
  intro fuel
  induction fuel with
  | zero=>
    intro listed a w _ _ _ hr hy hS H
    refine ⟨fun h=>(by rw [h] at hr;cases hr),fun j hj=>?_⟩
    by_cases hji:j=i
    · subst hji;exact hy.wpOp hi hS ⟨fun _ h=>h,H⟩
    · have:=ready_mono hj hji
      rw [H.1] at this
      cases this
  | succ fuel ih=>
    intro listed a w hfree hc hd hr hy hS H
    refine ⟨fun h=>(by rw [h] at hr;cases hr),fun j hj=>?_⟩
    by_cases hji:j=i
    · subst hji;exact hy.wpOp hi hS ⟨fun _ h=>h,H⟩
    · have h1:=H.2 j (ready_mono hj hji)
      obtain ⟨hjun,oj,hoj,hall⟩:=mem_ready.1 hj
      have hiun:=(mem_ready.1 hr).1
      have hnot : ∀ e ∈ oj.after,Region.binds md e=true→e.on≠i:=fun e he hb heq=>by
        have h1:=hall e he hb
        rw [heq] at h1
        rcases Nat.lt_or_ge i listed.size with h'|h'
        · simp [h'] at hiun h1;rw [hiun] at h1;cases h1
        · simp [Array.getElem?_eq_none h'] at h1
      have hjd:j ∉ ds:=fun hm=>Region.reach_not_ready hc (hd j hm hjun) hiun hj
      have h2:=wpOp_putIf hoj (hfree j oj hoj hji hjun hnot) (fun cs b=>hsel i oi cs b hi) (fun cs b=>hsel j oj cs b hoj) hQ hy h1
      have hfree' : ∀ k ok,ops[k]?=some ok→k≠i→(listed.setIfInBounds j true).getD k true=false→
          (∀ e ∈ ok.after,Region.binds md e=true→e.on≠i)→oi.apart ops ok=true:=fun k ok hk hki hun hno=>by
        refine hfree k ok hk hki ?_ hno
        by_cases hjk:j=k
        · subst hjk;exact hjun
        · rw [getD_set_ne true hjk] at hun;exact hun
      have hd' : ∀ d ∈ ds,(listed.setIfInBounds j true).getD d true=false→Region.reachB md ops i n d=true:=fun d hm hun=>by
        refine hd d hm ?_
        by_cases hjk:j=d
        · subst hjk;exact hjun
        · rw [getD_set_ne true hjk] at hun;exact hun
      refine wpOp_mono (fun a' w' h3=>⟨h3.2.1,ih (listed.setIfInBounds j true) a' w' hfree' (hc.set hj) hd' (ready_mono hr (Ne.symm hji)) h3.1 (h3.2.1 hjd hS) ?_⟩) h2
      rw [Array.setIfInBounds_comm _ _ hji]
      exact h3.2.2
theorem wpAnyLast_any {i:Nat} {oi:Oper} {v:Value} (hi:ops[i]?=some oi) (hsel : ∀ (j:Nat) (o:Oper) cs b,ops[j]?=some o→o.op≠.select cs b)
    (hQ : ∀ c a w,Q (.panic c) (a.put oi.dst v) w→Q (.panic c) a w) :
    ∀ (fuel:Nat) (listed:Array Bool) (a:Act) (w:World),
      (∀ j oj,ops[j]?=some oj→j≠i→listed.getD j true=false→(∀ e ∈ oj.after,Region.binds md e=true→e.on≠i)→oi.apart ops oj=true)→
      i ∈ Region.ready md ops listed→Yields P ops oi v a→
      wpAnyLast P md ops Q S ds fuel (listed.setIfInBounds i true) (a.put oi.dst v) w→wpAnyLast P md ops Q S ds (fuel+1) listed a w:=by
  intro fuel
  induction fuel with
  | zero=>
    intro listed a w _ hr hy H
    refine ⟨fun h=>(by rw [h] at hr;cases hr),fun j hj=>?_⟩
    by_cases hji:j=i
    · subst hji;exact (hy.yieldsIf (S:=fun _=>True)).wpOp hi trivial ⟨fun _ h=>h,H⟩
    · have:=ready_mono hj hji
      rw [H.1] at this
      cases this
  | succ fuel ih=>
    intro listed a w hfree hr hy H
    refine ⟨fun h=>(by rw [h] at hr;cases hr),fun j hj=>?_⟩
    by_cases hji:j=i
    · subst hji;exact (hy.yieldsIf (S:=fun _=>True)).wpOp hi trivial ⟨fun _ h=>h,H⟩
    · have h1:=H.2 j (ready_mono hj hji)
      obtain ⟨hjun,oj,hoj,hall⟩:=mem_ready.1 hj
      have hiun:=(mem_ready.1 hr).1
      have hnot : ∀ e ∈ oj.after,Region.binds md e=true→e.on≠i:=fun e he hb heq=>by
        have h1:=hall e he hb
        rw [heq] at h1
        rcases Nat.lt_or_ge i listed.size with h'|h'
        · simp [h'] at hiun h1;rw [hiun] at h1;cases h1
        · simp [Array.getElem?_eq_none h'] at h1
      have h2:=wpOp_put hoj (hfree j oj hoj hji hjun hnot) (fun cs b=>hsel i oi cs b hi) (fun cs b=>hsel j oj cs b hoj) hQ hy h1
      have hfree' : ∀ k ok,ops[k]?=some ok→k≠i→(listed.setIfInBounds j true).getD k true=false→
          (∀ e ∈ ok.after,Region.binds md e=true→e.on≠i)→oi.apart ops ok=true:=fun k ok hk hki hun hno=>by
        refine hfree k ok hk hki ?_ hno
        by_cases hjk:j=k
        · subst hjk;exact hjun
        · rw [getD_set_ne true hjk] at hun;exact hun
      refine wpOp_mono (fun a' w' h3=>⟨h3.2.1,ih (listed.setIfInBounds j true) a' w' hfree' (ready_mono hr (Ne.symm hji)) h3.1 ?_⟩) h2
      rw [Array.setIfInBounds_comm _ _ hji]
      exact h3.2.2
theorem wpAnyLast_take {i:Nat} {oi:Oper} {v:Value} {fuel:Nat} {listed:Array Bool} {a:Act} {w:World} (hi:ops[i]?=some oi)
    (hs:Region.noSelect ops=true) (hf:Region.free md ops listed i=true) (hr:(Region.ready md ops listed).contains i=true)
    (hc:Region.closedB md ops listed=true) (hl:Region.lastB md ops listed ds i=true)
    (hQ : ∀ c a w,Q (.panic c) (a.put oi.dst v) w→Q (.panic c) a w) (hy:YieldsIf P ops S oi v a) (hS:S w)
    (h:wpAnyLast P md ops Q S ds fuel (listed.setIfInBounds i true) (a.put oi.dst v) w):wpAnyLast P md ops Q S ds (fuel+1) listed a w:=
  wpAnyLast_first hi (Region.noSelect_spec hs) hQ ops.size fuel listed a w (Region.free_spec hi hf) (Region.closedB_spec hc)
    (fun d hm hun=>by have:=List.all_eq_true.1 hl d hm;rw [hun] at this;simpa using this) (by simpa using hr) hy hS h
theorem wpAnyLast_all {rs:List Nat} {fuel:Nat} {listed:Array Bool} {a:Act} {w:World} (hr:Region.ready md ops listed=rs) (hne:rs≠[])
    (h : ∀ i ∈ rs,wpOp P ops Q i (fun a' w'=>(i ∉ ds→S w→S w')∧wpAnyLast P md ops Q S ds fuel (listed.setIfInBounds i true) a' w') a w):wpAnyLast P md ops Q S ds (fuel+1) listed a w:=
  ⟨fun h0=>absurd (hr ▸ h0) hne,hr ▸ h⟩
theorem wpAnyLast_done {listed:Array Bool} {a:Act} {w:World} (hr:Region.ready md ops listed=[]) (h:Q .normal a w) :
    ∀ fuel,wpAnyLast P md ops Q S ds fuel listed a w
  | 0=>⟨hr,h⟩
  | _+1=>⟨fun _=>h,by rw [hr];simp⟩
theorem wp_region_last {id:Nat} {a:Act} {w:World} (hm:P.follows .mixedOrders=true)
    (h:wpAnyLast P .any ops Q S ds ops.size (Array.replicate ops.size false) a { w with drawn:=w.drawn+1 }):(Code.region id ops true).wp P Q a w:=
  wp_region_any hm (wpAny_of_last _ _ _ _ h)
end
section
variable {P:Program} {ops:Array Oper} {Q:Exit→Act→World→Prop} {md:Region.Mode} {S:World→Prop} {ds:List Nat}
def AllReadyL (P:Program) (md:Region.Mode) (ops:Array Oper) (Q:Exit→Act→World→Prop) (S:World→Prop) (ds:List Nat) (fuel:Nat) (listed:Array Bool) (a:Act) (w:World) (rs:List Nat):Prop:=
  ∀ i ∈ rs,wpOp P ops Q i (fun a' w'=>(i ∉ ds→S w→S w')∧wpAnyLast P md ops Q S ds fuel (listed.setIfInBounds i true) a' w') a w
theorem AllReadyL.nil {fuel:Nat} {listed:Array Bool} {a:Act} {w:World}:AllReadyL P md ops Q S ds fuel listed a w []:=fun _ h=>by cases h
theorem AllReadyL.cons {fuel:Nat} {listed:Array Bool} {a:Act} {w:World} {i:Nat} {o:Oper} {rs:List Nat} (ho:ops[i]?=some o) (hd:i ∉ ds)
    (h : ∀ K':Act→World→Prop,Shut (∀ a w,S w→(S w→wpAnyLast P md ops Q S ds fuel (listed.setIfInBounds i true) a w)→K' a w)→if Region.wanted o (yielded ops a.tmps)=true then Oper.wp P o a w K' Q else K' (a.put o.dst undef) w)
    (hs:AllReadyL P md ops Q S ds fuel listed a w rs):AllReadyL P md ops Q S ds fuel listed a w (i :: rs):=fun j hj=>by
  rcases List.mem_cons.1 hj with rfl|hj
  · exact wpOp_step ho (fun K' hK=>h K' (fun a w hS hW=>hK a w ⟨fun _ _=>hS,hW hS⟩))
  · exact hs j hj
theorem AllReadyL.cons_last {fuel:Nat} {listed:Array Bool} {a:Act} {w:World} {i:Nat} {o:Oper} {rs:List Nat} (ho:ops[i]?=some o) (hd:i ∈ ds)
    (h : ∀ K':Act→World→Prop,Shut (∀ a w,wpAnyLast P md ops Q S ds fuel (listed.setIfInBounds i true) a w→K' a w)→if Region.wanted o (yielded ops a.tmps)=true then Oper.wp P o a w K' Q else K' (a.put o.dst undef) w)
    (hs:AllReadyL P md ops Q S ds fuel listed a w rs):AllReadyL P md ops Q S ds fuel listed a w (i :: rs):=fun j hj=>by
  rcases List.mem_cons.1 hj with rfl|hj
  · exact wpOp_step ho (fun K' hK=>h K' (fun a w hW=>hK a w ⟨fun hn=>absurd hd hn,hW⟩))
  · exact hs j hj
theorem wpAnyLast_ready {rs:List Nat} {fuel:Nat} {listed:Array Bool} {a:Act} {w:World} (hr:Region.ready md ops listed=rs) (hne:rs≠[])
    (h:AllReadyL P md ops Q S ds fuel listed a w rs):wpAnyLast P md ops Q S ds (fuel+1) listed a w:=wpAnyLast_all hr hne h
theorem start_ {id n:Nat} {a:Act} {w:World} (l:Array Bool) (hm:P.follows .mixedOrders=true) (hn:ops.size=n) (hl:Array.replicate n false=l) (hS:S w.drew)
    (h:S w.drew→wpAnyLast P .any ops Q S ds n l a w.drew):(Code.region id ops true).wp P Q a w:=by
  subst hn
  subst hl
  exact wp_region_last hm (h hS)
def takeB (md:Region.Mode) (ops:Array Oper) (ds:List Nat) (l l':Array Bool) (i:Nat):Bool:=
  Region.noSelect ops && Region.free md ops l i && (Region.ready md ops l).contains i && Region.closedB md ops l && Region.lastB md ops l ds i && (l.setIfInBounds i true == l')
theorem take_ {i:Nat} {N:Option Tmp} {oi:Oper} {v:Value} {fuel:Nat} {l:Array Bool} {a:Act} {w:World} (l':Array Bool) (hi:ops[i]?=some oi) (hN:oi.dst=N) (hc:takeB md ops ds l l' i=true)
    (hQ : ∀ c a w,Q (.panic c) (a.put oi.dst v) w→Q (.panic c) a w) (hy:YieldsIf P ops S oi v a) (hS:S w) {a':Act} (ha:a.put N v=a')
    (h:wpAnyLast P md ops Q S ds fuel l' a' w):wpAnyLast P md ops Q S ds (fuel+1) l a w:=by
  subst ha
  subst hN
  simp only [takeB,Bool.and_eq_true,beq_iff_eq] at hc
  obtain ⟨⟨⟨⟨⟨h1,h2⟩,h3⟩,h4⟩,h5⟩,h6⟩:=hc
  subst h6
  exact wpAnyLast_take hi h1 h2 h3 h4 h5 hQ hy hS h
def anyB (md:Region.Mode) (ops:Array Oper) (l l':Array Bool) (i:Nat):Bool:=
  Region.noSelect ops && Region.free md ops l i && (Region.ready md ops l).contains i && (l.setIfInBounds i true == l')
theorem pure_ {i:Nat} {N:Option Tmp} {oi:Oper} {v:Value} {fuel:Nat} {l:Array Bool} {a:Act} {w:World} (l':Array Bool) (hi:ops[i]?=some oi) (hN:oi.dst=N) (hc:anyB md ops l l' i=true)
    (hQ : ∀ c a w,Q (.panic c) (a.put oi.dst v) w→Q (.panic c) a w) (hy:Yields P ops oi v a) {a':Act} (ha:a.put N v=a')
    (h:wpAnyLast P md ops Q S ds fuel l' a' w):wpAnyLast P md ops Q S ds (fuel+1) l a w:=by
  subst ha
  subst hN
  simp only [anyB,Bool.and_eq_true,beq_iff_eq] at hc
  obtain ⟨⟨⟨h1,h2⟩,h3⟩,h6⟩:=hc
  subst h6
  exact wpAnyLast_any hi (Region.noSelect_spec h1) hQ fuel l a w (Region.free_spec hi h2) (by simpa using h3) hy h
def readyB (md:Region.Mode) (ops:Array Oper) (l l':Array Bool) (i:Nat):Bool:=(Region.ready md ops l == [i]) && (l.setIfInBounds i true == l')
theorem one_ {i:Nat} {N:Option Tmp} {oi:Oper} {fuel:Nat} {l:Array Bool} {a:Act} {w:World} (l':Array Bool) (hi:ops[i]?=some oi) (hN:oi.dst=N) (hc:readyB md ops l l' i=true) (hd:i ∉ ds)
    (h : ∀ K:Act→World→Prop,Shut (∀ a' w',S w'→(S w'→wpAnyLast P md ops Q S ds fuel l' a' w')→K a' w')→if Region.wanted oi (yielded ops a.tmps)=true then Oper.wp P oi a w K Q else K (a.put N undef) w) :
    wpAnyLast P md ops Q S ds (fuel+1) l a w:=by
  subst hN
  simp only [readyB,Bool.and_eq_true,beq_iff_eq] at hc
  obtain ⟨h1,h2⟩:=hc
  subst h2
  exact wpAnyLast_ready h1 (by simp) (AllReadyL.cons hi hd (fun K hK=>h K hK) AllReadyL.nil)
theorem last_ {i:Nat} {N:Option Tmp} {oi:Oper} {fuel:Nat} {l:Array Bool} {a:Act} {w:World} (l':Array Bool) (hi:ops[i]?=some oi) (hN:oi.dst=N) (hc:readyB md ops l l' i=true) (hd:i ∈ ds)
    (h : ∀ K:Act→World→Prop,Shut (∀ a' w',wpAnyLast P md ops Q S ds fuel l' a' w'→K a' w')→if Region.wanted oi (yielded ops a.tmps)=true then Oper.wp P oi a w K Q else K (a.put N undef) w) :
    wpAnyLast P md ops Q S ds (fuel+1) l a w:=by
  subst hN
  simp only [readyB,Bool.and_eq_true,beq_iff_eq] at hc
  obtain ⟨h1,h2⟩:=hc
  subst h2
  exact wpAnyLast_ready h1 (by simp) (AllReadyL.cons_last hi hd (fun K hK=>h K hK) AllReadyL.nil)
theorem done_ {l:Array Bool} {a:Act} {w:World} {n:Nat} (hr:(Region.ready md ops l == [])=true) (h:Q .normal a w):wpAnyLast P md ops Q S ds n l a w:=wpAnyLast_done (by simpa using hr) h n
theorem two_ {i j:Nat} {Ni Nj:Option Tmp} {oi oj:Oper} {fuel:Nat} {l:Array Bool} {a:Act} {w:World} (li lj:Array Bool) (hi:ops[i]?=some oi) (hj:ops[j]?=some oj) (hNi:oi.dst=Ni) (hNj:oj.dst=Nj)
    (hc:(Region.ready md ops l == [i,j] && l.setIfInBounds i true == li && l.setIfInBounds j true == lj)=true) (hdi:i ∉ ds) (hdj:j ∉ ds)
    (h1 : ∀ K:Act→World→Prop,Shut (∀ a' w',S w'→(S w'→wpAnyLast P md ops Q S ds fuel li a' w')→K a' w')→if Region.wanted oi (yielded ops a.tmps)=true then Oper.wp P oi a w K Q else K (a.put Ni undef) w)
    (h2 : ∀ K:Act→World→Prop,Shut (∀ a' w',S w'→(S w'→wpAnyLast P md ops Q S ds fuel lj a' w')→K a' w')→if Region.wanted oj (yielded ops a.tmps)=true then Oper.wp P oj a w K Q else K (a.put Nj undef) w) :
    wpAnyLast P md ops Q S ds (fuel+1) l a w:=by
  subst hNi
  subst hNj
  simp only [Bool.and_eq_true,beq_iff_eq] at hc
  obtain ⟨⟨h3,h4⟩,h5⟩:=hc
  subst h4
  subst h5
  exact wpAnyLast_ready h3 (by simp) (AllReadyL.cons hi hdi (fun K hK=>h1 K hK) (AllReadyL.cons hj hdj (fun K hK=>h2 K hK) AllReadyL.nil))
def putAll:Act→List (Tmp × Value)→Act
  | a,[]=>a
  | a,(n,v) :: r=>putAll (a.put (some n) v) r
theorem join_ {σ:Type} {fuel:Nat} {l:Array Bool} {a:Act} {w:World} (fuel':Nat) (l':Array Bool) (ns:σ→List (Tmp × Value)) (F:σ→World→Prop)
    (hcont : ∀ s w',F s w'→wpAnyLast P md ops Q S ds fuel' l' (putAll a (ns s)) w')
    (h:(∀ s w',F s w'→wpAnyLast P md ops Q S ds fuel' l' (putAll a (ns s)) w')→wpAnyLast P md ops Q S ds fuel l a w):wpAnyLast P md ops Q S ds fuel l a w:=h hcont
theorem norm_ {fuel:Nat} {l:Array Bool} {a a':Act} {w:World} (ha:a=a') (h:wpAnyLast P md ops Q S ds fuel l a' w):wpAnyLast P md ops Q S ds fuel l a w:=by
  subst ha
  exact h
theorem call_ {oi:Oper} {N:Option Tmp} {a:Act} {w:World} {K:Act→World→Prop} (f:FuncId) (args:Array Value) (hw:Region.wanted oi (yielded ops a.tmps)=true) (hN:oi.dst=N) (hrun:(execOp a.eval oi).run P w=.ok (.enter f args) w)
    (h:Calls P f args w fun e w'=>∃ v,e=.returned v∧K (a.put N v) w'):if Region.wanted oi (yielded ops a.tmps)=true then Oper.wp P oi a w K Q else K (a.put N undef) w:=by
  rw [if_pos hw]
  subst hN
  unfold Oper.wp
  rw [hrun,Oper.upon_enter]
  refine h.mono fun e w'' hh=>?_
  obtain ⟨v,rfl,hk⟩:=hh
  exact hk
theorem enters_ {f:FuncId} {fn:Func} (hf:P.funcs[f]?=some fn) (hname:(fn.name == "runtime.NumGoroutine")=false) (hb:fn.body.isSome=true) (args:Array Value) (w:World):(callFunc f args).run P w=.ok (.enter f args) w:=by
  have h1:fn.name≠"runtime.NumGoroutine":=by simpa using hname
  obtain ⟨c,hc⟩:=Option.isSome_iff_exists.1 hb
  simp [callFunc,hf,h1,hc]
theorem goes_ {oi:Oper} {N:Option Tmp} {a:Act} {w:World} {K:Act→World→Prop} {f:FuncId} {fn:Func} {as0:Array Operand} {ts:Array TypeId} (hf:P.funcs[f]?=some fn) (hname:(fn.name == "runtime.NumGoroutine")=false) (hb:fn.body.isSome=true) (args:Array Value)
    (hw:Region.wanted oi (yielded ops a.tmps)=true) (hN:oi.dst=N) (hop:oi.op=.call { callee:=.value (.func f),args:=as0,argTypes:=ts }) (hargs:as0.map a.eval=args)
    (h:Calls P f args w fun e w'=>∃ v,e=.returned v∧K (a.put N v) w'):if Region.wanted oi (yielded ops a.tmps)=true then Oper.wp P oi a w K Q else K (a.put N undef) w:=by
  refine call_ f args hw hN ?_ h
  have he:=enters_ hf hname hb args w
  unfold execOp
  simp [hop,resolve,Deferred.ofValue,invoke,Act.eval,hargs,he]
theorem goesL_ {rest:List Oper} {oi:Oper} {a:Act} {w:World} (N:Option Tmp) (hd:oi.dst=N) (hg:oi.guard=none) {f:FuncId} {fn:Func} {as0:Array Operand} {ts:Array TypeId} (hf:P.funcs[f]?=some fn) (hname:(fn.name == "runtime.NumGoroutine")=false) (hb:fn.body.isSome=true) (args:Array Value)
    (hop:oi.op=.call { callee:=.value (.func f),args:=as0,argTypes:=ts }) (hargs:as0.map a.eval=args)
    (h:Calls P f args w fun e w'=>∃ v,e=.returned v∧wpList P ops Q rest (a.put N v) w'):wpList P ops Q (oi :: rest) a w:=by
  refine wpList_plain hg fun K hK=>?_
  have he:=enters_ hf hname hb args w
  have hrun:(execOp a.eval oi).run P w=.ok (.enter f args) w:=by
    unfold execOp
    simp [hop,resolve,Deferred.ofValue,invoke,Act.eval,hargs,he]
  unfold Oper.wp
  rw [hrun,Oper.upon_enter]
  refine h.mono fun e w'' hh=>?_
  obtain ⟨v,rfl,hk⟩:=hh
  subst hd
  exact hK _ _ hk
theorem value_ {oi:Oper} {N:Option Tmp} {a:Act} {w w1:World} {v:Value} {K:Act→World→Prop} (hw:Region.wanted oi (yielded ops a.tmps)=true) (hN:oi.dst=N) (hrun:(execOp a.eval oi).run P w=.ok (.value v) w1)
    (h:K (a.put N v) w1):if Region.wanted oi (yielded ops a.tmps)=true then Oper.wp P oi a w K Q else K (a.put N undef) w:=by
  rw [if_pos hw]
  subst hN
  unfold Oper.wp
  rw [hrun]
  exact h
theorem skip_ {oi:Oper} {a:Act} {w w1:World} {K:Act→World→Prop} (hw:Region.wanted oi (yielded ops a.tmps)=true) (hN:oi.dst=none) (hrun:(execOp a.eval oi).run P w=.ok .skip w1)
    (h:K a w1):if Region.wanted oi (yielded ops a.tmps)=true then Oper.wp P oi a w K Q else K (a.put none undef) w:=by
  rw [if_pos hw]
  unfold Oper.wp
  rw [hrun]
  show K (a.put oi.dst undef) w1
  rw [hN]
  exact h
theorem i64_w (n:Int):IntKind.i64.wrap n=Go.RowKit.wrap64 n:=by unfold Go.RowKit.wrap64;exact IntKind.wrap_i64 n
theorem i32_w (n:Int):IntKind.i32.wrap n=Go.RowKit.wrap32 n:=by unfold Go.RowKit.wrap32;exact IntKind.wrap_i32 n
end
end Go.Proofs.YtnnbbeloifhofaaDoorW.PrintLast
end
section
namespace Go.Proofs.YtnnbbeloifhofaaDoorW.PrintLast
open Go.Proofs.YtnnbbeloifhofaaDoorW.PrintWords (Aside0)
def needsOf (md:Region.Mode) (o:Oper):List Nat:=(o.after.toList.filter (fun e=>Region.binds md e)).map (fun e=>e.on)
def clashOf (md:Region.Mode) (ops:Array Oper) (i:Nat) (oi:Oper):List Nat:=(List.range ops.size).filter fun j=>!(j == i) && match ops[j]? with
  | some oj=>!(oj.after.any (fun e=>Region.binds md e && e.on == i) || oi.apart ops oj)
  | none=>false
def rtab (md:Region.Mode) (ops:Array Oper):Bool × List (List Nat × List Nat):=(Region.noSelect ops,(List.range ops.size).map fun i=>match ops[i]? with
  | some o=>(needsOf md o,clashOf md ops i o)
  | none=>([],[]))
def readyAt (T:List (List Nat × List Nat)) (l:List Bool) (i:Nat):Bool:=!l.getD i true && match T[i]? with
  | some r=>r.1.all (fun j=>l.getD j false)
  | none=>false
def readyT (T:List (List Nat × List Nat)) (l:List Bool):List Nat:=(List.range T.length).filter (readyAt T l)
def freeT (T:List (List Nat × List Nat)) (l:List Bool) (i:Nat):Bool:=match T[i]? with
  | some r=>r.2.all (fun j=>l.getD j true)
  | none=>false
def closedT (T:List (List Nat × List Nat)) (l:List Bool):Bool:=(List.range T.length).all fun j=>!l.getD j false || match T[j]? with
  | some r=>r.1.all (fun k=>l.getD k false)
  | none=>true
def reachT (T:List (List Nat × List Nat)) (i:Nat):Nat→Nat→Bool
  | 0,_=>false
  | fuel+1,d=>match T[d]? with
    | some r=>r.1.any fun j=>j == i || reachT T i fuel j
    | none=>false
def lastT (T:List (List Nat × List Nat)) (l:List Bool) (ds:List Nat) (i:Nat):Bool:=ds.all fun d=>l.getD d true || reachT T i T.length d
section
variable {md:Region.Mode} {ops:Array Oper} {T:Bool × List (List Nat × List Nat)} {l l' li lj lk:Array Bool} {ds:List Nat} {i j k:Nat}
theorem gd (l:Array Bool) (j:Nat) (b:Bool):l.getD j b=l.toList.getD j b:=by simp [Array.getD_eq_getD_getElem?,List.getD_eq_getElem?_getD]
theorem needs_all (o:Oper) (p:Nat→Bool):o.after.all (fun e=>!Region.binds md e || p e.on)=(needsOf md o).all p:=by
  unfold needsOf
  rw [← Array.all_toList]
  induction o.after.toList with
  | nil=>rfl
  | cons e r ih=>
    rw [List.all_cons,ih,List.filter_cons]
    cases h:Region.binds md e <;> simp
theorem needs_any (o:Oper) (p:Nat→Bool):o.after.any (fun e=>Region.binds md e && p e.on)=(needsOf md o).any p:=by
  unfold needsOf
  rw [← Array.any_toList]
  induction o.after.toList with
  | nil=>rfl
  | cons e r ih=>
    rw [List.any_cons,ih,List.filter_cons]
    cases h:Region.binds md e <;> simp
theorem rtab_length:(rtab md ops).2.length=ops.size:=by simp [rtab]
theorem rtab_some {o:Oper} (h:ops[i]?=some o):(rtab md ops).2[i]?=some (needsOf md o,clashOf md ops i o):=by
  have hi:=(Array.getElem?_eq_some_iff.1 h).1
  unfold rtab
  rw [List.getElem?_map,List.getElem?_range hi,Option.map_some,h]
theorem rtab_none (h:ops[i]?=none):(rtab md ops).2[i]?=none:=by
  have hi:ops.size≤i:=Array.getElem?_eq_none_iff.1 h
  exact List.getElem?_eq_none (by rw [rtab_length];exact hi)
theorem readyAt_eq:readyAt (rtab md ops).2 l.toList i=(!l.getD i true && ((ops[i]?).map (·.after.all fun e=>!Region.binds md e || l.getD e.on false)).getD false):=by
  unfold readyAt
  rw [gd]
  cases h:ops[i]? with
  | none=>rw [rtab_none h];rfl
  | some o=>
    rw [rtab_some h]
    simp only [Option.map_some,Option.getD_some]
    rw [← needs_all]
    simp only [gd]
theorem ready_eq:Region.ready md ops l=readyT (rtab md ops).2 l.toList:=by
  unfold Region.ready readyT
  rw [rtab_length]
  refine List.filter_congr (fun i _=>?_)
  rw [readyAt_eq]
theorem free_eq:Region.free md ops l i=freeT (rtab md ops).2 l.toList i:=by
  unfold Region.free freeT
  cases h:ops[i]? with
  | none=>rw [rtab_none h]
  | some oi=>
    rw [rtab_some h]
    simp only [clashOf]
    rw [List.all_filter]
    congr 1
    funext j
    rw [gd]
    cases hj:ops[j]? with
    | none=>cases (j == i) <;> cases (l.toList.getD j true) <;> simp
    | some oj=>
      cases (j == i) <;> cases (l.toList.getD j true) <;> cases (oj.after.any (fun e=>Region.binds md e && e.on == i) || oi.apart ops oj) <;> simp_all
theorem closed_eq:Region.closedB md ops l=closedT (rtab md ops).2 l.toList:=by
  unfold Region.closedB closedT
  rw [rtab_length]
  congr 1
  funext j
  rw [gd]
  cases h:ops[j]? with
  | none=>rw [rtab_none h]
  | some o=>
    rw [rtab_some h]
    simp only
    rw [← needs_all]
    simp only [gd]
theorem reach_eq : ∀ (fuel d:Nat),Region.reachB md ops i fuel d=reachT (rtab md ops).2 i fuel d
  | 0,_=>rfl
  | fuel+1,d=>by
    unfold Region.reachB reachT
    cases h:ops[d]? with
    | none=>rw [rtab_none h]
    | some o=>
      rw [rtab_some h]
      simp only
      rw [← needs_any]
      congr 1
      funext e
      rw [reach_eq fuel]
theorem last_eq:Region.lastB md ops l ds i=lastT (rtab md ops).2 l.toList ds i:=by
  unfold Region.lastB lastT
  rw [rtab_length]
  congr 1
  funext d
  rw [gd,reach_eq]
theorem readyAt_mem (h:readyAt T.2 l.toList i=true) (hT:rtab md ops=T):(Region.ready md ops l).contains i=true:=by
  subst hT
  rw [ready_eq]
  unfold readyT
  rw [List.contains_iff_mem,List.mem_filter,List.mem_range]
  refine ⟨?_,h⟩
  unfold readyAt at h
  rw [Bool.and_eq_true] at h
  cases hq:(rtab md ops).2[i]? with
  | none=>rw [hq] at h;simp at h
  | some r=>exact (List.getElem?_eq_some_iff.1 hq).1
theorem set_of (h:(l.toList.set i true == l'.toList)=true):(l.setIfInBounds i true == l')=true:=by
  rw [beq_iff_eq] at h ⊢
  apply Array.ext'
  rw [Array.toList_setIfInBounds]
  exact h
def anyT (T:Bool × List (List Nat × List Nat)) (l l':List Bool) (i:Nat):Bool:=T.1 && freeT T.2 l i && readyAt T.2 l i && (l.set i true == l')
theorem any_of (hT:rtab md ops=T) (h:anyT T l.toList l'.toList i=true):anyB md ops l l' i=true:=by
  simp only [anyT,Bool.and_eq_true] at h
  obtain ⟨⟨⟨h1,h2⟩,h3⟩,h4⟩:=h
  have h5:=readyAt_mem h3 hT
  have h6:=set_of h4
  subst hT
  simp only [anyB,Bool.and_eq_true]
  exact ⟨⟨⟨h1,by rw [free_eq];exact h2⟩,h5⟩,h6⟩
def takeT (T:Bool × List (List Nat × List Nat)) (ds:List Nat) (l l':List Bool) (i:Nat):Bool:=T.1 && freeT T.2 l i && readyAt T.2 l i && closedT T.2 l && lastT T.2 l ds i && (l.set i true == l')
theorem take_of (hT:rtab md ops=T) (h:takeT T ds l.toList l'.toList i=true):takeB md ops ds l l' i=true:=by
  simp only [takeT,Bool.and_eq_true] at h
  obtain ⟨⟨⟨⟨⟨h1,h2⟩,h3⟩,h4⟩,h5⟩,h6⟩:=h
  have h7:=readyAt_mem h3 hT
  have h8:=set_of h6
  subst hT
  simp only [takeB,Bool.and_eq_true]
  exact ⟨⟨⟨⟨⟨h1,by rw [free_eq];exact h2⟩,h7⟩,by rw [closed_eq];exact h4⟩,by rw [last_eq];exact h5⟩,h8⟩
theorem one_of (hT:rtab md ops=T) (h:(readyT T.2 l.toList == [i] && l.toList.set i true == l'.toList)=true):readyB md ops l l' i=true:=by
  simp only [Bool.and_eq_true] at h
  obtain ⟨h1,h2⟩:=h
  subst hT
  simp only [readyB,Bool.and_eq_true]
  exact ⟨by rw [ready_eq];exact h1,set_of h2⟩
theorem two_of (hT:rtab md ops=T) (h:(readyT T.2 l.toList == [i,j] && l.toList.set i true == li.toList && l.toList.set j true == lj.toList)=true):(Region.ready md ops l == [i,j] && l.setIfInBounds i true == li && l.setIfInBounds j true == lj)=true:=by
  simp only [Bool.and_eq_true] at h ⊢
  obtain ⟨⟨h1,h2⟩,h3⟩:=h
  subst hT
  exact ⟨⟨by rw [ready_eq];exact h1,set_of h2⟩,set_of h3⟩
theorem done_of (hT:rtab md ops=T) (h:(readyT T.2 l.toList == [])=true):(Region.ready md ops l == [])=true:=by
  subst hT
  rw [ready_eq]
  exact h
def upM (B:List Nat) (d:Nat):List Nat→Nat
  | []=>0
  | n :: r=>(2 ^ n ||| (if n < d then B.getD n 0 else 0)) ||| upM B d r
def waitsOk (T:List (List Nat × List Nat)) (B:List Nat):Bool:=(List.range T.length).all fun d=>match T[d]? with
  | some r=>(B.getD d 0 ||| upM B d r.1) == upM B d r.1
  | none=>false
theorem upM_bit {B:List Nat} {d i:Nat} : ∀ {ns:List Nat},(upM B d ns).testBit i=true→∃ n ∈ ns,n=i∨(n < d∧(B.getD n 0).testBit i=true)
  | [],h=>by simp [upM] at h
  | n :: r,h=>by
    unfold upM at h
    rw [Nat.testBit_or,Nat.testBit_or,Bool.or_eq_true,Bool.or_eq_true] at h
    rcases h with (h|h)|h
    · rw [Nat.testBit_two_pow] at h
      exact ⟨n,List.mem_cons_self,.inl (by simpa using h)⟩
    · by_cases hn:n < d
      · rw [if_pos hn] at h
        exact ⟨n,List.mem_cons_self,.inr ⟨hn,h⟩⟩
      · rw [if_neg hn] at h
        simp at h
    · obtain ⟨m,hm,h2⟩:=upM_bit h
      exact ⟨m,List.mem_cons_of_mem _ hm,h2⟩
theorem reach_bit {T:List (List Nat × List Nat)} {B:List Nat} (hB:waitsOk T B=true) : ∀ (fuel d:Nat),d < fuel→d < T.length→(B.getD d 0).testBit i=true→reachT T i fuel d=true
  | 0,d,h,_,_=>by omega
  | fuel+1,d,h,hd,hb=>by
    have h1:=List.all_eq_true.1 hB d (List.mem_range.2 hd)
    cases hr:T[d]? with
    | none=>rw [hr] at h1;simp at h1
    | some r=>
      rw [hr] at h1
      simp only [beq_iff_eq] at h1
      have h2:(upM B d r.1).testBit i=true:=by rw [← h1,Nat.testBit_or,hb,Bool.true_or]
      obtain ⟨n,hn,h3⟩:=upM_bit h2
      unfold reachT
      rw [hr]
      simp only
      rw [List.any_eq_true]
      refine ⟨n,hn,?_⟩
      rcases h3 with rfl | ⟨h4,h5⟩
      · simp
      · rw [reach_bit hB fuel n (by omega) (by omega) h5,Bool.or_true]
def lastW (T:List (List Nat × List Nat)) (B:List Nat) (l:List Bool) (ds:List Nat) (i:Nat):Bool:=ds.all fun d=>l.getD d true || (decide (d < T.length) && (B.getD d 0).testBit i)
def takeW (T:Bool × List (List Nat × List Nat)) (B:List Nat) (ds:List Nat) (l l':List Bool) (i:Nat):Bool:=T.1 && freeT T.2 l i && readyAt T.2 l i && closedT T.2 l && lastW T.2 B l ds i && (l.set i true == l')
theorem take_ofW {B:List Nat} (hT:rtab md ops=T) (hB:waitsOk T.2 B=true) (h:takeW T B ds l.toList l'.toList i=true):takeB md ops ds l l' i=true:=by
  refine take_of hT ?_
  simp only [takeW,takeT,Bool.and_eq_true] at h ⊢
  obtain ⟨⟨⟨⟨⟨h1,h2⟩,h3⟩,h4⟩,h5⟩,h6⟩:=h
  refine ⟨⟨⟨⟨⟨h1,h2⟩,h3⟩,h4⟩,?_⟩,h6⟩
  unfold lastW at h5
  unfold lastT
  rw [List.all_eq_true] at h5 ⊢
  intro d hd
  have h7:=h5 d hd
  rw [Bool.or_eq_true,Bool.and_eq_true,decide_eq_true_eq] at h7
  rcases h7 with h7 | ⟨h8,h9⟩
  · rw [h7,Bool.true_or]
  · rw [reach_bit hB _ d h8 h8 h9,Bool.or_true]
theorem with_tabW {P:Program} {Q:Exit→Act→World→Prop} {S:World→Prop} {n:Nat} {a:Act} {w:World} {B:List Nat} (hT:rtab md ops=T) (hB:waitsOk T.2 B=true) (h:Aside0 (rtab md ops=T)→Aside0 (waitsOk T.2 B=true)→wpAnyLast P md ops Q S ds n l a w):wpAnyLast P md ops Q S ds n l a w:=h ⟨hT⟩ ⟨hB⟩
end
def opsIn:Code→Nat→Option (Array Oper)
  | .region id ops _,k=>if id == k then some ops else none
  | .seq a b,k=>match opsIn a k with
    | some o=>some o
    | none=>opsIn b k
  | .cond _ a b,k=>match opsIn a k with
    | some o=>some o
    | none=>opsIn b k
  | .block _ c,k=>opsIn c k
  | .loop c,k=>opsIn c k
  | .scope c,k=>opsIn c k
  | .rangeFunc _ _ a b,k=>match opsIn a k with
    | some o=>some o
    | none=>opsIn b k
  | _,_=>none
def opsOf (f:Func) (k:Nat):Array Oper:=((f.body.bind fun c=>opsIn c k)).getD #[]
end Go.Proofs.YtnnbbeloifhofaaDoorW.PrintLast
end
section
namespace Go.Proofs.YtnnbbeloifhofaaDoorW.PrintWords
open Go.RowKit
namespace Kd
def tag {α:Type} (f:Nat→Nat) (d:Kd α):Kd (α × Nat) where
  sz:=d.sz
  E:=d.E
  K:=fun w x cs=>d.K w x.1 cs
  M:=fun w base ok x cs=>d.M w base (fun k=>ok k∧f k=x.2) x.1 cs
  K_len:=fun h=>d.K_len h
  K_one:=fun h=>d.K_one h
  K_below:=fun hb h=>d.K_below hb h
  K_of_M:=fun h=>d.K_of_M h
  M_mono:=fun hok h=>d.M_mono (fun k hk=>⟨hok k hk.1,hk.2⟩) h
  M_bound:=fun h=>d.M_mono (fun _ hk=>⟨⟨hk.1.1,hk.2⟩,hk.1.2⟩) (d.M_bound h)
  M_move:=fun hm h=>d.M_move (fun k hk=>hm k hk.1) h
  M_lower:=fun hb h=>d.M_lower hb h
def bare {α:Type} (d:Kd α):Kd α where
  sz:=d.sz
  E:=d.E
  K:=d.K
  M:=fun w base _ x cs=>d.M w base (fun _=>False) x cs
  K_len:=fun h=>d.K_len h
  K_one:=fun h=>d.K_one h
  K_below:=fun hb h=>d.K_below hb h
  K_of_M:=fun h=>d.K_of_M h
  M_mono:=fun _ h=>h
  M_bound:=fun h=>h
  M_move:=fun _ h=>d.M_move (fun _ hk=>hk.elim) h
  M_lower:=fun hb h=>d.M_lower hb h
def raw (sz:Nat):Kd (List Value) where
  sz:=sz
  E:=[]
  K:=fun _ x cs=>cs=x∧cs.length=sz∧∀ u ∈ cs,u.oneCell'=true
  M:=fun _ _ _ x cs=>cs=x∧cs.length=sz∧∀ u ∈ cs,u.oneCell'=true
  K_len:=fun h=>h.2.1
  K_one:=fun h=>h.2.2
  K_below:=fun _ h=>h
  K_of_M:=fun h=>h
  M_mono:=fun _ h=>h
  M_bound:=fun h=>h
  M_move:=fun _ h=>h
  M_lower:=fun _ h=>h
def S {α:Type} (d:Kd α) (e:Nat) (w:World) (base:Nat) (ok:Nat→Prop) (v:Value) (xs:List α):Prop:=∃ f,(tag f d).R e w base ok v xs.zipIdx
section
variable {α β:Type} {d:Kd α} {d':Kd β} {e e':Nat} {w w1 W:World} {base b:Nat} {ok ok' okv oku:Nat→Prop} {u v:Value} {xs:List α} {ys:List β}
theorem R_tight (hE:d.E=[]) (h:d.R e w base ok v xs):d.R e w base (fun k=>some k=v.ownBlock) v xs:=by
  obtain ⟨h0,inner,ho,hr⟩:=h
  refine ⟨fun k hk=>hk.symm,inner,ho,hr.imp_ (fun p c hp=>d.M_mono (fun k hk=>?_) (d.M_bound hp))⟩
  obtain ⟨_,_,_,q,hq,_⟩:=hk
  rw [hE] at hq
  cases hq
theorem S_nil (d:Kd α) (e:Nat) (w:World) (base:Nat) (ok:Nat→Prop):S d e w base ok (.slice none 0 0) []:=⟨fun _=>0,R_nil _ _ _ _ _⟩
end
def gap {α:Type} (f:Nat→Nat) (d:Kd α) (i:Nat) (c:List Value):Kd (α × Nat) where
  sz:=d.sz
  E:=d.E
  K:=fun w x cs=>(x.2=i→cs=c∧cs.length=d.sz∧∀ u ∈ cs,u.oneCell'=true)∧(x.2≠i→d.K w x.1 cs)
  M:=fun w base ok x cs=>(x.2=i→cs=c∧cs.length=d.sz∧∀ u ∈ cs,u.oneCell'=true)∧(x.2≠i→d.M w base (fun k=>ok k∧f k=x.2) x.1 cs)
  K_len:=fun {w x cs} h=>by
    by_cases hx:x.2=i
    · exact (h.1 hx).2.1
    · exact d.K_len (h.2 hx)
  K_one:=fun {w x cs} h=>by
    by_cases hx:x.2=i
    · exact (h.1 hx).2.2
    · exact d.K_one (h.2 hx)
  K_below:=fun hb h=>⟨h.1,fun hx=>d.K_below hb (h.2 hx)⟩
  K_of_M:=fun h=>⟨h.1,fun hx=>d.K_of_M (h.2 hx)⟩
  M_mono:=fun hok h=>⟨h.1,fun hx=>d.M_mono (fun k hk=>⟨hok k hk.1,hk.2⟩) (h.2 hx)⟩
  M_bound:=fun h=>⟨h.1,fun hx=>d.M_mono (fun _ hk=>⟨⟨hk.1.1,hk.2⟩,hk.1.2⟩) (d.M_bound (h.2 hx))⟩
  M_move:=fun hm h=>⟨h.1,fun hx=>d.M_move (fun k hk=>hm k hk.1) (h.2 hx)⟩
  M_lower:=fun hb h=>⟨h.1,fun hx=>d.M_lower hb (h.2 hx)⟩
def H {α:Type} (d:Kd α) (e:Nat) (w:World) (base:Nat) (ok:Nat→Prop) (v:Value) (xs:List α) (i:Int) (oki:Nat→Prop) (c:List Value):Prop:=
  (∀ k,oki k→ok k)∧∃ f,(gap f d i.toNat c).R e w base (fun k=>ok k∧¬ oki k) v xs.zipIdx
end Kd
end Go.Proofs.YtnnbbeloifhofaaDoorW.PrintWords
end
section
namespace Go.Proofs.YtnnbbeloifhofaaDoorW.PrintWords
open Go.RowKit
namespace Kd
structure Heap {α:Type} (d:Kd α):Prop where
  K : ∀ {w w1:World} {x:α} {cs:List Value},(∀ k,k < w.heap.size→w1.heap[k]?=w.heap[k]?)→d.K w x cs→d.K w1 x cs
theorem cell_heap {w w1:World} (hb : ∀ k,k < w.heap.size→w1.heap[k]?=w.heap[k]?) {a:Addr} {v:Value} (h:w.cell? a=some v):w1.cell? a=some v:=by
  have:=hb a.block (World.block_lt_of_cell? w a h)
  simpa [World.cell?,this] using h
theorem Heap.C {α:Type} {d:Kd α} (hd:Heap d) {w w1:World} {A:Option Addr} {n:Nat} {xs:List α} (hb : ∀ k,k < w.heap.size→w1.heap[k]?=w.heap[k]?) (h:d.C w A n xs):d.C w1 A n xs:=
  ⟨h.1,h.2.1,fun hn=>by
    obtain ⟨ad,e,hc⟩:=h.2.2 hn
    refine ⟨ad,e,fun j p hj=>?_⟩
    obtain ⟨c,hs,hr,hcell⟩:=hc j p hj
    exact ⟨c,hs,hd.K hb hr,fun i u hu=>cell_heap hb (hcell i u hu)⟩⟩
theorem heap_string:Heap Kd.string:=⟨fun _ h=>h⟩
theorem heap_slice {α:Type} {d:Kd α} (e:Nat) (hd:Heap d):Heap (slice e d):=⟨by
  rintro w w1 x cs hb ⟨A,c,rfl,hl,hr⟩
  exact ⟨A,c,rfl,hl,hd.C hb hr⟩⟩
theorem heap_pair {α β:Type} {a:Kd α} {b:Kd β} (ha:Heap a) (hb':Heap b):Heap (pair a b):=⟨by
  rintro w w1 x cs hb ⟨c0,c1,rfl,h0,h1⟩
  exact ⟨c0,c1,rfl,ha.K hb h0,hb'.K hb h1⟩⟩
theorem heap_iso {α β:Type} {d:Kd α} (f:β→α) (hd:Heap d):Heap (iso d f):=⟨fun hb h=>hd.K hb h⟩
end Kd
end Go.Proofs.YtnnbbeloifhofaaDoorW.PrintWords
end
section
namespace Go.Proofs.YtnnbbeloifhofaaDoorW.PrintWords
open Go.RowKit
def Kept (w W:World) (S:Nat→Prop):Prop:=w.heap.size≤W.heap.size∧∀ i,i < w.heap.size→¬ S i→W.heap[i]?=w.heap[i]?
section
variable {w W W2:World} {S S2 S':Nat→Prop}
theorem Kept.refl (w:World) (S:Nat→Prop):Kept w w S:=⟨Nat.le_refl _,fun _ _ _=>rfl⟩
theorem Kept.of_below (h:Below w.heap.size w W) (S:Nat→Prop):Kept w W S:=⟨h.size,fun i hi _=>h.block i hi⟩
theorem Kept.mono (h:Kept w W S) (hs : ∀ k,S k→S' k):Kept w W S':=⟨h.1,fun i hi hn=>h.2 i hi (fun hk=>hn (hs i hk))⟩
theorem Kept.then_ (h:Kept w W S) (k:Kept W W2 S2) (hs : ∀ k,S2 k→S k∨w.heap.size≤k):Kept w W2 S:=
  ⟨Nat.le_trans h.1 k.1,fun i hi hn=>(k.2 i (Nat.lt_of_lt_of_le hi h.1) (fun h2=>(hs i h2).elim hn (fun h3=>by omega))).trans (h.2 i hi hn)⟩
theorem Kept.below (h:Kept w W S) (hb:Below W.heap.size W W2):Kept w W2 S:=h.then_ (Kept.of_below hb (fun _=>False)) (fun _ hk=>hk.elim)
theorem Kept.alloc (h:Kept w W S) (o:Obj):Kept w (W.alloc o) S:=h.below (below_alloc (Below.refl _ _) o)
theorem Kept.drew (h:Kept w W S):Kept w W.drew S:=h
theorem Kept.drewN (h:Kept w W S) (m:Nat):Kept w (W.drewN m) S:=h
theorem Kept.setCell (h:Kept w W S) {p:Addr} (hp:S p.block∨w.heap.size≤p.block) (u:Value):Kept w (W.setCell p u) S:=
  h.then_ (S2:=fun k=>k=p.block) ⟨by simp [World.setCell],fun i _ hn=>Below.heap_setCell W p u i hn⟩ (fun k hk=>by rw [hk];exact hp)
end
end Go.Proofs.YtnnbbeloifhofaaDoorW.PrintWords
end
section
namespace Go.Proofs.YtnnbbeloifhofaaDoorW.PrintWords
open Go.RowKit
def Foot (P:World→Prop) (W:World) (ok:Nat→Prop):Prop:=∀ W':World,(∀ k,ok k→k < W.heap.size→W'.heap[k]?=W.heap[k]?)→P W'
theorem heap_lt {W W1:World} {k:Nat} (h:W1.heap[k]?=W.heap[k]?) (hlt:k < W.heap.size):k < W1.heap.size:=by
  rw [Array.getElem?_eq_getElem hlt] at h
  exact (Array.getElem?_eq_some_iff.1 h).1
namespace Foot
variable {P Q:World→Prop} {W W1:World} {ok ok':Nat→Prop}
theorem now (h:Foot P W ok):P W:=h W (fun _ _ _=>rfl)
theorem mono (h:Foot P W ok) (hok : ∀ k,ok k→ok' k):Foot P W ok':=fun W' hW=>h W' (fun k hk hlt=>hW k (hok k hk) hlt)
theorem bound (h:Foot P W ok):Foot P W (fun k=>ok k∧k < W.heap.size):=fun W' hW=>h W' (fun k hk hlt=>hW k ⟨hk,hlt⟩ hlt)
theorem step (h:Foot P W ok) (hm : ∀ k,ok k→k < W.heap.size→W1.heap[k]?=W.heap[k]?):Foot P W1 ok:=fun W' hW=>h W' (fun k hk hlt=>(hW k hk (heap_lt (hm k hk hlt) hlt)).trans (hm k hk hlt))
theorem imp (h:Foot P W ok) (hi : ∀ W',P W'→Q W'):Foot Q W ok:=fun W' hW=>hi W' (h W' hW)
theorem old (h:Foot P W ok) (hb:Below W.heap.size W W1):Foot P W1 (fun k=>ok k∧k < W.heap.size):=(h.bound).step (fun k _ hlt=>hb.block k hlt)
end Foot
namespace Kd
def F {α:Type} (d:Kd α) (W:World) (ok:Nat→Prop) (A:Option Addr) (n:Nat) (xs:List α):Prop:=Foot (fun W=>d.C W A n xs) W ok
def FK {α:Type} (d:Kd α) (W:World) (ok:Nat→Prop) (x:α) (c:List Value):Prop:=Foot (fun W=>d.K W x c) W ok
section
variable {α β:Type} {d:Kd α} {e base n n' cc g N:Nat} {ok ok' okp S:Nat→Prop} {w w0 w1 W W1:World} {A A':Option Addr} {u v v1:Value} {xs:List α} {xs':List β} {d':Kd β} {x:α} {c:List Value}
theorem F_now (h:F d W ok A n xs):d.C W A n xs:=Foot.now h
theorem F_mono (h:F d W ok A n xs) (hok : ∀ k,ok k→ok' k):F d W ok' A n xs:=Foot.mono h hok
theorem F_bound (h:F d W ok A n xs):F d W (fun k=>ok k∧k < W.heap.size) A n xs:=Foot.bound h
theorem F_step (h:F d W ok A n xs) (hm : ∀ k,ok k→k < W.heap.size→W1.heap[k]?=W.heap[k]?):F d W1 ok A n xs:=Foot.step h hm
theorem F_below (h:F d W ok A n xs) (hb:Below W.heap.size W W1):F d W1 ok A n xs:=F_step h (fun k _ hlt=>hb.block k hlt)
theorem F_alloc (h:F d W ok A n xs) (o:Obj):F d (W.alloc o) ok A n xs:=F_below h (below_alloc (Below.refl _ _) o)
theorem F_drew (h:F d W ok A n xs):F d W.drew ok A n xs:=F_below h (below_drew (Below.refl _ _))
theorem F_drewN (h:F d W ok A n xs) (m:Nat):F d (W.drewN m) ok A n xs:=F_below h (pw_below_drewN (Below.refl _ _) m)
theorem F_far (h:F d W ok A n xs) {p:Addr} (hok : ∀ k,ok k→k≠p.block) (u:Value):F d (W.setCell p u) ok A n xs:=F_step h (fun k hk _=>Below.heap_setCell W p u k (hok k hk))
theorem F_nil (d:Kd α) (W:World) (ok:Nat→Prop):F d W ok none ([]:List α).length []:=fun W' _=>C_nil d W'
theorem F_elder' (h:F d W ok A n xs) (hbase : ∀ k,v.ownBlock=some k→W.heap.size≤k) (hb:Below W.heap.size W W1):F d W1 (fun k=>ok k∧some k≠v.ownBlock) A n xs:=
  F_mono (Foot.old h hb) (fun k hk=>⟨hk.1,fun he=>by have:=hbase k he.symm;have:=hk.2;omega⟩)
theorem F_elderB (h:F d W ok A n xs) (a:Nat) (ha:W.heap.size≤a):F d W (fun k=>ok k∧k≠a) A n xs:=F_mono (F_bound h) (fun k hk=>⟨hk.1,by have:=hk.2;omega⟩)
theorem F_after (h:F d W (fun k=>ok k∧some k≠v.ownBlock) A n xs) (hg:W.grownBy W1 v.ownBlock) (hat:v1.ownBlock=v.ownBlock∨∃ b,v1.ownBlock=some b∧W.heap.size≤b):F d W1 (fun k=>ok k∧some k≠v1.ownBlock) A n xs:=by
  refine F_mono (Foot.step (F_bound h) (fun k hk hlt=>hg.block k hlt hk.1.2)) (fun k hk=>⟨hk.1.1,?_⟩)
  rcases hat with hat | ⟨b,hb,hle⟩
  · rw [hat];exact hk.1.2
  · rw [hb]
    intro he
    injection he with he
    have:=hk.2
    omega
theorem C_F (hd:Heap d) (h:d.C w A n xs):F d w (fun k=>k < w.heap.size) A n xs:=fun _ hW=>hd.C (fun k hlt=>hW k hlt hlt) h
theorem FK_now (h:FK d W ok x c):d.K W x c:=Foot.now h
theorem FK_mono (h:FK d W ok x c) (hok : ∀ k,ok k→ok' k):FK d W ok' x c:=Foot.mono h hok
theorem FK_bound (h:FK d W ok x c):FK d W (fun k=>ok k∧k < W.heap.size) x c:=Foot.bound h
theorem FK_step (h:FK d W ok x c) (hm : ∀ k,ok k→k < W.heap.size→W1.heap[k]?=W.heap[k]?):FK d W1 ok x c:=Foot.step h hm
theorem FK_of_M (h:d.M W base ok x c):FK d W ok x c:=fun _ hW=>d.K_of_M (M_step h hW)
theorem emptied (W:World) (g:Nat) : ∃ W':World,(∀ k,k≠g→W'.heap[k]?=W.heap[k]?)∧∀ a:Addr,a.block=g→W'.cell? a=none:=by
  refine ⟨{ W with heap:=W.heap.setIfInBounds g (.cells #[] 0) },fun k hk=>by simp [Ne.symm hk],fun a ha=>?_⟩
  subst ha
  by_cases hlt:a.block < W.heap.size
  · simp [World.cell?,hlt]
  · simp [World.cell?,hlt]
end
end Kd
end Go.Proofs.YtnnbbeloifhofaaDoorW.PrintWords
end
section
namespace Go.Proofs.YtnnbbeloifhofaaDoorW.PrintWords
open Go.RowKit
namespace Kd
def chunks (sz:Nat) (n:Nat) (inner:List Value):List (List Value):=(List.range n).map fun j=>(inner.drop (j * sz)).take sz
theorem chunks_length (sz n:Nat) (inner:List Value):(chunks sz n inner).length=n:=by simp [chunks]
theorem chunks_at {sz n:Nat} {inner:List Value} {j:Nat} (hj:j < n):(chunks sz n inner)[j]?=some ((inner.drop (j * sz)).take sz):=by simp [chunks,hj]
theorem chunks_get {sz n:Nat} {inner:List Value} {j:Nat} {c:List Value} (h:(chunks sz n inner)[j]?=some c):c=(inner.drop (j * sz)).take sz:=by
  have hj:j < n:=by have:=(List.getElem?_eq_some_iff.1 h).1;rwa [chunks_length] at this
  rw [chunks_at hj] at h
  injection h with h
  exact h.symm
theorem reps_raw {α:Type} {Rr:α→List Value→Prop} {sz:Nat} {xs:List α} {inner:List Value} (h:Reps Rr sz xs inner) (hR : ∀ x c,Rr x c→c.length=sz∧∀ u ∈ c,u.oneCell'=true):Reps (fun x cs=>cs=x∧cs.length=sz∧∀ u ∈ cs,u.oneCell'=true) sz (chunks sz xs.length inner) inner:=by
  refine ⟨by rw [chunks_length];exact h.1,fun j p hj=>?_⟩
  have hjl:j < xs.length:=by have:=(List.getElem?_eq_some_iff.1 hj).1;rwa [chunks_length] at this
  have hp:=chunks_get hj
  exact ⟨hp.symm,hR _ _ (h.2 j _ (List.getElem?_eq_getElem hjl))⟩
section
variable {α:Type} {d:Kd α} {e base n cc g:Nat} {ok ok' okp S:Nat→Prop} {w w1 W W1:World} {A:Option Addr} {u v v1:Value} {xs:List α} {x:α} {c:List Value}
theorem F_get (h:F d W ok A n xs) (z:α) (i:Int) (h0:0≤i) (h1:i < n) :
    ∃ ad c,A=some ad∧c.length=d.sz∧FK d W ok (xs.getD i.toNat z) c∧(∀ j u,c[j]?=some u→W.cell? (ad.add (i.toNat * d.sz+j))=some u)∧(0 < d.sz→ok ad.block):=by
  obtain ⟨ad,c,rfl,hcl,hK,hcc⟩:=C_get (F_now h) z i h0 h1
  have hin:0 < d.sz→ok ad.block:=by
    intro hs
    by_cases hk:ok ad.block
    · exact hk
    · obtain ⟨W',h2,h3⟩:=emptied W ad.block
      obtain ⟨ad',c',he,hcl',_,hcc'⟩:=C_get (h W' (fun k hk' _=>h2 k (fun e=>hk (e ▸ hk')))) z i h0 h1
      injection he with he
      subst he
      have h4:=hcc' 0 _ (List.getElem?_eq_getElem (by omega))
      rw [h3 _ (add_block _ _)] at h4
      cases h4
  refine ⟨ad,c,rfl,hcl,fun W' hW=>?_,hcc,hin⟩
  obtain ⟨ad',c',he,hcl',hK',hcc'⟩:=C_get (h W' hW) z i h0 h1
  injection he with he
  subst he
  have hc:c=c':=by
    apply List.ext_getElem?
    intro j
    by_cases hj:j < d.sz
    · have hb:W'.heap[ad.block]?=W.heap[ad.block]?:=by
        have h5:=hcc j _ (List.getElem?_eq_getElem (by omega))
        have h6:=World.block_lt_of_cell? W _ h5
        rw [add_block] at h6
        exact hW _ (hin (by omega)) h6
      have h5:=hcc j _ (List.getElem?_eq_getElem (by omega))
      have h6:=hcc' j _ (List.getElem?_eq_getElem (by omega))
      have h7:W'.cell? (ad.add (i.toNat * d.sz+j))=W.cell? (ad.add (i.toNat * d.sz+j)):=by simp [World.cell?,add_block,hb]
      rw [h7,h5] at h6
      rw [List.getElem?_eq_getElem (by omega),List.getElem?_eq_getElem (by omega)]
      exact h6
    · rw [List.getElem?_eq_none (by omega),List.getElem?_eq_none (by omega)]
  rw [hc]
  exact hK'
def N {α:Type} (d:Kd α) (e:Nat) (w:World) (base:Nat) (ok:Nat→Prop) (v:Value) (xs:List α):Prop:=
  (∀ k,v.ownBlock=some k→ok k)∧∃ rows:List (List Value),rows.length=xs.length∧(raw d.sz).R e w base (fun k=>some k=v.ownBlock) v rows∧∀ (j:Nat) (x:α) (c:List Value),xs[j]?=some x→rows[j]?=some c→FK d w (fun k=>ok k∧some k≠v.ownBlock) x c
theorem raw_tight {sz:Nat} {rows:List (List Value)} (h:(raw sz).R e w base ok v rows):(raw sz).R e w base (fun k=>some k=v.ownBlock) v rows:=R_tight rfl h
theorem raw_any {sz:Nat} {rows:List (List Value)} (h:(raw sz).R e w base ok v rows):(raw sz).R e w base (fun _=>True) v rows:=R_mono h (fun _ _=>trivial)
theorem R_N (h:d.R e w base ok v xs):N d e w base ok v xs:=by
  obtain ⟨h0,inner,ho,hr⟩:=h
  refine ⟨h0,chunks d.sz xs.length inner,chunks_length _ _ _,⟨fun k hk=>hk.symm,inner,by rw [chunks_length];exact ho,reps_raw hr (fun x c hp=>⟨d.K_len (d.K_of_M hp),d.K_one (d.K_of_M hp)⟩)⟩,fun j x c hx hc=>?_⟩
  rw [chunks_get hc]
  exact FK_of_M (hr.2 j x hx)
theorem N_nil (d:Kd α) (e:Nat) (w:World) (base:Nat) (ok:Nat→Prop):N d e w base ok (.slice none 0 0) []:=R_N (R_nil _ _ _ _ _)
theorem N_mono (h:N d e w base ok v xs) (hok : ∀ k,ok k→ok' k):N d e w base ok' v xs:=by
  obtain ⟨h0,rows,hl,hR,hf⟩:=h
  exact ⟨fun k hk=>hok k (h0 k hk),rows,hl,hR,fun j x c hx hc=>FK_mono (hf j x c hx hc) (fun k hk=>⟨hok k hk.1,hk.2⟩)⟩
theorem N_lt (h:N d e w base ok v xs) : ∀ k,v.ownBlock=some k→k < w.heap.size:=by
  obtain ⟨_,rows,_,hR,_⟩:=h
  exact R_lt hR
theorem N_base (h:N d e w base ok v xs) : ∀ k,v.ownBlock=some k→base≤k:=by
  obtain ⟨_,rows,_,hR,_⟩:=h
  exact R_base hR
theorem N_typed (h:N d e w base ok v xs) : ∀ k,v.ownBlock=some k→∃ cells,w.heap[k]?=some (.cells cells e (0,0)):=by
  obtain ⟨_,rows,_,hR,_⟩:=h
  exact R_typed hR
theorem N_ne (h:N d e w base ok v xs) {t:Nat} {cells:Array Value} (hb:w.heap[g]?=some (.cells cells t (0,0))) (ht:e≠t):some g≠v.ownBlock:=by
  obtain ⟨_,rows,_,hR,_⟩:=h
  exact R_ne hR hb ht
theorem N_bound (h:N d e w base ok v xs):N d e w base (fun k=>ok k∧k < w.heap.size) v xs:=by
  have hlt:=N_lt h
  obtain ⟨h0,rows,hl,hR,hf⟩:=h
  exact ⟨fun k hk=>⟨h0 k hk,hlt k hk⟩,rows,hl,hR,fun j x c hx hc=>FK_mono (FK_bound (hf j x c hx hc)) (fun k hk=>⟨⟨hk.1.1,hk.2⟩,hk.1.2⟩)⟩
theorem N_lower {base':Nat} (h:N d e w base ok v xs) (hb:base'≤base):N d e w base' ok v xs:=by
  obtain ⟨h0,rows,hl,hR,hf⟩:=h
  exact ⟨h0,rows,hl,R_lower hR hb,hf⟩
theorem N_step (h:N d e w base ok v xs) (hm : ∀ k,ok k→k < w.heap.size→w1.heap[k]?=w.heap[k]?):N d e w1 base ok v xs:=by
  obtain ⟨h0,rows,hl,hR,hf⟩:=h
  exact ⟨h0,rows,hl,R_step hR (fun k hk hlt=>hm k (h0 k hk.symm) hlt),fun j x c hx hc=>FK_step (hf j x c hx hc) (fun k hk hlt=>hm k hk.1 hlt)⟩
theorem N_below (h:N d e w base ok v xs) (hb:Below w.heap.size w w1):N d e w1 base ok v xs:=N_step h (fun k _ hk=>hb.block k hk)
theorem N_alloc (h:N d e w base ok v xs) (o:Obj):N d e (w.alloc o) base ok v xs:=N_below h (below_alloc (Below.refl _ _) o)
theorem N_drew (h:N d e w base ok v xs):N d e w.drew base ok v xs:=N_below h (below_drew (Below.refl _ _))
theorem N_drewN (h:N d e w base ok v xs) (m:Nat):N d e (w.drewN m) base ok v xs:=N_below h (pw_below_drewN (Below.refl _ _) m)
theorem N_far (h:N d e w base ok v xs) {p:Addr} (hok : ∀ k,ok k→k≠p.block) (u:Value):N d e (w.setCell p u) base ok v xs:=N_step h (fun k ho _=>Below.heap_setCell w p u k (hok k ho))
theorem N_elder' (h:N d e W base ok v xs) (hbase : ∀ k,u.ownBlock=some k→W.heap.size≤k) (hb:Below W.heap.size W w1):N d e w1 base (fun k=>ok k∧some k≠u.ownBlock) v xs:=
  N_mono (N_below (N_bound h) hb) (fun k hk=>⟨hk.1,fun he=>by have:=hbase k he.symm;have:=hk.2;omega⟩)
theorem N_elderB (h:N d e w base ok v xs) (a:Nat) (ha:w.heap.size≤a):N d e w base (fun k=>ok k∧k≠a) v xs:=N_mono (N_bound h) (fun k hk=>⟨hk.1,by have:=hk.2;omega⟩)
theorem N_after (h:N d e W base (fun k=>ok k∧some k≠u.ownBlock) v xs) {u1:Value} (hg:W.grownBy w1 u.ownBlock) (hat:u1.ownBlock=u.ownBlock∨∃ b,u1.ownBlock=some b∧W.heap.size≤b):N d e w1 base (fun k=>ok k∧some k≠u1.ownBlock) v xs:=by
  refine N_mono (N_step (N_bound h) (fun k hk hlt=>hg.block k hlt hk.1.2)) (fun k hk=>⟨hk.1.1,?_⟩)
  rcases hat with hat | ⟨b,hb,hle⟩
  · rw [hat];exact hk.1.2
  · rw [hb]
    intro he
    injection he with he
    have:=hk.2
    omega
theorem N_slice (h:N d e w base ok v xs) : ∃ A c,v=.slice A xs.length c:=by
  obtain ⟨_,rows,hl,hR,_⟩:=h
  obtain ⟨A,c,he⟩:=R_slice hR
  exact ⟨A,c,by rw [he,hl]⟩
theorem N_reads' {n c:Nat} (h:N d e w base ok (.slice A n c) xs):n=xs.length∧n≤c∧d.C w A xs.length xs:=by
  obtain ⟨_,rows,hl,hR,hf⟩:=h
  obtain ⟨hn,hc,hC⟩:=R_reads' hR
  refine ⟨by omega,hc,?_⟩
  rw [hl] at hC
  refine ⟨rfl,hC.2.1,fun hp=>?_⟩
  obtain ⟨ad,he,hcell⟩:=hC.2.2 hp
  refine ⟨ad,he,fun j p hj=>?_⟩
  have hjl:j < rows.length:=by have:=(List.getElem?_eq_some_iff.1 hj).1;omega
  obtain ⟨c',hcl,hK,hcc⟩:=hcell j _ (List.getElem?_eq_getElem hjl)
  have hk:=FK_now (hf j p _ hj (List.getElem?_eq_getElem hjl))
  refine ⟨c',hcl,?_,hcc⟩
  rw [show c'=rows[j] from hK.1]
  exact hk
theorem N_F {n:Nat} (h:N d e w base ok (.slice A n cc) xs):F d w ok A n xs:=fun W' hW=>by
  have h2:=N_reads' (N_step h hW)
  rw [h2.1]
  exact h2.2.2
end
end Kd
end Go.Proofs.YtnnbbeloifhofaaDoorW.PrintWords
end
section
namespace Go.Proofs.YtnnbbeloifhofaaDoorW.PrintWords
open Go.RowKit
section
variable {w w' u:World} {m B g:Nat} {o:Obj} {row:Option Nat} {S:Nat→Prop} {a:Addr} {v:Value}
theorem blk_at (hq:w.drewN m=w') (h:w.heap[g]?=some o):w'.heap[g]?=some o:=by subst hq;exact h
end
end Go.Proofs.YtnnbbeloifhofaaDoorW.PrintWords
end
section
namespace Go.Proofs.YtnnbbeloifhofaaDoorW.PrintWords
open Go.RowKit
section
variable {P:Program} {d:Nat} {xs ys:Array Value} {f:Field} {fs:List Field} {a b:Value} {r s:Bool} {w:World}
theorem eqf_last (hn:(f.name == "_")=false) (ha:(part f.type xs f.offset).run P w=.ok a w) (hb:(part f.type ys f.offset).run P w=.ok b w) (he:(Op.equalIn d f.type a b).run P w=.ok r w):(Op.eqFields d xs ys [f]).run P w=.ok r w:=by
  have hn':f.name≠"_":=by simpa using hn
  simp only [Op.eqFields,if_pos hn',Sem.run_bind,ha,hb,he,Result.andThen_ok]
  cases r <;> simp
theorem eqf_cons (hn:(f.name == "_")=false) (ha:(part f.type xs f.offset).run P w=.ok a w) (hb:(part f.type ys f.offset).run P w=.ok b w) (he:(Op.equalIn d f.type a b).run P w=.ok r w) (hr:(Op.eqFields d xs ys fs).run P w=.ok s w):(Op.eqFields d xs ys (f :: fs)).run P w=.ok (r && s) w:=by
  have hn':f.name≠"_":=by simpa using hn
  rw [Op.eqFields]
  simp only [if_pos hn',Sem.run_bind,ha,hb,he,Result.andThen_ok]
  cases r
  · simp
  · simpa using hr
theorem eqA_of {t:TypeId} {fs:Array Field} (hu:P.underlying t=some (.struct fs)) (hp:P.stoodInHeld t=false) (h:(Op.eqFields d xs ys fs.toList).run P w=.ok r w):(Op.equalIn (d+1) t (.agg xs) (.agg ys)).run P w=.ok r w:=by
  have hf:P.fieldsOf t=fs:=by simp [Program.fieldsOf,hu]
  rw [run_equalIn_struct (P:=P) w d t xs ys (by rw [hf];exact hu) hp,hf]
  exact h
end
end Go.Proofs.YtnnbbeloifhofaaDoorW.PrintWords
end
section
namespace Go.Proofs.YtnnbbeloifhofaaDoorW.PrintWords
theorem Reps.one {α:Type} {R:α→List Value→Prop} {ps:List α} {cs:List Value} {p:α} {v:Value} (hp:R p [v]) (h:Reps R 1 ps cs):Reps R 1 (p :: ps) (v :: cs):=by
  refine ⟨by simp [h.1],fun j q hq=>?_⟩
  cases j with
  | zero=>
    simp only [List.getElem?_cons_zero,Option.some.injEq] at hq
    subst hq
    simpa using hp
  | succ j=>
    simp only [List.getElem?_cons_succ] at hq
    have h1:=h.2 j q hq
    simpa [Nat.mul_one] using h1
theorem Reps.front {α:Type} {R:α→List Value→Prop} {size:Nat} {ps:List α} {cs c all:List Value} {p:α} (hp:R p c) (hc:c.length=size) (h:Reps R size ps cs) (ha:c++cs=all):Reps R size (p :: ps) all:=by
  subst ha
  refine ⟨by rw [List.length_append,hc,h.1,List.length_cons,Nat.succ_mul,Nat.add_comm],fun j q hq=>?_⟩
  cases j with
  | zero=>
    simp only [List.getElem?_cons_zero,Option.some.injEq] at hq
    subst hq
    rw [Nat.zero_mul,List.drop_zero,List.take_append_of_le_length (by omega),List.take_of_length_le (by omega)]
    exact hp
  | succ j=>
    simp only [List.getElem?_cons_succ] at hq
    have h1:=h.2 j q hq
    rw [Nat.succ_mul,List.drop_append,List.drop_of_length_le (by rw [hc];exact Nat.le_add_left _ _),List.nil_append,hc,Nat.add_sub_cancel]
    exact h1
theorem Reps.c2 {α:Type} {R:α→List Value→Prop} {ps:List α} {cs:List Value} {p:α} {va vb:Value} (hp:R p [va,vb]) (h:Reps R 2 ps cs):Reps R 2 (p :: ps) (va :: vb :: cs):=Reps.front hp rfl h rfl
theorem Reps.c3 {α:Type} {R:α→List Value→Prop} {ps:List α} {cs:List Value} {p:α} {va vb vc:Value} (hp:R p [va,vb,vc]) (h:Reps R 3 ps cs):Reps R 3 (p :: ps) (va :: vb :: vc :: cs):=Reps.front hp rfl h rfl
theorem Reps.c4 {α:Type} {R:α→List Value→Prop} {ps:List α} {cs:List Value} {p:α} {va vb vc vd:Value} (hp:R p [va,vb,vc,vd]) (h:Reps R 4 ps cs):Reps R 4 (p :: ps) (va :: vb :: vc :: vd :: cs):=Reps.front hp rfl h rfl
theorem Reps.c5 {α:Type} {R:α→List Value→Prop} {ps:List α} {cs:List Value} {p:α} {va vb vc vd ve:Value} (hp:R p [va,vb,vc,vd,ve]) (h:Reps R 5 ps cs):Reps R 5 (p :: ps) (va :: vb :: vc :: vd :: ve :: cs):=Reps.front hp rfl h rfl
theorem Reps.c6 {α:Type} {R:α→List Value→Prop} {ps:List α} {cs:List Value} {p:α} {va vb vc vd ve vf:Value} (hp:R p [va,vb,vc,vd,ve,vf]) (h:Reps R 6 ps cs):Reps R 6 (p :: ps) (va :: vb :: vc :: vd :: ve :: vf :: cs):=Reps.front hp rfl h rfl
theorem Reps.c7 {α:Type} {R:α→List Value→Prop} {ps:List α} {cs:List Value} {p:α} {va vb vc vd ve vf vg:Value} (hp:R p [va,vb,vc,vd,ve,vf,vg]) (h:Reps R 7 ps cs):Reps R 7 (p :: ps) (va :: vb :: vc :: vd :: ve :: vf :: vg :: cs):=Reps.front hp rfl h rfl
theorem Reps.c8 {α:Type} {R:α→List Value→Prop} {ps:List α} {cs:List Value} {p:α} {va vb vc vd ve vf vg vh:Value} (hp:R p [va,vb,vc,vd,ve,vf,vg,vh]) (h:Reps R 8 ps cs):Reps R 8 (p :: ps) (va :: vb :: vc :: vd :: ve :: vf :: vg :: vh :: cs):=Reps.front hp rfl h rfl
theorem Reps.c9 {α:Type} {R:α→List Value→Prop} {ps:List α} {cs:List Value} {p:α} {va vb vc vd ve vf vg vh vi:Value} (hp:R p [va,vb,vc,vd,ve,vf,vg,vh,vi]) (h:Reps R 9 ps cs):Reps R 9 (p :: ps) (va :: vb :: vc :: vd :: ve :: vf :: vg :: vh :: vi :: cs):=Reps.front hp rfl h rfl
theorem Reps.c10 {α:Type} {R:α→List Value→Prop} {ps:List α} {cs:List Value} {p:α} {va vb vc vd ve vf vg vh vi vj:Value} (hp:R p [va,vb,vc,vd,ve,vf,vg,vh,vi,vj]) (h:Reps R 10 ps cs):Reps R 10 (p :: ps) (va :: vb :: vc :: vd :: ve :: vf :: vg :: vh :: vi :: vj :: cs):=Reps.front hp rfl h rfl
end Go.Proofs.YtnnbbeloifhofaaDoorW.PrintWords
end
section
namespace Go.Proofs.YtnnbbeloifhofaaDoorW.PrintLast
def up (b:Nat→Bool) (i:Nat):Nat→Bool:=fun j=>if j=i then true else b j
end Go.Proofs.YtnnbbeloifhofaaDoorW.PrintLast
end
section
namespace Go.Proofs.YtnnbbeloifhofaaDoorW.PrintWords
open Go.RowKit
section
variable {P:Program} {ops:Array Oper} {rest:List Oper} {o:Oper} {a:Act} {Q:Exit→Act→World→Prop} {W:World}
theorem gate_guard (hw:Region.wanted o (yielded ops a.tmps)=true) (h:wpList P ops Q ({ o with guard:=none } :: rest) a W):wpList P ops Q (o :: rest) a W:=by
  have h1:Region.wanted { o with guard:=none } (yielded ops a.tmps)=true:=rfl
  unfold wpList at h ⊢
  rw [if_pos h1] at h
  rw [if_pos hw]
  exact h
end
end Go.Proofs.YtnnbbeloifhofaaDoorW.PrintWords
end
section
namespace Go.Proofs.YtnnbbeloifhofaaDoorW.PrintWords
open Go.RowKit
namespace Kd
section
variable {α:Type} {d:Kd α} {e base n cap g:Nat} {ok ok' okp:Nat→Prop} {w w1 W:World} {v v1:Value} {xs ys:List α}
theorem N_appended {rows news:List (List Value)} (h0 : ∀ k,v.ownBlock=some k→ok k) (hl:rows.length=xs.length) (hf : ∀ (j:Nat) (x:α) (c:List Value),xs[j]?=some x→rows[j]?=some c→FK d W (fun k=>ok k∧some k≠v.ownBlock) x c)
    (hl2:news.length=ys.length) (hf2 : ∀ (j:Nat) (x:α) (c:List Value),ys[j]?=some x→news[j]?=some c→FK d W okp x c) (hokp : ∀ k,okp k→ok k∧some k≠v.ownBlock) (hfresh : ∀ k,W.heap.size≤k→ok k)
    (hR:(raw d.sz).R e w1 base (fun _=>True) v1 (rows++news)) (hg:W.grownBy w1 v.ownBlock) (hat:v1.ownBlock=v.ownBlock∨∃ b,v1.ownBlock=some b∧W.heap.size≤b):N d e w1 base ok v1 (xs++ys):=by
  have hne : ∀ k,some k≠v.ownBlock→k < W.heap.size→some k≠v1.ownBlock:=by
    intro k hk hlt
    rcases hat with hat | ⟨b,hb,hle⟩
    · rw [hat];exact hk
    · rw [hb]
      intro he
      injection he with he
      omega
  have step : ∀ {x:α} {c:List Value} {o:Nat→Prop},FK d W o x c→(∀ k,o k→ok k∧some k≠v.ownBlock)→FK d w1 (fun k=>ok k∧some k≠v1.ownBlock) x c:=by
    intro x c o hq ho
    exact FK_mono (FK_step (FK_bound hq) (fun k hk hlt=>hg.block k hlt (ho k hk.1).2)) (fun k hk=>⟨(ho k hk.1).1,hne k (ho k hk.1).2 hk.2⟩)
  refine ⟨fun k hk=>?_,rows++news,by rw [List.length_append,List.length_append,hl,hl2],raw_tight hR,fun j x c hx hc=>?_⟩
  · rcases hat with hat | ⟨b,hb,hle⟩
    · exact h0 k (hat ▸ hk)
    · rw [hb] at hk
      injection hk with hk
      exact hfresh k (by omega)
  · rcases Nat.lt_or_ge j xs.length with hlt|hge
    · rw [List.getElem?_append_left hlt] at hx
      rw [List.getElem?_append_left (by omega)] at hc
      exact step (hf j x c hx hc) (fun _ hk=>hk)
    · rw [List.getElem?_append_right hge] at hx
      rw [List.getElem?_append_right (by omega),hl] at hc
      exact step (hf2 _ x c hx hc) hokp
theorem FK_raw {x:α} {c:List Value} (h:FK d W ok x c):c=c∧c.length=d.sz∧∀ u ∈ c,u.oneCell'=true:=⟨rfl,d.K_len (FK_now h),d.K_one (FK_now h)⟩
end
section
variable {P:Program} {ops:Array Oper} {rest:List Oper} {o:Oper} {a:Act} {Q:Exit→Act→World→Prop} {Kc:Act→World→Prop} {α:Type}
theorem N_append (d:Kd α) {w0 W:World} (base:Nat) (hgd:o.guard=none) (s x:Operand) (t e:TypeId) (z:Value) (bytes:Nat)
    (ho:o.op=.call { callee:=.builtin .append,args:=#[s,x],argTypes:=#[t,t] })
    (ht:P.underlying t=some (.slice e)) (hinfo:(P.info? e).map (fun i=>(i.zero,i.size,i.bytes))=some (some z,d.sz,bytes)) (hz:z.cells.size=d.sz) (hs0:0 < d.sz) (hb0:0 < bytes)
    (v:Value) (xs:List α) (p:α) (cs:List Value) (ok okp:Nat→Prop) (hs:a.eval s=v) (hx:a.eval x=.slice (some ⟨W.heap.size,0,none⟩) 1 1) (hp:FK d W okp p cs) (hokp : ∀ k,okp k→ok k∧some k≠v.ownBlock) (hfresh : ∀ k,W.heap.size≤k→ok k)
    (HO:N d e W base ok v xs) (HB:Below base w0 W) (hbase:base≤W.heap.size) (hl:(xs.length+1) * bytes≤140737488355328)
    (h : ∀ v1 w1,N d e w1 base ok v1 (xs++[p])→Below base w0 w1→W.grownBy w1 v.ownBlock→(v1.ownBlock=v.ownBlock∨∃ b,v1.ownBlock=some b∧W.heap.size≤b)→wpList P ops Q rest (a.put o.dst v1) w1) :
    wpList P ops Q (o :: rest) a (W.alloc (.cells cs.toArray e)):=by
  obtain ⟨h0,rows,hlr,hR,hf⟩:=HO
  refine R_append (raw d.sz) base hgd s x t e z bytes ho ht hinfo hz hs0 hb0 v rows cs cs (fun _=>True) (fun _=>False) hs hx (FK_raw hp) (fun _ hk=>hk.elim) (fun _ _=>trivial) (raw_any hR) HB hbase (by rw [hlr];exact hl) ?_
  intro v1 w1 hr hb hg hat
  exact h v1 w1 (N_appended h0 hlr hf (ys:=[p]) (news:=[cs]) rfl (fun j y c hy hc=>by
    rcases j with _|j
    · simp only [List.getElem?_cons_zero,Option.some.injEq] at hy hc
      rw [← hy,← hc];exact hp
    · simp at hy) hokp hfresh hr hg hat) hb hg hat
theorem N_append_step (d:Kd α) {w0 W:World} (base:Nat) (hw:Region.wanted o (yielded ops a.tmps)=true) (s x:Operand) (t e:TypeId) (z:Value) (bytes:Nat)
    (ho:o.op=.call { callee:=.builtin .append,args:=#[s,x],argTypes:=#[t,t] })
    (ht:P.underlying t=some (.slice e)) (hinfo:(P.info? e).map (fun i=>(i.zero,i.size,i.bytes))=some (some z,d.sz,bytes)) (hz:z.cells.size=d.sz) (hs0:0 < d.sz) (hb0:0 < bytes)
    (v:Value) (xs:List α) (p:α) (cs:List Value) (ok okp:Nat→Prop) (hs:a.eval s=v) (hx:a.eval x=.slice (some ⟨W.heap.size,0,none⟩) 1 1) (hp:FK d W okp p cs) (hokp : ∀ k,okp k→ok k∧some k≠v.ownBlock) (hfresh : ∀ k,W.heap.size≤k→ok k)
    (HO:N d e W base ok v xs) (HB:Below base w0 W) (hbase:base≤W.heap.size) (hl:(xs.length+1) * bytes≤140737488355328)
    (h : ∀ v1 w1,N d e w1 base ok v1 (xs++[p])→Below base w0 w1→W.grownBy w1 v.ownBlock→(v1.ownBlock=v.ownBlock∨∃ b,v1.ownBlock=some b∧W.heap.size≤b)→Kc (a.put o.dst v1) w1) :
    if Region.wanted o (yielded ops a.tmps)=true then Oper.wp P o a (W.alloc (.cells cs.toArray e)) Kc Q else Kc (a.put o.dst undef) (W.alloc (.cells cs.toArray e)):=by
  obtain ⟨h0,rows,hlr,hR,hf⟩:=HO
  refine R_append_step (raw d.sz) base hw s x t e z bytes ho ht hinfo hz hs0 hb0 v rows cs cs (fun _=>True) (fun _=>False) hs hx (FK_raw hp) (fun _ hk=>hk.elim) (fun _ _=>trivial) (raw_any hR) HB hbase (by rw [hlr];exact hl) ?_
  intro v1 w1 hr hb hg hat
  exact h v1 w1 (N_appended h0 hlr hf (ys:=[p]) (news:=[cs]) rfl (fun j y c hy hc=>by
    rcases j with _|j
    · simp only [List.getElem?_cons_zero,Option.some.injEq] at hy hc
      rw [← hy,← hc];exact hp
    · simp at hy) hokp hfresh hr hg hat) hb hg hat
end
end Kd
end Go.Proofs.YtnnbbeloifhofaaDoorW.PrintWords
end
section
namespace Go.Proofs.YtnnbbeloifhofaaDoorW.PrintMore
open Go.RowKit Go.Proofs.YtnnbbeloifhofaaDoorW.PrintWords
theorem max2_int (k k':IntKind) (x y:Int):Builtin.max2 (.int k x) (.int k' y)=pure (.int k (if x < y then y else x)):=by simp only [Builtin.max2,gt_iff_lt]
theorem min2_int (k k':IntKind) (x y:Int):Builtin.min2 (.int k x) (.int k' y)=pure (.int k (if y < x then y else x)):=by simp only [Builtin.min2]
theorem max_two (ats:Array TypeId) (ty:TypeId) (a b:Value):Builtin.max_ ats ty #[a,b]=(Builtin.max2 a b >>= fun s=>pure s):=by simp only [Builtin.max_,List.foldlM_cons,List.foldlM_nil]
theorem min_two (ats:Array TypeId) (ty:TypeId) (a b:Value):Builtin.min_ ats ty #[a,b]=(Builtin.min2 a b >>= fun s=>pure s):=by simp only [Builtin.min_,List.foldlM_cons,List.foldlM_nil]
theorem max_three (ats:Array TypeId) (ty:TypeId) (a b c:Value):Builtin.max_ ats ty #[a,b,c]=(Builtin.max2 a b >>= fun s=>Builtin.max2 s c >>= fun s=>pure s):=by simp only [Builtin.max_,List.foldlM_cons,List.foldlM_nil]
theorem min_three (ats:Array TypeId) (ty:TypeId) (a b c:Value):Builtin.min_ ats ty #[a,b,c]=(Builtin.min2 a b >>= fun s=>Builtin.min2 s c >>= fun s=>pure s):=by simp only [Builtin.min_,List.foldlM_cons,List.foldlM_nil]
theorem max_four (ats:Array TypeId) (ty:TypeId) (a b c d:Value):Builtin.max_ ats ty #[a,b,c,d]=(Builtin.max2 a b >>= fun s=>Builtin.max2 s c >>= fun s=>Builtin.max2 s d >>= fun s=>pure s):=by simp only [Builtin.max_,List.foldlM_cons,List.foldlM_nil]
theorem min_four (ats:Array TypeId) (ty:TypeId) (a b c d:Value):Builtin.min_ ats ty #[a,b,c,d]=(Builtin.min2 a b >>= fun s=>Builtin.min2 s c >>= fun s=>Builtin.min2 s d >>= fun s=>pure s):=by simp only [Builtin.min_,List.foldlM_cons,List.foldlM_nil]
end Go.Proofs.YtnnbbeloifhofaaDoorW.PrintMore
namespace Go.Proofs.YtnnbbeloifhofaaDoorW.PrintWords
open Go.RowKit
section
variable {P:Program} {ops:Array Oper} {rest:List Oper} {o:Oper} {a:Act} {Q:Exit→Act→World→Prop} {W:World}
theorem gate_callee {f:FuncId} {as0:Array Operand} {ts:Array TypeId} (_ho:o.op=.call { callee:=.value (.func f),args:=as0,argTypes:=ts }) (h:wpList P ops Q (o :: rest) a W):wpList P ops Q (o :: rest) a W:=h
theorem gate_builtin {b:Builtin} {xs:Array Operand} {ts:Array TypeId} (_ho:o.op=.call { callee:=.builtin b,args:=xs,argTypes:=ts }) (h:wpList P ops Q (o :: rest) a W):wpList P ops Q (o :: rest) a W:=h
end
def mx (a b:Int):Int:=if a < b then b else a
end Go.Proofs.YtnnbbeloifhofaaDoorW.PrintWords
namespace Go.Proofs.YtnnbbeloifhofaaDoorW.PrintWords
open Go.RowKit
namespace Kd
def V {α:Type} (d:Kd α) (_e:Nat) (W:World) (_base:Nat) (ok:Nat→Prop) (v:Value) (xs:List α):Prop:=∃ A c,v=.slice A xs.length c∧xs.length≤c∧F d W ok A xs.length xs
section
variable {α β:Type} {d:Kd α} {e base base' n m c g N' lo hi:Nat} {ok ok' S:Nat→Prop} {w W w1:World} {A:Option Addr} {ad:Addr} {u v v1:Value} {xs:List α}
theorem V_map (h:V d e W base ok v xs) (hF : ∀ A,F d W ok A xs.length xs→F d w1 ok' A xs.length xs):V d e w1 base' ok' v xs:=by
  obtain ⟨A,c,hv,hl,hf⟩:=h
  exact ⟨A,c,hv,hl,hF A hf⟩
theorem V_mk (hl:xs.length≤c) (hf:F d W ok A xs.length xs):V d e W base ok (.slice A xs.length c) xs:=⟨A,c,rfl,hl,hf⟩
theorem V_at (h:V d e W base ok (.slice A n c) xs):n=xs.length∧n≤c∧F d W ok A xs.length xs:=by
  obtain ⟨A',c',hv,hl,hf⟩:=h
  injection hv with ha hn hc
  subst ha;subst hc
  exact ⟨hn,by rw [hn];exact hl,hf⟩
theorem V_reads' (h:V d e W base ok (.slice A n c) xs):n=xs.length∧n≤c∧d.C W A xs.length xs:=⟨(V_at h).1,(V_at h).2.1,F_now (V_at h).2.2⟩
theorem V_F (h:V d e W base ok (.slice A n c) xs):F d W ok A n xs:=by
  obtain ⟨hn,_,hf⟩:=V_at h
  rw [hn]
  exact hf
theorem V_nil (d:Kd α) (e:Nat) (W:World) (base:Nat) (ok:Nat→Prop):V d e W base ok (.slice none 0 0) []:=⟨none,0,rfl,Nat.le_refl _,F_nil d W ok⟩
theorem V_mono (h:V d e W base ok v xs) (hok : ∀ k,ok k→ok' k):V d e W base ok' v xs:=V_map h (fun _ hf=>F_mono hf hok)
theorem V_below (h:V d e W base ok v xs) (hb:Below W.heap.size W w1):V d e w1 base ok v xs:=V_map h (fun _ hf=>F_below hf hb)
theorem V_alloc (h:V d e W base ok v xs) (o:Obj):V d e (W.alloc o) base ok v xs:=V_map h (fun _ hf=>F_alloc hf o)
theorem V_drew (h:V d e W base ok v xs):V d e W.drew base ok v xs:=V_map h (fun _ hf=>F_drew hf)
theorem V_drewN (h:V d e W base ok v xs) (m:Nat):V d e (W.drewN m) base ok v xs:=V_map h (fun _ hf=>F_drewN hf m)
theorem V_far (h:V d e W base ok v xs) {p:Addr} (hok : ∀ k,ok k→k≠p.block) (u:Value):V d e (W.setCell p u) base ok v xs:=V_map h (fun _ hf=>F_far hf hok u)
theorem V_after (h:V d e W base (fun k=>ok k∧some k≠u.ownBlock) v xs) (hg:W.grownBy w1 u.ownBlock) (hat:v1.ownBlock=u.ownBlock∨∃ b,v1.ownBlock=some b∧W.heap.size≤b):V d e w1 base (fun k=>ok k∧some k≠v1.ownBlock) v xs:=V_map h (fun _ hf=>F_after hf hg hat)
theorem V_afterv (h:V d e W base (fun k=>ok k∧some k≠v.ownBlock) u xs) (hg:W.grownBy w1 v.ownBlock) (hat:v1.ownBlock=v.ownBlock∨∃ b,v1.ownBlock=some b∧W.heap.size≤b):V d e w1 base (fun k=>ok k∧some k≠v1.ownBlock) u xs:=V_after h hg hat
theorem N_afterv (h:N d e W base (fun k=>ok k∧some k≠v.ownBlock) u xs) (hg:W.grownBy w1 v.ownBlock) (hat:v1.ownBlock=v.ownBlock∨∃ b,v1.ownBlock=some b∧W.heap.size≤b):N d e w1 base (fun k=>ok k∧some k≠v1.ownBlock) u xs:=N_after h hg hat
theorem V_elder' (h:V d e W base ok v xs) (hbase : ∀ k,u.ownBlock=some k→W.heap.size≤k) (hb:Below W.heap.size W w1):V d e w1 base (fun k=>ok k∧some k≠u.ownBlock) v xs:=V_map h (fun _ hf=>F_elder' hf hbase hb)
theorem V_elderB (h:V d e W base ok v xs) (a:Nat) (ha:W.heap.size≤a):V d e W base (fun k=>ok k∧k≠a) v xs:=V_map h (fun _ hf=>F_elderB hf a ha)
theorem V_get (h:V d e W base ok (.slice (some ad) n c) xs) (z:α) (i:Int) (h0:0≤i) (h1:i < n) :
    ∃ cs,cs.length=d.sz∧FK d W ok (xs.getD i.toNat z) cs∧∀ j u,cs[j]?=some u→W.cell? (ad.add (i.toNat * d.sz+j))=some u:=by
  obtain ⟨ad',cs,he,hcl,hK,hcc,_⟩:=F_get (V_F h) z i h0 h1
  injection he with he
  subst he
  exact ⟨cs,hcl,hK,hcc⟩
end
end Kd
end Go.Proofs.YtnnbbeloifhofaaDoorW.PrintWords
end
section
namespace Go.Proofs.YtnnbbeloifhofaaDoor.P
open Go.RowKit Go.Proofs.YtnnbbeloifhofaaDoorW.PrintWords Go.Proofs.YtnnbbeloifhofaaDoorW.PrintLast Go.Proofs.YtnnbbeloifhofaaDoorW.PrintMore
attribute [local go_sem] max2_int min2_int max_two min_two max_three min_three max_four min_four
set_option linter.unusedVariables false
set_option linter.unusedSimpArgs false
def errW:Option Int→Value
  | none=>.nilIface
  | some c=>.iface 0 (.int .i64 c)
theorem errW_none:errW none=.nilIface:=rfl
theorem errW_some (c:Int):errW (some c)=.iface 0 (.int .i64 c):=rfl
theorem info33:(Tryd.prog.info? 33).map (fun i=>(i.zero,i.size,i.bytes))=some (some (.agg #[(.string ⟨#[]⟩),(.string ⟨#[]⟩),(.int .i64 0),(.slice none 0 0),(.int .i64 0)]),5,72):=by kernel_rfl
theorem info66:(Tryd.prog.info? 66).map (fun i=>(i.zero,i.size,i.bytes))=some (some (.agg #[(.string ⟨#[]⟩),(.slice none 0 0)]),2,40):=by kernel_rfl
theorem info76:(Tryd.prog.info? 76).map (fun i=>(i.zero,i.size,i.bytes))=some (some (.agg #[(.string ⟨#[]⟩),(.string ⟨#[]⟩),(.slice none 0 0),(.slice none 0 0),(.slice none 0 0),(.int .i64 0)]),6,112):=by kernel_rfl
theorem info79:(Tryd.prog.info? 79).map (fun i=>(i.zero,i.size,i.bytes))=some (some (.agg #[(.string ⟨#[]⟩),(.slice none 0 0)]),2,40):=by kernel_rfl
theorem info80:(Tryd.prog.info? 80).map (fun i=>(i.zero,i.size,i.bytes))=some (some (.agg #[(.string ⟨#[]⟩),(.string ⟨#[]⟩),(.int .i64 0)]),3,40):=by kernel_rfl
structure S24 where
  f0:ByteArray
  f1:ByteArray
  f2:Int
  f3:(List S24)
  f4:Int
def z24:S24:=⟨(⟨#[]⟩:ByteArray),(⟨#[]⟩:ByteArray),(0:Int),([]:List S24),(0:Int)⟩
def F24 (d:Kd S24):Kd S24:=Kd.iso (Kd.pair Kd.string (Kd.pair Kd.string (Kd.pair (Kd.int .i64) (Kd.pair (Kd.slice 24 d) (Kd.int .i64))))) (fun x:S24=>(x.f0,x.f1,x.f2,x.f3,x.f4))
theorem mono24:Kd.Mono F24:=Kd.mono_iso _ (Kd.mono_pair (Kd.mono_const _) (Kd.mono_pair (Kd.mono_const _) (Kd.mono_pair (Kd.mono_const _) (Kd.mono_pair (Kd.mono_slice 24 Kd.mono_id) (Kd.mono_const _)))))
theorem sub24:Kd.Sub F24 [24]:=Kd.sub_iso _ (Kd.sub_pair (Kd.sub_const _ (by decide)) (Kd.sub_pair (Kd.sub_const _ (by decide)) (Kd.sub_pair (Kd.sub_const _ (by decide)) (Kd.sub_pair (Kd.sub_slice 24 (by decide) Kd.sub_id) (Kd.sub_const _ (by decide))))))
theorem sz24 : ∀ n,(Kd.upto F24 5 [24] n).sz=5:=Kd.upto_sz (fun _=>rfl)
def k24:Kd S24:=Kd.fix F24 5 [24] sz24 (Kd.upto_E sub24)
theorem k24_open {w:World} {x:S24} {cs:List Value} (h:k24.K w x cs) : ∃ A3 c3,cs=[.string x.f0,.string x.f1,.int .i64 x.f2,.slice A3 x.f3.length c3,.int .i64 x.f4]∧x.f3.length≤c3∧k24.C w A3 x.f3.length x.f3:=by
  obtain ⟨n,h⟩:=h
  cases n with
  | zero=>exact h.elim
  | succ n=>
    obtain ⟨_,_,rfl,rfl,⟨_,_,rfl,rfl,⟨_,_,rfl,rfl,⟨_,_,rfl,⟨A3,c3,rfl,l3,g3⟩,rfl⟩⟩⟩⟩:=h
    exact ⟨A3,c3,rfl,l3,Kd.fix_C g3⟩
theorem k24_mk (w:World) (x:S24) {A3:Option Addr} {c3:Nat} (l3:x.f3.length≤c3) (g3:k24.C w A3 x.f3.length x.f3):k24.K w x [.string x.f0,.string x.f1,.int .i64 x.f2,.slice A3 x.f3.length c3,.int .i64 x.f4]:=by
  obtain ⟨n3,q3⟩:=Kd.fix_C_back mono24 g3
  have r3:=Kd.upto_C_le mono24 sz24 (show n3≤n3 by omega) q3
  exact ⟨n3+1,⟨[.string x.f0],[.string x.f1,.int .i64 x.f2,.slice A3 x.f3.length c3,.int .i64 x.f4],rfl,rfl,⟨[.string x.f1],[.int .i64 x.f2,.slice A3 x.f3.length c3,.int .i64 x.f4],rfl,rfl,⟨[.int .i64 x.f2],[.slice A3 x.f3.length c3,.int .i64 x.f4],rfl,rfl,⟨[.slice A3 x.f3.length c3],[.int .i64 x.f4],rfl,⟨A3,c3,rfl,l3,r3⟩,rfl⟩⟩⟩⟩⟩
def rd_T24 (xs:List S24) (i:Int):S24:=xs.getD i.toNat z24
theorem at_T24 {w:World} {A:Option Addr} {n:Nat} {xs:List S24} (h:Kd.C k24 w A n xs) (i:Int) (h0:0≤i) (h1:i < n) : ∃ ad A3 c3,A=some ad∧w.cell? (ad.add (i.toNat * 5))=some (.string (rd_T24 xs i).f0)∧w.cell? ⟨(ad.add (i.toNat * 5)).block,(ad.add (i.toNat * 5)).off+1,none⟩=some (.string (rd_T24 xs i).f1)∧w.cell? ⟨(ad.add (i.toNat * 5)).block,(ad.add (i.toNat * 5)).off+2,none⟩=some (.int .i64 (rd_T24 xs i).f2)∧w.cell? ⟨(ad.add (i.toNat * 5)).block,(ad.add (i.toNat * 5)).off+3,none⟩=some (.slice A3 (rd_T24 xs i).f3.length c3)∧w.cell? ⟨(ad.add (i.toNat * 5)).block,(ad.add (i.toNat * 5)).off+4,none⟩=some (.int .i64 (rd_T24 xs i).f4)∧(rd_T24 xs i).f3.length≤c3∧k24.C w A3 (rd_T24 xs i).f3.length (rd_T24 xs i).f3:=by
  obtain ⟨ad,c,e,_,hK,hc0⟩:=Kd.C_get h z24 i h0 h1
  have hc : ∀ j u,c[j]?=some u→w.cell? (ad.add (i.toNat * 5+j))=some u:=hc0
  obtain ⟨A3,c3,rfl,l3,g3⟩:=k24_open hK
  exact ⟨ad,A3,c3,e,hc 0 _ rfl,by rw [← add_field _ _ 1 (by omega)];exact hc 1 _ rfl,by rw [← add_field _ _ 2 (by omega)];exact hc 2 _ rfl,by rw [← add_field _ _ 3 (by omega)];exact hc 3 _ rfl,by rw [← add_field _ _ 4 (by omega)];exact hc 4 _ rfl,l3,g3⟩
structure S29 where
  f0:ByteArray
  f1:ByteArray
  f2:(List S24)
  f3:(List S29)
  f4:(List S29)
  f5:Int
def z29:S29:=⟨(⟨#[]⟩:ByteArray),(⟨#[]⟩:ByteArray),([]:List S24),([]:List S29),([]:List S29),(0:Int)⟩
def F29 (d:Kd S29):Kd S29:=Kd.iso (Kd.pair Kd.string (Kd.pair Kd.string (Kd.pair (Kd.slice 24 k24) (Kd.pair (Kd.slice 29 d) (Kd.pair (Kd.slice 29 d) (Kd.int .i64)))))) (fun x:S29=>(x.f0,x.f1,x.f2,x.f3,x.f4,x.f5))
theorem mono29:Kd.Mono F29:=Kd.mono_iso _ (Kd.mono_pair (Kd.mono_const _) (Kd.mono_pair (Kd.mono_const _) (Kd.mono_pair (Kd.mono_const _) (Kd.mono_pair (Kd.mono_slice 29 Kd.mono_id) (Kd.mono_pair (Kd.mono_slice 29 Kd.mono_id) (Kd.mono_const _))))))
theorem sub29:Kd.Sub F29 [24,29]:=Kd.sub_iso _ (Kd.sub_pair (Kd.sub_const _ (by decide)) (Kd.sub_pair (Kd.sub_const _ (by decide)) (Kd.sub_pair (Kd.sub_const _ (by decide)) (Kd.sub_pair (Kd.sub_slice 29 (by decide) Kd.sub_id) (Kd.sub_pair (Kd.sub_slice 29 (by decide) Kd.sub_id) (Kd.sub_const _ (by decide)))))))
theorem sz29 : ∀ n,(Kd.upto F29 6 [24,29] n).sz=6:=Kd.upto_sz (fun _=>rfl)
def k29:Kd S29:=Kd.fix F29 6 [24,29] sz29 (Kd.upto_E sub29)
theorem k29_open {w:World} {x:S29} {cs:List Value} (h:k29.K w x cs) : ∃ A2 c2 A3 c3 A4 c4,cs=[.string x.f0,.string x.f1,.slice A2 x.f2.length c2,.slice A3 x.f3.length c3,.slice A4 x.f4.length c4,.int .i64 x.f5]∧x.f2.length≤c2∧k24.C w A2 x.f2.length x.f2∧x.f3.length≤c3∧k29.C w A3 x.f3.length x.f3∧x.f4.length≤c4∧k29.C w A4 x.f4.length x.f4:=by
  obtain ⟨n,h⟩:=h
  cases n with
  | zero=>exact h.elim
  | succ n=>
    obtain ⟨_,_,rfl,rfl,⟨_,_,rfl,rfl,⟨_,_,rfl,⟨A2,c2,rfl,l2,g2⟩,⟨_,_,rfl,⟨A3,c3,rfl,l3,g3⟩,⟨_,_,rfl,⟨A4,c4,rfl,l4,g4⟩,rfl⟩⟩⟩⟩⟩:=h
    exact ⟨A2,c2,A3,c3,A4,c4,rfl,l2,g2,l3,Kd.fix_C g3,l4,Kd.fix_C g4⟩
theorem k29_mk (w:World) (x:S29) {A2:Option Addr} {c2:Nat} (l2:x.f2.length≤c2) (g2:k24.C w A2 x.f2.length x.f2) {A3:Option Addr} {c3:Nat} (l3:x.f3.length≤c3) (g3:k29.C w A3 x.f3.length x.f3) {A4:Option Addr} {c4:Nat} (l4:x.f4.length≤c4) (g4:k29.C w A4 x.f4.length x.f4):k29.K w x [.string x.f0,.string x.f1,.slice A2 x.f2.length c2,.slice A3 x.f3.length c3,.slice A4 x.f4.length c4,.int .i64 x.f5]:=by
  obtain ⟨n3,q3⟩:=Kd.fix_C_back mono29 g3
  obtain ⟨n4,q4⟩:=Kd.fix_C_back mono29 g4
  have r3:=Kd.upto_C_le mono29 sz29 (show n3≤(max n3 n4) by omega) q3
  have r4:=Kd.upto_C_le mono29 sz29 (show n4≤(max n3 n4) by omega) q4
  exact ⟨(max n3 n4)+1,⟨[.string x.f0],[.string x.f1,.slice A2 x.f2.length c2,.slice A3 x.f3.length c3,.slice A4 x.f4.length c4,.int .i64 x.f5],rfl,rfl,⟨[.string x.f1],[.slice A2 x.f2.length c2,.slice A3 x.f3.length c3,.slice A4 x.f4.length c4,.int .i64 x.f5],rfl,rfl,⟨[.slice A2 x.f2.length c2],[.slice A3 x.f3.length c3,.slice A4 x.f4.length c4,.int .i64 x.f5],rfl,⟨A2,c2,rfl,l2,g2⟩,⟨[.slice A3 x.f3.length c3],[.slice A4 x.f4.length c4,.int .i64 x.f5],rfl,⟨A3,c3,rfl,l3,r3⟩,⟨[.slice A4 x.f4.length c4],[.int .i64 x.f5],rfl,⟨A4,c4,rfl,l4,r4⟩,rfl⟩⟩⟩⟩⟩⟩
def rd_T29 (xs:List S29) (i:Int):S29:=xs.getD i.toNat z29
theorem at_T29 {w:World} {A:Option Addr} {n:Nat} {xs:List S29} (h:Kd.C k29 w A n xs) (i:Int) (h0:0≤i) (h1:i < n) : ∃ ad A2 c2 A3 c3 A4 c4,A=some ad∧w.cell? (ad.add (i.toNat * 6))=some (.string (rd_T29 xs i).f0)∧w.cell? ⟨(ad.add (i.toNat * 6)).block,(ad.add (i.toNat * 6)).off+1,none⟩=some (.string (rd_T29 xs i).f1)∧w.cell? ⟨(ad.add (i.toNat * 6)).block,(ad.add (i.toNat * 6)).off+2,none⟩=some (.slice A2 (rd_T29 xs i).f2.length c2)∧w.cell? ⟨(ad.add (i.toNat * 6)).block,(ad.add (i.toNat * 6)).off+3,none⟩=some (.slice A3 (rd_T29 xs i).f3.length c3)∧w.cell? ⟨(ad.add (i.toNat * 6)).block,(ad.add (i.toNat * 6)).off+4,none⟩=some (.slice A4 (rd_T29 xs i).f4.length c4)∧w.cell? ⟨(ad.add (i.toNat * 6)).block,(ad.add (i.toNat * 6)).off+5,none⟩=some (.int .i64 (rd_T29 xs i).f5)∧(rd_T29 xs i).f2.length≤c2∧k24.C w A2 (rd_T29 xs i).f2.length (rd_T29 xs i).f2∧(rd_T29 xs i).f3.length≤c3∧k29.C w A3 (rd_T29 xs i).f3.length (rd_T29 xs i).f3∧(rd_T29 xs i).f4.length≤c4∧k29.C w A4 (rd_T29 xs i).f4.length (rd_T29 xs i).f4:=by
  obtain ⟨ad,c,e,_,hK,hc0⟩:=Kd.C_get h z29 i h0 h1
  have hc : ∀ j u,c[j]?=some u→w.cell? (ad.add (i.toNat * 6+j))=some u:=hc0
  obtain ⟨A2,c2,A3,c3,A4,c4,rfl,l2,g2,l3,g3,l4,g4⟩:=k29_open hK
  exact ⟨ad,A2,c2,A3,c3,A4,c4,e,hc 0 _ rfl,by rw [← add_field _ _ 1 (by omega)];exact hc 1 _ rfl,by rw [← add_field _ _ 2 (by omega)];exact hc 2 _ rfl,by rw [← add_field _ _ 3 (by omega)];exact hc 3 _ rfl,by rw [← add_field _ _ 4 (by omega)];exact hc 4 _ rfl,by rw [← add_field _ _ 5 (by omega)];exact hc 5 _ rfl,l2,g2,l3,g3,l4,g4⟩
structure S33 where
  f0:ByteArray
  f1:ByteArray
  f2:Int
  f3:(List S33)
  f4:Int
def z33:S33:=⟨(⟨#[]⟩:ByteArray),(⟨#[]⟩:ByteArray),(0:Int),([]:List S33),(0:Int)⟩
def F33 (d:Kd S33):Kd S33:=Kd.iso (Kd.pair Kd.string (Kd.pair Kd.string (Kd.pair (Kd.int .i64) (Kd.pair (Kd.slice 33 d) (Kd.int .i64))))) (fun x:S33=>(x.f0,x.f1,x.f2,x.f3,x.f4))
theorem mono33:Kd.Mono F33:=Kd.mono_iso _ (Kd.mono_pair (Kd.mono_const _) (Kd.mono_pair (Kd.mono_const _) (Kd.mono_pair (Kd.mono_const _) (Kd.mono_pair (Kd.mono_slice 33 Kd.mono_id) (Kd.mono_const _)))))
theorem sub33:Kd.Sub F33 [33]:=Kd.sub_iso _ (Kd.sub_pair (Kd.sub_const _ (by decide)) (Kd.sub_pair (Kd.sub_const _ (by decide)) (Kd.sub_pair (Kd.sub_const _ (by decide)) (Kd.sub_pair (Kd.sub_slice 33 (by decide) Kd.sub_id) (Kd.sub_const _ (by decide))))))
theorem sz33 : ∀ n,(Kd.upto F33 5 [33] n).sz=5:=Kd.upto_sz (fun _=>rfl)
def k33:Kd S33:=Kd.fix F33 5 [33] sz33 (Kd.upto_E sub33)
theorem k33_open {w:World} {x:S33} {cs:List Value} (h:k33.K w x cs) : ∃ A3 c3,cs=[.string x.f0,.string x.f1,.int .i64 x.f2,.slice A3 x.f3.length c3,.int .i64 x.f4]∧x.f3.length≤c3∧k33.C w A3 x.f3.length x.f3:=by
  obtain ⟨n,h⟩:=h
  cases n with
  | zero=>exact h.elim
  | succ n=>
    obtain ⟨_,_,rfl,rfl,⟨_,_,rfl,rfl,⟨_,_,rfl,rfl,⟨_,_,rfl,⟨A3,c3,rfl,l3,g3⟩,rfl⟩⟩⟩⟩:=h
    exact ⟨A3,c3,rfl,l3,Kd.fix_C g3⟩
theorem k33_mk (w:World) (x:S33) {A3:Option Addr} {c3:Nat} (l3:x.f3.length≤c3) (g3:k33.C w A3 x.f3.length x.f3):k33.K w x [.string x.f0,.string x.f1,.int .i64 x.f2,.slice A3 x.f3.length c3,.int .i64 x.f4]:=by
  obtain ⟨n3,q3⟩:=Kd.fix_C_back mono33 g3
  have r3:=Kd.upto_C_le mono33 sz33 (show n3≤n3 by omega) q3
  exact ⟨n3+1,⟨[.string x.f0],[.string x.f1,.int .i64 x.f2,.slice A3 x.f3.length c3,.int .i64 x.f4],rfl,rfl,⟨[.string x.f1],[.int .i64 x.f2,.slice A3 x.f3.length c3,.int .i64 x.f4],rfl,rfl,⟨[.int .i64 x.f2],[.slice A3 x.f3.length c3,.int .i64 x.f4],rfl,rfl,⟨[.slice A3 x.f3.length c3],[.int .i64 x.f4],rfl,⟨A3,c3,rfl,l3,r3⟩,rfl⟩⟩⟩⟩⟩
theorem k33_mkM (w:World) (base:Nat) (ok:Nat→Prop) (x:S33) {v3:Value} (g3:k33.R 33 w base ok v3 x.f3):k33.M w base ok x [.string x.f0,.string x.f1,.int .i64 x.f2,v3,.int .i64 x.f4]:=by
  obtain ⟨n3,q3⟩:=Kd.fix_R_back mono33 g3
  have r3:=Kd.upto_R_le mono33 sz33 (show n3≤n3 by omega) q3
  exact ⟨n3+1,⟨[.string x.f0],[.string x.f1,.int .i64 x.f2,v3,.int .i64 x.f4],rfl,rfl,⟨[.string x.f1],[.int .i64 x.f2,v3,.int .i64 x.f4],rfl,rfl,⟨[.int .i64 x.f2],[v3,.int .i64 x.f4],rfl,rfl,⟨[v3],[.int .i64 x.f4],rfl,⟨v3,rfl,r3⟩,rfl⟩⟩⟩⟩⟩
def rd_T33 (xs:List S33) (i:Int):S33:=xs.getD i.toNat z33
theorem at_T33 {w:World} {A:Option Addr} {n:Nat} {xs:List S33} (h:Kd.C k33 w A n xs) (i:Int) (h0:0≤i) (h1:i < n) : ∃ ad A3 c3,A=some ad∧w.cell? (ad.add (i.toNat * 5))=some (.string (rd_T33 xs i).f0)∧w.cell? ⟨(ad.add (i.toNat * 5)).block,(ad.add (i.toNat * 5)).off+1,none⟩=some (.string (rd_T33 xs i).f1)∧w.cell? ⟨(ad.add (i.toNat * 5)).block,(ad.add (i.toNat * 5)).off+2,none⟩=some (.int .i64 (rd_T33 xs i).f2)∧w.cell? ⟨(ad.add (i.toNat * 5)).block,(ad.add (i.toNat * 5)).off+3,none⟩=some (.slice A3 (rd_T33 xs i).f3.length c3)∧w.cell? ⟨(ad.add (i.toNat * 5)).block,(ad.add (i.toNat * 5)).off+4,none⟩=some (.int .i64 (rd_T33 xs i).f4)∧(rd_T33 xs i).f3.length≤c3∧k33.C w A3 (rd_T33 xs i).f3.length (rd_T33 xs i).f3:=by
  obtain ⟨ad,c,e,_,hK,hc0⟩:=Kd.C_get h z33 i h0 h1
  have hc : ∀ j u,c[j]?=some u→w.cell? (ad.add (i.toNat * 5+j))=some u:=hc0
  obtain ⟨A3,c3,rfl,l3,g3⟩:=k33_open hK
  exact ⟨ad,A3,c3,e,hc 0 _ rfl,by rw [← add_field _ _ 1 (by omega)];exact hc 1 _ rfl,by rw [← add_field _ _ 2 (by omega)];exact hc 2 _ rfl,by rw [← add_field _ _ 3 (by omega)];exact hc 3 _ rfl,by rw [← add_field _ _ 4 (by omega)];exact hc 4 _ rfl,l3,g3⟩
structure S69 where
  f0:ByteArray
  f1:(List S29)
def z69:S69:=⟨(⟨#[]⟩:ByteArray),([]:List S29)⟩
def k69:Kd S69:=Kd.iso (Kd.pair Kd.string (Kd.slice 29 k29)) (fun x:S69=>(x.f0,x.f1))
theorem k69_open {w:World} {x:S69} {cs:List Value} (h:k69.K w x cs) : ∃ A1 c1,cs=[.string x.f0,.slice A1 x.f1.length c1]∧x.f1.length≤c1∧k29.C w A1 x.f1.length x.f1:=by
  obtain ⟨_,_,rfl,rfl,⟨A1,c1,rfl,l1,g1⟩⟩:=h
  exact ⟨A1,c1,rfl,l1,g1⟩
theorem k69_mk (w:World) (x:S69) {A1:Option Addr} {c1:Nat} (l1:x.f1.length≤c1) (g1:k29.C w A1 x.f1.length x.f1):k69.K w x [.string x.f0,.slice A1 x.f1.length c1]:=⟨[.string x.f0],[.slice A1 x.f1.length c1],rfl,rfl,⟨A1,c1,rfl,l1,g1⟩⟩
def rd_T69 (xs:List S69) (i:Int):S69:=xs.getD i.toNat z69
theorem at_T69 {w:World} {A:Option Addr} {n:Nat} {xs:List S69} (h:Kd.C k69 w A n xs) (i:Int) (h0:0≤i) (h1:i < n) : ∃ ad A1 c1,A=some ad∧w.cell? (ad.add (i.toNat * 2))=some (.string (rd_T69 xs i).f0)∧w.cell? ⟨(ad.add (i.toNat * 2)).block,(ad.add (i.toNat * 2)).off+1,none⟩=some (.slice A1 (rd_T69 xs i).f1.length c1)∧(rd_T69 xs i).f1.length≤c1∧k29.C w A1 (rd_T69 xs i).f1.length (rd_T69 xs i).f1:=by
  obtain ⟨ad,c,e,_,hK,hc0⟩:=Kd.C_get h z69 i h0 h1
  have hc : ∀ j u,c[j]?=some u→w.cell? (ad.add (i.toNat * 2+j))=some u:=hc0
  obtain ⟨A1,c1,rfl,l1,g1⟩:=k69_open hK
  exact ⟨ad,A1,c1,e,hc 0 _ rfl,by rw [← add_field _ _ 1 (by omega)];exact hc 1 _ rfl,l1,g1⟩
structure S72 where
  f0:ByteArray
  f1:(List ByteArray)
def z72:S72:=⟨(⟨#[]⟩:ByteArray),([]:List ByteArray)⟩
def k72:Kd S72:=Kd.iso (Kd.pair Kd.string (Kd.slice 9 Kd.string)) (fun x:S72=>(x.f0,x.f1))
theorem k72_heap:Kd.Heap k72:=Kd.heap_iso _ (Kd.heap_pair Kd.heap_string (Kd.heap_slice 9 Kd.heap_string))
theorem k72_open {w:World} {x:S72} {cs:List Value} (h:k72.K w x cs) : ∃ A1 c1,cs=[.string x.f0,.slice A1 x.f1.length c1]∧x.f1.length≤c1∧Kd.string.C w A1 x.f1.length x.f1:=by
  obtain ⟨_,_,rfl,rfl,⟨A1,c1,rfl,l1,g1⟩⟩:=h
  exact ⟨A1,c1,rfl,l1,g1⟩
theorem k72_mk (w:World) (x:S72) {A1:Option Addr} {c1:Nat} (l1:x.f1.length≤c1) (g1:Kd.string.C w A1 x.f1.length x.f1):k72.K w x [.string x.f0,.slice A1 x.f1.length c1]:=⟨[.string x.f0],[.slice A1 x.f1.length c1],rfl,rfl,⟨A1,c1,rfl,l1,g1⟩⟩
theorem k72_openF {W:World} {ok:Nat→Prop} {x:S72} {cs:List Value} (h:Kd.FK k72 W ok x cs) : ∃ A1 c1,cs=[.string x.f0,.slice A1 x.f1.length c1]∧x.f1.length≤c1∧Kd.F Kd.string W ok A1 x.f1.length x.f1:=by
  obtain ⟨A1,c1,rfl,l1,_⟩:=k72_open (Kd.FK_now h)
  exact ⟨A1,c1,rfl,l1,(fun W' hW=>by obtain ⟨A1_,c1_,he,l1_,g1_⟩:=k72_open (h W' hW);injection (Option.some.inj (show some (Value.slice A1 x.f1.length c1)=some (Value.slice A1_ x.f1.length c1_) from congrArg (fun l=>l[1]?) he)) with ha_ _ _;rw [ha_];exact g1_)⟩
def rd_T72 (xs:List S72) (i:Int):S72:=xs.getD i.toNat z72
theorem at_T72 {w:World} {A:Option Addr} {n:Nat} {xs:List S72} (h:Kd.C k72 w A n xs) (i:Int) (h0:0≤i) (h1:i < n) : ∃ ad A1 c1,A=some ad∧w.cell? (ad.add (i.toNat * 2))=some (.string (rd_T72 xs i).f0)∧w.cell? ⟨(ad.add (i.toNat * 2)).block,(ad.add (i.toNat * 2)).off+1,none⟩=some (.slice A1 (rd_T72 xs i).f1.length c1)∧(rd_T72 xs i).f1.length≤c1∧Kd.string.C w A1 (rd_T72 xs i).f1.length (rd_T72 xs i).f1:=by
  obtain ⟨ad,c,e,_,hK,hc0⟩:=Kd.C_get h z72 i h0 h1
  have hc : ∀ j u,c[j]?=some u→w.cell? (ad.add (i.toNat * 2+j))=some u:=hc0
  obtain ⟨A1,c1,rfl,l1,g1⟩:=k72_open hK
  exact ⟨ad,A1,c1,e,hc 0 _ rfl,by rw [← add_field _ _ 1 (by omega)];exact hc 1 _ rfl,l1,g1⟩
structure S56 where
  f0:ByteArray
  f1:ByteArray
  f2:Int
def z56:S56:=⟨(⟨#[]⟩:ByteArray),(⟨#[]⟩:ByteArray),(0:Int)⟩
def k56:Kd S56:=Kd.iso (Kd.pair Kd.string (Kd.pair Kd.string (Kd.int .i64))) (fun x:S56=>(x.f0,x.f1,x.f2))
theorem k56_open {w:World} {x:S56} {cs:List Value} (h:k56.K w x cs):cs=[.string x.f0,.string x.f1,.int .i64 x.f2]:=by
  obtain ⟨_,_,rfl,rfl,⟨_,_,rfl,rfl,rfl⟩⟩:=h
  exact rfl
theorem k56_mk (w:World) (x:S56)  : k56.K w x [.string x.f0,.string x.f1,.int .i64 x.f2]:=⟨[.string x.f0],[.string x.f1,.int .i64 x.f2],rfl,rfl,⟨[.string x.f1],[.int .i64 x.f2],rfl,rfl,rfl⟩⟩
def rd_T56 (xs:List S56) (i:Int):S56:=xs.getD i.toNat z56
theorem at_T56 {w:World} {A:Option Addr} {n:Nat} {xs:List S56} (h:Kd.C k56 w A n xs) (i:Int) (h0:0≤i) (h1:i < n) : ∃ ad ,A=some ad∧w.cell? (ad.add (i.toNat * 3))=some (.string (rd_T56 xs i).f0)∧w.cell? ⟨(ad.add (i.toNat * 3)).block,(ad.add (i.toNat * 3)).off+1,none⟩=some (.string (rd_T56 xs i).f1)∧w.cell? ⟨(ad.add (i.toNat * 3)).block,(ad.add (i.toNat * 3)).off+2,none⟩=some (.int .i64 (rd_T56 xs i).f2):=by
  obtain ⟨ad,c,e,_,hK,hc0⟩:=Kd.C_get h z56 i h0 h1
  have hc : ∀ j u,c[j]?=some u→w.cell? (ad.add (i.toNat * 3+j))=some u:=hc0
  obtain rfl:=k56_open hK
  exact ⟨ad,e,hc 0 _ rfl,by rw [← add_field _ _ 1 (by omega)];exact hc 1 _ rfl,by rw [← add_field _ _ 2 (by omega)];exact hc 2 _ rfl⟩
structure S76 where
  f0:ByteArray
  f1:ByteArray
  f2:(List S33)
  f3:(List S76)
  f4:(List S76)
  f5:Int
def z76:S76:=⟨(⟨#[]⟩:ByteArray),(⟨#[]⟩:ByteArray),([]:List S33),([]:List S76),([]:List S76),(0:Int)⟩
def F76 (d:Kd S76):Kd S76:=Kd.iso (Kd.pair Kd.string (Kd.pair Kd.string (Kd.pair (Kd.slice 33 k33) (Kd.pair (Kd.slice 76 d) (Kd.pair (Kd.slice 76 d) (Kd.int .i64)))))) (fun x:S76=>(x.f0,x.f1,x.f2,x.f3,x.f4,x.f5))
theorem mono76:Kd.Mono F76:=Kd.mono_iso _ (Kd.mono_pair (Kd.mono_const _) (Kd.mono_pair (Kd.mono_const _) (Kd.mono_pair (Kd.mono_const _) (Kd.mono_pair (Kd.mono_slice 76 Kd.mono_id) (Kd.mono_pair (Kd.mono_slice 76 Kd.mono_id) (Kd.mono_const _))))))
theorem sub76:Kd.Sub F76 [33,76]:=Kd.sub_iso _ (Kd.sub_pair (Kd.sub_const _ (by decide)) (Kd.sub_pair (Kd.sub_const _ (by decide)) (Kd.sub_pair (Kd.sub_const _ (by decide)) (Kd.sub_pair (Kd.sub_slice 76 (by decide) Kd.sub_id) (Kd.sub_pair (Kd.sub_slice 76 (by decide) Kd.sub_id) (Kd.sub_const _ (by decide)))))))
theorem sz76 : ∀ n,(Kd.upto F76 6 [33,76] n).sz=6:=Kd.upto_sz (fun _=>rfl)
def k76:Kd S76:=Kd.fix F76 6 [33,76] sz76 (Kd.upto_E sub76)
theorem k76_open {w:World} {x:S76} {cs:List Value} (h:k76.K w x cs) : ∃ A2 c2 A3 c3 A4 c4,cs=[.string x.f0,.string x.f1,.slice A2 x.f2.length c2,.slice A3 x.f3.length c3,.slice A4 x.f4.length c4,.int .i64 x.f5]∧x.f2.length≤c2∧k33.C w A2 x.f2.length x.f2∧x.f3.length≤c3∧k76.C w A3 x.f3.length x.f3∧x.f4.length≤c4∧k76.C w A4 x.f4.length x.f4:=by
  obtain ⟨n,h⟩:=h
  cases n with
  | zero=>exact h.elim
  | succ n=>
    obtain ⟨_,_,rfl,rfl,⟨_,_,rfl,rfl,⟨_,_,rfl,⟨A2,c2,rfl,l2,g2⟩,⟨_,_,rfl,⟨A3,c3,rfl,l3,g3⟩,⟨_,_,rfl,⟨A4,c4,rfl,l4,g4⟩,rfl⟩⟩⟩⟩⟩:=h
    exact ⟨A2,c2,A3,c3,A4,c4,rfl,l2,g2,l3,Kd.fix_C g3,l4,Kd.fix_C g4⟩
theorem k76_mk (w:World) (x:S76) {A2:Option Addr} {c2:Nat} (l2:x.f2.length≤c2) (g2:k33.C w A2 x.f2.length x.f2) {A3:Option Addr} {c3:Nat} (l3:x.f3.length≤c3) (g3:k76.C w A3 x.f3.length x.f3) {A4:Option Addr} {c4:Nat} (l4:x.f4.length≤c4) (g4:k76.C w A4 x.f4.length x.f4):k76.K w x [.string x.f0,.string x.f1,.slice A2 x.f2.length c2,.slice A3 x.f3.length c3,.slice A4 x.f4.length c4,.int .i64 x.f5]:=by
  obtain ⟨n3,q3⟩:=Kd.fix_C_back mono76 g3
  obtain ⟨n4,q4⟩:=Kd.fix_C_back mono76 g4
  have r3:=Kd.upto_C_le mono76 sz76 (show n3≤(max n3 n4) by omega) q3
  have r4:=Kd.upto_C_le mono76 sz76 (show n4≤(max n3 n4) by omega) q4
  exact ⟨(max n3 n4)+1,⟨[.string x.f0],[.string x.f1,.slice A2 x.f2.length c2,.slice A3 x.f3.length c3,.slice A4 x.f4.length c4,.int .i64 x.f5],rfl,rfl,⟨[.string x.f1],[.slice A2 x.f2.length c2,.slice A3 x.f3.length c3,.slice A4 x.f4.length c4,.int .i64 x.f5],rfl,rfl,⟨[.slice A2 x.f2.length c2],[.slice A3 x.f3.length c3,.slice A4 x.f4.length c4,.int .i64 x.f5],rfl,⟨A2,c2,rfl,l2,g2⟩,⟨[.slice A3 x.f3.length c3],[.slice A4 x.f4.length c4,.int .i64 x.f5],rfl,⟨A3,c3,rfl,l3,r3⟩,⟨[.slice A4 x.f4.length c4],[.int .i64 x.f5],rfl,⟨A4,c4,rfl,l4,r4⟩,rfl⟩⟩⟩⟩⟩⟩
theorem k76_mkM (w:World) (base:Nat) (ok:Nat→Prop) (x:S76) {v2:Value} (g2:k33.R 33 w base ok v2 x.f2) {v3:Value} (g3:k76.R 76 w base ok v3 x.f3) {v4:Value} (g4:k76.R 76 w base ok v4 x.f4):k76.M w base ok x [.string x.f0,.string x.f1,v2,v3,v4,.int .i64 x.f5]:=by
  obtain ⟨n3,q3⟩:=Kd.fix_R_back mono76 g3
  obtain ⟨n4,q4⟩:=Kd.fix_R_back mono76 g4
  have r3:=Kd.upto_R_le mono76 sz76 (show n3≤(max n3 n4) by omega) q3
  have r4:=Kd.upto_R_le mono76 sz76 (show n4≤(max n3 n4) by omega) q4
  exact ⟨(max n3 n4)+1,⟨[.string x.f0],[.string x.f1,v2,v3,v4,.int .i64 x.f5],rfl,rfl,⟨[.string x.f1],[v2,v3,v4,.int .i64 x.f5],rfl,rfl,⟨[v2],[v3,v4,.int .i64 x.f5],rfl,⟨v2,rfl,g2⟩,⟨[v3],[v4,.int .i64 x.f5],rfl,⟨v3,rfl,r3⟩,⟨[v4],[.int .i64 x.f5],rfl,⟨v4,rfl,r4⟩,rfl⟩⟩⟩⟩⟩⟩
def rd_T76 (xs:List S76) (i:Int):S76:=xs.getD i.toNat z76
theorem at_T76 {w:World} {A:Option Addr} {n:Nat} {xs:List S76} (h:Kd.C k76 w A n xs) (i:Int) (h0:0≤i) (h1:i < n) : ∃ ad A2 c2 A3 c3 A4 c4,A=some ad∧w.cell? (ad.add (i.toNat * 6))=some (.string (rd_T76 xs i).f0)∧w.cell? ⟨(ad.add (i.toNat * 6)).block,(ad.add (i.toNat * 6)).off+1,none⟩=some (.string (rd_T76 xs i).f1)∧w.cell? ⟨(ad.add (i.toNat * 6)).block,(ad.add (i.toNat * 6)).off+2,none⟩=some (.slice A2 (rd_T76 xs i).f2.length c2)∧w.cell? ⟨(ad.add (i.toNat * 6)).block,(ad.add (i.toNat * 6)).off+3,none⟩=some (.slice A3 (rd_T76 xs i).f3.length c3)∧w.cell? ⟨(ad.add (i.toNat * 6)).block,(ad.add (i.toNat * 6)).off+4,none⟩=some (.slice A4 (rd_T76 xs i).f4.length c4)∧w.cell? ⟨(ad.add (i.toNat * 6)).block,(ad.add (i.toNat * 6)).off+5,none⟩=some (.int .i64 (rd_T76 xs i).f5)∧(rd_T76 xs i).f2.length≤c2∧k33.C w A2 (rd_T76 xs i).f2.length (rd_T76 xs i).f2∧(rd_T76 xs i).f3.length≤c3∧k76.C w A3 (rd_T76 xs i).f3.length (rd_T76 xs i).f3∧(rd_T76 xs i).f4.length≤c4∧k76.C w A4 (rd_T76 xs i).f4.length (rd_T76 xs i).f4:=by
  obtain ⟨ad,c,e,_,hK,hc0⟩:=Kd.C_get h z76 i h0 h1
  have hc : ∀ j u,c[j]?=some u→w.cell? (ad.add (i.toNat * 6+j))=some u:=hc0
  obtain ⟨A2,c2,A3,c3,A4,c4,rfl,l2,g2,l3,g3,l4,g4⟩:=k76_open hK
  exact ⟨ad,A2,c2,A3,c3,A4,c4,e,hc 0 _ rfl,by rw [← add_field _ _ 1 (by omega)];exact hc 1 _ rfl,by rw [← add_field _ _ 2 (by omega)];exact hc 2 _ rfl,by rw [← add_field _ _ 3 (by omega)];exact hc 3 _ rfl,by rw [← add_field _ _ 4 (by omega)];exact hc 4 _ rfl,by rw [← add_field _ _ 5 (by omega)];exact hc 5 _ rfl,l2,g2,l3,g3,l4,g4⟩
structure S79 where
  f0:ByteArray
  f1:(List ByteArray)
def z79:S79:=⟨(⟨#[]⟩:ByteArray),([]:List ByteArray)⟩
def k79:Kd S79:=Kd.iso (Kd.pair Kd.string (Kd.slice 9 Kd.string)) (fun x:S79=>(x.f0,x.f1))
theorem k79_open {w:World} {x:S79} {cs:List Value} (h:k79.K w x cs) : ∃ A1 c1,cs=[.string x.f0,.slice A1 x.f1.length c1]∧x.f1.length≤c1∧Kd.string.C w A1 x.f1.length x.f1:=by
  obtain ⟨_,_,rfl,rfl,⟨A1,c1,rfl,l1,g1⟩⟩:=h
  exact ⟨A1,c1,rfl,l1,g1⟩
theorem k79_mk (w:World) (x:S79) {A1:Option Addr} {c1:Nat} (l1:x.f1.length≤c1) (g1:Kd.string.C w A1 x.f1.length x.f1):k79.K w x [.string x.f0,.slice A1 x.f1.length c1]:=⟨[.string x.f0],[.slice A1 x.f1.length c1],rfl,rfl,⟨A1,c1,rfl,l1,g1⟩⟩
theorem k79_mkF (W:World) (ok:Nat→Prop) (x:S79) {A1:Option Addr} {c1:Nat} (l1:x.f1.length≤c1) (g1:Kd.F Kd.string W ok A1 x.f1.length x.f1):Kd.FK k79 W ok x [.string x.f0,.slice A1 x.f1.length c1]:=fun W2 hW=>k79_mk W2 x l1 (g1 W2 hW)
def rd_T79 (xs:List S79) (i:Int):S79:=xs.getD i.toNat z79
theorem at_T79 {w:World} {A:Option Addr} {n:Nat} {xs:List S79} (h:Kd.C k79 w A n xs) (i:Int) (h0:0≤i) (h1:i < n) : ∃ ad A1 c1,A=some ad∧w.cell? (ad.add (i.toNat * 2))=some (.string (rd_T79 xs i).f0)∧w.cell? ⟨(ad.add (i.toNat * 2)).block,(ad.add (i.toNat * 2)).off+1,none⟩=some (.slice A1 (rd_T79 xs i).f1.length c1)∧(rd_T79 xs i).f1.length≤c1∧Kd.string.C w A1 (rd_T79 xs i).f1.length (rd_T79 xs i).f1:=by
  obtain ⟨ad,c,e,_,hK,hc0⟩:=Kd.C_get h z79 i h0 h1
  have hc : ∀ j u,c[j]?=some u→w.cell? (ad.add (i.toNat * 2+j))=some u:=hc0
  obtain ⟨A1,c1,rfl,l1,g1⟩:=k79_open hK
  exact ⟨ad,A1,c1,e,hc 0 _ rfl,by rw [← add_field _ _ 1 (by omega)];exact hc 1 _ rfl,l1,g1⟩
structure S80 where
  f0:ByteArray
  f1:ByteArray
  f2:Int
def z80:S80:=⟨(⟨#[]⟩:ByteArray),(⟨#[]⟩:ByteArray),(0:Int)⟩
def k80:Kd S80:=Kd.iso (Kd.pair Kd.string (Kd.pair Kd.string (Kd.int .i64))) (fun x:S80=>(x.f0,x.f1,x.f2))
theorem k80_open {w:World} {x:S80} {cs:List Value} (h:k80.K w x cs):cs=[.string x.f0,.string x.f1,.int .i64 x.f2]:=by
  obtain ⟨_,_,rfl,rfl,⟨_,_,rfl,rfl,rfl⟩⟩:=h
  exact rfl
theorem k80_mkM (w:World) (base:Nat) (ok:Nat→Prop) (x:S80)  : k80.M w base ok x [.string x.f0,.string x.f1,.int .i64 x.f2]:=⟨[.string x.f0],[.string x.f1,.int .i64 x.f2],rfl,rfl,⟨[.string x.f1],[.int .i64 x.f2],rfl,rfl,rfl⟩⟩
def rd_T80 (xs:List S80) (i:Int):S80:=xs.getD i.toNat z80
theorem at_T80 {w:World} {A:Option Addr} {n:Nat} {xs:List S80} (h:Kd.C k80 w A n xs) (i:Int) (h0:0≤i) (h1:i < n) : ∃ ad ,A=some ad∧w.cell? (ad.add (i.toNat * 3))=some (.string (rd_T80 xs i).f0)∧w.cell? ⟨(ad.add (i.toNat * 3)).block,(ad.add (i.toNat * 3)).off+1,none⟩=some (.string (rd_T80 xs i).f1)∧w.cell? ⟨(ad.add (i.toNat * 3)).block,(ad.add (i.toNat * 3)).off+2,none⟩=some (.int .i64 (rd_T80 xs i).f2):=by
  obtain ⟨ad,c,e,_,hK,hc0⟩:=Kd.C_get h z80 i h0 h1
  have hc : ∀ j u,c[j]?=some u→w.cell? (ad.add (i.toNat * 3+j))=some u:=hc0
  obtain rfl:=k80_open hK
  exact ⟨ad,e,hc 0 _ rfl,by rw [← add_field _ _ 1 (by omega)];exact hc 1 _ rfl,by rw [← add_field _ _ 2 (by omega)];exact hc 2 _ rfl⟩
structure S66 where
  f0:ByteArray
  f1:(List S76)
def z66:S66:=⟨(⟨#[]⟩:ByteArray),([]:List S76)⟩
def k66:Kd S66:=Kd.iso (Kd.pair Kd.string (Kd.slice 76 k76)) (fun x:S66=>(x.f0,x.f1))
theorem k66_open {w:World} {x:S66} {cs:List Value} (h:k66.K w x cs) : ∃ A1 c1,cs=[.string x.f0,.slice A1 x.f1.length c1]∧x.f1.length≤c1∧k76.C w A1 x.f1.length x.f1:=by
  obtain ⟨_,_,rfl,rfl,⟨A1,c1,rfl,l1,g1⟩⟩:=h
  exact ⟨A1,c1,rfl,l1,g1⟩
theorem k66_mk (w:World) (x:S66) {A1:Option Addr} {c1:Nat} (l1:x.f1.length≤c1) (g1:k76.C w A1 x.f1.length x.f1):k66.K w x [.string x.f0,.slice A1 x.f1.length c1]:=⟨[.string x.f0],[.slice A1 x.f1.length c1],rfl,rfl,⟨A1,c1,rfl,l1,g1⟩⟩
theorem k66_mkF (W:World) (ok:Nat→Prop) (x:S66) {A1:Option Addr} {c1:Nat} (l1:x.f1.length≤c1) (g1:Kd.F k76 W ok A1 x.f1.length x.f1):Kd.FK k66 W ok x [.string x.f0,.slice A1 x.f1.length c1]:=fun W2 hW=>k66_mk W2 x l1 (g1 W2 hW)
def rd_T66 (xs:List S66) (i:Int):S66:=xs.getD i.toNat z66
theorem at_T66 {w:World} {A:Option Addr} {n:Nat} {xs:List S66} (h:Kd.C k66 w A n xs) (i:Int) (h0:0≤i) (h1:i < n) : ∃ ad A1 c1,A=some ad∧w.cell? (ad.add (i.toNat * 2))=some (.string (rd_T66 xs i).f0)∧w.cell? ⟨(ad.add (i.toNat * 2)).block,(ad.add (i.toNat * 2)).off+1,none⟩=some (.slice A1 (rd_T66 xs i).f1.length c1)∧(rd_T66 xs i).f1.length≤c1∧k76.C w A1 (rd_T66 xs i).f1.length (rd_T66 xs i).f1:=by
  obtain ⟨ad,c,e,_,hK,hc0⟩:=Kd.C_get h z66 i h0 h1
  have hc : ∀ j u,c[j]?=some u→w.cell? (ad.add (i.toNat * 2+j))=some u:=hc0
  obtain ⟨A1,c1,rfl,l1,g1⟩:=k66_open hK
  exact ⟨ad,A1,c1,e,hc 0 _ rfl,by rw [← add_field _ _ 1 (by omega)];exact hc 1 _ rfl,l1,g1⟩
end Go.Proofs.YtnnbbeloifhofaaDoor.P
end
section
namespace Go.Proofs.YtnnbbeloifhofaaDoor.P
open Go Go.RowKit Go.Proofs
open Go.Proofs.YtnnbbeloifhofaaDoorW.PrintWords Go.Proofs.YtnnbbeloifhofaaDoorW.PrintLast Go.Proofs.YtnnbbeloifhofaaDoorW.PrintMore
set_option linter.unusedVariables false
set_option linter.unusedSimpArgs false
def lineB (d:Int) (ws:List ByteArray):List UInt8:=Lib.repeatL [32,32] d.toNat++joinF ws ⟨#[]⟩++[10]
theorem strCells_byte (s:ByteArray):Lib.strCells s=Lib.byteCells s.data.toList:=rfl
theorem byteCells_app (a b:List UInt8):Lib.byteCells (a++b)=Lib.byteCells a++Lib.byteCells b:=by unfold Lib.byteCells;rw [List.map_append]
theorem IsPr.deep {B b:Nat} {bs:List Value} {d:Int} {w:World} (h:IsPr B b bs d w):w.cell? ⟨b,2,none⟩=some (.int .i64 d):=by
  rcases h with ⟨_,v,hb,_⟩ | ⟨_,v,hb,_⟩ <;> (rw [Lib.cell_of_heap hb];rfl)
theorem PrAt.kept {B b:Nat} {p:Value} {bs:List Value} {d:Int} {w w':World} (h:PrAt B b p bs d w) (hb:Below w.heap.size w w'):PrAt B b p bs d w':=by
  obtain ⟨hB,v,hk,hown,hne⟩:=h
  have hlt:=PrAt.lt ⟨hB,v,hk,hown,hne⟩
  refine ⟨hB,v,?_,?_,hne⟩
  · rw [hb.block b hlt];exact hk
  · refine ⟨hown.1,?_⟩
    rcases hown.2 with ⟨hv,h0⟩ | ⟨g,cap,cur,hv,hBg,hg,r⟩
    · exact .inl ⟨hv,h0⟩
    · refine .inr ⟨g,cap,cur,hv,hBg,?_,r⟩
      have hgl:g < w.heap.size:=by
        rcases Nat.lt_or_ge g w.heap.size with h'|h'
        · exact h'
        · simp [Array.getElem?_eq_none h'] at hg
      rw [hb.block g hgl];exact hg
theorem IsPr.kept {B b:Nat} {bs:List Value} {d:Int} {w w':World} (h:IsPr B b bs d w) (hb:Below w.heap.size w w'):IsPr B b bs d w':=h.imp (·.kept hb) (·.kept hb)
theorem IsPr.lt {B b:Nat} {bs:List Value} {d:Int} {w:World} (h:IsPr B b bs d w):b < w.heap.size:=by rcases h with h|h <;> exact h.lt
set_option maxHeartbeats 2000000 in
set_option maxRecDepth 100000 in
theorem line_pr (B b:Nat) (l:List UInt8) (d:Int) (A:Option Addr) (c:Nat) (ws:List ByteArray) (w:World) (hP:IsPr B b (Lib.byteCells l) d w) (hC:Kd.C Kd.string w A ws.length ws) (hc:ws.length≤c) (hd0:0≤d) (hd1:d≤4611686018427387904)
    (hj:ws.length≤140737488355328) (hlen:l.length+(lineB d ws).length≤140737488355328) (hBw:B≤w.heap.size) :
    Calls Tryd.prog 38 #[.pointer (some ⟨b,0,none⟩),.slice A ws.length c] w fun e w'=>e=.returned (.tuple #[])∧PrAt B b (.pointer (some ⟨b,0,none⟩)) (Lib.byteCells (l++lineB d ws)) d w'∧Below B w w'∧Beside b w w':=by
  have hll:(lineB d ws).length=(Lib.repeatL [32,32] d.toNat).length+(joinF ws ⟨#[]⟩).length+1:=by unfold lineB;rw [List.length_append,List.length_append];rfl
  have hR:strings_Repeat.f (⟨#[32,32]⟩:ByteArray) d=some (strOf (Lib.repeatL [32,32] d.toNat)):=by
    unfold strings_Repeat.f
    rw [if_pos ⟨hd0,by omega,by
      have:(Lib.repeatL [32,32] d.toNat).length=2 * d.toNat:=by simp [Lib.repeatL_length,Nat.mul_comm]
      exact (show 2 * d.toNat≤_ by omega)⟩]
  have hJ:strings_Join.f ws (⟨#[]⟩:ByteArray)=some (strOf (joinF ws ⟨#[]⟩)):=by
    unfold strings_Join.f
    rw [if_pos ⟨by omega,hj⟩]
  generalize hr1:strOf (Lib.repeatL [32,32] d.toNat)=r1 at hR
  generalize hr2:strOf (joinF ws ⟨#[]⟩)=r2 at hJ
  have z1:r1.size=(Lib.repeatL [32,32] d.toNat).length:=by rw [← hr1,strOf_size]
  have z2:r2.size=(joinF ws ⟨#[]⟩).length:=by rw [← hr2,strOf_size]
  have k1:(9223372036854775807 < r1.size+r2.size)=False:=eq_false (by omega)
  have k2:(9223372036854775807 < r1.size+r2.size+1)=False:=eq_false (by omega)
  have hAll:r1.data.toList++r2.data.toList++[10]=lineB d ws:=by rw [← hr1,← hr2];rfl
  clear hr1 hr2
  have zz:l.length+(r1.size+r2.size+1)≤140737488355328:=by omega
  clear hll hlen z1 z2
  go_enter Tryd.func38,Tryd.ntmps38
  have hb0:Below B w w.drew:=Below.drew (Below.refl B w)
  refine start_ (n:=13) (ds:=[12]) (S:=fun w'=>w'.cell? ⟨b,2,none⟩=some (.int .i64 d)∧IsPr B b (Lib.byteCells l) d w'∧Kd.C Kd.string w' A ws.length ws∧Below B w w'∧Beside b w w') #[false,false,false,false,false,false,false,false,false,false,false,false,false] (by kernel_rfl) rfl rfl ⟨(IsPr.deep hP:w.cell? _=_),hP,hC,hb0,Beside.of (Below.drew (Below.refl _ w))⟩ (fun hHeld=>?_)
  have hb1:Below w.heap.size w w.drew:=Below.drew (Below.refl _ w)
  generalize w.drew=w1 at hHeld hb1 ⊢
  refine pure_ (i:=0) (N:=some 4) (v:=?_) (a':=?_) #[true,false,false,false,false,false,false,false,false,false,false,false,false] rfl rfl (by kernel_rfl) (fun _ _ _ h=>h) (Or.inl ⟨by rfl,?_⟩) ?_ ?_
  rotate_left
  · intro w'
    go_simp
    with_reducible rfl
  rotate_left
  · simp only [Act.put,List.setIfInBounds_toArray,List.set_cons_zero,List.set_cons_succ,i64_w,i32_w]
    rfl
  refine pure_ (i:=1) (N:=some 5) (v:=?_) (a':=?_) #[true,true,false,false,false,false,false,false,false,false,false,false,false] rfl rfl (by kernel_rfl) (fun _ _ _ h=>h) (Or.inl ⟨by rfl,?_⟩) ?_ ?_
  rotate_left
  · intro w'
    go_simp
    with_reducible rfl
  rotate_left
  · simp only [Act.put,List.setIfInBounds_toArray,List.set_cons_zero,List.set_cons_succ,i64_w,i32_w]
    rfl
  refine pure_ (i:=2) (N:=some 6) (v:=?_) (a':=?_) #[true,true,true,false,false,false,false,false,false,false,false,false,false] rfl rfl (by kernel_rfl) (fun _ _ _ h=>h) (Or.inl ⟨by rfl,?_⟩) ?_ ?_
  rotate_left
  · intro w'
    go_simp
    with_reducible rfl
  rotate_left
  · simp only [Act.put,List.setIfInBounds_toArray,List.set_cons_zero,List.set_cons_succ,i64_w,i32_w]
    rfl
  refine pure_ (i:=3) (N:=some 7) (v:=?_) (a':=?_) #[true,true,true,true,false,false,false,false,false,false,false,false,false] rfl rfl (by kernel_rfl) (fun _ _ _ h=>h) (Or.inl ⟨by rfl,?_⟩) ?_ ?_
  rotate_left
  · intro w'
    go_simp
    with_reducible rfl
  rotate_left
  · simp only [Act.put,List.setIfInBounds_toArray,List.set_cons_zero,List.set_cons_succ,i64_w,i32_w]
    rfl
  refine pure_ (i:=4) (N:=some 8) (v:=?_) (a':=?_) #[true,true,true,true,true,false,false,false,false,false,false,false,false] rfl rfl (by kernel_rfl) (fun _ _ _ h=>h) (Or.inl ⟨by rfl,?_⟩) ?_ ?_
  rotate_left
  · intro w'
    go_simp
    with_reducible rfl
  rotate_left
  · simp only [Act.put,List.setIfInBounds_toArray,List.set_cons_zero,List.set_cons_succ,i64_w,i32_w]
    rfl
  refine pure_ (i:=5) (N:=some 9) (v:=?_) (a':=?_) #[true,true,true,true,true,true,false,false,false,false,false,false,false] rfl rfl (by kernel_rfl) (fun _ _ _ h=>h) (Or.inl ⟨by rfl,?_⟩) ?_ ?_
  rotate_left
  · intro w'
    go_simp
    with_reducible rfl
  rotate_left
  · simp only [Act.put,List.setIfInBounds_toArray,List.set_cons_zero,List.set_cons_succ,i64_w,i32_w]
    rfl
  refine take_ (i:=6) (N:=some 10) (v:=?_) (a':=?_) #[true,true,true,true,true,true,true,false,false,false,false,false,false] rfl rfl (by kernel_rfl) (fun _ _ _ h=>h) (Or.inl ⟨by rfl,?_⟩) hHeld ?_ ?_
  rotate_left
  · rintro w' ⟨s0,s1,s2,s3,s4⟩
    go_simp
    with_reducible rfl
  rotate_left
  · simp only [Act.put,List.setIfInBounds_toArray,List.set_cons_zero,List.set_cons_succ,i64_w,i32_w]
    rfl
  refine pure_ (i:=8) (N:=some 12) (v:=?_) (a':=?_) #[true,true,true,true,true,true,true,false,true,false,false,false,false] rfl rfl (by kernel_rfl) (fun _ _ _ h=>h) (Or.inl ⟨by rfl,?_⟩) ?_ ?_
  rotate_left
  · intro w'
    go_simp
    with_reducible rfl
  rotate_left
  · simp only [Act.put,List.setIfInBounds_toArray,List.set_cons_zero,List.set_cons_succ,i64_w,i32_w]
    rfl
  refine one_ (i:=7) (N:=some 11) #[true,true,true,true,true,true,true,true,true,false,false,false,false] rfl rfl (by kernel_rfl) (by decide) (fun K hK=>?_)
  refine goes_ Tryd.func59 (by kernel_rfl) rfl #[.string ⟨#[32,32]⟩,.int .i64 d] (by rfl) rfl rfl (by (try simp only [List.map_toArray,List.map_cons,List.map_nil]);first|done|rfl) ?_
  refine (strings_Repeat.calls _ _ _ w1 hR).mono ?_
  rintro e w2 ⟨rfl,hb⟩
  refine ⟨_,rfl,?_⟩
  obtain ⟨t0,t1,t2,t3,t4⟩:=hHeld
  have hHeld:w2.cell? ⟨b,2,none⟩=some (.int .i64 d)∧IsPr B b (Lib.byteCells l) d w2∧Kd.C Kd.string w2 A ws.length ws∧Below B w w2∧Beside b w w2:=⟨(t1.kept hb).deep,t1.kept hb,Kd.C_below t2 hb,t3.trans (hb.mono (by have:=t3.size;omega)),t4.trans (Beside.of hb)⟩
  refine hK.out _ _ hHeld (fun hHeld=>?_)
  clear hK K t0 t1 t2 t3 t4 hb hb1
  refine norm_ (a':=?_) ?_ ?_
  rotate_left
  · show Act.put _ (some 11) _=_
    simp only [Act.put,List.setIfInBounds_toArray,List.set_cons_zero,List.set_cons_succ,i64_w,i32_w]
    rfl
  refine one_ (i:=9) (N:=some 13) #[true,true,true,true,true,true,true,true,true,true,false,false,false] rfl rfl (by kernel_rfl) (by decide) (fun K hK=>?_)
  refine goes_ Tryd.func39 (by kernel_rfl) rfl #[.slice A ws.length c,.string ⟨#[]⟩] (by rfl) rfl rfl (by (try simp only [List.map_toArray,List.map_cons,List.map_nil]);first|done|rfl) ?_
  refine (strings_Join.calls A c ws _ _ w2 hHeld.2.2.1 hc hJ).mono ?_
  rintro e w3 ⟨rfl,hb⟩
  refine ⟨_,rfl,?_⟩
  obtain ⟨t0,t1,t2,t3,t4⟩:=hHeld
  have hHeld:w3.cell? ⟨b,2,none⟩=some (.int .i64 d)∧IsPr B b (Lib.byteCells l) d w3∧Kd.C Kd.string w3 A ws.length ws∧Below B w w3∧Beside b w w3:=⟨(t1.kept hb).deep,t1.kept hb,Kd.C_below t2 hb,t3.trans (hb.mono (by have:=t3.size;omega)),t4.trans (Beside.of hb)⟩
  refine hK.out _ _ hHeld (fun hHeld=>?_)
  clear hK K t0 t1 t2 t3 t4 hb
  refine norm_ (a':=?_) ?_ ?_
  rotate_left
  · show Act.put _ (some 13) _=_
    simp only [Act.put,List.setIfInBounds_toArray,List.set_cons_zero,List.set_cons_succ,i64_w,i32_w]
    rfl
  refine pure_ (i:=10) (N:=some 14) (v:=?_) (a':=?_) #[true,true,true,true,true,true,true,true,true,true,true,false,false] rfl rfl (by kernel_rfl) (fun _ _ _ h=>h) (Or.inl ⟨by rfl,?_⟩) ?_ ?_
  rotate_left
  · intro w'
    go_simp
    with_reducible rfl
  rotate_left
  · simp only [Act.put,List.setIfInBounds_toArray,List.set_cons_zero,List.set_cons_succ,i64_w,i32_w]
    rfl
  refine pure_ (i:=11) (N:=some 15) (v:=?_) (a':=?_) #[true,true,true,true,true,true,true,true,true,true,true,true,false] rfl rfl (by kernel_rfl) (fun _ _ _ h=>h) (Or.inl ⟨by rfl,?_⟩) ?_ ?_
  rotate_left
  · intro w'
    go_simp
    with_reducible rfl
  rotate_left
  · simp only [Act.put,List.setIfInBounds_toArray,List.set_cons_zero,List.set_cons_succ,i64_w,i32_w]
    rfl
  refine last_ (i:=12) (N:=some 16) #[true,true,true,true,true,true,true,true,true,true,true,true,true] rfl rfl (by kernel_rfl) (by decide) (fun K hK=>?_)
  refine goes_ Tryd.func58 (by kernel_rfl) rfl #[.pointer (some ⟨b,0,none⟩),.string (r1++r2++⟨#[10]⟩)] (by rfl) rfl rfl (by (try simp only [List.map_toArray,List.map_cons,List.map_nil]);first|done|rfl) ?_
  refine (writeString_pr B b _ d _ w3 hHeld.2.1 (by rw [Lib.byteCells_length,ByteArray.size_append,ByteArray.size_append];exact (show l.length+(r1.size+r2.size+1)≤_ from zz)) (by have:=hHeld.2.2.2.1.size;omega)).mono ?_
  rintro e w4 ⟨rfl,hP4,hb,hs4⟩
  refine ⟨_,rfl,?_⟩
  refine hK.out _ _ ?_
  refine done_ (by kernel_rfl) ?_
  try go_wp2
  go_end0
  refine ⟨rfl,?_,hHeld.2.2.2.1.trans hb,hHeld.2.2.2.2.trans hs4⟩
  rw [byteCells_app,← hAll]
  rw [strCells_byte] at hP4
  rw [show (r1++r2++(⟨#[10]⟩:ByteArray)).data.toList=r1.data.toList++r2.data.toList++[10] by simp] at hP4
  exact hP4
end Go.Proofs.YtnnbbeloifhofaaDoor.P
end
section
namespace Go.Proofs.YtnnbbeloifhofaaDoor.P
open Go Go.RowKit Go.Proofs
open Go.Proofs.YtnnbbeloifhofaaDoorW.PrintWords Go.Proofs.YtnnbbeloifhofaaDoorW.PrintLast Go.Proofs.YtnnbbeloifhofaaDoorW.PrintMore
theorem Ev.yes {α:Type} {c:Prop} [Decidable c] {f g:Nat→Option α} {r:α} (h:c) (k:Ev f r):Ev (fun n=>if c then f n else g n) r:=Ev.congr (fun _=>if_pos h) k
theorem Ev.no {α:Type} {c:Prop} [Decidable c] {f g:Nat→Option α} {r:α} (h : ¬ c) (k:Ev g r):Ev (fun n=>if c then f n else g n) r:=Ev.congr (fun _=>if_neg h) k
theorem Ev.then {α β:Type} {a:α} {f:Nat→α→Option β} {r:β} {o:Option α} (h:o=some a) (k:Ev (fun n=>f n a) r):Ev (fun n=>o.bind (f n)) r:=by
  subst h;exact k
theorem wrap64_small {x:Int} (h0 : -9223372036854775808≤x) (h:x < 9223372036854775808):wrap64 x=x:=by unfold wrap64;omega
theorem toList_data (s:ByteArray):s.toList=s.data.toList:=by
  have:=Lib.extract_toList s 0 s.size
  have h2:=Lib.extract_data s 0 s.size
  have e:s.extract 0 s.size=s:=by
    apply ByteArray.ext
    apply Array.toList_inj.mp
    rw [h2]
    simp
    exact List.take_of_length_le (by simp)
  rw [e] at this h2
  rw [this];exact h2.symm
theorem toList_inj {a b:ByteArray} (h:a.toList=b.toList):a=b:=by
  rw [toList_data,toList_data] at h
  cases a;cases b;simp only at h;exact congrArg ByteArray.mk (Array.toList_inj.mp h)
theorem getD_mid {α:Type} (pre:List α) (x:α) (xs:List α) (z:α):(pre++x :: xs).getD ((pre.length:Int)).toNat z=x:=by
  rw [show ((pre.length:Int)).toNat=pre.length from rfl,List.getD_eq_getElem?_getD,List.getElem?_append_right (Nat.le_refl _)];simp
theorem next_len {α:Type} (pre:List α) (x:α) (xs:List α) (h:(pre++x :: xs).length < 4611686018427387904):wrap64 ((pre.length:Int)+1)=(((pre++[x]).length:Nat):Int):=by
  rw [List.length_append,List.length_cons] at h;rw [List.length_append,List.length_singleton,wrap64_small (by omega) (by omega)];omega
theorem mid_lt {α:Type} (pre:List α) (x:α) (xs:List α):(pre.length:Int) < ((pre++x :: xs).length:Int):=by
  rw [List.length_append,List.length_cons];omega
theorem end_not {α:Type} (pre:List α) : ¬ (pre.length:Int) < ((pre++[]).length:Int):=by simp
end Go.Proofs.YtnnbbeloifhofaaDoor.P
end
section
namespace Go.Proofs.YtnnbbeloifhofaaDoor.P
open Go Go.RowKit Go.Proofs
open Go.Proofs.YtnnbbeloifhofaaDoorW.PrintWords Go.Proofs.YtnnbbeloifhofaaDoorW.PrintLast Go.Proofs.YtnnbbeloifhofaaDoorW.PrintMore
abbrev RE:=S24
abbrev RS:=S29
abbrev TE:=S33
abbrev TS:=S76
mutual
theorem RE.all {P:RE→Prop} (h : ∀ x:RE,(∀ y ∈ x.f3,P y)→P x) : ∀ x,P x
  | ⟨_,_,_,l,_⟩=>h _ (RE.alls h l)
theorem RE.alls {P:RE→Prop} (h : ∀ x:RE,(∀ y ∈ x.f3,P y)→P x) : ∀ l:List RE,∀ y ∈ l,P y
  | []=>fun _ hy=>by cases hy
  | x :: xs=>fun y hy=>by
    rcases List.mem_cons.1 hy with e|hy
    · exact e ▸ RE.all h x
    · exact RE.alls h xs y hy
end
mutual
theorem TE.all {P:TE→Prop} (h : ∀ x:TE,(∀ y ∈ x.f3,P y)→P x) : ∀ x,P x
  | ⟨_,_,_,l,_⟩=>h _ (TE.alls h l)
theorem TE.alls {P:TE→Prop} (h : ∀ x:TE,(∀ y ∈ x.f3,P y)→P x) : ∀ l:List TE,∀ y ∈ l,P y
  | []=>fun _ hy=>by cases hy
  | x :: xs=>fun y hy=>by
    rcases List.mem_cons.1 hy with e|hy
    · exact e ▸ TE.all h x
    · exact TE.alls h xs y hy
end
mutual
theorem RS.all {P:RS→Prop} (h : ∀ x:RS,(∀ y ∈ x.f3,P y)→(∀ y ∈ x.f4,P y)→P x) : ∀ x,P x
  | ⟨_,_,_,a,b,_⟩=>h _ (RS.alls h a) (RS.alls h b)
theorem RS.alls {P:RS→Prop} (h : ∀ x:RS,(∀ y ∈ x.f3,P y)→(∀ y ∈ x.f4,P y)→P x) : ∀ l:List RS,∀ y ∈ l,P y
  | []=>fun _ hy=>by cases hy
  | x :: xs=>fun y hy=>by
    rcases List.mem_cons.1 hy with e|hy
    · exact e ▸ RS.all h x
    · exact RS.alls h xs y hy
end
mutual
theorem TS.all {P:TS→Prop} (h : ∀ x:TS,(∀ y ∈ x.f3,P y)→(∀ y ∈ x.f4,P y)→P x) : ∀ x,P x
  | ⟨_,_,_,a,b,_⟩=>h _ (TS.alls h a) (TS.alls h b)
theorem TS.alls {P:TS→Prop} (h : ∀ x:TS,(∀ y ∈ x.f3,P y)→(∀ y ∈ x.f4,P y)→P x) : ∀ l:List TS,∀ y ∈ l,P y
  | []=>fun _ hy=>by cases hy
  | x :: xs=>fun y hy=>by
    rcases List.mem_cons.1 hy with e|hy
    · exact e ▸ TS.all h x
    · exact TS.alls h xs y hy
end
mutual
def bulkE:RE→Nat
  | ⟨a,b,_,l,_⟩=>a.size+b.size+bulkEs l+1
def bulkEs:List RE→Nat
  | []=>0
  | x :: xs=>bulkE x+bulkEs xs
end
mutual
def bulkS:RS→Nat
  | ⟨a,b,e,l,m,_⟩=>a.size+b.size+bulkEs e+bulkSs l+bulkSs m+1
def bulkSs:List RS→Nat
  | []=>0
  | x :: xs=>bulkS x+bulkSs xs
end
theorem bulkE_eq (x:RE):bulkE x=x.f0.size+x.f1.size+bulkEs x.f3+1:=by cases x;rfl
theorem bulkS_eq (x:RS):bulkS x=x.f0.size+x.f1.size+bulkEs x.f2+bulkSs x.f3+bulkSs x.f4+1:=by cases x;rfl
theorem len_bulkEs (l:List RE):l.length≤bulkEs l:=by
  induction l with
  | nil=>exact Nat.zero_le _
  | cons x xs ih=>rw [bulkEs,List.length_cons,bulkE_eq];omega
theorem len_bulkSs (l:List RS):l.length≤bulkSs l:=by
  induction l with
  | nil=>exact Nat.zero_le _
  | cons x xs ih=>rw [bulkSs,List.length_cons,bulkS_eq];omega
theorem mem_bulkEs {x:RE} {l:List RE} (h:x ∈ l):bulkE x≤bulkEs l:=by
  induction l with
  | nil=>cases h
  | cons y ys ih=>
    rw [bulkEs]
    rcases List.mem_cons.1 h with e|h
    · subst e;omega
    · have:=ih h;omega
theorem mem_bulkSs {x:RS} {l:List RS} (h:x ∈ l):bulkS x≤bulkSs l:=by
  induction l with
  | nil=>cases h
  | cons y ys ih=>
    rw [bulkSs]
    rcases List.mem_cons.1 h with e|h
    · subst e;omega
    · have:=ih h;omega
mutual
def convE:RE→TE
  | ⟨a,b,n,l,t⟩=>⟨a,b,n,convEs l,t⟩
def convEs:List RE→List TE
  | []=>[]
  | x :: xs=>convE x :: convEs xs
end
mutual
def convS:RS→TS
  | ⟨a,b,e,l,m,t⟩=>⟨a,b,convEs e,convSs l,convSs m,t⟩
def convSs:List RS→List TS
  | []=>[]
  | x :: xs=>convS x :: convSs xs
end
theorem convE_eq (x:RE):convE x=⟨x.f0,x.f1,x.f2,convEs x.f3,x.f4⟩:=by cases x;rfl
theorem convS_eq (x:RS):convS x=⟨x.f0,x.f1,convEs x.f2,convSs x.f3,convSs x.f4,x.f5⟩:=by cases x;rfl
theorem convEs_map (l:List RE):convEs l=l.map convE:=by
  induction l with
  | nil=>rfl
  | cons x xs ih=>rw [convEs,ih];rfl
theorem convSs_map (l:List RS):convSs l=l.map convS:=by
  induction l with
  | nil=>rfl
  | cons x xs ih=>rw [convSs,ih];rfl
theorem convEs_len (l:List RE):(convEs l).length=l.length:=by rw [convEs_map,List.length_map]
theorem convSs_len (l:List RS):(convSs l).length=l.length:=by rw [convSs_map,List.length_map]
mutual
def szE:RE→Nat
  | ⟨_,_,_,l,_⟩=>szEs l+1
def szEs:List RE→Nat
  | []=>0
  | x :: xs=>szE x+szEs xs
end
mutual
def szS:RS→Nat
  | ⟨_,_,e,l,m,_⟩=>szEs e+szSs l+szSs m+1
def szSs:List RS→Nat
  | []=>0
  | x :: xs=>szS x+szSs xs
end
mutual
def dpS:RS→Nat
  | ⟨_,_,_,l,m,_⟩=>max (dpSs l) (dpSs m)
def dpSs:List RS→Nat
  | []=>0
  | x :: xs=>max (dpS x+1) (dpSs xs)
end
theorem szE_eq (x:RE):szE x=szEs x.f3+1:=by cases x;rfl
theorem szS_eq (x:RS):szS x=szEs x.f2+szSs x.f3+szSs x.f4+1:=by cases x;rfl
theorem dpS_eq (x:RS):dpS x=max (dpSs x.f3) (dpSs x.f4):=by cases x;rfl
theorem szE_bulk : ∀ x:RE,szE x≤bulkE x:=RE.all fun x ih=>by
  rw [szE_eq,bulkE_eq]
  have : ∀ l:List RE,(∀ y ∈ l,szE y≤bulkE y)→szEs l≤bulkEs l:=by
    intro l;induction l with
    | nil=>exact fun _=>Nat.zero_le _
    | cons y ys ih=>exact fun h=>by rw [szEs,bulkEs];have:=h y (List.mem_cons_self ..);have:=ih (fun z hz=>h z (List.mem_cons_of_mem _ hz));omega
  have:=this _ ih
  omega
theorem szEs_bulk (l:List RE):szEs l≤bulkEs l:=by
  induction l with
  | nil=>exact Nat.zero_le _
  | cons y ys ih=>rw [szEs,bulkEs];have:=szE_bulk y;omega
theorem szS_bulk : ∀ x:RS,szS x≤bulkS x:=RS.all fun x iha ihb=>by
  rw [szS_eq,bulkS_eq]
  have gen : ∀ l:List RS,(∀ y ∈ l,szS y≤bulkS y)→szSs l≤bulkSs l:=by
    intro l;induction l with
    | nil=>exact fun _=>Nat.zero_le _
    | cons y ys ih=>exact fun h=>by rw [szSs,bulkSs];have:=h y (List.mem_cons_self ..);have:=ih (fun z hz=>h z (List.mem_cons_of_mem _ hz));omega
  have:=gen _ iha
  have:=gen _ ihb
  have:=szEs_bulk x.f2
  omega
theorem szSs_bulk (l:List RS):szSs l≤bulkSs l:=by
  induction l with
  | nil=>exact Nat.zero_le _
  | cons y ys ih=>rw [szSs,bulkSs];have:=szS_bulk y;omega
theorem dpS_sz : ∀ x:RS,dpS x+1≤szS x:=RS.all fun x iha ihb=>by
  rw [szS_eq,dpS_eq]
  have gen : ∀ l:List RS,(∀ y ∈ l,dpS y+1≤szS y)→dpSs l≤szSs l:=by
    intro l;induction l with
    | nil=>exact fun _=>Nat.zero_le _
    | cons y ys ih=>exact fun h=>by rw [szSs,dpSs];have h1:=h y (List.mem_cons_self ..);have:=ih (fun z hz=>h z (List.mem_cons_of_mem _ hz));omega
  have:=gen _ iha
  have:=gen _ ihb
  omega
theorem dpSs_sz (l:List RS):dpSs l≤szSs l:=by
  induction l with
  | nil=>exact Nat.zero_le _
  | cons y ys ih=>rw [szSs,dpSs];have:=dpS_sz y;omega
end Go.Proofs.YtnnbbeloifhofaaDoor.P
end
section
namespace Go.Proofs.YtnnbbeloifhofaaDoor.P
open Go Go.RowKit Go.Proofs
open Go.Proofs.YtnnbbeloifhofaaDoorW.PrintWords Go.Proofs.YtnnbbeloifhofaaDoorW.PrintLast Go.Proofs.YtnnbbeloifhofaaDoorW.PrintMore
def flg (n m:Nat):Array Bool:=((List.range n).map fun i=>m.testBit i).toArray
theorem pA_ {α:Type} {l:List α} {i:Nat} {a:α}:l.toArray.setIfInBounds i a=(l.set i a).toArray:=List.setIfInBounds_toArray ..
theorem pB_ {α:Type} {l:List α} {a b:α}:(a :: l).set 0 b=b :: l:=List.set_cons_zero ..
theorem pC_ {α:Type} {l:List α} {n:Nat} {a b:α}:(a :: l).set (n+1) b=a :: l.set n b:=List.set_cons_succ ..
theorem kb_ {p q:Prop} (h:p) (k:p→q:=by intro h_;(with_reducible repeat (first|refine blk_drewN ?_ _|refine blk_drew ?_|refine blk_alloc ?_ _));exact h_):q:=k h
theorem bb_ {w W W':World} {g:Nat} {o:Obj} (h:w.heap[g]?=some o) (hb:Below W.heap.size W W') (k:w.heap[g]?=some o→W.heap[g]?=some o:=by intro h_;(with_reducible repeat (first|refine blk_drewN ?_ _|refine blk_drew ?_|refine blk_alloc ?_ _));exact h_):W'.heap[g]?=some o:=blk_below (k h) hb
theorem bg_ {w W W':World} {g:Nat} {o:Obj} {row:Option Nat} (h:w.heap[g]?=some o) (hg:W.grownBy W' row) (hne:some g≠row) (k:w.heap[g]?=some o→W.heap[g]?=some o:=by intro h_;(with_reducible repeat (first|refine blk_drewN ?_ _|refine blk_drew ?_|refine blk_alloc ?_ _));exact h_):W'.heap[g]?=some o:=blk_grown (k h) hg hne
theorem nl_ {w W:World} {g g':Nat} {o:Obj} (hg:g'=W.heap.size) (h:w.heap[g]?=some o) (k:w.heap[g]?=some o→W.heap[g]?=some o:=by intro h_;(with_reducible repeat (first|refine blk_drewN ?_ _|refine blk_drew ?_|refine blk_alloc ?_ _));exact h_):g≠g':=by
  rw [hg];exact Nat.ne_of_lt (blk_lt (k h))
theorem nr_ {w W:World} {g g':Nat} {o:Obj} (hg:g'=W.heap.size) (h:w.heap[g]?=some o) (k:w.heap[g]?=some o→W.heap[g]?=some o:=by intro h_;(with_reducible repeat (first|refine blk_drewN ?_ _|refine blk_drew ?_|refine blk_alloc ?_ _));exact h_):g'≠g:=by
  rw [hg];exact Nat.ne_of_gt (blk_lt (k h))
theorem kbc_ {p q:Prop} (h:p) (k:p→q:=by intro h_;(repeat (first|(with_reducible exact h_)|(with_reducible first|refine blk_drewN ?_ _|refine blk_drew ?_|refine blk_alloc ?_ _)|(with_reducible apply blk_put)|(with_reducible refine blk_far ?_ (Aside0.out (by assumption)) _)|exact h_));all_goals rfl):q:=k h
theorem bl_ {p q:Prop} (h:p) (k:p→q:=by intro h_;repeat (first|(with_reducible first|exact h_|apply below_alloc|apply pw_below_drewN|apply below_drew1|refine below_set ?_ (Aside0.out (by assumption)))|exact h_)):q:=k h
theorem gs_ {w W:World} {g:Nat} (hg:g=W.heap.size) (h:Below w.heap.size w W):w.heap.size≤g:=hg ▸ h.size
theorem cb_ {w W:World} {a:Addr} {v:Value} (hb:Below w.heap.size w W) (h:w.cell? a=some v):W.cell? a=some v:=(hb.cell (World.block_lt_of_cell? w _ h)).trans h
theorem zc_ {w:World} {g:Nat} {t:TypeId} {cs:Array Value} {v:Value} (h:w.heap[g]?=some (.cells cs t (0,0))) (i:Nat) (e:cs[i]?=some v:=by rfl):w.cell? ⟨g,i,none⟩=some v:=(blk_cell h i).trans e
theorem ab_ {p q:Prop} (h:p) (k:p→q:=by intro h_;first|(rw [add_block];exact h_)|(show (Addr.add _ _).block≠_;rw [add_block];exact h_)|exact h_):q:=k h
theorem kc_ {α:Type} {d:Kd α} {w W W':World} {A:Option Addr} {n:Nat} {xs:List α} (h:d.C w A n xs) (hb:Below w.heap.size w W) (k:d.C W A n xs→d.C W' A n xs:=by intro h_;repeat (first|exact h_|(with_reducible refine Kd.C_alloc ?_ _)|(with_reducible refine Kd.C_drewN ?_ _)|(with_reducible refine Kd.C_drew ?_))):d.C W' A n xs:=k (Kd.C_below h hb)
theorem ar_ {p:Prop} (h:p:=by (try simp only [List.map_toArray,List.map_cons,List.map_nil]);first|done|rfl|(simp only [List.length_drop,List.length_take];rfl)):p:=h
theorem as_ {p:Prop} (h:p:=by first|(with_reducible assumption)|assumption):p:=h
theorem rf_ {p:Prop} (h:p:=by first|rfl|(simp;done)|(simp [*];done)):p:=h
theorem rt_ {p:Prop} (h:p:=by first|rfl|(simp [errW_none,errW_some] <;> rfl)|(simp [*,errW_none,errW_some] <;> rfl)):p:=h
end Go.Proofs.YtnnbbeloifhofaaDoor.P
end
section
namespace Go.Proofs.YtnnbbeloifhofaaDoor.P
open Go Go.RowKit Go.Proofs
open Go.Proofs.YtnnbbeloifhofaaDoorW.PrintWords Go.Proofs.YtnnbbeloifhofaaDoorW.PrintLast Go.Proofs.YtnnbbeloifhofaaDoorW.PrintMore
theorem gd_ {c:Prop} [Decidable c] {α:Type} {x:Option α} {r:α} {P:Prop} (h:c→x=some r→P):(if c then x else none)=some r→P:=by
  intro e
  by_cases k:c
  · rw [if_pos k] at e;exact h k e
  · rw [if_neg k] at e;cases e
theorem bd_ {α β:Type} {o:Option α} {f:α→Option β} {r:β} {P:Prop} (h : ∀ t,Aside0 (o=some t)→f t=some r→P):o.bind f=some r→P:=by
  intro e
  obtain ⟨t,h1,h2⟩:=Option.bind_eq_some_iff.mp e
  exact h t ⟨h1⟩ h2
theorem bqt_ {a b:List UInt8} (h:a=b):(a == b)=true:=beq_iff_eq.mpr h
theorem bqf_ {a b:List UInt8} (h : ¬ a=b):(a == b)=false:=beq_eq_false_iff_ne.mpr h
theorem bnf_ {a b:List UInt8} (h:a=b):(a != b)=false:=bne_eq_false_iff_eq.mpr h
theorem bnt_ {a b:List UInt8} (h : ¬ a=b):(a != b)=true:=bne_iff_ne.mpr h
theorem nlt_ {a b:Nat} (h:a≤b):(b < a)=False:=eq_false (Nat.not_lt.2 h)
theorem ip_ {α:Type} {x y:Option α} {r:α} (h:(if true=true then x else y)=some r):x=some r:=by rw [if_pos rfl] at h;exact h
theorem in_ {α:Type} {x y:Option α} {r:α} (h:(if false=true then x else y)=some r):y=some r:=by rw [if_neg (by decide)] at h;exact h
theorem tn0_:((0:Int)).toNat=0:=rfl
section
variable {w:World} {g:Nat} {t:TypeId}
theorem zf2_ {v0 v1:Value} (h:w.heap[g]?=some (.cells #[v0,v1] t (0,0))):w.cell? ⟨g,0,none⟩=some v0∧w.cell? ⟨g,1,none⟩=some v1∧w.frozen? ⟨g,0,none⟩=false∧w.frozen? ⟨g,1,none⟩=false:=⟨zc_ h 0,zc_ h 1,blk_frozen h 0,blk_frozen h 1⟩
theorem zf3_ {v0 v1 v2:Value} (h:w.heap[g]?=some (.cells #[v0,v1,v2] t (0,0))):w.cell? ⟨g,0,none⟩=some v0∧w.cell? ⟨g,1,none⟩=some v1∧w.cell? ⟨g,2,none⟩=some v2∧w.frozen? ⟨g,0,none⟩=false∧w.frozen? ⟨g,1,none⟩=false∧w.frozen? ⟨g,2,none⟩=false:=⟨zc_ h 0,zc_ h 1,zc_ h 2,blk_frozen h 0,blk_frozen h 1,blk_frozen h 2⟩
theorem zf4_ {v0 v1 v2 v3:Value} (h:w.heap[g]?=some (.cells #[v0,v1,v2,v3] t (0,0))):w.cell? ⟨g,0,none⟩=some v0∧w.cell? ⟨g,1,none⟩=some v1∧w.cell? ⟨g,2,none⟩=some v2∧w.cell? ⟨g,3,none⟩=some v3∧w.frozen? ⟨g,0,none⟩=false∧w.frozen? ⟨g,1,none⟩=false∧w.frozen? ⟨g,2,none⟩=false∧w.frozen? ⟨g,3,none⟩=false:=⟨zc_ h 0,zc_ h 1,zc_ h 2,zc_ h 3,blk_frozen h 0,blk_frozen h 1,blk_frozen h 2,blk_frozen h 3⟩
theorem zf5_ {v0 v1 v2 v3 v4:Value} (h:w.heap[g]?=some (.cells #[v0,v1,v2,v3,v4] t (0,0))):w.cell? ⟨g,0,none⟩=some v0∧w.cell? ⟨g,1,none⟩=some v1∧w.cell? ⟨g,2,none⟩=some v2∧w.cell? ⟨g,3,none⟩=some v3∧w.cell? ⟨g,4,none⟩=some v4∧w.frozen? ⟨g,0,none⟩=false∧w.frozen? ⟨g,1,none⟩=false∧w.frozen? ⟨g,2,none⟩=false∧w.frozen? ⟨g,3,none⟩=false∧w.frozen? ⟨g,4,none⟩=false:=⟨zc_ h 0,zc_ h 1,zc_ h 2,zc_ h 3,zc_ h 4,blk_frozen h 0,blk_frozen h 1,blk_frozen h 2,blk_frozen h 3,blk_frozen h 4⟩
theorem zf6_ {v0 v1 v2 v3 v4 v5:Value} (h:w.heap[g]?=some (.cells #[v0,v1,v2,v3,v4,v5] t (0,0))):w.cell? ⟨g,0,none⟩=some v0∧w.cell? ⟨g,1,none⟩=some v1∧w.cell? ⟨g,2,none⟩=some v2∧w.cell? ⟨g,3,none⟩=some v3∧w.cell? ⟨g,4,none⟩=some v4∧w.cell? ⟨g,5,none⟩=some v5∧w.frozen? ⟨g,0,none⟩=false∧w.frozen? ⟨g,1,none⟩=false∧w.frozen? ⟨g,2,none⟩=false∧w.frozen? ⟨g,3,none⟩=false∧w.frozen? ⟨g,4,none⟩=false∧w.frozen? ⟨g,5,none⟩=false:=⟨zc_ h 0,zc_ h 1,zc_ h 2,zc_ h 3,zc_ h 4,zc_ h 5,blk_frozen h 0,blk_frozen h 1,blk_frozen h 2,blk_frozen h 3,blk_frozen h 4,blk_frozen h 5⟩
end
section
variable {P:Program} {md:Region.Mode} {ops:Array Oper} {Q:Exit→Act→World→Prop} {S:World→Prop} {ds:List Nat}
variable {oi:Oper} {fuel:Nat} {l:Array Bool} {a a':Act} {w:World} {v:Value}
theorem sk_ (i N:Nat) (l':Array Bool) (h:wpAnyLast P md ops Q S ds fuel l' a' w) (hi:ops[i]?=some oi:=by rfl) (hN:oi.dst=some N:=by rfl) (hc:anyB md ops l l' i=true:=by first|exact any_of (Aside0.out (by assumption)) (by kernel_rfl)|kernel_rfl) (hQ : ∀ c a w,Q (.panic c) (a.put oi.dst undef) w→Q (.panic c) a w:=by exact fun _ _ _ h=>h)
    (hw:Region.wanted oi (yielded ops a.tmps)=false:=by rfl) (ha:a.put (some N) undef=a':=by (simp only [Act.put,pA_,pB_,pC_,i64_w,i32_w];rfl)):wpAnyLast P md ops Q S ds (fuel+1) l a w:=
  pure_ l' hi hN hc hQ (Or.inr ⟨hw,rfl⟩) ha h
theorem pu_ (i N:Nat) (l':Array Bool) (h:wpAnyLast P md ops Q S ds fuel l' a' w) (hi:ops[i]?=some oi:=by rfl) (hN:oi.dst=some N:=by rfl) (hc:anyB md ops l l' i=true:=by first|exact any_of (Aside0.out (by assumption)) (by kernel_rfl)|kernel_rfl) (hQ : ∀ c a w,Q (.panic c) (a.put oi.dst v) w→Q (.panic c) a w:=by exact fun _ _ _ h=>h)
    (hw:Region.wanted oi (yielded ops a.tmps)=true:=by rfl) (hy : ∀ w,(execOp a.eval oi).run P w=.ok (.value v) w:=by (intro w';go_simp;try with_reducible rfl)) (ha:a.put (some N) v=a':=by (simp only [Act.put,pA_,pB_,pC_,i64_w,i32_w];rfl)):wpAnyLast P md ops Q S ds (fuel+1) l a w:=
  pure_ l' hi hN hc hQ (Or.inl ⟨hw,hy⟩) ha h
theorem ta_ (i N:Nat) (l':Array Bool) (hS:S w) (h:wpAnyLast P md ops Q S ds fuel l' a' w) (hi:ops[i]?=some oi:=by rfl) (hN:oi.dst=some N:=by rfl) (hc:takeB md ops ds l l' i=true:=by first|exact take_ofW (Aside0.out (by assumption)) (Aside0.out (by assumption)) (by kernel_rfl)|kernel_rfl) (hQ : ∀ c a w,Q (.panic c) (a.put oi.dst v) w→Q (.panic c) a w:=by exact fun _ _ _ h=>h)
    (hw:Region.wanted oi (yielded ops a.tmps)=true:=by rfl) (hy : ∀ w,S w→(execOp a.eval oi).run P w=.ok (.value v) w:=by (intro w' hS_;(iterate 40 (try (obtain ⟨s_,hS_⟩:=hS_)));go_simp;try with_reducible rfl)) (ha:a.put (some N) v=a':=by (simp only [Act.put,pA_,pB_,pC_,i64_w,i32_w];rfl)):wpAnyLast P md ops Q S ds (fuel+1) l a w:=
  take_ l' hi hN hc hQ (Or.inl ⟨hw,hy⟩) hS ha h
theorem nm_ (h:wpAnyLast P md ops Q S ds fuel l a' w) (ha:a=a':=by (show Act.put _ (some _) _=_;simp only [Act.put,pA_,pB_,pC_,i64_w,i32_w];rfl)):wpAnyLast P md ops Q S ds fuel l a w:=norm_ ha h
end
theorem ko_ {K R:Act→World→Prop} {S:World→Prop} {a:Act} {w:World} (hK:Shut (∀ a' w',S w'→(S w'→R a' w')→K a' w')) (h:S w→R a w) (hs:S w:=by (repeat' first|refine And.intro ?_ ?_|exact zc_ (Aside0.out (by with_reducible assumption)) _|exact cb_ (Aside0.out (by with_reducible assumption)) (by with_reducible assumption))):K a w:=hK.out a w hs h
theorem bx_ {P:Program} {ops:Array Oper} {Q:Exit→Act→World→Prop} {rest:List Oper} {a:Act} {o:Oper} {W:World} {N:Tmp} {cs:Array Value} {t:TypeId}
    (h : ∀ g,g=W.heap.size→∀ w1,w1.heap[g]?=some (.cells cs t (0,0))→Below W.heap.size W w1→wpList P ops Q rest (a.put o.dst (.pointer (some ⟨g,0,none⟩))) w1)
    (hgd:o.guard=none:=by rfl) (hd:o.dst=some N:=by rfl) (hrun:(execOp a.eval o).run P W=.ok (.value (.pointer (some ⟨W.heap.size,0,none⟩))) (W.alloc (.cells cs t (0,0))):=by first|(go_simp;done)|(go_simp;rfl)):wpList P ops Q (o :: rest) a W:=
  box_event hgd hd hrun h
end Go.Proofs.YtnnbbeloifhofaaDoor.P
end
section
namespace Go.Proofs.YtnnbbeloifhofaaDoor.P
open Go.RowKit Go.Proofs.YtnnbbeloifhofaaDoorW.PrintWords Go.Proofs.YtnnbbeloifhofaaDoorW.PrintLast Go.Proofs.YtnnbbeloifhofaaDoorW.PrintMore
attribute [local go_sem] max2_int min2_int max_two min_two max_three min_three max_four min_four
set_option linter.unusedVariables false
set_option linter.unusedSimpArgs false
mutual
def helmsmanref12_size.l0:Nat→List (S24)→Int→Int→Option (Int)
 | 0,_,_,_=>none
 | k+1,x0,x3,x4=>if x4 < (x0.length:Int) then (if 0≤x4 then ((helmsmanref12_size.f k ((rd_T24 x0 x4).f3)).bind fun t105=>(helmsmanref12_size.l0 k x0 (wrap64 (x3+t105)) (wrap64 (x4+1)))) else (none)) else (some x3)
def helmsmanref12_size.f:Nat→List (S24)→Option (Int)
 | 0,_=>none
 | k+1,l0=>helmsmanref12_size.l0 k l0 (l0.length:Int) 0
end
set_option maxHeartbeats 8000000 in
set_option maxRecDepth 100000 in
theorem helmsmanref12_size.calls (k:Nat) : ∀ (A0:Option Addr) (c0:Nat) (l0:List (S24)) (r:Int) (w:World) (hr0:Kd.C k24 w A0 l0.length l0) (hc0:l0.length≤c0) (h:helmsmanref12_size.f k l0=some r),
  Calls Tryd.prog 30 #[.slice A0 l0.length c0] w fun e w'=>e=.returned (.int .i64 r)∧Drawn0 w w':=by
 induction k using Nat.strongRecOn with
 | _ k ih=>
 intro A0 c0 l0 r w hr0 hc0 h
 cases k with
 | zero=>exact absurd h (by simp [helmsmanref12_size.f])
 | succ k=>
 simp only [helmsmanref12_size.f] at h
 have HR0:=Aside0.mk hr0
 have HC0:=Aside0.mk hc0
 clear hr0 hc0
 have H:(helmsmanref12_size.l0 k l0 (l0.length:Int) 0)=some r:=h
 clear h
 have H':=Aside0.mk H
 clear H
 go_enter Tryd.func30,Tryd.ntmps30
 go_wp2
 (try simp only [Act.put,List.setIfInBounds_toArray,List.set_cons_succ,List.set_cons_zero])
 go_loopg [3,4] k (fun kq v3 v4 w'=>∃ (x3_1:Int) (x4_1:Int),v3=.int .i64 x3_1∧v4=.int .i64 x4_1∧Aside0 (helmsmanref12_size.l0 kq l0 x3_1 x4_1=some r)∧Aside0 (kq≤k)∧Drawn0 w w')
 case atStart=>exact ⟨((l0.length:Int)),(0),rf_,rf_,H',⟨Nat.le_refl _⟩,by repeat (first|exact Drawn0.refl _|apply Drawn0.step)⟩
 case round=>
  clear H'
  obtain ⟨x3_1,x4_1,rfl,rfl,HA,HK1,⟨m1,rfl⟩⟩:=hrel
  cases gk with
  | zero=>exact absurd HA.out (by simp [helmsmanref12_size.l0])
  | succ k1=>
   have H:=HA.out
   clear HA
   simp only [helmsmanref12_size.l0] at H
   by_cases c2:x4_1 < (l0.length:Int)
   ·rw [if_pos c2] at H
    have c2b0:=decide_eq_true c2
    clear c2
    revert H
    refine gd_ fun c3 H=>?_
    have c3b0:=decide_eq_true c3
    clear c3
    revert H
    refine bd_ fun t105 A4 H=>?_
    have H':=Aside0.mk H
    clear H
    have p104:0≤(x4_1:Int):=of_decide_eq_true as_
    have q104:x4_1 < (l0.length:Int):=of_decide_eq_true as_
    obtain ⟨ad104,A104_3,c104_3,e104,hx104_0,hx104_1,hx104_2,hx104_3,hx104_4,hl104_3,hi104_3⟩:=at_T24 HR0.out x4_1 p104 q104
    cases e104
    have HR104_3:=Aside0.mk hi104_3
    have HC104_3:=Aside0.mk hl104_3
    clear hi104_3 hl104_3
    replace p104:=eq_true p104
    replace q104:=eq_true q104
    go_wp2_with (first|((with_reducible refine gate_callee (f:=30) rfl ?_);refine goesL_ (some 19) rfl rfl Tryd.func30 (by kernel_rfl) rfl #[.slice A104_3 ((rd_T24 l0 x4_1).f3).length c104_3] rfl ar_ ?_;(with_reducible refine (ih k1 (by have:=HK1.out;omega) _ _ ((rd_T24 l0 x4_1).f3) t105 _ ?side1 ?side2 A4.out).mono ?_);(case side1=>repeat (first|exact HR104_3.out|(with_reducible refine Kd.C_alloc ?_ _)|(with_reducible refine Kd.C_drewN ?_ _)|(with_reducible refine Kd.C_drew ?_)));(case side2=>exact HC104_3.out);rintro e w' ⟨rfl,⟨nd,rfl⟩⟩;refine ⟨_,rfl,?_⟩))
    go_roundg k1
    case measure=>have:=HK1.out;omega
    case rel=>exact ⟨(wrap64 (x3_1+t105)),(wrap64 (x4_1+1)),rf_,rf_,H',⟨by have:=HK1.out;omega⟩,by repeat (first|exact Drawn0.refl _|apply Drawn0.step)⟩
   ·rw [if_neg c2] at H
    have c2b0:=decide_eq_false c2
    clear c2
    obtain rfl:=Option.some.inj H
    go_wp2
    go_ret
    exact ⟨by first|rfl|(simp;done)|(simp [*];done),by repeat (first|exact Drawn0.refl _|apply Drawn0.step)⟩
end Go.Proofs.YtnnbbeloifhofaaDoor.P
end
section
namespace Go.Proofs.YtnnbbeloifhofaaDoor.P
open Go.RowKit Go.Proofs.YtnnbbeloifhofaaDoorW.PrintWords Go.Proofs.YtnnbbeloifhofaaDoorW.PrintLast Go.Proofs.YtnnbbeloifhofaaDoorW.PrintMore
attribute [local go_sem] max2_int min2_int max_two min_two max_three min_three max_four min_four
set_option linter.unusedVariables false
set_option linter.unusedSimpArgs false
mutual
def helmsmanref12_Size.l0:Nat→List (S29)→Int→Int→Option (Int)
 | 0,_,_,_=>none
 | k+1,x0,x3,x4=>if x4 < (x0.length:Int) then (if 0≤x4 then ((helmsmanref12_size.f k ((rd_T29 x0 x4).f2)).bind fun t107=>((helmsmanref12_Size.f k ((rd_T29 x0 x4).f3)).bind fun t109=>((helmsmanref12_Size.f k ((rd_T29 x0 x4).f4)).bind fun t111=>(helmsmanref12_Size.l0 k x0 (wrap64 ((wrap64 ((wrap64 (x3+t107))+t109))+t111)) (wrap64 (x4+1)))))) else (none)) else (some x3)
def helmsmanref12_Size.f:Nat→List (S29)→Option (Int)
 | 0,_=>none
 | k+1,l0=>helmsmanref12_Size.l0 k l0 (l0.length:Int) 0
end
def helmsmanref12_Size.T5:Bool × List (List Nat × List Nat):=(true,[([],[]),([],[]),([],[]),([1,2],[1,2]),([3],[3]),([4],[4]),([5],[5]),([0,6],[0,6]),([],[]),([],[]),([8,9],[8,9]),([10],[10]),([11],[11]),([12,6],[12]),([7,13],[7,13]),([],[]),([],[]),([15,16],[15,16]),([17],[17]),([18],[18]),([19,13],[19]),([14,20],[14,20]),([21,20,0,1,2,3,4,5,6,7,8,9,10,11,12,13,14,15,16,17,18,19,20,21],[0,21])])
def helmsmanref12_Size.B5:List Nat:=[0,0,0,6,14,30,62,127,0,0,768,1792,3840,8062,16383,0,0,98304,229376,491520,1032062,2097151,4194303]
theorem helmsmanref12_Size.tab5:rtab .any (opsOf Tryd.f9 5)=helmsmanref12_Size.T5:=by kernel_rfl
theorem helmsmanref12_Size.bits5:waitsOk helmsmanref12_Size.T5.2 helmsmanref12_Size.B5=true:=by kernel_rfl
set_option maxHeartbeats 8000000 in
set_option maxRecDepth 100000 in
theorem helmsmanref12_Size.calls (k:Nat) : ∀ (A0:Option Addr) (c0:Nat) (l0:List (S29)) (r:Int) (w:World) (hr0:Kd.C k29 w A0 l0.length l0) (hc0:l0.length≤c0) (h:helmsmanref12_Size.f k l0=some r),
  Calls Tryd.prog 9 #[.slice A0 l0.length c0] w fun e w'=>e=.returned (.int .i64 r)∧Below w.heap.size w w':=by
 induction k using Nat.strongRecOn with
 | _ k ih=>
 intro A0 c0 l0 r w hr0 hc0 h
 cases k with
 | zero=>exact absurd h (by simp [helmsmanref12_Size.f])
 | succ k=>
 simp only [helmsmanref12_Size.f] at h
 have HR0:=Aside0.mk hr0
 have HC0:=Aside0.mk hc0
 clear hr0 hc0
 have HB:=Aside0.mk (Below.refl w.heap.size w)
 have H:(helmsmanref12_Size.l0 k l0 (l0.length:Int) 0)=some r:=h
 clear h
 have H':=Aside0.mk H
 clear H
 go_enter Tryd.func9,Tryd.ntmps9
 go_wp2
 (try simp only [Act.put,List.setIfInBounds_toArray,List.set_cons_succ,List.set_cons_zero])
 go_loopg [3,4] k (fun kq v3 v4 w'=>∃ (x3_1:Int) (x4_1:Int),v3=.int .i64 x3_1∧v4=.int .i64 x4_1∧Aside0 (helmsmanref12_Size.l0 kq l0 x3_1 x4_1=some r)∧Aside0 (kq≤k)∧Aside0 (Below w.heap.size w w'))
 case atStart=>exact ⟨((l0.length:Int)),(0),rf_,rf_,H',⟨Nat.le_refl _⟩,⟨bl_ HB.out⟩⟩
 case round=>
  clear H'
  obtain ⟨x3_1,x4_1,rfl,rfl,HA,HK1,HB⟩:=hrel
  cases gk with
  | zero=>exact absurd HA.out (by simp [helmsmanref12_Size.l0])
  | succ k1=>
   have H:=HA.out
   clear HA
   simp only [helmsmanref12_Size.l0] at H
   by_cases c2:x4_1 < (l0.length:Int)
   ·rw [if_pos c2] at H
    have c2b0:=decide_eq_true c2
    clear c2
    revert H
    refine gd_ fun c3 H=>?_
    have c3b0:=decide_eq_true c3
    clear c3
    revert H
    refine bd_ fun t107 A4 H=>?_
    revert H
    refine bd_ fun t109 A5 H=>?_
    revert H
    refine bd_ fun t111 A6 H=>?_
    have H':=Aside0.mk H
    clear H
    try go_wp2
    replace HB:=Aside0.mk (below_drew1 HB.out)
    have p106:0≤(x4_1:Int):=of_decide_eq_true as_
    have q106:x4_1 < (l0.length:Int):=of_decide_eq_true as_
    obtain ⟨ad106,A106_2,c106_2,A106_3,c106_3,A106_4,c106_4,e106,hx106_0,hx106_1,hx106_2,hx106_3,hx106_4,hx106_5,hl106_2,hi106_2,hl106_3,hi106_3,hl106_4,hi106_4⟩:=at_T29 HR0.out x4_1 p106 q106
    have hw106_5:=hx106_5
    have hw106_4:=hx106_4
    have hw106_3:=hx106_3
    have hw106_2:=hx106_2
    have hw106_1:=hx106_1
    have hw106_0:=hx106_0
    cases e106
    replace hx106_0:=(cb_ HB.out hx106_0:_)
    replace hx106_1:=(cb_ HB.out hx106_1:_)
    replace hx106_2:=(cb_ HB.out hx106_2:_)
    replace hx106_3:=(cb_ HB.out hx106_3:_)
    replace hx106_4:=(cb_ HB.out hx106_4:_)
    replace hx106_5:=(cb_ HB.out hx106_5:_)
    have HR106_2:=Aside0.mk hi106_2
    have HC106_2:=Aside0.mk hl106_2
    clear hi106_2 hl106_2
    have HR106_3:=Aside0.mk hi106_3
    have HC106_3:=Aside0.mk hl106_3
    clear hi106_3 hl106_3
    have HR106_4:=Aside0.mk hi106_4
    have HC106_4:=Aside0.mk hl106_4
    clear hi106_4 hl106_4
    replace p106:=eq_true p106
    replace q106:=eq_true q106
    have p108:0≤(x4_1:Int):=of_decide_eq_true as_
    have q108:x4_1 < (l0.length:Int):=of_decide_eq_true as_
    obtain ⟨ad108,A108_2,c108_2,A108_3,c108_3,A108_4,c108_4,e108,hx108_0,hx108_1,hx108_2,hx108_3,hx108_4,hx108_5,hl108_2,hi108_2,hl108_3,hi108_3,hl108_4,hi108_4⟩:=at_T29 HR0.out x4_1 p108 q108
    have hw108_5:=hx108_5
    have hw108_4:=hx108_4
    have hw108_3:=hx108_3
    have hw108_2:=hx108_2
    have hw108_1:=hx108_1
    have hw108_0:=hx108_0
    obtain rfl:ad106=ad108:=(by injection e108)
    replace hx108_0:=(cb_ HB.out hx108_0:_)
    replace hx108_1:=(cb_ HB.out hx108_1:_)
    replace hx108_2:=(cb_ HB.out hx108_2:_)
    replace hx108_3:=(cb_ HB.out hx108_3:_)
    replace hx108_4:=(cb_ HB.out hx108_4:_)
    replace hx108_5:=(cb_ HB.out hx108_5:_)
    have HR108_2:=Aside0.mk hi108_2
    have HC108_2:=Aside0.mk hl108_2
    clear hi108_2 hl108_2
    have HR108_3:=Aside0.mk hi108_3
    have HC108_3:=Aside0.mk hl108_3
    clear hi108_3 hl108_3
    have HR108_4:=Aside0.mk hi108_4
    have HC108_4:=Aside0.mk hl108_4
    clear hi108_4 hl108_4
    replace p108:=eq_true p108
    replace q108:=eq_true q108
    have ea_:=Option.some.inj (hx106_2.symm.trans hx108_2)
    injection ea_ with ea_ en_ ec_
    subst ea_
    subst ec_
    clear en_
    have ea_:=Option.some.inj (hx106_3.symm.trans hx108_3)
    injection ea_ with ea_ en_ ec_
    subst ea_
    subst ec_
    clear en_
    have ea_:=Option.some.inj (hx106_4.symm.trans hx108_4)
    injection ea_ with ea_ en_ ec_
    subst ea_
    subst ec_
    clear en_
    have p110:0≤(x4_1:Int):=of_decide_eq_true as_
    have q110:x4_1 < (l0.length:Int):=of_decide_eq_true as_
    obtain ⟨ad110,A110_2,c110_2,A110_3,c110_3,A110_4,c110_4,e110,hx110_0,hx110_1,hx110_2,hx110_3,hx110_4,hx110_5,hl110_2,hi110_2,hl110_3,hi110_3,hl110_4,hi110_4⟩:=at_T29 HR0.out x4_1 p110 q110
    have hw110_5:=hx110_5
    have hw110_4:=hx110_4
    have hw110_3:=hx110_3
    have hw110_2:=hx110_2
    have hw110_1:=hx110_1
    have hw110_0:=hx110_0
    obtain rfl:ad106=ad110:=(by injection e110)
    replace hx110_0:=(cb_ HB.out hx110_0:_)
    replace hx110_1:=(cb_ HB.out hx110_1:_)
    replace hx110_2:=(cb_ HB.out hx110_2:_)
    replace hx110_3:=(cb_ HB.out hx110_3:_)
    replace hx110_4:=(cb_ HB.out hx110_4:_)
    replace hx110_5:=(cb_ HB.out hx110_5:_)
    have HR110_2:=Aside0.mk hi110_2
    have HC110_2:=Aside0.mk hl110_2
    clear hi110_2 hl110_2
    have HR110_3:=Aside0.mk hi110_3
    have HC110_3:=Aside0.mk hl110_3
    clear hi110_3 hl110_3
    have HR110_4:=Aside0.mk hi110_4
    have HC110_4:=Aside0.mk hl110_4
    clear hi110_4 hl110_4
    replace p110:=eq_true p110
    replace q110:=eq_true q110
    have ea_:=Option.some.inj (hx106_2.symm.trans hx110_2)
    injection ea_ with ea_ en_ ec_
    subst ea_
    subst ec_
    clear en_
    have ea_:=Option.some.inj (hx106_3.symm.trans hx110_3)
    injection ea_ with ea_ en_ ec_
    subst ea_
    subst ec_
    clear en_
    have ea_:=Option.some.inj (hx106_4.symm.trans hx110_4)
    injection ea_ with ea_ en_ ec_
    subst ea_
    subst ec_
    clear en_
    refine start_ (n:=23) (S:=fun w'=>w'.cell? (ad106.add ((x4_1).toNat * 6))=some (.string ((rd_T29 l0 x4_1).f0))∧w'.cell? ⟨(ad106.add ((x4_1).toNat * 6)).block,(ad106.add ((x4_1).toNat * 6)).off+1,none⟩=some (.string ((rd_T29 l0 x4_1).f1))∧w'.cell? ⟨(ad106.add ((x4_1).toNat * 6)).block,(ad106.add ((x4_1).toNat * 6)).off+2,none⟩=some (.slice A106_2 ((rd_T29 l0 x4_1).f2).length c106_2)∧w'.cell? ⟨(ad106.add ((x4_1).toNat * 6)).block,(ad106.add ((x4_1).toNat * 6)).off+3,none⟩=some (.slice A106_3 ((rd_T29 l0 x4_1).f3).length c106_3)∧w'.cell? ⟨(ad106.add ((x4_1).toNat * 6)).block,(ad106.add ((x4_1).toNat * 6)).off+4,none⟩=some (.slice A106_4 ((rd_T29 l0 x4_1).f4).length c106_4)∧w'.cell? ⟨(ad106.add ((x4_1).toNat * 6)).block,(ad106.add ((x4_1).toNat * 6)).off+5,none⟩=some (.int .i64 ((rd_T29 l0 x4_1).f5))∧w'.cell? (ad106.add ((x4_1).toNat * 6))=some (.string ((rd_T29 l0 x4_1).f0))∧w'.cell? ⟨(ad106.add ((x4_1).toNat * 6)).block,(ad106.add ((x4_1).toNat * 6)).off+1,none⟩=some (.string ((rd_T29 l0 x4_1).f1))∧w'.cell? ⟨(ad106.add ((x4_1).toNat * 6)).block,(ad106.add ((x4_1).toNat * 6)).off+2,none⟩=some (.slice A106_2 ((rd_T29 l0 x4_1).f2).length c106_2)∧w'.cell? ⟨(ad106.add ((x4_1).toNat * 6)).block,(ad106.add ((x4_1).toNat * 6)).off+3,none⟩=some (.slice A106_3 ((rd_T29 l0 x4_1).f3).length c106_3)∧w'.cell? ⟨(ad106.add ((x4_1).toNat * 6)).block,(ad106.add ((x4_1).toNat * 6)).off+4,none⟩=some (.slice A106_4 ((rd_T29 l0 x4_1).f4).length c106_4)∧w'.cell? ⟨(ad106.add ((x4_1).toNat * 6)).block,(ad106.add ((x4_1).toNat * 6)).off+5,none⟩=some (.int .i64 ((rd_T29 l0 x4_1).f5))∧w'.cell? (ad106.add ((x4_1).toNat * 6))=some (.string ((rd_T29 l0 x4_1).f0))∧w'.cell? ⟨(ad106.add ((x4_1).toNat * 6)).block,(ad106.add ((x4_1).toNat * 6)).off+1,none⟩=some (.string ((rd_T29 l0 x4_1).f1))∧w'.cell? ⟨(ad106.add ((x4_1).toNat * 6)).block,(ad106.add ((x4_1).toNat * 6)).off+2,none⟩=some (.slice A106_2 ((rd_T29 l0 x4_1).f2).length c106_2)∧w'.cell? ⟨(ad106.add ((x4_1).toNat * 6)).block,(ad106.add ((x4_1).toNat * 6)).off+3,none⟩=some (.slice A106_3 ((rd_T29 l0 x4_1).f3).length c106_3)∧w'.cell? ⟨(ad106.add ((x4_1).toNat * 6)).block,(ad106.add ((x4_1).toNat * 6)).off+4,none⟩=some (.slice A106_4 ((rd_T29 l0 x4_1).f4).length c106_4)∧w'.cell? ⟨(ad106.add ((x4_1).toNat * 6)).block,(ad106.add ((x4_1).toNat * 6)).off+5,none⟩=some (.int .i64 ((rd_T29 l0 x4_1).f5))) (ds:=[]) (flg 23 0) (by kernel_rfl) rfl (by kernel_rfl) ⟨((cb_ HB.out hw106_0:_)),((cb_ HB.out hw106_1:_)),((cb_ HB.out hw106_2:_)),((cb_ HB.out hw106_3:_)),((cb_ HB.out hw106_4:_)),((cb_ HB.out hw106_5:_)),((cb_ HB.out hw108_0:_)),((cb_ HB.out hw108_1:_)),((cb_ HB.out hw108_2:_)),((cb_ HB.out hw108_3:_)),((cb_ HB.out hw108_4:_)),((cb_ HB.out hw108_5:_)),((cb_ HB.out hw110_0:_)),((cb_ HB.out hw110_1:_)),((cb_ HB.out hw110_2:_)),((cb_ HB.out hw110_3:_)),((cb_ HB.out hw110_4:_)),((cb_ HB.out hw110_5:_))⟩ (fun hHeld=>?_);refine with_tabW helmsmanref12_Size.tab5 helmsmanref12_Size.bits5 (fun HT_ HW_=>?_)
    generalize wr.drew=w7 at HB HR106_2 HR106_3 HR106_4 HR108_2 HR108_3 HR108_4 HR110_2 HR110_3 HR110_4 hx106_0 hx106_1 hx106_2 hx106_3 hx106_4 hx106_5 hx108_0 hx108_1 hx108_2 hx108_3 hx108_4 hx108_5 hx110_0 hx110_1 hx110_2 hx110_3 hx110_4 hx110_5 hHeld ⊢
    refine pu_ 0 13 (flg 23 1) ?_
    refine pu_ 1 14 (flg 23 3) ?_
    refine pu_ 2 15 (flg 23 7) ?_
    refine pu_ 3 16 (flg 23 15) ?_
    refine pu_ 4 17 (flg 23 31) ?_
    refine pu_ 8 21 (flg 23 287) ?_
    refine pu_ 9 22 (flg 23 799) ?_
    refine pu_ 10 23 (flg 23 1823) ?_
    refine pu_ 11 24 (flg 23 3871) ?_
    refine pu_ 15 28 (flg 23 36639) ?_
    refine pu_ 16 29 (flg 23 102175) ?_
    refine pu_ 17 30 (flg 23 233247) ?_
    refine pu_ 18 31 (flg 23 495391) ?_
    refine ta_ 5 18 (flg 23 495423) hHeld ?_
    refine ta_ 12 25 (flg 23 499519) hHeld ?_
    refine ta_ 19 32 (flg 23 1023807) hHeld ?_
    refine one_ (i:=6) (N:=some 19) (flg 23 1023871) rfl rfl (one_of HT_.out (by kernel_rfl)) (by decide) (fun K hK=>?_)
    refine goes_ Tryd.func30 (by kernel_rfl) rfl #[.slice A106_2 ((rd_T29 l0 x4_1).f2).length c106_2] (by rfl) rfl rfl ar_ ?_
    with_reducible refine (helmsmanref12_size.calls k1 _ _ ((rd_T29 l0 x4_1).f2) t107 _ ?side1 ?side2 A4.out).mono ?_
    (case side1=>exact kc_ HR106_2.out HB.out)
    (case side2=>exact HC106_2.out)
    rintro e w' ⟨rfl,⟨nd,rfl⟩⟩
    refine ⟨_,rfl,?_⟩
    refine hK.out _ _ ⟨((cb_ HB.out hw106_0:_)),((cb_ HB.out hw106_1:_)),((cb_ HB.out hw106_2:_)),((cb_ HB.out hw106_3:_)),((cb_ HB.out hw106_4:_)),((cb_ HB.out hw106_5:_)),((cb_ HB.out hw108_0:_)),((cb_ HB.out hw108_1:_)),((cb_ HB.out hw108_2:_)),((cb_ HB.out hw108_3:_)),((cb_ HB.out hw108_4:_)),((cb_ HB.out hw108_5:_)),((cb_ HB.out hw110_0:_)),((cb_ HB.out hw110_1:_)),((cb_ HB.out hw110_2:_)),((cb_ HB.out hw110_3:_)),((cb_ HB.out hw110_4:_)),((cb_ HB.out hw110_5:_))⟩ (fun hHeld=>?_)
    clear hK K
    refine nm_ ?_
    refine pu_ 7 20 (flg 23 1023999) ?_
    refine one_ (i:=13) (N:=some 26) (flg 23 1032191) rfl rfl (one_of HT_.out (by kernel_rfl)) (by decide) (fun K hK=>?_)
    refine goes_ Tryd.func9 (by kernel_rfl) rfl #[.slice A106_3 ((rd_T29 l0 x4_1).f3).length c106_3] (by rfl) rfl rfl ar_ ?_
    with_reducible refine (ih k1 (by have:=HK1.out;omega) _ _ ((rd_T29 l0 x4_1).f3) t109 _ ?side1 ?side2 A5.out).mono ?_
    (case side1=>repeat (first|exact (Kd.C_below HR108_3.out (bl_ HB.out))|(with_reducible refine Kd.C_alloc ?_ _)|(with_reducible refine Kd.C_drewN ?_ _)|(with_reducible refine Kd.C_drew ?_)))
    (case side2=>exact HC108_3.out)
    rintro e w8 ⟨rfl,hb⟩
    refine ⟨_,rfl,?_⟩
    replace HB:=Aside0.mk (below_step (bl_ HB.out) hb)
    refine ko_ hK (fun hHeld=>?_)
    clear hK K
    refine nm_ ?_
    refine pu_ 14 27 (flg 23 1048575) ?_
    refine one_ (i:=20) (N:=some 33) (flg 23 2097151) rfl rfl (one_of HT_.out (by kernel_rfl)) (by decide) (fun K hK=>?_)
    refine goes_ Tryd.func9 (by kernel_rfl) rfl #[.slice A106_4 ((rd_T29 l0 x4_1).f4).length c106_4] (by rfl) rfl rfl ar_ ?_
    with_reducible refine (ih k1 (by have:=HK1.out;omega) _ _ ((rd_T29 l0 x4_1).f4) t111 _ ?side1 ?side2 A6.out).mono ?_
    (case side1=>exact kc_ HR110_4.out HB.out)
    (case side2=>exact HC110_4.out)
    rintro e w9 ⟨rfl,hb⟩
    refine ⟨_,rfl,?_⟩
    replace HB:=Aside0.mk (below_step (bl_ HB.out) hb)
    refine ko_ hK (fun hHeld=>?_)
    clear hK K
    refine nm_ ?_
    refine pu_ 21 34 (flg 23 4194303) ?_
    refine pu_ 22 3 (flg 23 8388607) ?_
    refine done_ (done_of HT_.out (by kernel_rfl)) ?_
    try go_wp2
    go_roundg k1
    case measure=>have:=HK1.out;omega
    case rel=>exact ⟨(wrap64 ((wrap64 ((wrap64 (x3_1+t107))+t109))+t111)),(wrap64 (x4_1+1)),rf_,rf_,H',⟨by have:=HK1.out;omega⟩,⟨bl_ HB.out⟩⟩
   ·rw [if_neg c2] at H
    have c2b0:=decide_eq_false c2
    clear c2
    obtain rfl:=Option.some.inj H
    go_wp2
    go_ret
    exact ⟨rt_,bl_ HB.out⟩
end Go.Proofs.YtnnbbeloifhofaaDoor.P
end
section
namespace Go.Proofs.YtnnbbeloifhofaaDoor.P
open Go.RowKit Go.Proofs.YtnnbbeloifhofaaDoorW.PrintWords Go.Proofs.YtnnbbeloifhofaaDoorW.PrintLast Go.Proofs.YtnnbbeloifhofaaDoorW.PrintMore
attribute [local go_sem] max2_int min2_int max_two min_two max_three min_three max_four min_four
set_option linter.unusedVariables false
set_option linter.unusedSimpArgs false
mutual
def helmsmanref12_Depth.l0:Nat→List (S29)→Int→Int→Option (Int)
 | 0,_,_,_=>none
 | k+1,x0,x3,x4=>if x4 < (x0.length:Int) then (if 0≤x4 then ((helmsmanref12_Depth.f k ((rd_T29 x0 x4).f3)).bind fun t233=>((helmsmanref12_Depth.f k ((rd_T29 x0 x4).f4)).bind fun t235=>(if t235 > t233 then (if t235 > x3 then (helmsmanref12_Depth.l0 k x0 t235 (wrap64 (x4+1))) else (helmsmanref12_Depth.l0 k x0 x3 (wrap64 (x4+1)))) else (if t233 > x3 then (helmsmanref12_Depth.l0 k x0 t233 (wrap64 (x4+1))) else (helmsmanref12_Depth.l0 k x0 x3 (wrap64 (x4+1))))))) else (none)) else (some (wrap64 (x3+1)))
def helmsmanref12_Depth.f:Nat→List (S29)→Option (Int)
 | 0,_=>none
 | k+1,l0=>if (l0.length:Int)=0 then (some 0) else (helmsmanref12_Depth.l0 k l0 0 0)
end
set_option maxHeartbeats 8000000 in
set_option maxRecDepth 100000 in
theorem helmsmanref12_Depth.calls (k:Nat) : ∀ (A0:Option Addr) (c0:Nat) (l0:List (S29)) (r:Int) (w:World) (hr0:Kd.C k29 w A0 l0.length l0) (hc0:l0.length≤c0) (h:helmsmanref12_Depth.f k l0=some r),
  Calls Tryd.prog 19 #[.slice A0 l0.length c0] w fun e w'=>e=.returned (.int .i64 r)∧Drawn0 w w':=by
 induction k using Nat.strongRecOn with
 | _ k ih=>
 intro A0 c0 l0 r w hr0 hc0 h
 cases k with
 | zero=>exact absurd h (by simp [helmsmanref12_Depth.f])
 | succ k=>
 simp only [helmsmanref12_Depth.f] at h
 have HR0:=Aside0.mk hr0
 have HC0:=Aside0.mk hc0
 clear hr0 hc0
 have H:(if (l0.length:Int)=0 then (some 0) else (helmsmanref12_Depth.l0 k l0 0 0))=some r:=h
 clear h
 by_cases c2:(l0.length:Int)=0
 ·rw [if_pos c2] at H
  have c2b0:((l0.length:Int) == 0)=true:=beq_iff_eq.mpr c2
  have c2b1:((l0.length:Int) != 0)=false:=bne_eq_false_iff_eq.mpr c2
  clear c2
  obtain rfl:=Option.some.inj H
  go_enter Tryd.func19,Tryd.ntmps19
  go_wp2
  go_ret
  exact ⟨by first|rfl|(simp;done)|(simp [*];done),by repeat (first|exact Drawn0.refl _|apply Drawn0.step)⟩
 ·rw [if_neg c2] at H
  have c2b0:((l0.length:Int) == 0)=false:=beq_eq_false_iff_ne.mpr c2
  have c2b1:((l0.length:Int) != 0)=true:=bne_iff_ne.mpr c2
  have c2b2 : ¬ (l0=[]):=fun h_=>c2 (by rw [h_];rfl)
  have H':=Aside0.mk H
  clear H
  go_enter Tryd.func19,Tryd.ntmps19
  go_wp2
  (try simp only [Act.put,List.setIfInBounds_toArray,List.set_cons_succ,List.set_cons_zero])
  go_loopg [3,4] k (fun kq v3 v4 w'=>∃ (x3_1:Int) (x4_1:Int),v3=.int .i64 x3_1∧v4=.int .i64 x4_1∧Aside0 (helmsmanref12_Depth.l0 kq l0 x3_1 x4_1=some r)∧Aside0 (kq≤k)∧Drawn0 w w')
  case atStart=>exact ⟨(0),(0),rf_,rf_,H',⟨Nat.le_refl _⟩,by repeat (first|exact Drawn0.refl _|apply Drawn0.step)⟩
  case round=>
   clear H'
   obtain ⟨x3_1,x4_1,rfl,rfl,HA,HK1,⟨m1,rfl⟩⟩:=hrel
   cases gk with
   | zero=>exact absurd HA.out (by simp [helmsmanref12_Depth.l0])
   | succ k1=>
    have H:=HA.out
    clear HA
    simp only [helmsmanref12_Depth.l0] at H
    by_cases c3:x4_1 < (l0.length:Int)
    ·rw [if_pos c3] at H
     have c3b0:=decide_eq_true c3
     clear c3
     revert H
     refine gd_ fun c4 H=>?_
     have c4b0:=decide_eq_true c4
     clear c4
     revert H
     refine bd_ fun t233 A5 H=>?_
     revert H
     refine bd_ fun t235 A6 H=>?_
     by_cases c7:t235 > t233
     ·rw [if_pos c7] at H
      have c7b0:=decide_eq_true (show _ < _ from c7)
      clear c7
      by_cases c8:t235 > x3_1
      ·rw [if_pos c8] at H
       have c8b0:=decide_eq_true (show _ < _ from c8)
       clear c8
       have H':=Aside0.mk H
       clear H
       have p232:0≤(x4_1:Int):=of_decide_eq_true as_
       have q232:x4_1 < (l0.length:Int):=of_decide_eq_true as_
       obtain ⟨ad232,A232_2,c232_2,A232_3,c232_3,A232_4,c232_4,e232,hx232_0,hx232_1,hx232_2,hx232_3,hx232_4,hx232_5,hl232_2,hi232_2,hl232_3,hi232_3,hl232_4,hi232_4⟩:=at_T29 HR0.out x4_1 p232 q232
       cases e232
       have HR232_2:=Aside0.mk hi232_2
       have HC232_2:=Aside0.mk hl232_2
       clear hi232_2 hl232_2
       have HR232_3:=Aside0.mk hi232_3
       have HC232_3:=Aside0.mk hl232_3
       clear hi232_3 hl232_3
       have HR232_4:=Aside0.mk hi232_4
       have HC232_4:=Aside0.mk hl232_4
       clear hi232_4 hl232_4
       replace p232:=eq_true p232
       replace q232:=eq_true q232
       go_wp2_with (first|((with_reducible refine gate_callee (f:=19) rfl ?_);refine goesL_ (some 21) rfl rfl Tryd.func19 (by kernel_rfl) rfl #[.slice A232_3 ((rd_T29 l0 x4_1).f3).length c232_3] rfl ar_ ?_;(with_reducible refine (ih k1 (by have:=HK1.out;omega) _ _ ((rd_T29 l0 x4_1).f3) t233 _ ?side1 ?side2 A5.out).mono ?_);(case side1=>repeat (first|exact HR232_3.out|(with_reducible refine Kd.C_alloc ?_ _)|(with_reducible refine Kd.C_drewN ?_ _)|(with_reducible refine Kd.C_drew ?_)));(case side2=>exact HC232_3.out);rintro e w' ⟨rfl,⟨nd,rfl⟩⟩;refine ⟨_,rfl,?_⟩;have p234:0≤(x4_1:Int):=of_decide_eq_true as_;have q234:x4_1 < (l0.length:Int):=of_decide_eq_true as_;obtain ⟨ad234,A234_2,c234_2,A234_3,c234_3,A234_4,c234_4,e234,hx234_0,hx234_1,hx234_2,hx234_3,hx234_4,hx234_5,hl234_2,hi234_2,hl234_3,hi234_3,hl234_4,hi234_4⟩:=at_T29 HR0.out x4_1 p234 q234;obtain rfl:ad232=ad234:=(by injection e234);have HR234_2:=Aside0.mk hi234_2;have HC234_2:=Aside0.mk hl234_2;clear hi234_2 hl234_2;have HR234_3:=Aside0.mk hi234_3;have HC234_3:=Aside0.mk hl234_3;clear hi234_3 hl234_3;have HR234_4:=Aside0.mk hi234_4;have HC234_4:=Aside0.mk hl234_4;clear hi234_4 hl234_4;replace p234:=eq_true p234;replace q234:=eq_true q234;have ea_:=Option.some.inj (hx232_2.symm.trans hx234_2);injection ea_ with ea_ en_ ec_;subst ea_;subst ec_;clear en_;have ea_:=Option.some.inj (hx232_3.symm.trans hx234_3);injection ea_ with ea_ en_ ec_;subst ea_;subst ec_;clear en_;have ea_:=Option.some.inj (hx232_4.symm.trans hx234_4);injection ea_ with ea_ en_ ec_;subst ea_;subst ec_;clear en_)|((with_reducible refine gate_callee (f:=19) rfl ?_);refine goesL_ (some 27) rfl rfl Tryd.func19 (by kernel_rfl) rfl #[.slice A232_4 ((rd_T29 l0 x4_1).f4).length c232_4] rfl ar_ ?_;(with_reducible refine (ih k1 (by have:=HK1.out;omega) _ _ ((rd_T29 l0 x4_1).f4) t235 _ ?side1 ?side2 A6.out).mono ?_);(case side1=>repeat (first|exact HR234_4.out|(with_reducible refine Kd.C_alloc ?_ _)|(with_reducible refine Kd.C_drewN ?_ _)|(with_reducible refine Kd.C_drew ?_)));(case side2=>exact HC234_4.out);rintro e w' ⟨rfl,⟨nd,rfl⟩⟩;refine ⟨_,rfl,?_⟩))
       go_roundg k1
       case measure=>have:=HK1.out;omega
       case rel=>exact ⟨(t235),(wrap64 (x4_1+1)),rf_,rf_,H',⟨by have:=HK1.out;omega⟩,by repeat (first|exact Drawn0.refl _|apply Drawn0.step)⟩
      ·rw [if_neg c8] at H
       have c8b0:=decide_eq_false (show ¬ _ < _ from c8)
       clear c8
       have H':=Aside0.mk H
       clear H
       have p232:0≤(x4_1:Int):=of_decide_eq_true as_
       have q232:x4_1 < (l0.length:Int):=of_decide_eq_true as_
       obtain ⟨ad232,A232_2,c232_2,A232_3,c232_3,A232_4,c232_4,e232,hx232_0,hx232_1,hx232_2,hx232_3,hx232_4,hx232_5,hl232_2,hi232_2,hl232_3,hi232_3,hl232_4,hi232_4⟩:=at_T29 HR0.out x4_1 p232 q232
       cases e232
       have HR232_2:=Aside0.mk hi232_2
       have HC232_2:=Aside0.mk hl232_2
       clear hi232_2 hl232_2
       have HR232_3:=Aside0.mk hi232_3
       have HC232_3:=Aside0.mk hl232_3
       clear hi232_3 hl232_3
       have HR232_4:=Aside0.mk hi232_4
       have HC232_4:=Aside0.mk hl232_4
       clear hi232_4 hl232_4
       replace p232:=eq_true p232
       replace q232:=eq_true q232
       go_wp2_with (first|((with_reducible refine gate_callee (f:=19) rfl ?_);refine goesL_ (some 21) rfl rfl Tryd.func19 (by kernel_rfl) rfl #[.slice A232_3 ((rd_T29 l0 x4_1).f3).length c232_3] rfl ar_ ?_;(with_reducible refine (ih k1 (by have:=HK1.out;omega) _ _ ((rd_T29 l0 x4_1).f3) t233 _ ?side1 ?side2 A5.out).mono ?_);(case side1=>repeat (first|exact HR232_3.out|(with_reducible refine Kd.C_alloc ?_ _)|(with_reducible refine Kd.C_drewN ?_ _)|(with_reducible refine Kd.C_drew ?_)));(case side2=>exact HC232_3.out);rintro e w' ⟨rfl,⟨nd,rfl⟩⟩;refine ⟨_,rfl,?_⟩;have p234:0≤(x4_1:Int):=of_decide_eq_true as_;have q234:x4_1 < (l0.length:Int):=of_decide_eq_true as_;obtain ⟨ad234,A234_2,c234_2,A234_3,c234_3,A234_4,c234_4,e234,hx234_0,hx234_1,hx234_2,hx234_3,hx234_4,hx234_5,hl234_2,hi234_2,hl234_3,hi234_3,hl234_4,hi234_4⟩:=at_T29 HR0.out x4_1 p234 q234;obtain rfl:ad232=ad234:=(by injection e234);have HR234_2:=Aside0.mk hi234_2;have HC234_2:=Aside0.mk hl234_2;clear hi234_2 hl234_2;have HR234_3:=Aside0.mk hi234_3;have HC234_3:=Aside0.mk hl234_3;clear hi234_3 hl234_3;have HR234_4:=Aside0.mk hi234_4;have HC234_4:=Aside0.mk hl234_4;clear hi234_4 hl234_4;replace p234:=eq_true p234;replace q234:=eq_true q234;have ea_:=Option.some.inj (hx232_2.symm.trans hx234_2);injection ea_ with ea_ en_ ec_;subst ea_;subst ec_;clear en_;have ea_:=Option.some.inj (hx232_3.symm.trans hx234_3);injection ea_ with ea_ en_ ec_;subst ea_;subst ec_;clear en_;have ea_:=Option.some.inj (hx232_4.symm.trans hx234_4);injection ea_ with ea_ en_ ec_;subst ea_;subst ec_;clear en_)|((with_reducible refine gate_callee (f:=19) rfl ?_);refine goesL_ (some 27) rfl rfl Tryd.func19 (by kernel_rfl) rfl #[.slice A232_4 ((rd_T29 l0 x4_1).f4).length c232_4] rfl ar_ ?_;(with_reducible refine (ih k1 (by have:=HK1.out;omega) _ _ ((rd_T29 l0 x4_1).f4) t235 _ ?side1 ?side2 A6.out).mono ?_);(case side1=>repeat (first|exact HR234_4.out|(with_reducible refine Kd.C_alloc ?_ _)|(with_reducible refine Kd.C_drewN ?_ _)|(with_reducible refine Kd.C_drew ?_)));(case side2=>exact HC234_4.out);rintro e w' ⟨rfl,⟨nd,rfl⟩⟩;refine ⟨_,rfl,?_⟩))
       go_roundg k1
       case measure=>have:=HK1.out;omega
       case rel=>exact ⟨(x3_1),(wrap64 (x4_1+1)),rf_,rf_,H',⟨by have:=HK1.out;omega⟩,by repeat (first|exact Drawn0.refl _|apply Drawn0.step)⟩
     ·rw [if_neg c7] at H
      have c7b0:=decide_eq_false (show ¬ _ < _ from c7)
      clear c7
      by_cases c9:t233 > x3_1
      ·rw [if_pos c9] at H
       have c9b0:=decide_eq_true (show _ < _ from c9)
       clear c9
       have H':=Aside0.mk H
       clear H
       have p232:0≤(x4_1:Int):=of_decide_eq_true as_
       have q232:x4_1 < (l0.length:Int):=of_decide_eq_true as_
       obtain ⟨ad232,A232_2,c232_2,A232_3,c232_3,A232_4,c232_4,e232,hx232_0,hx232_1,hx232_2,hx232_3,hx232_4,hx232_5,hl232_2,hi232_2,hl232_3,hi232_3,hl232_4,hi232_4⟩:=at_T29 HR0.out x4_1 p232 q232
       cases e232
       have HR232_2:=Aside0.mk hi232_2
       have HC232_2:=Aside0.mk hl232_2
       clear hi232_2 hl232_2
       have HR232_3:=Aside0.mk hi232_3
       have HC232_3:=Aside0.mk hl232_3
       clear hi232_3 hl232_3
       have HR232_4:=Aside0.mk hi232_4
       have HC232_4:=Aside0.mk hl232_4
       clear hi232_4 hl232_4
       replace p232:=eq_true p232
       replace q232:=eq_true q232
       go_wp2_with (first|((with_reducible refine gate_callee (f:=19) rfl ?_);refine goesL_ (some 21) rfl rfl Tryd.func19 (by kernel_rfl) rfl #[.slice A232_3 ((rd_T29 l0 x4_1).f3).length c232_3] rfl ar_ ?_;(with_reducible refine (ih k1 (by have:=HK1.out;omega) _ _ ((rd_T29 l0 x4_1).f3) t233 _ ?side1 ?side2 A5.out).mono ?_);(case side1=>repeat (first|exact HR232_3.out|(with_reducible refine Kd.C_alloc ?_ _)|(with_reducible refine Kd.C_drewN ?_ _)|(with_reducible refine Kd.C_drew ?_)));(case side2=>exact HC232_3.out);rintro e w' ⟨rfl,⟨nd,rfl⟩⟩;refine ⟨_,rfl,?_⟩;have p234:0≤(x4_1:Int):=of_decide_eq_true as_;have q234:x4_1 < (l0.length:Int):=of_decide_eq_true as_;obtain ⟨ad234,A234_2,c234_2,A234_3,c234_3,A234_4,c234_4,e234,hx234_0,hx234_1,hx234_2,hx234_3,hx234_4,hx234_5,hl234_2,hi234_2,hl234_3,hi234_3,hl234_4,hi234_4⟩:=at_T29 HR0.out x4_1 p234 q234;obtain rfl:ad232=ad234:=(by injection e234);have HR234_2:=Aside0.mk hi234_2;have HC234_2:=Aside0.mk hl234_2;clear hi234_2 hl234_2;have HR234_3:=Aside0.mk hi234_3;have HC234_3:=Aside0.mk hl234_3;clear hi234_3 hl234_3;have HR234_4:=Aside0.mk hi234_4;have HC234_4:=Aside0.mk hl234_4;clear hi234_4 hl234_4;replace p234:=eq_true p234;replace q234:=eq_true q234;have ea_:=Option.some.inj (hx232_2.symm.trans hx234_2);injection ea_ with ea_ en_ ec_;subst ea_;subst ec_;clear en_;have ea_:=Option.some.inj (hx232_3.symm.trans hx234_3);injection ea_ with ea_ en_ ec_;subst ea_;subst ec_;clear en_;have ea_:=Option.some.inj (hx232_4.symm.trans hx234_4);injection ea_ with ea_ en_ ec_;subst ea_;subst ec_;clear en_)|((with_reducible refine gate_callee (f:=19) rfl ?_);refine goesL_ (some 27) rfl rfl Tryd.func19 (by kernel_rfl) rfl #[.slice A232_4 ((rd_T29 l0 x4_1).f4).length c232_4] rfl ar_ ?_;(with_reducible refine (ih k1 (by have:=HK1.out;omega) _ _ ((rd_T29 l0 x4_1).f4) t235 _ ?side1 ?side2 A6.out).mono ?_);(case side1=>repeat (first|exact HR234_4.out|(with_reducible refine Kd.C_alloc ?_ _)|(with_reducible refine Kd.C_drewN ?_ _)|(with_reducible refine Kd.C_drew ?_)));(case side2=>exact HC234_4.out);rintro e w' ⟨rfl,⟨nd,rfl⟩⟩;refine ⟨_,rfl,?_⟩))
       go_roundg k1
       case measure=>have:=HK1.out;omega
       case rel=>exact ⟨(t233),(wrap64 (x4_1+1)),rf_,rf_,H',⟨by have:=HK1.out;omega⟩,by repeat (first|exact Drawn0.refl _|apply Drawn0.step)⟩
      ·rw [if_neg c9] at H
       have c9b0:=decide_eq_false (show ¬ _ < _ from c9)
       clear c9
       have H':=Aside0.mk H
       clear H
       have p232:0≤(x4_1:Int):=of_decide_eq_true as_
       have q232:x4_1 < (l0.length:Int):=of_decide_eq_true as_
       obtain ⟨ad232,A232_2,c232_2,A232_3,c232_3,A232_4,c232_4,e232,hx232_0,hx232_1,hx232_2,hx232_3,hx232_4,hx232_5,hl232_2,hi232_2,hl232_3,hi232_3,hl232_4,hi232_4⟩:=at_T29 HR0.out x4_1 p232 q232
       cases e232
       have HR232_2:=Aside0.mk hi232_2
       have HC232_2:=Aside0.mk hl232_2
       clear hi232_2 hl232_2
       have HR232_3:=Aside0.mk hi232_3
       have HC232_3:=Aside0.mk hl232_3
       clear hi232_3 hl232_3
       have HR232_4:=Aside0.mk hi232_4
       have HC232_4:=Aside0.mk hl232_4
       clear hi232_4 hl232_4
       replace p232:=eq_true p232
       replace q232:=eq_true q232
       go_wp2_with (first|((with_reducible refine gate_callee (f:=19) rfl ?_);refine goesL_ (some 21) rfl rfl Tryd.func19 (by kernel_rfl) rfl #[.slice A232_3 ((rd_T29 l0 x4_1).f3).length c232_3] rfl ar_ ?_;(with_reducible refine (ih k1 (by have:=HK1.out;omega) _ _ ((rd_T29 l0 x4_1).f3) t233 _ ?side1 ?side2 A5.out).mono ?_);(case side1=>repeat (first|exact HR232_3.out|(with_reducible refine Kd.C_alloc ?_ _)|(with_reducible refine Kd.C_drewN ?_ _)|(with_reducible refine Kd.C_drew ?_)));(case side2=>exact HC232_3.out);rintro e w' ⟨rfl,⟨nd,rfl⟩⟩;refine ⟨_,rfl,?_⟩;have p234:0≤(x4_1:Int):=of_decide_eq_true as_;have q234:x4_1 < (l0.length:Int):=of_decide_eq_true as_;obtain ⟨ad234,A234_2,c234_2,A234_3,c234_3,A234_4,c234_4,e234,hx234_0,hx234_1,hx234_2,hx234_3,hx234_4,hx234_5,hl234_2,hi234_2,hl234_3,hi234_3,hl234_4,hi234_4⟩:=at_T29 HR0.out x4_1 p234 q234;obtain rfl:ad232=ad234:=(by injection e234);have HR234_2:=Aside0.mk hi234_2;have HC234_2:=Aside0.mk hl234_2;clear hi234_2 hl234_2;have HR234_3:=Aside0.mk hi234_3;have HC234_3:=Aside0.mk hl234_3;clear hi234_3 hl234_3;have HR234_4:=Aside0.mk hi234_4;have HC234_4:=Aside0.mk hl234_4;clear hi234_4 hl234_4;replace p234:=eq_true p234;replace q234:=eq_true q234;have ea_:=Option.some.inj (hx232_2.symm.trans hx234_2);injection ea_ with ea_ en_ ec_;subst ea_;subst ec_;clear en_;have ea_:=Option.some.inj (hx232_3.symm.trans hx234_3);injection ea_ with ea_ en_ ec_;subst ea_;subst ec_;clear en_;have ea_:=Option.some.inj (hx232_4.symm.trans hx234_4);injection ea_ with ea_ en_ ec_;subst ea_;subst ec_;clear en_)|((with_reducible refine gate_callee (f:=19) rfl ?_);refine goesL_ (some 27) rfl rfl Tryd.func19 (by kernel_rfl) rfl #[.slice A232_4 ((rd_T29 l0 x4_1).f4).length c232_4] rfl ar_ ?_;(with_reducible refine (ih k1 (by have:=HK1.out;omega) _ _ ((rd_T29 l0 x4_1).f4) t235 _ ?side1 ?side2 A6.out).mono ?_);(case side1=>repeat (first|exact HR234_4.out|(with_reducible refine Kd.C_alloc ?_ _)|(with_reducible refine Kd.C_drewN ?_ _)|(with_reducible refine Kd.C_drew ?_)));(case side2=>exact HC234_4.out);rintro e w' ⟨rfl,⟨nd,rfl⟩⟩;refine ⟨_,rfl,?_⟩))
       go_roundg k1
       case measure=>have:=HK1.out;omega
       case rel=>exact ⟨(x3_1),(wrap64 (x4_1+1)),rf_,rf_,H',⟨by have:=HK1.out;omega⟩,by repeat (first|exact Drawn0.refl _|apply Drawn0.step)⟩
    ·rw [if_neg c3] at H
     have c3b0:=decide_eq_false c3
     clear c3
     obtain rfl:=Option.some.inj H
     go_wp2
     go_ret
     exact ⟨by first|rfl|(simp;done)|(simp [*];done),by repeat (first|exact Drawn0.refl _|apply Drawn0.step)⟩
end Go.Proofs.YtnnbbeloifhofaaDoor.P
end
section
namespace Go.Proofs.YtnnbbeloifhofaaDoor.P
open Go.RowKit Go.Proofs.YtnnbbeloifhofaaDoorW.PrintWords Go.Proofs.YtnnbbeloifhofaaDoorW.PrintLast Go.Proofs.YtnnbbeloifhofaaDoorW.PrintMore
attribute [local go_sem] max2_int min2_int max_two min_two max_three min_three max_four min_four
set_option linter.unusedVariables false
set_option linter.unusedSimpArgs false
mutual
def tree_exprs.l0:Nat→Int→List (S33)→Int→Int→Option (Int)
 | 0,_,_,_,_=>none
 | k+1,x3,x6,x7,x8=>if x8 < x7 then (if 0≤x8 then (if x8 < (x6.length:Int) then ((tree_exprs.f k ((rd_T33 x6 x8).f3)).bind fun t238=>(tree_exprs.l0 k (wrap64 (x3+(wrap64 (1+t238)))) x6 x7 (wrap64 (x8+1)))) else (none)) else (none)) else (some x3)
def tree_exprs.f:Nat→List (S33)→Option (Int)
 | 0,_=>none
 | k+1,l0=>tree_exprs.l0 k 0 l0 (l0.length:Int) 0
end
set_option maxHeartbeats 8000000 in
set_option maxRecDepth 100000 in
theorem tree_exprs.calls (k:Nat) : ∀ (A0:Option Addr) (c0:Nat) (l0:List (S33)) (r:Int) (w:World) (hr0:Kd.C k33 w A0 l0.length l0) (hc0:l0.length≤c0) (h:tree_exprs.f k l0=some r),
  Calls Tryd.prog 57 #[.slice A0 l0.length c0] w fun e w'=>e=.returned (.int .i64 r)∧Below w.heap.size w w':=by
 induction k using Nat.strongRecOn with
 | _ k ih=>
 intro A0 c0 l0 r w hr0 hc0 h
 cases k with
 | zero=>exact absurd h (by simp [tree_exprs.f])
 | succ k=>
 simp only [tree_exprs.f] at h
 have hu33:=Tryd.underlying33
 have HR0:=Aside0.mk hr0
 have HC0:=Aside0.mk hc0
 clear hr0 hc0
 have HB:=Aside0.mk (Below.refl w.heap.size w)
 have H:(tree_exprs.l0 k 0 l0 (l0.length:Int) 0)=some r:=h
 clear h
 have H':=Aside0.mk H
 clear H
 go_enter Tryd.func57,Tryd.ntmps57
 go_wp2
 (try simp only [Act.put,List.setIfInBounds_toArray,List.set_cons_succ,List.set_cons_zero])
 go_loopg [3,8] k (fun kq v3 v8 w'=>∃ (x3_1:Int) (x8_1:Int),v3=.int .i64 x3_1∧v8=.int .i64 x8_1∧Aside0 (tree_exprs.l0 kq x3_1 l0 (l0.length:Int) x8_1=some r)∧Aside0 (kq≤k)∧Aside0 (Below w.heap.size w w'))
 case atStart=>exact ⟨(0),(0),rf_,rf_,H',⟨Nat.le_refl _⟩,⟨bl_ HB.out⟩⟩
 case round=>
  clear H'
  obtain ⟨x3_1,x8_1,rfl,rfl,HA,HK1,HB⟩:=hrel
  cases gk with
  | zero=>exact absurd HA.out (by simp [tree_exprs.l0])
  | succ k1=>
   have H:=HA.out
   clear HA
   simp only [tree_exprs.l0] at H
   by_cases c2:x8_1 < (l0.length:Int)
   ·rw [if_pos c2] at H
    have c2b0:=decide_eq_true c2
    clear c2
    revert H
    refine gd_ fun c3 H=>?_
    have c3b0:=decide_eq_true c3
    clear c3
    revert H
    refine gd_ fun c4 H=>?_
    have c4b0:=decide_eq_true c4
    clear c4
    revert H
    refine bd_ fun t238 A5 H=>?_
    have H':=Aside0.mk H
    clear H
    have p236:0≤(x8_1:Int):=of_decide_eq_true as_
    have q236:x8_1 < (l0.length:Int):=of_decide_eq_true as_
    obtain ⟨ad236,A236_3,c236_3,e236,hx236_0,hx236_1,hx236_2,hx236_3,hx236_4,hl236_3,hi236_3⟩:=at_T33 HR0.out x8_1 p236 q236
    cases e236
    replace hx236_0:=(cb_ HB.out hx236_0:_)
    replace hx236_1:=(cb_ HB.out hx236_1:_)
    replace hx236_2:=(cb_ HB.out hx236_2:_)
    replace hx236_3:=(cb_ HB.out hx236_3:_)
    replace hx236_4:=(cb_ HB.out hx236_4:_)
    have HR236_3:=Aside0.mk hi236_3
    have HC236_3:=Aside0.mk hl236_3
    clear hi236_3 hl236_3
    replace p236:=eq_true p236
    replace q236:=eq_true q236
    go_wp2_with (first|((with_reducible refine gate_dst (N:=5) rfl ?_);refine bx_ (N:=5) (cs:=#[.string (⟨#[]⟩:ByteArray),.string (⟨#[]⟩:ByteArray),.int .i64 0,.slice none 0 0,.int .i64 0]) (t:=33) ?_;intro gb237 hg w6 hbox hb;have BK237:=Aside0.mk (hbox);have GW237:=Aside0.mk ((gs_ hg (bl_ HB.out):w.heap.size≤gb237));have GE237:=Aside0.mk ((gs_ hg (bl_ HB.out):w.heap.size≤gb237));replace HB:=Aside0.mk (below_step (bl_ HB.out) hb);clear hb hbox hg;obtain ⟨hcz7_0,hcz7_1,hcz7_2,hcz7_3,hcz7_4,hfz7_0,hfz7_1,hfz7_2,hfz7_3,hfz7_4⟩:=zf5_ BK237.out)|((with_reducible refine gate_callee (f:=57) rfl ?_);refine goesL_ (some 15) rfl rfl Tryd.func57 (by kernel_rfl) rfl #[.slice A236_3 ((rd_T33 l0 x8_1).f3).length c236_3] rfl ar_ ?_;(with_reducible refine (ih k1 (by have:=HK1.out;omega) _ _ ((rd_T33 l0 x8_1).f3) t238 _ ?side1 ?side2 A5.out).mono ?_);(case side1=>exact Kd.C_below HR236_3.out (bl_ HB.out));(case side2=>exact HC236_3.out);rintro e w8 ⟨rfl,hb⟩;refine ⟨_,rfl,?_⟩;replace BK237:=Aside0.mk (blk_below (g:=gb237) (o:=.cells #[.string ((rd_T33 l0 x8_1).f0),.string ((rd_T33 l0 x8_1).f1),.int .i64 ((rd_T33 l0 x8_1).f2),.slice A236_3 ((rd_T33 l0 x8_1).f3).length c236_3,.int .i64 ((rd_T33 l0 x8_1).f4)] 33 (0,0)) (kbc_ BK237.out) hb);replace HB:=Aside0.mk (below_step (bl_ HB.out) hb)))
    go_roundg k1
    case measure=>have:=HK1.out;omega
    case rel=>exact ⟨(wrap64 (x3_1+(wrap64 (1+t238)))),(wrap64 (x8_1+1)),rf_,rf_,H',⟨by have:=HK1.out;omega⟩,⟨bl_ HB.out⟩⟩
   ·rw [if_neg c2] at H
    have c2b0:=decide_eq_false c2
    clear c2
    obtain rfl:=Option.some.inj H
    go_wp2
    go_ret
    exact ⟨rt_,bl_ HB.out⟩
end Go.Proofs.YtnnbbeloifhofaaDoor.P
end
section
namespace Go.Proofs.YtnnbbeloifhofaaDoor.P
open Go.RowKit Go.Proofs.YtnnbbeloifhofaaDoorW.PrintWords Go.Proofs.YtnnbbeloifhofaaDoorW.PrintLast Go.Proofs.YtnnbbeloifhofaaDoorW.PrintMore
attribute [local go_sem] max2_int min2_int max_two min_two max_three min_three max_four min_four
set_option linter.unusedVariables false
set_option linter.unusedSimpArgs false
mutual
def tree_stmts.l0:Nat→Int→List (S76)→Int→Int→Option (Int)
 | 0,_,_,_,_=>none
 | k+1,x3,x6,x7,x8=>if x8 < x7 then (if 0≤x8 then (if x8 < (x6.length:Int) then ((tree_exprs.f k ((rd_T76 x6 x8).f2)).bind fun t241=>((tree_stmts.f k ((rd_T76 x6 x8).f3)).bind fun t242=>((tree_stmts.f k ((rd_T76 x6 x8).f4)).bind fun t243=>(tree_stmts.l0 k (wrap64 (x3+(wrap64 ((wrap64 ((wrap64 (1+t241))+t242))+t243)))) x6 x7 (wrap64 (x8+1)))))) else (none)) else (none)) else (some x3)
def tree_stmts.f:Nat→List (S76)→Option (Int)
 | 0,_=>none
 | k+1,l0=>tree_stmts.l0 k 0 l0 (l0.length:Int) 0
end
def tree_stmts.T5:Bool × List (List Nat × List Nat):=(true,[([],[]),([],[]),([1],[1]),([2],[2]),([3],[3]),([],[]),([5],[5]),([6,3],[6]),([4,7],[4,7]),([],[]),([9],[9]),([10,7],[10]),([8,11],[8,11]),([0,12],[0,12]),([13,11,0,1,2,3,4,5,6,7,8,9,10,11,12,13],[0,13])])
def tree_stmts.B5:List Nat:=[0,0,2,6,14,0,32,110,254,0,512,1774,4094,8191,16383]
theorem tree_stmts.tab5:rtab .any (opsOf Tryd.f36 5)=tree_stmts.T5:=by kernel_rfl
theorem tree_stmts.bits5:waitsOk tree_stmts.T5.2 tree_stmts.B5=true:=by kernel_rfl
set_option maxHeartbeats 8000000 in
set_option maxRecDepth 100000 in
theorem tree_stmts.calls (k:Nat) : ∀ (A0:Option Addr) (c0:Nat) (l0:List (S76)) (r:Int) (w:World) (hr0:Kd.C k76 w A0 l0.length l0) (hc0:l0.length≤c0) (h:tree_stmts.f k l0=some r),
  Calls Tryd.prog 36 #[.slice A0 l0.length c0] w fun e w'=>e=.returned (.int .i64 r)∧Below w.heap.size w w':=by
 induction k using Nat.strongRecOn with
 | _ k ih=>
 intro A0 c0 l0 r w hr0 hc0 h
 cases k with
 | zero=>exact absurd h (by simp [tree_stmts.f])
 | succ k=>
 simp only [tree_stmts.f] at h
 have hu76:=Tryd.underlying76
 have HR0:=Aside0.mk hr0
 have HC0:=Aside0.mk hc0
 clear hr0 hc0
 have HB:=Aside0.mk (Below.refl w.heap.size w)
 have H:(tree_stmts.l0 k 0 l0 (l0.length:Int) 0)=some r:=h
 clear h
 have H':=Aside0.mk H
 clear H
 go_enter Tryd.func36,Tryd.ntmps36
 go_wp2
 (try simp only [Act.put,List.setIfInBounds_toArray,List.set_cons_succ,List.set_cons_zero])
 go_loopg [3,8] k (fun kq v3 v8 w'=>∃ (x3_1:Int) (x8_1:Int),v3=.int .i64 x3_1∧v8=.int .i64 x8_1∧Aside0 (tree_stmts.l0 kq x3_1 l0 (l0.length:Int) x8_1=some r)∧Aside0 (kq≤k)∧Aside0 (Below w.heap.size w w'))
 case atStart=>exact ⟨(0),(0),rf_,rf_,H',⟨Nat.le_refl _⟩,⟨bl_ HB.out⟩⟩
 case round=>
  clear H'
  obtain ⟨x3_1,x8_1,rfl,rfl,HA,HK1,HB⟩:=hrel
  cases gk with
  | zero=>exact absurd HA.out (by simp [tree_stmts.l0])
  | succ k1=>
   have H:=HA.out
   clear HA
   simp only [tree_stmts.l0] at H
   by_cases c2:x8_1 < (l0.length:Int)
   ·rw [if_pos c2] at H
    have c2b0:=decide_eq_true c2
    clear c2
    revert H
    refine gd_ fun c3 H=>?_
    have c3b0:=decide_eq_true c3
    clear c3
    revert H
    refine gd_ fun c4 H=>?_
    have c4b0:=decide_eq_true c4
    clear c4
    revert H
    refine bd_ fun t241 A5 H=>?_
    revert H
    refine bd_ fun t242 A6 H=>?_
    revert H
    refine bd_ fun t243 A7 H=>?_
    have H':=Aside0.mk H
    clear H
    have p239:0≤(x8_1:Int):=of_decide_eq_true as_
    have q239:x8_1 < (l0.length:Int):=of_decide_eq_true as_
    obtain ⟨ad239,A239_2,c239_2,A239_3,c239_3,A239_4,c239_4,e239,hx239_0,hx239_1,hx239_2,hx239_3,hx239_4,hx239_5,hl239_2,hi239_2,hl239_3,hi239_3,hl239_4,hi239_4⟩:=at_T76 HR0.out x8_1 p239 q239
    cases e239
    replace hx239_0:=(cb_ HB.out hx239_0:_)
    replace hx239_1:=(cb_ HB.out hx239_1:_)
    replace hx239_2:=(cb_ HB.out hx239_2:_)
    replace hx239_3:=(cb_ HB.out hx239_3:_)
    replace hx239_4:=(cb_ HB.out hx239_4:_)
    replace hx239_5:=(cb_ HB.out hx239_5:_)
    have HR239_2:=Aside0.mk hi239_2
    have HC239_2:=Aside0.mk hl239_2
    clear hi239_2 hl239_2
    have HR239_3:=Aside0.mk hi239_3
    have HC239_3:=Aside0.mk hl239_3
    clear hi239_3 hl239_3
    have HR239_4:=Aside0.mk hi239_4
    have HC239_4:=Aside0.mk hl239_4
    clear hi239_4 hl239_4
    replace p239:=eq_true p239
    replace q239:=eq_true q239
    try go_wp2_with (first|((with_reducible refine gate_dst (N:=5) rfl ?_);refine bx_ (N:=5) (cs:=#[.string (⟨#[]⟩:ByteArray),.string (⟨#[]⟩:ByteArray),.slice none 0 0,.slice none 0 0,.slice none 0 0,.int .i64 0]) (t:=76) ?_;intro gb240 hg w8 hbox hb;have BK240:=Aside0.mk (hbox);have GW240:=Aside0.mk ((gs_ hg (bl_ HB.out):w.heap.size≤gb240));have GE240:=Aside0.mk ((gs_ hg (bl_ HB.out):w.heap.size≤gb240));replace HB:=Aside0.mk (below_step (bl_ HB.out) hb);clear hb hbox hg;obtain ⟨hcz9_0,hcz9_1,hcz9_2,hcz9_3,hcz9_4,hcz9_5,hfz9_0,hfz9_1,hfz9_2,hfz9_3,hfz9_4,hfz9_5⟩:=zf6_ BK240.out))
    have n0_:Aside0 (((((((w8.setCell ⟨gb240,0,none⟩ (.string ((rd_T76 l0 x8_1).f0))).setCell ⟨gb240,1,none⟩ (.string ((rd_T76 l0 x8_1).f1))).setCell ⟨gb240,2,none⟩ (.slice A239_2 ((rd_T76 l0 x8_1).f2).length c239_2)).setCell ⟨gb240,3,none⟩ (.slice A239_3 ((rd_T76 l0 x8_1).f3).length c239_3)).setCell ⟨gb240,4,none⟩ (.slice A239_4 ((rd_T76 l0 x8_1).f4).length c239_4)).setCell ⟨gb240,5,none⟩ (.int .i64 ((rd_T76 l0 x8_1).f5))).heap[gb240]?=some (.cells #[.string ((rd_T76 l0 x8_1).f0),.string ((rd_T76 l0 x8_1).f1),.slice A239_2 ((rd_T76 l0 x8_1).f2).length c239_2,.slice A239_3 ((rd_T76 l0 x8_1).f3).length c239_3,.slice A239_4 ((rd_T76 l0 x8_1).f4).length c239_4,.int .i64 ((rd_T76 l0 x8_1).f5)] 76 (0,0))):=⟨kbc_ BK240.out⟩
    have n1_:Aside0 (Below w.heap.size w ((((((w8.setCell ⟨gb240,0,none⟩ (.string ((rd_T76 l0 x8_1).f0))).setCell ⟨gb240,1,none⟩ (.string ((rd_T76 l0 x8_1).f1))).setCell ⟨gb240,2,none⟩ (.slice A239_2 ((rd_T76 l0 x8_1).f2).length c239_2)).setCell ⟨gb240,3,none⟩ (.slice A239_3 ((rd_T76 l0 x8_1).f3).length c239_3)).setCell ⟨gb240,4,none⟩ (.slice A239_4 ((rd_T76 l0 x8_1).f4).length c239_4)).setCell ⟨gb240,5,none⟩ (.int .i64 ((rd_T76 l0 x8_1).f5)))):=⟨bl_ HB.out⟩
    (try clear BK240)
    (try clear HB)
    generalize ((((((w8.setCell ⟨gb240,0,none⟩ (.string ((rd_T76 l0 x8_1).f0))).setCell ⟨gb240,1,none⟩ (.string ((rd_T76 l0 x8_1).f1))).setCell ⟨gb240,2,none⟩ (.slice A239_2 ((rd_T76 l0 x8_1).f2).length c239_2)).setCell ⟨gb240,3,none⟩ (.slice A239_3 ((rd_T76 l0 x8_1).f3).length c239_3)).setCell ⟨gb240,4,none⟩ (.slice A239_4 ((rd_T76 l0 x8_1).f4).length c239_4)).setCell ⟨gb240,5,none⟩ (.int .i64 ((rd_T76 l0 x8_1).f5)))=w10 at n0_ n1_ ⊢
    have BK240:=n0_
    have HB:=n1_
    clear n0_ n1_
    replace BK240:=Aside0.mk (blk_drew BK240.out)
    replace HB:=Aside0.mk (below_drew1 HB.out)
    refine start_ (n:=15) (S:=fun w'=>w'.cell? ⟨gb240,0,none⟩=some (.string ((rd_T76 l0 x8_1).f0))∧w'.cell? ⟨gb240,1,none⟩=some (.string ((rd_T76 l0 x8_1).f1))∧w'.cell? ⟨gb240,2,none⟩=some (.slice A239_2 ((rd_T76 l0 x8_1).f2).length c239_2)∧w'.cell? ⟨gb240,3,none⟩=some (.slice A239_3 ((rd_T76 l0 x8_1).f3).length c239_3)∧w'.cell? ⟨gb240,4,none⟩=some (.slice A239_4 ((rd_T76 l0 x8_1).f4).length c239_4)∧w'.cell? ⟨gb240,5,none⟩=some (.int .i64 ((rd_T76 l0 x8_1).f5))) (ds:=[]) (flg 15 0) (by kernel_rfl) rfl (by kernel_rfl) ⟨zc_ BK240.out 0,zc_ BK240.out 1,zc_ BK240.out 2,zc_ BK240.out 3,zc_ BK240.out 4,zc_ BK240.out 5⟩ (fun hHeld=>?_);refine with_tabW tree_stmts.tab5 tree_stmts.bits5 (fun HT_ HW_=>?_)
    generalize w10.drew=w11 at BK240 HB hHeld ⊢
    refine pu_ 0 12 (flg 15 1) ?_
    refine pu_ 1 13 (flg 15 3) ?_
    refine pu_ 5 17 (flg 15 35) ?_
    refine pu_ 9 21 (flg 15 547) ?_
    refine ta_ 2 14 (flg 15 551) hHeld ?_
    refine ta_ 6 18 (flg 15 615) hHeld ?_
    refine ta_ 10 22 (flg 15 1639) hHeld ?_
    refine one_ (i:=3) (N:=some 15) (flg 15 1647) rfl rfl (one_of HT_.out (by kernel_rfl)) (by decide) (fun K hK=>?_)
    refine goes_ Tryd.func57 (by kernel_rfl) rfl #[.slice A239_2 ((rd_T76 l0 x8_1).f2).length c239_2] (by rfl) rfl rfl ar_ ?_
    with_reducible refine (tree_exprs.calls k1 _ _ ((rd_T76 l0 x8_1).f2) t241 _ ?side1 ?side2 A5.out).mono ?_
    (case side1=>exact kc_ HR239_2.out HB.out)
    (case side2=>exact HC239_2.out)
    rintro e w12 ⟨rfl,hb⟩
    refine ⟨_,rfl,?_⟩
    replace BK240:=Aside0.mk (bb_ BK240.out hb)
    replace HB:=Aside0.mk (below_step (bl_ HB.out) hb)
    refine ko_ hK (fun hHeld=>?_)
    clear hK K
    refine nm_ ?_
    refine pu_ 4 16 (flg 15 1663) ?_
    refine one_ (i:=7) (N:=some 19) (flg 15 1791) rfl rfl (one_of HT_.out (by kernel_rfl)) (by decide) (fun K hK=>?_)
    refine goes_ Tryd.func36 (by kernel_rfl) rfl #[.slice A239_3 ((rd_T76 l0 x8_1).f3).length c239_3] (by rfl) rfl rfl ar_ ?_
    with_reducible refine (ih k1 (by have:=HK1.out;omega) _ _ ((rd_T76 l0 x8_1).f3) t242 _ ?side1 ?side2 A6.out).mono ?_
    (case side1=>exact kc_ HR239_3.out HB.out)
    (case side2=>exact HC239_3.out)
    rintro e w13 ⟨rfl,hb⟩
    refine ⟨_,rfl,?_⟩
    replace BK240:=Aside0.mk (bb_ BK240.out hb)
    replace HB:=Aside0.mk (below_step (bl_ HB.out) hb)
    refine ko_ hK (fun hHeld=>?_)
    clear hK K
    refine nm_ ?_
    refine pu_ 8 20 (flg 15 2047) ?_
    refine one_ (i:=11) (N:=some 23) (flg 15 4095) rfl rfl (one_of HT_.out (by kernel_rfl)) (by decide) (fun K hK=>?_)
    refine goes_ Tryd.func36 (by kernel_rfl) rfl #[.slice A239_4 ((rd_T76 l0 x8_1).f4).length c239_4] (by rfl) rfl rfl ar_ ?_
    with_reducible refine (ih k1 (by have:=HK1.out;omega) _ _ ((rd_T76 l0 x8_1).f4) t243 _ ?side1 ?side2 A7.out).mono ?_
    (case side1=>exact kc_ HR239_4.out HB.out)
    (case side2=>exact HC239_4.out)
    rintro e w14 ⟨rfl,hb⟩
    refine ⟨_,rfl,?_⟩
    replace BK240:=Aside0.mk (bb_ BK240.out hb)
    replace HB:=Aside0.mk (below_step (bl_ HB.out) hb)
    refine ko_ hK (fun hHeld=>?_)
    clear hK K
    refine nm_ ?_
    refine pu_ 12 24 (flg 15 8191) ?_
    refine pu_ 13 25 (flg 15 16383) ?_
    refine pu_ 14 3 (flg 15 32767) ?_
    refine done_ (done_of HT_.out (by kernel_rfl)) ?_
    try go_wp2
    go_roundg k1
    case measure=>have:=HK1.out;omega
    case rel=>exact ⟨(wrap64 (x3_1+(wrap64 ((wrap64 ((wrap64 (1+t241))+t242))+t243)))),(wrap64 (x8_1+1)),rf_,rf_,H',⟨by have:=HK1.out;omega⟩,⟨bl_ HB.out⟩⟩
   ·rw [if_neg c2] at H
    have c2b0:=decide_eq_false c2
    clear c2
    obtain rfl:=Option.some.inj H
    go_wp2
    go_ret
    exact ⟨rt_,bl_ HB.out⟩
end Go.Proofs.YtnnbbeloifhofaaDoor.P
end
section
namespace Go.Proofs.YtnnbbeloifhofaaDoor.P
open Go.RowKit Go.Proofs.YtnnbbeloifhofaaDoorW.PrintWords Go.Proofs.YtnnbbeloifhofaaDoorW.PrintLast Go.Proofs.YtnnbbeloifhofaaDoorW.PrintMore
attribute [local go_sem] max2_int min2_int max_two min_two max_three min_three max_four min_four
set_option linter.unusedVariables false
set_option linter.unusedSimpArgs false
mutual
def tree_Deep.l0:Nat→Int→List (S33)→Int→Int→Option (Int)
 | 0,_,_,_,_=>none
 | k+1,x3,x7,x8,x9=>if x9 < x8 then (if 0≤x9 then (if x9 < (x7.length:Int) then ((tree_Deep.f k ((rd_T33 x7 x9).f0) ((rd_T33 x7 x9).f1) ((rd_T33 x7 x9).f2) ((rd_T33 x7 x9).f3) ((rd_T33 x7 x9).f4)).bind fun t170=>(tree_Deep.l0 k (mx x3 t170) x7 x8 (wrap64 (x9+1)))) else (none)) else (none)) else (some (wrap64 (x3+1)))
def tree_Deep.f:Nat→ByteArray→ByteArray→Int→List (S33)→Int→Option (Int)
 | 0,_,_,_,_,_=>none
 | k+1,a0_0,a0_1,a0_2,l0_3,a0_4=>tree_Deep.l0 k 0 l0_3 (l0_3.length:Int) 0
end
set_option maxHeartbeats 8000000 in
set_option maxRecDepth 100000 in
theorem tree_Deep.calls (k:Nat) : ∀ (a0_0:ByteArray) (a0_1:ByteArray) (a0_2:Int) (A0_3:Option Addr) (c0_3:Nat) (l0_3:List (S33)) (a0_4:Int) (r:Int) (w:World) (hr0_3:Kd.C k33 w A0_3 l0_3.length l0_3) (hc0_3:l0_3.length≤c0_3) (h:tree_Deep.f k a0_0 a0_1 a0_2 l0_3 a0_4=some r),
  Calls Tryd.prog 14 #[.agg #[.string a0_0,.string a0_1,.int .i64 a0_2,.slice A0_3 l0_3.length c0_3,.int .i64 a0_4]] w fun e w'=>e=.returned (.int .i64 r)∧Below w.heap.size w w':=by
 induction k using Nat.strongRecOn with
 | _ k ih=>
 intro a0_0 a0_1 a0_2 A0_3 c0_3 l0_3 a0_4 r w hr0_3 hc0_3 h
 cases k with
 | zero=>exact absurd h (by simp [tree_Deep.f])
 | succ k=>
 simp only [tree_Deep.f] at h
 have hu33:=Tryd.underlying33
 have HR0_3:=Aside0.mk hr0_3
 have HC0_3:=Aside0.mk hc0_3
 clear hr0_3 hc0_3
 have HB:=Aside0.mk (Below.refl w.heap.size w)
 have H:(tree_Deep.l0 k 0 l0_3 (l0_3.length:Int) 0)=some r:=h
 clear h
 have H':=Aside0.mk H
 clear H
 go_enter Tryd.func14,Tryd.ntmps14
 go_wp2_with (first|((with_reducible refine gate_dst (N:=1) rfl ?_);refine bx_ (N:=1) (cs:=#[.string a0_0,.string a0_1,.int .i64 a0_2,.slice A0_3 l0_3.length c0_3,.int .i64 a0_4]) (t:=33) ?_;intro gb167 hg w2 hbox hb;have BK167:=Aside0.mk (hbox);have GW167:=Aside0.mk ((gs_ hg (bl_ HB.out):w.heap.size≤gb167));have GE167:=Aside0.mk ((gs_ hg (bl_ HB.out):w.heap.size≤gb167));replace HB:=Aside0.mk (below_step (bl_ HB.out) hb);clear hb hbox hg;obtain ⟨hcz3_0,hcz3_1,hcz3_2,hcz3_3,hcz3_4,hfz3_0,hfz3_1,hfz3_2,hfz3_3,hfz3_4⟩:=zf5_ BK167.out))
 (try simp only [Act.put,List.setIfInBounds_toArray,List.set_cons_succ,List.set_cons_zero])
 go_loopg [3,9] k (fun kq v3 v9 w'=>∃ (x3_1:Int) (x9_1:Int),v3=.int .i64 x3_1∧v9=.int .i64 x9_1∧Aside0 (tree_Deep.l0 kq x3_1 l0_3 (l0_3.length:Int) x9_1=some r)∧Aside0 (kq≤k)∧Aside0 (w'.heap[gb167]?=some (.cells #[.string a0_0,.string a0_1,.int .i64 a0_2,(.slice A0_3 l0_3.length c0_3),.int .i64 a0_4] 33 (0,0)))∧Aside0 (Below w.heap.size w w'))
 case atStart=>exact ⟨(0),(0),rf_,rf_,H',⟨Nat.le_refl _⟩,⟨kb_ BK167.out⟩,⟨bl_ HB.out⟩⟩
 case round=>
  clear H'
  obtain ⟨x3_1,x9_1,rfl,rfl,HA,HK1,BK167,HB⟩:=hrel
  cases gk with
  | zero=>exact absurd HA.out (by simp [tree_Deep.l0])
  | succ k1=>
   have H:=HA.out
   clear HA
   simp only [tree_Deep.l0] at H
   by_cases c4:x9_1 < (l0_3.length:Int)
   ·rw [if_pos c4] at H
    have c4b0:=decide_eq_true c4
    clear c4
    revert H
    refine gd_ fun c5 H=>?_
    have c5b0:=decide_eq_true c5
    clear c5
    revert H
    refine gd_ fun c6 H=>?_
    have c6b0:=decide_eq_true c6
    clear c6
    revert H
    refine bd_ fun t170 A7 H=>?_
    obtain ⟨ji8,hji8⟩ : ∃ j_:Int,(mx x3_1 t170)=j_:=⟨_,rfl⟩
    replace H:(tree_Deep.l0 k1 ji8 l0_3 (l0_3.length:Int) (wrap64 (x9_1+1)))=some r:=by first|(rw [hji8] at H;exact H)|(simp only [hji8] at H ⊢;exact H)
    (try rw [hji8] at A7)
    have hji8_:(if x3_1 < t170 then t170 else x3_1)=ji8:=hji8
    have H':=Aside0.mk H
    clear H
    have p168:0≤(x9_1:Int):=of_decide_eq_true as_
    have q168:x9_1 < (l0_3.length:Int):=of_decide_eq_true as_
    obtain ⟨ad168,A168_3,c168_3,e168,hx168_0,hx168_1,hx168_2,hx168_3,hx168_4,hl168_3,hi168_3⟩:=at_T33 HR0_3.out x9_1 p168 q168
    cases e168
    replace hx168_0:=(cb_ HB.out hx168_0:_)
    replace hx168_1:=(cb_ HB.out hx168_1:_)
    replace hx168_2:=(cb_ HB.out hx168_2:_)
    replace hx168_3:=(cb_ HB.out hx168_3:_)
    replace hx168_4:=(cb_ HB.out hx168_4:_)
    have HR168_3:=Aside0.mk hi168_3
    have HC168_3:=Aside0.mk hl168_3
    clear hi168_3 hl168_3
    replace p168:=eq_true p168
    replace q168:=eq_true q168
    go_wp2_with (first|((with_reducible refine gate_dst (N:=5) rfl ?_);refine bx_ (N:=5) (cs:=#[.string (⟨#[]⟩:ByteArray),.string (⟨#[]⟩:ByteArray),.int .i64 0,.slice none 0 0,.int .i64 0]) (t:=33) ?_;intro gb169 hg w9 hbox hb;have BK169:=Aside0.mk (hbox);have GW169:=Aside0.mk ((gs_ hg (bl_ HB.out):w.heap.size≤gb169));have GE169:=Aside0.mk ((gs_ hg (bl_ HB.out):w.heap.size≤gb169));replace HB:=Aside0.mk (below_step (bl_ HB.out) hb);have NB167_169:=Aside0.mk ((nl_ hg BK167.out:gb167≠gb169));have NB169_167:=Aside0.mk ((nr_ hg BK167.out:gb169≠gb167));replace BK167:=Aside0.mk (bb_ BK167.out hb);clear hb hbox hg;have hnb10:=NB169_167.out;have hnc10:=NB167_169.out;obtain ⟨hcz11_0,hcz11_1,hcz11_2,hcz11_3,hcz11_4,hfz11_0,hfz11_1,hfz11_2,hfz11_3,hfz11_4⟩:=zf5_ BK169.out)|((with_reducible refine gate_callee (f:=14) rfl ?_);refine goesL_ (some 15) rfl rfl Tryd.func14 (by kernel_rfl) rfl #[.agg #[.string ((rd_T33 l0_3 x9_1).f0),.string ((rd_T33 l0_3 x9_1).f1),.int .i64 ((rd_T33 l0_3 x9_1).f2),.slice A168_3 ((rd_T33 l0_3 x9_1).f3).length c168_3,.int .i64 ((rd_T33 l0_3 x9_1).f4)]] rfl ar_ ?_;(with_reducible refine (ih k1 (by have:=HK1.out;omega) ((rd_T33 l0_3 x9_1).f0) ((rd_T33 l0_3 x9_1).f1) ((rd_T33 l0_3 x9_1).f2) _ _ ((rd_T33 l0_3 x9_1).f3) ((rd_T33 l0_3 x9_1).f4) t170 _ ?side1 ?side2 A7.out).mono ?_);(case side1=>exact Kd.C_below HR168_3.out (bl_ HB.out));(case side2=>exact HC168_3.out);rintro e w12 ⟨rfl,hb⟩;refine ⟨_,rfl,?_⟩;replace BK167:=Aside0.mk (blk_below (g:=gb167) (o:=.cells #[.string a0_0,.string a0_1,.int .i64 a0_2,.slice (some ad168) l0_3.length c0_3,.int .i64 a0_4] 33 (0,0)) (kbc_ BK167.out) hb);replace BK169:=Aside0.mk (blk_below (g:=gb169) (o:=.cells #[.string ((rd_T33 l0_3 x9_1).f0),.string ((rd_T33 l0_3 x9_1).f1),.int .i64 ((rd_T33 l0_3 x9_1).f2),.slice A168_3 ((rd_T33 l0_3 x9_1).f3).length c168_3,.int .i64 ((rd_T33 l0_3 x9_1).f4)] 33 (0,0)) (kbc_ BK169.out) hb);replace HB:=Aside0.mk (below_step (bl_ HB.out) hb)))
    go_roundg k1
    case measure=>have:=HK1.out;omega
    case rel=>exact ⟨(ji8),(wrap64 (x9_1+1)),(by first|rfl|(simp;done)|(simp only [← hji8] <;> (first|rfl|simp))|(simp [*];done)),rf_,H',⟨by have:=HK1.out;omega⟩,⟨kb_ BK167.out⟩,⟨bl_ HB.out⟩⟩
   ·rw [if_neg c4] at H
    have c4b0:=decide_eq_false c4
    clear c4
    obtain rfl:=Option.some.inj H
    go_wp2
    go_ret
    exact ⟨rt_,bl_ HB.out⟩
end Go.Proofs.YtnnbbeloifhofaaDoor.P
end
