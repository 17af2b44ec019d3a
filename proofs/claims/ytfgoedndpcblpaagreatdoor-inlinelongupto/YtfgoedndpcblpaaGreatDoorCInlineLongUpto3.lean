/- Texts of this claim, joined. -/
import Derived.Test.YtfgoedndpcblpaaGreatDoorCInlineLongUpto2
import Derived.Test.YtfgoedndpcblpaaGreatDoorProg
import Derived.KernelRfl
import Derived.Laws.RangeAny
import Derived.Lib.Join
import Derived.Lib.IndexBytes
import Derived.Lib.Fields
import Derived.Lib.ConvBytes
import Derived.Shelf.Strings.OnBuilder
import Derived.Shelf.LaysM
import Derived.Shelf.Strconv.Itoa3
import Derived.Shelf.Strings.Fields
import Derived.Shelf.Strings.Repeat
import Derived.Lib.Builder
import Derived.Lib.UnsafeStr
import Derived.Lib.LaidTab
import Derived.Lib.Space
import Derived.Lib.AppendIntMem
import Derived.RegionTactic
import Derived.BigRegion
section
namespace Go.Proofs.YtfgoedndpcblpaaGreatDoor.Pv
open Go Go.Proofs
set_option maxRecDepth 100000
@[simp] theorem nfo101 : Tryz.prog.info? 101 = some Tryz.t101 := by kernel_rfl
@[simp] theorem nfo102 : Tryz.prog.info? 102 = some Tryz.t102 := by kernel_rfl
@[simp] theorem nfo104 : Tryz.prog.info? 104 = some Tryz.t104 := by kernel_rfl
@[simp] theorem nfo105 : Tryz.prog.info? 105 = some Tryz.t105 := by kernel_rfl
@[simp] theorem nfo124 : Tryz.prog.info? 124 = some Tryz.t124 := by kernel_rfl
@[simp] theorem nfo140 : Tryz.prog.info? 140 = some Tryz.t140 := by kernel_rfl
@[simp] theorem nfo141 : Tryz.prog.info? 141 = some Tryz.t141 := by kernel_rfl
@[simp] theorem nfo143 : Tryz.prog.info? 143 = some Tryz.t143 := by kernel_rfl
@[simp] theorem nfo145 : Tryz.prog.info? 145 = some Tryz.t145 := by kernel_rfl
@[simp] theorem nfo155 : Tryz.prog.info? 155 = some Tryz.t155 := by kernel_rfl
@[simp] theorem nfo157 : Tryz.prog.info? 157 = some Tryz.t157 := by kernel_rfl
@[simp] theorem nfo166 : Tryz.prog.info? 166 = some Tryz.t166 := by kernel_rfl
@[simp] theorem nfo174 : Tryz.prog.info? 174 = some Tryz.t174 := by kernel_rfl
@[simp] theorem nfo176 : Tryz.prog.info? 176 = some Tryz.t176 := by kernel_rfl
@[simp] theorem nfo178 : Tryz.prog.info? 178 = some Tryz.t178 := by kernel_rfl
@[simp] theorem nfo201 : Tryz.prog.info? 201 = some Tryz.t201 := by kernel_rfl
@[simp] theorem nfo23 : Tryz.prog.info? 23 = some Tryz.t23 := by kernel_rfl
@[simp] theorem nfo233 : Tryz.prog.info? 233 = some Tryz.t233 := by kernel_rfl
@[simp] theorem nfo237 : Tryz.prog.info? 237 = some Tryz.t237 := by kernel_rfl
@[simp] theorem nfo24 : Tryz.prog.info? 24 = some Tryz.t24 := by kernel_rfl
@[simp] theorem nfo243 : Tryz.prog.info? 243 = some Tryz.t243 := by kernel_rfl
@[simp] theorem nfo25 : Tryz.prog.info? 25 = some Tryz.t25 := by kernel_rfl
@[simp] theorem nfo253 : Tryz.prog.info? 253 = some Tryz.t253 := by kernel_rfl
@[simp] theorem nfo26 : Tryz.prog.info? 26 = some Tryz.t26 := by kernel_rfl
@[simp] theorem nfo270 : Tryz.prog.info? 270 = some Tryz.t270 := by kernel_rfl
@[simp] theorem nfo28 : Tryz.prog.info? 28 = some Tryz.t28 := by kernel_rfl
@[simp] theorem nfo280 : Tryz.prog.info? 280 = some Tryz.t280 := by kernel_rfl
@[simp] theorem nfo29 : Tryz.prog.info? 29 = some Tryz.t29 := by kernel_rfl
@[simp] theorem nfo3 : Tryz.prog.info? 3 = some Tryz.t3 := by kernel_rfl
@[simp] theorem nfo33 : Tryz.prog.info? 33 = some Tryz.t33 := by kernel_rfl
@[simp] theorem nfo34 : Tryz.prog.info? 34 = some Tryz.t34 := by kernel_rfl
@[simp] theorem nfo35 : Tryz.prog.info? 35 = some Tryz.t35 := by kernel_rfl
@[simp] theorem nfo36 : Tryz.prog.info? 36 = some Tryz.t36 := by kernel_rfl
@[simp] theorem nfo38 : Tryz.prog.info? 38 = some Tryz.t38 := by kernel_rfl
@[simp] theorem nfo4 : Tryz.prog.info? 4 = some Tryz.t4 := by kernel_rfl
@[simp] theorem nfo45 : Tryz.prog.info? 45 = some Tryz.t45 := by kernel_rfl
@[simp] theorem nfo49 : Tryz.prog.info? 49 = some Tryz.t49 := by kernel_rfl
@[simp] theorem nfo5 : Tryz.prog.info? 5 = some Tryz.t5 := by kernel_rfl
@[simp] theorem nfo50 : Tryz.prog.info? 50 = some Tryz.t50 := by kernel_rfl
@[simp] theorem nfo52 : Tryz.prog.info? 52 = some Tryz.t52 := by kernel_rfl
@[simp] theorem nfo56 : Tryz.prog.info? 56 = some Tryz.t56 := by kernel_rfl
@[simp] theorem nfo63 : Tryz.prog.info? 63 = some Tryz.t63 := by kernel_rfl
@[simp] theorem nfo65 : Tryz.prog.info? 65 = some Tryz.t65 := by kernel_rfl
@[simp] theorem nfo68 : Tryz.prog.info? 68 = some Tryz.t68 := by kernel_rfl
@[simp] theorem nfo74 : Tryz.prog.info? 74 = some Tryz.t74 := by kernel_rfl
@[simp] theorem nfo78 : Tryz.prog.info? 78 = some Tryz.t78 := by kernel_rfl
@[simp] theorem nfo80 : Tryz.prog.info? 80 = some Tryz.t80 := by kernel_rfl
@[simp] theorem nfo82 : Tryz.prog.info? 82 = some Tryz.t82 := by kernel_rfl
@[simp] theorem nfo88 : Tryz.prog.info? 88 = some Tryz.t88 := by kernel_rfl
@[simp] theorem nfo9 : Tryz.prog.info? 9 = some Tryz.t9 := by kernel_rfl
@[simp] theorem nfo98 : Tryz.prog.info? 98 = some Tryz.t98 := by kernel_rfl
@[simp] theorem zr101 : zeroE Tryz.prog 101 = some [.im (.string ⟨#[]⟩), .sl [] .full] := zero_of Pv.nfo101 rfl (by kernel_rfl) (by kernel_rfl)
@[simp] theorem zr102 : zeroE Tryz.prog 102 = some [.im (.string ⟨#[]⟩), .sl [] .full] := zero_of Pv.nfo102 rfl (by kernel_rfl) (by kernel_rfl)
@[simp] theorem zr104 : zeroE Tryz.prog 104 = some [.im (.string ⟨#[]⟩), .im (.string ⟨#[]⟩), .im (.int .i64 0)] := zero_of Pv.nfo104 rfl (by kernel_rfl) (by kernel_rfl)
@[simp] theorem zr105 : zeroE Tryz.prog 105 = some [.im (.string ⟨#[]⟩), .im (.string ⟨#[]⟩), .im (.int .i64 0)] := zero_of Pv.nfo105 rfl (by kernel_rfl) (by kernel_rfl)
@[simp] theorem zr124 : zeroE Tryz.prog 124 = some [.im .nilFunc] := zero_of Pv.nfo124 rfl (by kernel_rfl) (by kernel_rfl)
@[simp] theorem zr143 : zeroE Tryz.prog 143 = some [.im (.pointer none), .sl [] .full] := zero_of Pv.nfo143 rfl (by kernel_rfl) (by kernel_rfl)
@[simp] theorem zr145 : zeroE Tryz.prog 145 = some [.im (.pointer none), .sl [] .full, .im (.int .i64 0)] := zero_of Pv.nfo145 rfl (by kernel_rfl) (by kernel_rfl)
@[simp] theorem zr155 : zeroE Tryz.prog 155 = some [.im (.map none)] := zero_of Pv.nfo155 rfl (by kernel_rfl) (by kernel_rfl)
@[simp] theorem zr157 : zeroE Tryz.prog 157 = some [.im .nilFunc] := zero_of Pv.nfo157 rfl (by kernel_rfl) (by kernel_rfl)
@[simp] theorem zr166 : zeroE Tryz.prog 166 = some [.sl [] .full, .im (.int .i64 0), .im (.int .i64 0), .im (.int .i64 0), .im (.int .i64 0), .im (.int .i64 0)] := zero_of Pv.nfo166 rfl (by kernel_rfl) (by kernel_rfl)
@[simp] theorem zr176 : zeroE Tryz.prog 176 = some [.im (.string ⟨#[]⟩), .im (.string ⟨#[]⟩), .sl [] .full, .sl [] .full, .sl [] .full, .im (.int .i64 0)] := zero_of Pv.nfo176 rfl (by kernel_rfl) (by kernel_rfl)
@[simp] theorem zr178 : zeroE Tryz.prog 178 = some [.im (.string ⟨#[]⟩), .im (.string ⟨#[]⟩), .im (.int .i64 0), .sl [] .full, .im (.int .i64 0)] := zero_of Pv.nfo178 rfl (by kernel_rfl) (by kernel_rfl)
@[simp] theorem zr201 : zeroE Tryz.prog 201 = some [.im (.map none)] := zero_of Pv.nfo201 rfl (by kernel_rfl) (by kernel_rfl)
@[simp] theorem zr237 : zeroE Tryz.prog 237 = some [.sl [] .full, .im (.int .i64 0), .im (.int .i64 0)] := zero_of Pv.nfo237 rfl (by kernel_rfl) (by kernel_rfl)
@[simp] theorem zr243 : zeroE Tryz.prog 243 = some [.sl [] .full, .im (.string ⟨#[]⟩)] := zero_of Pv.nfo243 rfl (by kernel_rfl) (by kernel_rfl)
@[simp] theorem zr253 : zeroE Tryz.prog 253 = some [.im (.int .i64 0), .im (.int .i64 0)] := zero_of Pv.nfo253 rfl (by kernel_rfl) (by kernel_rfl)
@[simp] theorem zr26 : zeroE Tryz.prog 26 = some [.sl [] .full] := zero_of Pv.nfo26 rfl (by kernel_rfl) (by kernel_rfl)
@[simp] theorem zr270 : zeroE Tryz.prog 270 = some [.im (.int .i64 0), .im (.int .i64 0)] := zero_of Pv.nfo270 rfl (by kernel_rfl) (by kernel_rfl)
@[simp] theorem zr28 : zeroE Tryz.prog 28 = some [.sl [] .full, .sl [] .full, .sl [] .full, .sl [] .full] := zero_of Pv.nfo28 rfl (by kernel_rfl) (by kernel_rfl)
@[simp] theorem zr280 : zeroE Tryz.prog 280 = some [.im (.int .i64 0), .im (.string ⟨#[]⟩), .im (.int .i64 0), .im (.int .i64 0)] := zero_of Pv.nfo280 rfl (by kernel_rfl) (by kernel_rfl)
@[simp] theorem zr38 : zeroE Tryz.prog 38 = some [.sl [] .full, .sl [] .full, .sl [] .full, .sl [] .full] := zero_of Pv.nfo38 rfl (by kernel_rfl) (by kernel_rfl)
@[simp] theorem zr49 : zeroE Tryz.prog 49 = some [.im (.int .i64 0), .im (.string ⟨#[]⟩), .im (.int .i64 0), .im (.int .i64 0)] := zero_of Pv.nfo49 rfl (by kernel_rfl) (by kernel_rfl)
@[simp] theorem zr52 : zeroE Tryz.prog 52 = some [.sl [] .full, .im (.int .i64 0), .im (.int .i64 0), .im (.int .i64 0)] := zero_of Pv.nfo52 rfl (by kernel_rfl) (by kernel_rfl)
@[simp] theorem zr56 : zeroE Tryz.prog 56 = some [.im (.string ⟨#[]⟩), .im (.int .i64 0), .im (.int .i64 0), .im (.int .i64 0), .im (.int .i64 0), .im (.string ⟨#[]⟩)] := zero_of Pv.nfo56 rfl (by kernel_rfl) (by kernel_rfl)
@[simp] theorem zr65 : zeroE Tryz.prog 65 = some [.sl [] .full, .im (.int .i64 0), .im (.int .i64 0), .im (.int .i64 0)] := zero_of Pv.nfo65 rfl (by kernel_rfl) (by kernel_rfl)
@[simp] theorem zr68 : zeroE Tryz.prog 68 = some [.im (.string ⟨#[]⟩), .im (.int .i64 0), .im (.int .i64 0), .im (.int .i64 0), .im (.int .i64 0), .im (.string ⟨#[]⟩)] := zero_of Pv.nfo68 rfl (by kernel_rfl) (by kernel_rfl)
@[simp] theorem zr74 : zeroE Tryz.prog 74 = some [.sl [] .full] := zero_of Pv.nfo74 rfl (by kernel_rfl) (by kernel_rfl)
@[simp] theorem zr78 : zeroE Tryz.prog 78 = some [.im (.string ⟨#[]⟩), .sl [] .full] := zero_of Pv.nfo78 rfl (by kernel_rfl) (by kernel_rfl)
@[simp] theorem zr82 : zeroE Tryz.prog 82 = some [.im (.string ⟨#[]⟩), .im (.string ⟨#[]⟩), .sl [] .full, .sl [] .full, .sl [] .full, .im (.int .i64 0)] := zero_of Pv.nfo82 rfl (by kernel_rfl) (by kernel_rfl)
@[simp] theorem zr88 : zeroE Tryz.prog 88 = some [.im (.string ⟨#[]⟩), .im (.string ⟨#[]⟩), .im (.int .i64 0), .sl [] .full, .im (.int .i64 0)] := zero_of Pv.nfo88 rfl (by kernel_rfl) (by kernel_rfl)
@[simp] theorem zr9 : zeroE Tryz.prog 9 = some [.im (.string ⟨#[]⟩)] := zero_of Pv.nfo9 rfl (by kernel_rfl) (by kernel_rfl)
@[simp] theorem zr98 : zeroE Tryz.prog 98 = some [.im (.string ⟨#[]⟩), .sl [] .full] := zero_of Pv.nfo98 rfl (by kernel_rfl) (by kernel_rfl)
@[simp] theorem ap128_128 {σ : Sto} {rows xs : List (List FV)} {tag tag2 : Tag} : appendE Tryz.prog 128 128 σ (.sl rows tag) (.sl xs tag2) = appL 1 24 σ rows tag xs := append_of (i := Tryz.t26) (e := 26) (by kernel_rfl) rfl rfl (by decide)
@[simp] theorem ap174_174 {σ : Sto} {rows xs : List (List FV)} {tag tag2 : Tag} : appendE Tryz.prog 174 174 σ (.sl rows tag) (.sl xs tag2) = appL 5 72 σ rows tag xs := append_of (i := Tryz.t178) (e := 178) (by kernel_rfl) rfl rfl (by decide)
@[simp] theorem ap233_233 {σ : Sto} {rows xs : List (List FV)} {tag tag2 : Tag} : appendE Tryz.prog 233 233 σ (.sl rows tag) (.sl xs tag2) = appL 4 40 σ rows tag xs := append_of (i := Tryz.t280) (e := 280) (by kernel_rfl) rfl rfl (by decide)
@[simp] theorem ap23_23 {σ : Sto} {rows xs : List (List FV)} {tag tag2 : Tag} : appendE Tryz.prog 23 23 σ (.sl rows tag) (.sl xs tag2) = appL 2 40 σ rows tag xs := append_of (i := Tryz.t101) (e := 101) (by kernel_rfl) rfl rfl (by decide)
@[simp] theorem ap24_24 {σ : Sto} {rows xs : List (List FV)} {tag tag2 : Tag} : appendE Tryz.prog 24 24 σ (.sl rows tag) (.sl xs tag2) = appL 3 40 σ rows tag xs := append_of (i := Tryz.t104) (e := 104) (by kernel_rfl) rfl rfl (by decide)
@[simp] theorem ap25_25 {σ : Sto} {rows xs : List (List FV)} {tag tag2 : Tag} : appendE Tryz.prog 25 25 σ (.sl rows tag) (.sl xs tag2) = appL 2 40 σ rows tag xs := append_of (i := Tryz.t78) (e := 78) (by kernel_rfl) rfl rfl (by decide)
@[simp] theorem ap268_268 {σ : Sto} {rows xs : List (List FV)} {tag tag2 : Tag} : appendE Tryz.prog 268 268 σ (.sl rows tag) (.sl xs tag2) = appL 2 16 σ rows tag xs := append_of (i := Tryz.t270) (e := 270) (by kernel_rfl) rfl rfl (by decide)
@[simp] theorem ap26_26 {σ : Sto} {rows xs : List (List FV)} {tag tag2 : Tag} : appendE Tryz.prog 26 26 σ (.sl rows tag) (.sl xs tag2) = appL 6 112 σ rows tag xs := append_of (i := Tryz.t82) (e := 82) (by kernel_rfl) rfl rfl (by decide)
@[simp] theorem ap33_33 {σ : Sto} {rows xs : List (List FV)} {tag tag2 : Tag} : appendE Tryz.prog 33 33 σ (.sl rows tag) (.sl xs tag2) = appL 2 40 σ rows tag xs := append_of (i := Tryz.t102) (e := 102) (by kernel_rfl) rfl rfl (by decide)
@[simp] theorem ap34_34 {σ : Sto} {rows xs : List (List FV)} {tag tag2 : Tag} : appendE Tryz.prog 34 34 σ (.sl rows tag) (.sl xs tag2) = appL 3 40 σ rows tag xs := append_of (i := Tryz.t105) (e := 105) (by kernel_rfl) rfl rfl (by decide)
@[simp] theorem ap35_35 {σ : Sto} {rows xs : List (List FV)} {tag tag2 : Tag} : appendE Tryz.prog 35 35 σ (.sl rows tag) (.sl xs tag2) = appL 2 40 σ rows tag xs := append_of (i := Tryz.t98) (e := 98) (by kernel_rfl) rfl rfl (by decide)
@[simp] theorem ap36_36 {σ : Sto} {rows xs : List (List FV)} {tag tag2 : Tag} : appendE Tryz.prog 36 36 σ (.sl rows tag) (.sl xs tag2) = appL 6 112 σ rows tag xs := append_of (i := Tryz.t176) (e := 176) (by kernel_rfl) rfl rfl (by decide)
@[simp] theorem ap45_45 {σ : Sto} {rows xs : List (List FV)} {tag tag2 : Tag} : appendE Tryz.prog 45 45 σ (.sl rows tag) (.sl xs tag2) = appL 4 40 σ rows tag xs := append_of (i := Tryz.t49) (e := 49) (by kernel_rfl) rfl rfl (by decide)
@[simp] theorem ap50_50 {σ : Sto} {rows xs : List (List FV)} {tag tag2 : Tag} : appendE Tryz.prog 50 50 σ (.sl rows tag) (.sl xs tag2) = appL 6 64 σ rows tag xs := append_of (i := Tryz.t56) (e := 56) (by kernel_rfl) rfl rfl (by decide)
@[simp] theorem ap63_63 {σ : Sto} {rows xs : List (List FV)} {tag tag2 : Tag} : appendE Tryz.prog 63 63 σ (.sl rows tag) (.sl xs tag2) = appL 6 64 σ rows tag xs := append_of (i := Tryz.t68) (e := 68) (by kernel_rfl) rfl rfl (by decide)
@[simp] theorem ap74_74 {σ : Sto} {rows xs : List (List FV)} {tag tag2 : Tag} : appendE Tryz.prog 74 74 σ (.sl rows tag) (.sl xs tag2) = appL 1 16 σ rows tag xs := append_of (i := Tryz.t9) (e := 9) (by kernel_rfl) rfl rfl (by decide)
@[simp] theorem ap80_80 {σ : Sto} {rows xs : List (List FV)} {tag tag2 : Tag} : appendE Tryz.prog 80 80 σ (.sl rows tag) (.sl xs tag2) = appL 5 72 σ rows tag xs := append_of (i := Tryz.t88) (e := 88) (by kernel_rfl) rfl rfl (by decide)
@[simp] theorem bl101 {parts : List (Nat × PV)} : buildE Tryz.prog 101 parts = bldE [(0, 1), (1, 1)] [.im (.string ⟨#[]⟩), .sl [] .full] parts := build_of Tryz.underlying101 (by kernel_rfl) zr101
@[simp] theorem bl102 {parts : List (Nat × PV)} : buildE Tryz.prog 102 parts = bldE [(0, 1), (1, 1)] [.im (.string ⟨#[]⟩), .sl [] .full] parts := build_of Tryz.underlying102 (by kernel_rfl) zr102
@[simp] theorem bl104 {parts : List (Nat × PV)} : buildE Tryz.prog 104 parts = bldE [(0, 1), (1, 1), (2, 1)] [.im (.string ⟨#[]⟩), .im (.string ⟨#[]⟩), .im (.int .i64 0)] parts := build_of Tryz.underlying104 (by kernel_rfl) zr104
@[simp] theorem bl145 {parts : List (Nat × PV)} : buildE Tryz.prog 145 parts = bldE [(0, 2), (2, 1)] [.im (.pointer none), .sl [] .full, .im (.int .i64 0)] parts := build_of Tryz.underlying145 (by kernel_rfl) zr145
@[simp] theorem bl166 {parts : List (Nat × PV)} : buildE Tryz.prog 166 parts = bldE [(0, 1), (1, 1), (2, 1), (3, 1), (4, 1), (5, 1)] [.sl [] .full, .im (.int .i64 0), .im (.int .i64 0), .im (.int .i64 0), .im (.int .i64 0), .im (.int .i64 0)] parts := build_of Tryz.underlying166 (by kernel_rfl) zr166
@[simp] theorem bl176 {parts : List (Nat × PV)} : buildE Tryz.prog 176 parts = bldE [(0, 1), (1, 1), (2, 1), (3, 1), (4, 1), (5, 1)] [.im (.string ⟨#[]⟩), .im (.string ⟨#[]⟩), .sl [] .full, .sl [] .full, .sl [] .full, .im (.int .i64 0)] parts := build_of Tryz.underlying176 (by kernel_rfl) zr176
@[simp] theorem bl178 {parts : List (Nat × PV)} : buildE Tryz.prog 178 parts = bldE [(0, 1), (1, 1), (2, 1), (3, 1), (4, 1)] [.im (.string ⟨#[]⟩), .im (.string ⟨#[]⟩), .im (.int .i64 0), .sl [] .full, .im (.int .i64 0)] parts := build_of Tryz.underlying178 (by kernel_rfl) zr178
@[simp] theorem bl237 {parts : List (Nat × PV)} : buildE Tryz.prog 237 parts = bldE [(0, 1), (1, 1), (2, 1)] [.sl [] .full, .im (.int .i64 0), .im (.int .i64 0)] parts := build_of Tryz.underlying237 (by kernel_rfl) zr237
@[simp] theorem bl243 {parts : List (Nat × PV)} : buildE Tryz.prog 243 parts = bldE [(0, 1), (1, 1)] [.sl [] .full, .im (.string ⟨#[]⟩)] parts := build_of Tryz.underlying243 (by kernel_rfl) zr243
@[simp] theorem bl253 {parts : List (Nat × PV)} : buildE Tryz.prog 253 parts = bldE [(0, 1), (1, 1)] [.im (.int .i64 0), .im (.int .i64 0)] parts := build_of Tryz.underlying253 (by kernel_rfl) zr253
@[simp] theorem bl270 {parts : List (Nat × PV)} : buildE Tryz.prog 270 parts = bldE [(0, 1), (1, 1)] [.im (.int .i64 0), .im (.int .i64 0)] parts := build_of Tryz.underlying270 (by kernel_rfl) zr270
@[simp] theorem bl28 {parts : List (Nat × PV)} : buildE Tryz.prog 28 parts = bldE [(0, 1), (1, 1), (2, 1), (3, 1)] [.sl [] .full, .sl [] .full, .sl [] .full, .sl [] .full] parts := build_of Tryz.underlying28 (by kernel_rfl) zr28
@[simp] theorem bl280 {parts : List (Nat × PV)} : buildE Tryz.prog 280 parts = bldE [(0, 1), (1, 1), (2, 1), (3, 1)] [.im (.int .i64 0), .im (.string ⟨#[]⟩), .im (.int .i64 0), .im (.int .i64 0)] parts := build_of Tryz.underlying280 (by kernel_rfl) zr280
@[simp] theorem bl38 {parts : List (Nat × PV)} : buildE Tryz.prog 38 parts = bldE [(0, 1), (1, 1), (2, 1), (3, 1)] [.sl [] .full, .sl [] .full, .sl [] .full, .sl [] .full] parts := build_of Tryz.underlying38 (by kernel_rfl) zr38
@[simp] theorem bl49 {parts : List (Nat × PV)} : buildE Tryz.prog 49 parts = bldE [(0, 1), (1, 1), (2, 1), (3, 1)] [.im (.int .i64 0), .im (.string ⟨#[]⟩), .im (.int .i64 0), .im (.int .i64 0)] parts := build_of Tryz.underlying49 (by kernel_rfl) zr49
@[simp] theorem bl52 {parts : List (Nat × PV)} : buildE Tryz.prog 52 parts = bldE [(0, 1), (1, 1), (2, 1), (3, 1)] [.sl [] .full, .im (.int .i64 0), .im (.int .i64 0), .im (.int .i64 0)] parts := build_of Tryz.underlying52 (by kernel_rfl) zr52
@[simp] theorem bl56 {parts : List (Nat × PV)} : buildE Tryz.prog 56 parts = bldE [(0, 1), (1, 1), (2, 1), (3, 1), (4, 1), (5, 1)] [.im (.string ⟨#[]⟩), .im (.int .i64 0), .im (.int .i64 0), .im (.int .i64 0), .im (.int .i64 0), .im (.string ⟨#[]⟩)] parts := build_of Tryz.underlying56 (by kernel_rfl) zr56
@[simp] theorem bl65 {parts : List (Nat × PV)} : buildE Tryz.prog 65 parts = bldE [(0, 1), (1, 1), (2, 1), (3, 1)] [.sl [] .full, .im (.int .i64 0), .im (.int .i64 0), .im (.int .i64 0)] parts := build_of Tryz.underlying65 (by kernel_rfl) zr65
@[simp] theorem bl68 {parts : List (Nat × PV)} : buildE Tryz.prog 68 parts = bldE [(0, 1), (1, 1), (2, 1), (3, 1), (4, 1), (5, 1)] [.im (.string ⟨#[]⟩), .im (.int .i64 0), .im (.int .i64 0), .im (.int .i64 0), .im (.int .i64 0), .im (.string ⟨#[]⟩)] parts := build_of Tryz.underlying68 (by kernel_rfl) zr68
@[simp] theorem bl78 {parts : List (Nat × PV)} : buildE Tryz.prog 78 parts = bldE [(0, 1), (1, 1)] [.im (.string ⟨#[]⟩), .sl [] .full] parts := build_of Tryz.underlying78 (by kernel_rfl) zr78
@[simp] theorem bl82 {parts : List (Nat × PV)} : buildE Tryz.prog 82 parts = bldE [(0, 1), (1, 1), (2, 1), (3, 1), (4, 1), (5, 1)] [.im (.string ⟨#[]⟩), .im (.string ⟨#[]⟩), .sl [] .full, .sl [] .full, .sl [] .full, .im (.int .i64 0)] parts := build_of Tryz.underlying82 (by kernel_rfl) zr82
@[simp] theorem bl88 {parts : List (Nat × PV)} : buildE Tryz.prog 88 parts = bldE [(0, 1), (1, 1), (2, 1), (3, 1), (4, 1)] [.im (.string ⟨#[]⟩), .im (.string ⟨#[]⟩), .im (.int .i64 0), .sl [] .full, .im (.int .i64 0)] parts := build_of Tryz.underlying88 (by kernel_rfl) zr88
@[simp] theorem bl98 {parts : List (Nat × PV)} : buildE Tryz.prog 98 parts = bldE [(0, 1), (1, 1)] [.im (.string ⟨#[]⟩), .sl [] .full] parts := build_of Tryz.underlying98 (by kernel_rfl) zr98
@[simp] theorem bs128 {len : Nat} {parts : List (Nat × PV)} : buildSliceE Tryz.prog 128 len parts = bldR 1 [.sl [] .full] len parts := buildSliceR_of Tryz.underlying128 Pv.nfo26 rfl zr26 rfl (by decide)
@[simp] theorem bs130 {len : Nat} {parts : List (Nat × PV)} : buildSliceE Tryz.prog 130 len parts = bldR 1 [.im .nilFunc] len parts := buildSliceR_of Tryz.underlying130 Pv.nfo124 rfl zr124 rfl (by decide)
@[simp] theorem bs174 {len : Nat} {parts : List (Nat × PV)} : buildSliceE Tryz.prog 174 len parts = bldR 5 [.im (.string ⟨#[]⟩), .im (.string ⟨#[]⟩), .im (.int .i64 0), .sl [] .full, .im (.int .i64 0)] len parts := buildSliceR_of Tryz.underlying174 Pv.nfo178 rfl zr178 rfl (by decide)
@[simp] theorem bs222 {len : Nat} {parts : List (Nat × PV)} : buildSliceE Tryz.prog 222 len parts = bldR 1 [.sl [] .full] len parts := buildSliceR_of Tryz.underlying222 Pv.nfo74 rfl zr74 rfl (by decide)
@[simp] theorem bs23 {len : Nat} {parts : List (Nat × PV)} : buildSliceE Tryz.prog 23 len parts = bldR 2 [.im (.string ⟨#[]⟩), .sl [] .full] len parts := buildSliceR_of Tryz.underlying23 Pv.nfo101 rfl zr101 rfl (by decide)
@[simp] theorem bs233 {len : Nat} {parts : List (Nat × PV)} : buildSliceE Tryz.prog 233 len parts = bldR 4 [.im (.int .i64 0), .im (.string ⟨#[]⟩), .im (.int .i64 0), .im (.int .i64 0)] len parts := buildSliceR_of Tryz.underlying233 Pv.nfo280 rfl zr280 rfl (by decide)
@[simp] theorem bs24 {len : Nat} {parts : List (Nat × PV)} : buildSliceE Tryz.prog 24 len parts = bldR 3 [.im (.string ⟨#[]⟩), .im (.string ⟨#[]⟩), .im (.int .i64 0)] len parts := buildSliceR_of Tryz.underlying24 Pv.nfo104 rfl zr104 rfl (by decide)
@[simp] theorem bs25 {len : Nat} {parts : List (Nat × PV)} : buildSliceE Tryz.prog 25 len parts = bldR 2 [.im (.string ⟨#[]⟩), .sl [] .full] len parts := buildSliceR_of Tryz.underlying25 Pv.nfo78 rfl zr78 rfl (by decide)
@[simp] theorem bs26 {len : Nat} {parts : List (Nat × PV)} : buildSliceE Tryz.prog 26 len parts = bldR 6 [.im (.string ⟨#[]⟩), .im (.string ⟨#[]⟩), .sl [] .full, .sl [] .full, .sl [] .full, .im (.int .i64 0)] len parts := buildSliceR_of Tryz.underlying26 Pv.nfo82 rfl zr82 rfl (by decide)
@[simp] theorem bs268 {len : Nat} {parts : List (Nat × PV)} : buildSliceE Tryz.prog 268 len parts = bldR 2 [.im (.int .i64 0), .im (.int .i64 0)] len parts := buildSliceR_of Tryz.underlying268 Pv.nfo270 rfl zr270 rfl (by decide)
@[simp] theorem bs33 {len : Nat} {parts : List (Nat × PV)} : buildSliceE Tryz.prog 33 len parts = bldR 2 [.im (.string ⟨#[]⟩), .sl [] .full] len parts := buildSliceR_of Tryz.underlying33 Pv.nfo102 rfl zr102 rfl (by decide)
@[simp] theorem bs34 {len : Nat} {parts : List (Nat × PV)} : buildSliceE Tryz.prog 34 len parts = bldR 3 [.im (.string ⟨#[]⟩), .im (.string ⟨#[]⟩), .im (.int .i64 0)] len parts := buildSliceR_of Tryz.underlying34 Pv.nfo105 rfl zr105 rfl (by decide)
@[simp] theorem bs35 {len : Nat} {parts : List (Nat × PV)} : buildSliceE Tryz.prog 35 len parts = bldR 2 [.im (.string ⟨#[]⟩), .sl [] .full] len parts := buildSliceR_of Tryz.underlying35 Pv.nfo98 rfl zr98 rfl (by decide)
@[simp] theorem bs36 {len : Nat} {parts : List (Nat × PV)} : buildSliceE Tryz.prog 36 len parts = bldR 6 [.im (.string ⟨#[]⟩), .im (.string ⟨#[]⟩), .sl [] .full, .sl [] .full, .sl [] .full, .im (.int .i64 0)] len parts := buildSliceR_of Tryz.underlying36 Pv.nfo176 rfl zr176 rfl (by decide)
@[simp] theorem bs45 {len : Nat} {parts : List (Nat × PV)} : buildSliceE Tryz.prog 45 len parts = bldR 4 [.im (.int .i64 0), .im (.string ⟨#[]⟩), .im (.int .i64 0), .im (.int .i64 0)] len parts := buildSliceR_of Tryz.underlying45 Pv.nfo49 rfl zr49 rfl (by decide)
@[simp] theorem bs50 {len : Nat} {parts : List (Nat × PV)} : buildSliceE Tryz.prog 50 len parts = bldR 6 [.im (.string ⟨#[]⟩), .im (.int .i64 0), .im (.int .i64 0), .im (.int .i64 0), .im (.int .i64 0), .im (.string ⟨#[]⟩)] len parts := buildSliceR_of Tryz.underlying50 Pv.nfo56 rfl zr56 rfl (by decide)
@[simp] theorem bs63 {len : Nat} {parts : List (Nat × PV)} : buildSliceE Tryz.prog 63 len parts = bldR 6 [.im (.string ⟨#[]⟩), .im (.int .i64 0), .im (.int .i64 0), .im (.int .i64 0), .im (.int .i64 0), .im (.string ⟨#[]⟩)] len parts := buildSliceR_of Tryz.underlying63 Pv.nfo68 rfl zr68 rfl (by decide)
@[simp] theorem bs74 {len : Nat} {parts : List (Nat × PV)} : buildSliceE Tryz.prog 74 len parts = bldR 1 [.im (.string ⟨#[]⟩)] len parts := buildSliceR_of Tryz.underlying74 Pv.nfo9 rfl zr9 rfl (by decide)
@[simp] theorem bs80 {len : Nat} {parts : List (Nat × PV)} : buildSliceE Tryz.prog 80 len parts = bldR 5 [.im (.string ⟨#[]⟩), .im (.string ⟨#[]⟩), .im (.int .i64 0), .sl [] .full, .im (.int .i64 0)] len parts := buildSliceR_of Tryz.underlying80 Pv.nfo88 rfl zr88 rfl (by decide)
@[simp] theorem cv136_204 {j : IntKind} {x : Int} : convE Tryz.prog 136 204 (.im (.int j x)) = some (.im (.int .u32 (IntKind.wrap .u32 x))) := conv_int (t := 0) Tryz.underlying136 Tryz.underlying204
@[simp] theorem cv136_3 {j : IntKind} {x : Int} : convE Tryz.prog 136 3 (.im (.int j x)) = some (.im (.int .i64 (IntKind.wrap .i64 x))) := conv_int (t := 0) Tryz.underlying136 Tryz.underlying3
@[simp] theorem cv204_136 {j : IntKind} {x : Int} : convE Tryz.prog 204 136 (.im (.int j x)) = some (.im (.int .u64 (IntKind.wrap .u64 x))) := conv_int (t := 0) Tryz.underlying204 Tryz.underlying136
@[simp] theorem cv204_206 {j : IntKind} {x : Int} : convE Tryz.prog 204 206 (.im (.int j x)) = some (.im (.int .u64 (IntKind.wrap .u64 x))) := conv_int (t := 0) Tryz.underlying204 Tryz.underlying206
@[simp] theorem cv204_5 {j : IntKind} {x : Int} : convE Tryz.prog 204 5 (.im (.int j x)) = some (.im (.int .u8 (IntKind.wrap .u8 x))) := conv_int (t := 0) Tryz.underlying204 Tryz.underlying5
@[simp] theorem cv206_204 {j : IntKind} {x : Int} : convE Tryz.prog 206 204 (.im (.int j x)) = some (.im (.int .u32 (IntKind.wrap .u32 x))) := conv_int (t := 0) Tryz.underlying206 Tryz.underlying204
@[simp] theorem cv206_5 {j : IntKind} {x : Int} : convE Tryz.prog 206 5 (.im (.int j x)) = some (.im (.int .u8 (IntKind.wrap .u8 x))) := conv_int (t := 0) Tryz.underlying206 Tryz.underlying5
@[simp] theorem cv21_3 {j : IntKind} {x : Int} : convE Tryz.prog 21 3 (.im (.int j x)) = some (.im (.int .i64 (IntKind.wrap .i64 x))) := conv_int (t := 0) Tryz.underlying21 Tryz.underlying3
@[simp] theorem cv21_9 {j : IntKind} {x : Int} : convE Tryz.prog 21 9 (.im (.int j x)) = some (.im (.string (Utf8.encode x))) := conv_rune Tryz.underlying21 Tryz.underlying9
@[simp] theorem cv3_136 {j : IntKind} {x : Int} : convE Tryz.prog 3 136 (.im (.int j x)) = some (.im (.int .u64 (IntKind.wrap .u64 x))) := conv_int (t := 0) Tryz.underlying3 Tryz.underlying136
@[simp] theorem cv3_21 {j : IntKind} {x : Int} : convE Tryz.prog 3 21 (.im (.int j x)) = some (.im (.int .i32 (IntKind.wrap .i32 x))) := conv_int (t := 0) Tryz.underlying3 Tryz.underlying21
@[simp] theorem cv5_21 {j : IntKind} {x : Int} : convE Tryz.prog 5 21 (.im (.int j x)) = some (.im (.int .i32 (IntKind.wrap .i32 x))) := conv_int (t := 0) Tryz.underlying5 Tryz.underlying21
@[simp] theorem cv5_3 {j : IntKind} {x : Int} : convE Tryz.prog 5 3 (.im (.int j x)) = some (.im (.int .i64 (IntKind.wrap .i64 x))) := conv_int (t := 0) Tryz.underlying5 Tryz.underlying3
@[simp] theorem fa101_0 {x : PV} : fieldAddrE Tryz.prog 101 x 0 = addE x 0 := fieldAddr_of Tryz.underlying101 rfl Pv.nfo9 (by decide) rfl
@[simp] theorem fa101_1 {x : PV} : fieldAddrE Tryz.prog 101 x 1 = addE x 1 := fieldAddr_of Tryz.underlying101 rfl Pv.nfo74 (by decide) rfl
@[simp] theorem fa102_0 {x : PV} : fieldAddrE Tryz.prog 102 x 0 = addE x 0 := fieldAddr_of Tryz.underlying102 rfl Pv.nfo9 (by decide) rfl
@[simp] theorem fa102_1 {x : PV} : fieldAddrE Tryz.prog 102 x 1 = addE x 1 := fieldAddr_of Tryz.underlying102 rfl Pv.nfo74 (by decide) rfl
@[simp] theorem fa104_0 {x : PV} : fieldAddrE Tryz.prog 104 x 0 = addE x 0 := fieldAddr_of Tryz.underlying104 rfl Pv.nfo9 (by decide) rfl
@[simp] theorem fa104_1 {x : PV} : fieldAddrE Tryz.prog 104 x 1 = addE x 1 := fieldAddr_of Tryz.underlying104 rfl Pv.nfo9 (by decide) rfl
@[simp] theorem fa104_2 {x : PV} : fieldAddrE Tryz.prog 104 x 2 = addE x 2 := fieldAddr_of Tryz.underlying104 rfl Pv.nfo3 (by decide) rfl
@[simp] theorem fa105_0 {x : PV} : fieldAddrE Tryz.prog 105 x 0 = addE x 0 := fieldAddr_of Tryz.underlying105 rfl Pv.nfo9 (by decide) rfl
@[simp] theorem fa105_1 {x : PV} : fieldAddrE Tryz.prog 105 x 1 = addE x 1 := fieldAddr_of Tryz.underlying105 rfl Pv.nfo9 (by decide) rfl
@[simp] theorem fa105_2 {x : PV} : fieldAddrE Tryz.prog 105 x 2 = addE x 2 := fieldAddr_of Tryz.underlying105 rfl Pv.nfo3 (by decide) rfl
@[simp] theorem fa143_0 {x : PV} : fieldAddrE Tryz.prog 143 x 0 = addE x 0 := fieldAddr_of Tryz.underlying143 rfl Pv.nfo140 (by decide) rfl
@[simp] theorem fa143_1 {x : PV} : fieldAddrE Tryz.prog 143 x 1 = addE x 1 := fieldAddr_of Tryz.underlying143 rfl Pv.nfo141 (by decide) rfl
@[simp] theorem fa145_0 {x : PV} : fieldAddrE Tryz.prog 145 x 0 = addE x 0 := fieldAddr_of Tryz.underlying145 rfl Pv.nfo143 (by decide) rfl
@[simp] theorem fa145_1 {x : PV} : fieldAddrE Tryz.prog 145 x 1 = addE x 2 := fieldAddr_of Tryz.underlying145 rfl Pv.nfo3 (by decide) rfl
@[simp] theorem fa166_0 {x : PV} : fieldAddrE Tryz.prog 166 x 0 = addE x 0 := fieldAddr_of Tryz.underlying166 rfl Pv.nfo45 (by decide) rfl
@[simp] theorem fa166_1 {x : PV} : fieldAddrE Tryz.prog 166 x 1 = addE x 1 := fieldAddr_of Tryz.underlying166 rfl Pv.nfo3 (by decide) rfl
@[simp] theorem fa166_2 {x : PV} : fieldAddrE Tryz.prog 166 x 2 = addE x 2 := fieldAddr_of Tryz.underlying166 rfl Pv.nfo3 (by decide) rfl
@[simp] theorem fa166_3 {x : PV} : fieldAddrE Tryz.prog 166 x 3 = addE x 3 := fieldAddr_of Tryz.underlying166 rfl Pv.nfo29 (by decide) rfl
@[simp] theorem fa166_4 {x : PV} : fieldAddrE Tryz.prog 166 x 4 = addE x 4 := fieldAddr_of Tryz.underlying166 rfl Pv.nfo3 (by decide) rfl
@[simp] theorem fa166_5 {x : PV} : fieldAddrE Tryz.prog 166 x 5 = addE x 5 := fieldAddr_of Tryz.underlying166 rfl Pv.nfo3 (by decide) rfl
@[simp] theorem fa176_0 {x : PV} : fieldAddrE Tryz.prog 176 x 0 = addE x 0 := fieldAddr_of Tryz.underlying176 rfl Pv.nfo9 (by decide) rfl
@[simp] theorem fa176_1 {x : PV} : fieldAddrE Tryz.prog 176 x 1 = addE x 1 := fieldAddr_of Tryz.underlying176 rfl Pv.nfo9 (by decide) rfl
@[simp] theorem fa176_2 {x : PV} : fieldAddrE Tryz.prog 176 x 2 = addE x 2 := fieldAddr_of Tryz.underlying176 rfl Pv.nfo174 (by decide) rfl
@[simp] theorem fa176_3 {x : PV} : fieldAddrE Tryz.prog 176 x 3 = addE x 3 := fieldAddr_of Tryz.underlying176 rfl Pv.nfo36 (by decide) rfl
@[simp] theorem fa176_4 {x : PV} : fieldAddrE Tryz.prog 176 x 4 = addE x 4 := fieldAddr_of Tryz.underlying176 rfl Pv.nfo36 (by decide) rfl
@[simp] theorem fa176_5 {x : PV} : fieldAddrE Tryz.prog 176 x 5 = addE x 5 := fieldAddr_of Tryz.underlying176 rfl Pv.nfo3 (by decide) rfl
@[simp] theorem fa178_0 {x : PV} : fieldAddrE Tryz.prog 178 x 0 = addE x 0 := fieldAddr_of Tryz.underlying178 rfl Pv.nfo9 (by decide) rfl
@[simp] theorem fa178_1 {x : PV} : fieldAddrE Tryz.prog 178 x 1 = addE x 1 := fieldAddr_of Tryz.underlying178 rfl Pv.nfo9 (by decide) rfl
@[simp] theorem fa178_2 {x : PV} : fieldAddrE Tryz.prog 178 x 2 = addE x 2 := fieldAddr_of Tryz.underlying178 rfl Pv.nfo3 (by decide) rfl
@[simp] theorem fa178_3 {x : PV} : fieldAddrE Tryz.prog 178 x 3 = addE x 3 := fieldAddr_of Tryz.underlying178 rfl Pv.nfo174 (by decide) rfl
@[simp] theorem fa178_4 {x : PV} : fieldAddrE Tryz.prog 178 x 4 = addE x 4 := fieldAddr_of Tryz.underlying178 rfl Pv.nfo3 (by decide) rfl
@[simp] theorem fa237_0 {x : PV} : fieldAddrE Tryz.prog 237 x 0 = addE x 0 := fieldAddr_of Tryz.underlying237 rfl Pv.nfo233 (by decide) rfl
@[simp] theorem fa237_1 {x : PV} : fieldAddrE Tryz.prog 237 x 1 = addE x 1 := fieldAddr_of Tryz.underlying237 rfl Pv.nfo3 (by decide) rfl
@[simp] theorem fa237_2 {x : PV} : fieldAddrE Tryz.prog 237 x 2 = addE x 2 := fieldAddr_of Tryz.underlying237 rfl Pv.nfo29 (by decide) rfl
@[simp] theorem fa243_0 {x : PV} : fieldAddrE Tryz.prog 243 x 0 = addE x 0 := fieldAddr_of Tryz.underlying243 rfl Pv.nfo74 (by decide) rfl
@[simp] theorem fa243_1 {x : PV} : fieldAddrE Tryz.prog 243 x 1 = addE x 1 := fieldAddr_of Tryz.underlying243 rfl Pv.nfo9 (by decide) rfl
@[simp] theorem fa253_0 {x : PV} : fieldAddrE Tryz.prog 253 x 0 = addE x 0 := fieldAddr_of Tryz.underlying253 rfl Pv.nfo3 (by decide) rfl
@[simp] theorem fa253_1 {x : PV} : fieldAddrE Tryz.prog 253 x 1 = addE x 1 := fieldAddr_of Tryz.underlying253 rfl Pv.nfo3 (by decide) rfl
@[simp] theorem fa270_0 {x : PV} : fieldAddrE Tryz.prog 270 x 0 = addE x 0 := fieldAddr_of Tryz.underlying270 rfl Pv.nfo3 (by decide) rfl
@[simp] theorem fa270_1 {x : PV} : fieldAddrE Tryz.prog 270 x 1 = addE x 1 := fieldAddr_of Tryz.underlying270 rfl Pv.nfo3 (by decide) rfl
@[simp] theorem fa280_0 {x : PV} : fieldAddrE Tryz.prog 280 x 0 = addE x 0 := fieldAddr_of Tryz.underlying280 rfl Pv.nfo3 (by decide) rfl
@[simp] theorem fa280_1 {x : PV} : fieldAddrE Tryz.prog 280 x 1 = addE x 1 := fieldAddr_of Tryz.underlying280 rfl Pv.nfo9 (by decide) rfl
@[simp] theorem fa280_2 {x : PV} : fieldAddrE Tryz.prog 280 x 2 = addE x 2 := fieldAddr_of Tryz.underlying280 rfl Pv.nfo3 (by decide) rfl
@[simp] theorem fa280_3 {x : PV} : fieldAddrE Tryz.prog 280 x 3 = addE x 3 := fieldAddr_of Tryz.underlying280 rfl Pv.nfo3 (by decide) rfl
@[simp] theorem fa28_0 {x : PV} : fieldAddrE Tryz.prog 28 x 0 = addE x 0 := fieldAddr_of Tryz.underlying28 rfl Pv.nfo23 (by decide) rfl
@[simp] theorem fa28_1 {x : PV} : fieldAddrE Tryz.prog 28 x 1 = addE x 1 := fieldAddr_of Tryz.underlying28 rfl Pv.nfo24 (by decide) rfl
@[simp] theorem fa28_2 {x : PV} : fieldAddrE Tryz.prog 28 x 2 = addE x 2 := fieldAddr_of Tryz.underlying28 rfl Pv.nfo25 (by decide) rfl
@[simp] theorem fa28_3 {x : PV} : fieldAddrE Tryz.prog 28 x 3 = addE x 3 := fieldAddr_of Tryz.underlying28 rfl Pv.nfo26 (by decide) rfl
@[simp] theorem fa38_0 {x : PV} : fieldAddrE Tryz.prog 38 x 0 = addE x 0 := fieldAddr_of Tryz.underlying38 rfl Pv.nfo33 (by decide) rfl
@[simp] theorem fa38_1 {x : PV} : fieldAddrE Tryz.prog 38 x 1 = addE x 1 := fieldAddr_of Tryz.underlying38 rfl Pv.nfo34 (by decide) rfl
@[simp] theorem fa38_2 {x : PV} : fieldAddrE Tryz.prog 38 x 2 = addE x 2 := fieldAddr_of Tryz.underlying38 rfl Pv.nfo35 (by decide) rfl
@[simp] theorem fa38_3 {x : PV} : fieldAddrE Tryz.prog 38 x 3 = addE x 3 := fieldAddr_of Tryz.underlying38 rfl Pv.nfo36 (by decide) rfl
@[simp] theorem fa49_0 {x : PV} : fieldAddrE Tryz.prog 49 x 0 = addE x 0 := fieldAddr_of Tryz.underlying49 rfl Pv.nfo3 (by decide) rfl
@[simp] theorem fa49_1 {x : PV} : fieldAddrE Tryz.prog 49 x 1 = addE x 1 := fieldAddr_of Tryz.underlying49 rfl Pv.nfo9 (by decide) rfl
@[simp] theorem fa49_2 {x : PV} : fieldAddrE Tryz.prog 49 x 2 = addE x 2 := fieldAddr_of Tryz.underlying49 rfl Pv.nfo3 (by decide) rfl
@[simp] theorem fa49_3 {x : PV} : fieldAddrE Tryz.prog 49 x 3 = addE x 3 := fieldAddr_of Tryz.underlying49 rfl Pv.nfo3 (by decide) rfl
@[simp] theorem fa52_0 {x : PV} : fieldAddrE Tryz.prog 52 x 0 = addE x 0 := fieldAddr_of Tryz.underlying52 rfl Pv.nfo50 (by decide) rfl
@[simp] theorem fa52_1 {x : PV} : fieldAddrE Tryz.prog 52 x 1 = addE x 1 := fieldAddr_of Tryz.underlying52 rfl Pv.nfo3 (by decide) rfl
@[simp] theorem fa52_2 {x : PV} : fieldAddrE Tryz.prog 52 x 2 = addE x 2 := fieldAddr_of Tryz.underlying52 rfl Pv.nfo3 (by decide) rfl
@[simp] theorem fa52_3 {x : PV} : fieldAddrE Tryz.prog 52 x 3 = addE x 3 := fieldAddr_of Tryz.underlying52 rfl Pv.nfo3 (by decide) rfl
@[simp] theorem fa56_0 {x : PV} : fieldAddrE Tryz.prog 56 x 0 = addE x 0 := fieldAddr_of Tryz.underlying56 rfl Pv.nfo9 (by decide) rfl
@[simp] theorem fa56_1 {x : PV} : fieldAddrE Tryz.prog 56 x 1 = addE x 1 := fieldAddr_of Tryz.underlying56 rfl Pv.nfo3 (by decide) rfl
@[simp] theorem fa56_2 {x : PV} : fieldAddrE Tryz.prog 56 x 2 = addE x 2 := fieldAddr_of Tryz.underlying56 rfl Pv.nfo3 (by decide) rfl
@[simp] theorem fa56_3 {x : PV} : fieldAddrE Tryz.prog 56 x 3 = addE x 3 := fieldAddr_of Tryz.underlying56 rfl Pv.nfo3 (by decide) rfl
@[simp] theorem fa56_4 {x : PV} : fieldAddrE Tryz.prog 56 x 4 = addE x 4 := fieldAddr_of Tryz.underlying56 rfl Pv.nfo3 (by decide) rfl
@[simp] theorem fa65_0 {x : PV} : fieldAddrE Tryz.prog 65 x 0 = addE x 0 := fieldAddr_of Tryz.underlying65 rfl Pv.nfo63 (by decide) rfl
@[simp] theorem fa65_1 {x : PV} : fieldAddrE Tryz.prog 65 x 1 = addE x 1 := fieldAddr_of Tryz.underlying65 rfl Pv.nfo3 (by decide) rfl
@[simp] theorem fa65_2 {x : PV} : fieldAddrE Tryz.prog 65 x 2 = addE x 2 := fieldAddr_of Tryz.underlying65 rfl Pv.nfo3 (by decide) rfl
@[simp] theorem fa65_3 {x : PV} : fieldAddrE Tryz.prog 65 x 3 = addE x 3 := fieldAddr_of Tryz.underlying65 rfl Pv.nfo3 (by decide) rfl
@[simp] theorem fa68_0 {x : PV} : fieldAddrE Tryz.prog 68 x 0 = addE x 0 := fieldAddr_of Tryz.underlying68 rfl Pv.nfo9 (by decide) rfl
@[simp] theorem fa68_1 {x : PV} : fieldAddrE Tryz.prog 68 x 1 = addE x 1 := fieldAddr_of Tryz.underlying68 rfl Pv.nfo3 (by decide) rfl
@[simp] theorem fa68_2 {x : PV} : fieldAddrE Tryz.prog 68 x 2 = addE x 2 := fieldAddr_of Tryz.underlying68 rfl Pv.nfo3 (by decide) rfl
@[simp] theorem fa68_3 {x : PV} : fieldAddrE Tryz.prog 68 x 3 = addE x 3 := fieldAddr_of Tryz.underlying68 rfl Pv.nfo3 (by decide) rfl
@[simp] theorem fa68_4 {x : PV} : fieldAddrE Tryz.prog 68 x 4 = addE x 4 := fieldAddr_of Tryz.underlying68 rfl Pv.nfo3 (by decide) rfl
@[simp] theorem fa78_0 {x : PV} : fieldAddrE Tryz.prog 78 x 0 = addE x 0 := fieldAddr_of Tryz.underlying78 rfl Pv.nfo9 (by decide) rfl
@[simp] theorem fa78_1 {x : PV} : fieldAddrE Tryz.prog 78 x 1 = addE x 1 := fieldAddr_of Tryz.underlying78 rfl Pv.nfo26 (by decide) rfl
@[simp] theorem fa82_0 {x : PV} : fieldAddrE Tryz.prog 82 x 0 = addE x 0 := fieldAddr_of Tryz.underlying82 rfl Pv.nfo9 (by decide) rfl
@[simp] theorem fa82_1 {x : PV} : fieldAddrE Tryz.prog 82 x 1 = addE x 1 := fieldAddr_of Tryz.underlying82 rfl Pv.nfo9 (by decide) rfl
@[simp] theorem fa82_2 {x : PV} : fieldAddrE Tryz.prog 82 x 2 = addE x 2 := fieldAddr_of Tryz.underlying82 rfl Pv.nfo80 (by decide) rfl
@[simp] theorem fa82_3 {x : PV} : fieldAddrE Tryz.prog 82 x 3 = addE x 3 := fieldAddr_of Tryz.underlying82 rfl Pv.nfo26 (by decide) rfl
@[simp] theorem fa82_4 {x : PV} : fieldAddrE Tryz.prog 82 x 4 = addE x 4 := fieldAddr_of Tryz.underlying82 rfl Pv.nfo26 (by decide) rfl
@[simp] theorem fa82_5 {x : PV} : fieldAddrE Tryz.prog 82 x 5 = addE x 5 := fieldAddr_of Tryz.underlying82 rfl Pv.nfo3 (by decide) rfl
@[simp] theorem fa88_0 {x : PV} : fieldAddrE Tryz.prog 88 x 0 = addE x 0 := fieldAddr_of Tryz.underlying88 rfl Pv.nfo9 (by decide) rfl
@[simp] theorem fa88_1 {x : PV} : fieldAddrE Tryz.prog 88 x 1 = addE x 1 := fieldAddr_of Tryz.underlying88 rfl Pv.nfo9 (by decide) rfl
@[simp] theorem fa88_2 {x : PV} : fieldAddrE Tryz.prog 88 x 2 = addE x 2 := fieldAddr_of Tryz.underlying88 rfl Pv.nfo3 (by decide) rfl
@[simp] theorem fa88_3 {x : PV} : fieldAddrE Tryz.prog 88 x 3 = addE x 3 := fieldAddr_of Tryz.underlying88 rfl Pv.nfo80 (by decide) rfl
@[simp] theorem fa88_4 {x : PV} : fieldAddrE Tryz.prog 88 x 4 = addE x 4 := fieldAddr_of Tryz.underlying88 rfl Pv.nfo3 (by decide) rfl
@[simp] theorem fa98_0 {x : PV} : fieldAddrE Tryz.prog 98 x 0 = addE x 0 := fieldAddr_of Tryz.underlying98 rfl Pv.nfo9 (by decide) rfl
@[simp] theorem fa98_1 {x : PV} : fieldAddrE Tryz.prog 98 x 1 = addE x 1 := fieldAddr_of Tryz.underlying98 rfl Pv.nfo36 (by decide) rfl
@[simp] theorem fd65_0 {cs : List PV} : fieldE Tryz.prog 65 (.agg cs) 0 = loadE Tryz.prog 63 cs 0 := field_of2 Tryz.underlying65 rfl rfl rfl
@[simp] theorem ib10 : isBody Tryz.prog 10 = true := isBody_of Tryz.func10 rfl (by kernel_rfl)
@[simp] theorem ib100 : isBody Tryz.prog 100 = true := isBody_of Tryz.func100 rfl (by kernel_rfl)
@[simp] theorem ib101 : isBody Tryz.prog 101 = true := isBody_of Tryz.func101 rfl (by kernel_rfl)
@[simp] theorem ib102 : isBody Tryz.prog 102 = true := isBody_of Tryz.func102 rfl (by kernel_rfl)
@[simp] theorem ib103 : isBody Tryz.prog 103 = true := isBody_of Tryz.func103 rfl (by kernel_rfl)
@[simp] theorem ib104 : isBody Tryz.prog 104 = true := isBody_of Tryz.func104 rfl (by kernel_rfl)
@[simp] theorem ib105 : isBody Tryz.prog 105 = true := isBody_of Tryz.func105 rfl (by kernel_rfl)
@[simp] theorem ib106 : isBody Tryz.prog 106 = true := isBody_of Tryz.func106 rfl (by kernel_rfl)
@[simp] theorem ib107 : isBody Tryz.prog 107 = true := isBody_of Tryz.func107 rfl (by kernel_rfl)
@[simp] theorem ib108 : isBody Tryz.prog 108 = true := isBody_of Tryz.func108 rfl (by kernel_rfl)
@[simp] theorem ib109 : isBody Tryz.prog 109 = true := isBody_of Tryz.func109 rfl (by kernel_rfl)
@[simp] theorem ib11 : isBody Tryz.prog 11 = true := isBody_of Tryz.func11 rfl (by kernel_rfl)
@[simp] theorem ib110 : isBody Tryz.prog 110 = true := isBody_of Tryz.func110 rfl (by kernel_rfl)
@[simp] theorem ib111 : isBody Tryz.prog 111 = true := isBody_of Tryz.func111 rfl (by kernel_rfl)
@[simp] theorem ib112 : isBody Tryz.prog 112 = true := isBody_of Tryz.func112 rfl (by kernel_rfl)
@[simp] theorem ib113 : isBody Tryz.prog 113 = true := isBody_of Tryz.func113 rfl (by kernel_rfl)
@[simp] theorem ib114 : isBody Tryz.prog 114 = true := isBody_of Tryz.func114 rfl (by kernel_rfl)
@[simp] theorem ib115 : isBody Tryz.prog 115 = true := isBody_of Tryz.func115 rfl (by kernel_rfl)
@[simp] theorem ib116 : isBody Tryz.prog 116 = true := isBody_of Tryz.func116 rfl (by kernel_rfl)
@[simp] theorem ib117 : isBody Tryz.prog 117 = true := isBody_of Tryz.func117 rfl (by kernel_rfl)
@[simp] theorem ib118 : isBody Tryz.prog 118 = true := isBody_of Tryz.func118 rfl (by kernel_rfl)
@[simp] theorem ib119 : isBody Tryz.prog 119 = true := isBody_of Tryz.func119 rfl (by kernel_rfl)
@[simp] theorem ib12 : isBody Tryz.prog 12 = true := isBody_of Tryz.func12 rfl (by kernel_rfl)
@[simp] theorem ib120 : isBody Tryz.prog 120 = true := isBody_of Tryz.func120 rfl (by kernel_rfl)
@[simp] theorem ib121 : isBody Tryz.prog 121 = true := isBody_of Tryz.func121 rfl (by kernel_rfl)
@[simp] theorem ib122 : isBody Tryz.prog 122 = true := isBody_of Tryz.func122 rfl (by kernel_rfl)
@[simp] theorem ib123 : isBody Tryz.prog 123 = true := isBody_of Tryz.func123 rfl (by kernel_rfl)
@[simp] theorem ib124 : isBody Tryz.prog 124 = true := isBody_of Tryz.func124 rfl (by kernel_rfl)
@[simp] theorem ib125 : isBody Tryz.prog 125 = true := isBody_of Tryz.func125 rfl (by kernel_rfl)
@[simp] theorem ib126 : isBody Tryz.prog 126 = true := isBody_of Tryz.func126 rfl (by kernel_rfl)
@[simp] theorem ib127 : isBody Tryz.prog 127 = true := isBody_of Tryz.func127 rfl (by kernel_rfl)
@[simp] theorem ib128 : isBody Tryz.prog 128 = true := isBody_of Tryz.func128 rfl (by kernel_rfl)
@[simp] theorem ib129 : isBody Tryz.prog 129 = true := isBody_of Tryz.func129 rfl (by kernel_rfl)
@[simp] theorem ib13 : isBody Tryz.prog 13 = true := isBody_of Tryz.func13 rfl (by kernel_rfl)
@[simp] theorem ib130 : isBody Tryz.prog 130 = true := isBody_of Tryz.func130 rfl (by kernel_rfl)
@[simp] theorem ib131 : isBody Tryz.prog 131 = true := isBody_of Tryz.func131 rfl (by kernel_rfl)
@[simp] theorem ib132 : isBody Tryz.prog 132 = true := isBody_of Tryz.func132 rfl (by kernel_rfl)
@[simp] theorem ib133 : isBody Tryz.prog 133 = true := isBody_of Tryz.func133 rfl (by kernel_rfl)
@[simp] theorem ib134 : isBody Tryz.prog 134 = true := isBody_of Tryz.func134 rfl (by kernel_rfl)
@[simp] theorem ib135 : isBody Tryz.prog 135 = true := isBody_of Tryz.func135 rfl (by kernel_rfl)
@[simp] theorem ib136 : isBody Tryz.prog 136 = true := isBody_of Tryz.func136 rfl (by kernel_rfl)
@[simp] theorem ib137 : isBody Tryz.prog 137 = true := isBody_of Tryz.func137 rfl (by kernel_rfl)
@[simp] theorem ib138 : isBody Tryz.prog 138 = true := isBody_of Tryz.func138 rfl (by kernel_rfl)
@[simp] theorem ib139 : isBody Tryz.prog 139 = true := isBody_of Tryz.func139 rfl (by kernel_rfl)
@[simp] theorem ib14 : isBody Tryz.prog 14 = true := isBody_of Tryz.func14 rfl (by kernel_rfl)
@[simp] theorem ib140 : isBody Tryz.prog 140 = true := isBody_of Tryz.func140 rfl (by kernel_rfl)
@[simp] theorem ib141 : isBody Tryz.prog 141 = true := isBody_of Tryz.func141 rfl (by kernel_rfl)
@[simp] theorem ib142 : isBody Tryz.prog 142 = true := isBody_of Tryz.func142 rfl (by kernel_rfl)
@[simp] theorem ib143 : isBody Tryz.prog 143 = true := isBody_of Tryz.func143 rfl (by kernel_rfl)
@[simp] theorem ib144 : isBody Tryz.prog 144 = true := isBody_of Tryz.func144 rfl (by kernel_rfl)
@[simp] theorem ib145 : isBody Tryz.prog 145 = true := isBody_of Tryz.func145 rfl (by kernel_rfl)
@[simp] theorem ib146 : isBody Tryz.prog 146 = true := isBody_of Tryz.func146 rfl (by kernel_rfl)
@[simp] theorem ib147 : isBody Tryz.prog 147 = true := isBody_of Tryz.func147 rfl (by kernel_rfl)
@[simp] theorem ib148 : isBody Tryz.prog 148 = true := isBody_of Tryz.func148 rfl (by kernel_rfl)
@[simp] theorem ib149 : isBody Tryz.prog 149 = true := isBody_of Tryz.func149 rfl (by kernel_rfl)
@[simp] theorem ib15 : isBody Tryz.prog 15 = true := isBody_of Tryz.func15 rfl (by kernel_rfl)
@[simp] theorem ib150 : isBody Tryz.prog 150 = true := isBody_of Tryz.func150 rfl (by kernel_rfl)
@[simp] theorem ib151 : isBody Tryz.prog 151 = true := isBody_of Tryz.func151 rfl (by kernel_rfl)
@[simp] theorem ib152 : isBody Tryz.prog 152 = true := isBody_of Tryz.func152 rfl (by kernel_rfl)
@[simp] theorem ib153 : isBody Tryz.prog 153 = true := isBody_of Tryz.func153 rfl (by kernel_rfl)
@[simp] theorem ib154 : isBody Tryz.prog 154 = true := isBody_of Tryz.func154 rfl (by kernel_rfl)
@[simp] theorem ib155 : isBody Tryz.prog 155 = true := isBody_of Tryz.func155 rfl (by kernel_rfl)
@[simp] theorem ib156 : isBody Tryz.prog 156 = true := isBody_of Tryz.func156 rfl (by kernel_rfl)
@[simp] theorem ib157 : isBody Tryz.prog 157 = true := isBody_of Tryz.func157 rfl (by kernel_rfl)
@[simp] theorem ib158 : isBody Tryz.prog 158 = true := isBody_of Tryz.func158 rfl (by kernel_rfl)
@[simp] theorem ib159 : isBody Tryz.prog 159 = true := isBody_of Tryz.func159 rfl (by kernel_rfl)
@[simp] theorem ib16 : isBody Tryz.prog 16 = true := isBody_of Tryz.func16 rfl (by kernel_rfl)
@[simp] theorem ib160 : isBody Tryz.prog 160 = true := isBody_of Tryz.func160 rfl (by kernel_rfl)
@[simp] theorem ib161 : isBody Tryz.prog 161 = true := isBody_of Tryz.func161 rfl (by kernel_rfl)
@[simp] theorem ib162 : isBody Tryz.prog 162 = true := isBody_of Tryz.func162 rfl (by kernel_rfl)
@[simp] theorem ib163 : isBody Tryz.prog 163 = true := isBody_of Tryz.func163 rfl (by kernel_rfl)
@[simp] theorem ib164 : isBody Tryz.prog 164 = true := isBody_of Tryz.func164 rfl (by kernel_rfl)
@[simp] theorem ib165 : isBody Tryz.prog 165 = true := isBody_of Tryz.func165 rfl (by kernel_rfl)
@[simp] theorem ib166 : isBody Tryz.prog 166 = true := isBody_of Tryz.func166 rfl (by kernel_rfl)
@[simp] theorem ib167 : isBody Tryz.prog 167 = true := isBody_of Tryz.func167 rfl (by kernel_rfl)
@[simp] theorem ib168 : isBody Tryz.prog 168 = true := isBody_of Tryz.func168 rfl (by kernel_rfl)
@[simp] theorem ib169 : isBody Tryz.prog 169 = true := isBody_of Tryz.func169 rfl (by kernel_rfl)
@[simp] theorem ib17 : isBody Tryz.prog 17 = true := isBody_of Tryz.func17 rfl (by kernel_rfl)
@[simp] theorem ib170 : isBody Tryz.prog 170 = true := isBody_of Tryz.func170 rfl (by kernel_rfl)
@[simp] theorem ib171 : isBody Tryz.prog 171 = true := isBody_of Tryz.func171 rfl (by kernel_rfl)
@[simp] theorem ib172 : isBody Tryz.prog 172 = true := isBody_of Tryz.func172 rfl (by kernel_rfl)
@[simp] theorem ib173 : isBody Tryz.prog 173 = true := isBody_of Tryz.func173 rfl (by kernel_rfl)
@[simp] theorem ib175 : isBody Tryz.prog 175 = true := isBody_of Tryz.func175 rfl (by kernel_rfl)
@[simp] theorem ib176 : isBody Tryz.prog 176 = true := isBody_of Tryz.func176 rfl (by kernel_rfl)
@[simp] theorem ib177 : isBody Tryz.prog 177 = true := isBody_of Tryz.func177 rfl (by kernel_rfl)
@[simp] theorem ib178 : isBody Tryz.prog 178 = true := isBody_of Tryz.func178 rfl (by kernel_rfl)
@[simp] theorem ib179 : isBody Tryz.prog 179 = true := isBody_of Tryz.func179 rfl (by kernel_rfl)
@[simp] theorem ib18 : isBody Tryz.prog 18 = true := isBody_of Tryz.func18 rfl (by kernel_rfl)
@[simp] theorem ib180 : isBody Tryz.prog 180 = true := isBody_of Tryz.func180 rfl (by kernel_rfl)
@[simp] theorem ib181 : isBody Tryz.prog 181 = true := isBody_of Tryz.func181 rfl (by kernel_rfl)
@[simp] theorem ib182 : isBody Tryz.prog 182 = true := isBody_of Tryz.func182 rfl (by kernel_rfl)
@[simp] theorem ib183 : isBody Tryz.prog 183 = true := isBody_of Tryz.func183 rfl (by kernel_rfl)
@[simp] theorem ib184 : isBody Tryz.prog 184 = true := isBody_of Tryz.func184 rfl (by kernel_rfl)
@[simp] theorem ib185 : isBody Tryz.prog 185 = true := isBody_of Tryz.func185 rfl (by kernel_rfl)
@[simp] theorem ib186 : isBody Tryz.prog 186 = true := isBody_of Tryz.func186 rfl (by kernel_rfl)
@[simp] theorem ib187 : isBody Tryz.prog 187 = true := isBody_of Tryz.func187 rfl (by kernel_rfl)
@[simp] theorem ib188 : isBody Tryz.prog 188 = true := isBody_of Tryz.func188 rfl (by kernel_rfl)
@[simp] theorem ib189 : isBody Tryz.prog 189 = true := isBody_of Tryz.func189 rfl (by kernel_rfl)
@[simp] theorem ib19 : isBody Tryz.prog 19 = true := isBody_of Tryz.func19 rfl (by kernel_rfl)
@[simp] theorem ib190 : isBody Tryz.prog 190 = true := isBody_of Tryz.func190 rfl (by kernel_rfl)
@[simp] theorem ib191 : isBody Tryz.prog 191 = true := isBody_of Tryz.func191 rfl (by kernel_rfl)
@[simp] theorem ib192 : isBody Tryz.prog 192 = true := isBody_of Tryz.func192 rfl (by kernel_rfl)
@[simp] theorem ib193 : isBody Tryz.prog 193 = true := isBody_of Tryz.func193 rfl (by kernel_rfl)
@[simp] theorem ib194 : isBody Tryz.prog 194 = true := isBody_of Tryz.func194 rfl (by kernel_rfl)
@[simp] theorem ib195 : isBody Tryz.prog 195 = true := isBody_of Tryz.func195 rfl (by kernel_rfl)
@[simp] theorem ib196 : isBody Tryz.prog 196 = true := isBody_of Tryz.func196 rfl (by kernel_rfl)
@[simp] theorem ib197 : isBody Tryz.prog 197 = true := isBody_of Tryz.func197 rfl (by kernel_rfl)
@[simp] theorem ib198 : isBody Tryz.prog 198 = true := isBody_of Tryz.func198 rfl (by kernel_rfl)
@[simp] theorem ib199 : isBody Tryz.prog 199 = true := isBody_of Tryz.func199 rfl (by kernel_rfl)
@[simp] theorem ib20 : isBody Tryz.prog 20 = true := isBody_of Tryz.func20 rfl (by kernel_rfl)
@[simp] theorem ib200 : isBody Tryz.prog 200 = true := isBody_of Tryz.func200 rfl (by kernel_rfl)
@[simp] theorem ib201 : isBody Tryz.prog 201 = true := isBody_of Tryz.func201 rfl (by kernel_rfl)
@[simp] theorem ib202 : isBody Tryz.prog 202 = true := isBody_of Tryz.func202 rfl (by kernel_rfl)
@[simp] theorem ib203 : isBody Tryz.prog 203 = true := isBody_of Tryz.func203 rfl (by kernel_rfl)
@[simp] theorem ib204 : isBody Tryz.prog 204 = true := isBody_of Tryz.func204 rfl (by kernel_rfl)
@[simp] theorem ib206 : isBody Tryz.prog 206 = true := isBody_of Tryz.func206 rfl (by kernel_rfl)
@[simp] theorem ib207 : isBody Tryz.prog 207 = true := isBody_of Tryz.func207 rfl (by kernel_rfl)
@[simp] theorem ib208 : isBody Tryz.prog 208 = true := isBody_of Tryz.func208 rfl (by kernel_rfl)
@[simp] theorem ib209 : isBody Tryz.prog 209 = true := isBody_of Tryz.func209 rfl (by kernel_rfl)
@[simp] theorem ib21 : isBody Tryz.prog 21 = true := isBody_of Tryz.func21 rfl (by kernel_rfl)
@[simp] theorem ib211 : isBody Tryz.prog 211 = true := isBody_of Tryz.func211 rfl (by kernel_rfl)
@[simp] theorem ib212 : isBody Tryz.prog 212 = true := isBody_of Tryz.func212 rfl (by kernel_rfl)
@[simp] theorem ib213 : isBody Tryz.prog 213 = true := isBody_of Tryz.func213 rfl (by kernel_rfl)
@[simp] theorem ib214 : isBody Tryz.prog 214 = true := isBody_of Tryz.func214 rfl (by kernel_rfl)
@[simp] theorem ib215 : isBody Tryz.prog 215 = true := isBody_of Tryz.func215 rfl (by kernel_rfl)
@[simp] theorem ib216 : isBody Tryz.prog 216 = true := isBody_of Tryz.func216 rfl (by kernel_rfl)
@[simp] theorem ib217 : isBody Tryz.prog 217 = true := isBody_of Tryz.func217 rfl (by kernel_rfl)
@[simp] theorem ib218 : isBody Tryz.prog 218 = true := isBody_of Tryz.func218 rfl (by kernel_rfl)
@[simp] theorem ib219 : isBody Tryz.prog 219 = true := isBody_of Tryz.func219 rfl (by kernel_rfl)
@[simp] theorem ib22 : isBody Tryz.prog 22 = true := isBody_of Tryz.func22 rfl (by kernel_rfl)
@[simp] theorem ib220 : isBody Tryz.prog 220 = true := isBody_of Tryz.func220 rfl (by kernel_rfl)
@[simp] theorem ib221 : isBody Tryz.prog 221 = true := isBody_of Tryz.func221 rfl (by kernel_rfl)
@[simp] theorem ib222 : isBody Tryz.prog 222 = true := isBody_of Tryz.func222 rfl (by kernel_rfl)
@[simp] theorem ib223 : isBody Tryz.prog 223 = true := isBody_of Tryz.func223 rfl (by kernel_rfl)
@[simp] theorem ib224 : isBody Tryz.prog 224 = true := isBody_of Tryz.func224 rfl (by kernel_rfl)
@[simp] theorem ib225 : isBody Tryz.prog 225 = true := isBody_of Tryz.func225 rfl (by kernel_rfl)
@[simp] theorem ib226 : isBody Tryz.prog 226 = true := isBody_of Tryz.func226 rfl (by kernel_rfl)
@[simp] theorem ib227 : isBody Tryz.prog 227 = true := isBody_of Tryz.func227 rfl (by kernel_rfl)
@[simp] theorem ib228 : isBody Tryz.prog 228 = true := isBody_of Tryz.func228 rfl (by kernel_rfl)
@[simp] theorem ib229 : isBody Tryz.prog 229 = true := isBody_of Tryz.func229 rfl (by kernel_rfl)
@[simp] theorem ib23 : isBody Tryz.prog 23 = true := isBody_of Tryz.func23 rfl (by kernel_rfl)
@[simp] theorem ib230 : isBody Tryz.prog 230 = true := isBody_of Tryz.func230 rfl (by kernel_rfl)
@[simp] theorem ib231 : isBody Tryz.prog 231 = true := isBody_of Tryz.func231 rfl (by kernel_rfl)
@[simp] theorem ib232 : isBody Tryz.prog 232 = true := isBody_of Tryz.func232 rfl (by kernel_rfl)
@[simp] theorem ib233 : isBody Tryz.prog 233 = true := isBody_of Tryz.func233 rfl (by kernel_rfl)
@[simp] theorem ib234 : isBody Tryz.prog 234 = true := isBody_of Tryz.func234 rfl (by kernel_rfl)
@[simp] theorem ib236 : isBody Tryz.prog 236 = true := isBody_of Tryz.func236 rfl (by kernel_rfl)
@[simp] theorem ib237 : isBody Tryz.prog 237 = true := isBody_of Tryz.func237 rfl (by kernel_rfl)
@[simp] theorem ib24 : isBody Tryz.prog 24 = true := isBody_of Tryz.func24 rfl (by kernel_rfl)
@[simp] theorem ib245 : isBody Tryz.prog 245 = true := isBody_of Tryz.func245 rfl (by kernel_rfl)
@[simp] theorem ib246 : isBody Tryz.prog 246 = true := isBody_of Tryz.func246 rfl (by kernel_rfl)
@[simp] theorem ib247 : isBody Tryz.prog 247 = true := isBody_of Tryz.func247 rfl (by kernel_rfl)
@[simp] theorem ib248 : isBody Tryz.prog 248 = true := isBody_of Tryz.func248 rfl (by kernel_rfl)
@[simp] theorem ib249 : isBody Tryz.prog 249 = true := isBody_of Tryz.func249 rfl (by kernel_rfl)
@[simp] theorem ib25 : isBody Tryz.prog 25 = true := isBody_of Tryz.func25 rfl (by kernel_rfl)
@[simp] theorem ib250 : isBody Tryz.prog 250 = true := isBody_of Tryz.func250 rfl (by kernel_rfl)
@[simp] theorem ib251 : isBody Tryz.prog 251 = true := isBody_of Tryz.func251 rfl (by kernel_rfl)
@[simp] theorem ib255 : isBody Tryz.prog 255 = true := isBody_of Tryz.func255 rfl (by kernel_rfl)
@[simp] theorem ib256 : isBody Tryz.prog 256 = true := isBody_of Tryz.func256 rfl (by kernel_rfl)
@[simp] theorem ib257 : isBody Tryz.prog 257 = true := isBody_of Tryz.func257 rfl (by kernel_rfl)
@[simp] theorem ib258 : isBody Tryz.prog 258 = true := isBody_of Tryz.func258 rfl (by kernel_rfl)
@[simp] theorem ib259 : isBody Tryz.prog 259 = true := isBody_of Tryz.func259 rfl (by kernel_rfl)
@[simp] theorem ib26 : isBody Tryz.prog 26 = true := isBody_of Tryz.func26 rfl (by kernel_rfl)
@[simp] theorem ib27 : isBody Tryz.prog 27 = true := isBody_of Tryz.func27 rfl (by kernel_rfl)
@[simp] theorem ib28 : isBody Tryz.prog 28 = true := isBody_of Tryz.func28 rfl (by kernel_rfl)
@[simp] theorem ib29 : isBody Tryz.prog 29 = true := isBody_of Tryz.func29 rfl (by kernel_rfl)
@[simp] theorem ib3 : isBody Tryz.prog 3 = true := isBody_of Tryz.func3 rfl (by kernel_rfl)
@[simp] theorem ib30 : isBody Tryz.prog 30 = true := isBody_of Tryz.func30 rfl (by kernel_rfl)
@[simp] theorem ib31 : isBody Tryz.prog 31 = true := isBody_of Tryz.func31 rfl (by kernel_rfl)
@[simp] theorem ib32 : isBody Tryz.prog 32 = true := isBody_of Tryz.func32 rfl (by kernel_rfl)
@[simp] theorem ib33 : isBody Tryz.prog 33 = true := isBody_of Tryz.func33 rfl (by kernel_rfl)
@[simp] theorem ib34 : isBody Tryz.prog 34 = true := isBody_of Tryz.func34 rfl (by kernel_rfl)
@[simp] theorem ib35 : isBody Tryz.prog 35 = true := isBody_of Tryz.func35 rfl (by kernel_rfl)
@[simp] theorem ib36 : isBody Tryz.prog 36 = true := isBody_of Tryz.func36 rfl (by kernel_rfl)
@[simp] theorem ib37 : isBody Tryz.prog 37 = true := isBody_of Tryz.func37 rfl (by kernel_rfl)
@[simp] theorem ib38 : isBody Tryz.prog 38 = true := isBody_of Tryz.func38 rfl (by kernel_rfl)
@[simp] theorem ib39 : isBody Tryz.prog 39 = true := isBody_of Tryz.func39 rfl (by kernel_rfl)
@[simp] theorem ib4 : isBody Tryz.prog 4 = true := isBody_of Tryz.func4 rfl (by kernel_rfl)
@[simp] theorem ib40 : isBody Tryz.prog 40 = true := isBody_of Tryz.func40 rfl (by kernel_rfl)
@[simp] theorem ib41 : isBody Tryz.prog 41 = true := isBody_of Tryz.func41 rfl (by kernel_rfl)
@[simp] theorem ib42 : isBody Tryz.prog 42 = true := isBody_of Tryz.func42 rfl (by kernel_rfl)
@[simp] theorem ib43 : isBody Tryz.prog 43 = true := isBody_of Tryz.func43 rfl (by kernel_rfl)
@[simp] theorem ib44 : isBody Tryz.prog 44 = true := isBody_of Tryz.func44 rfl (by kernel_rfl)
@[simp] theorem ib45 : isBody Tryz.prog 45 = true := isBody_of Tryz.func45 rfl (by kernel_rfl)
@[simp] theorem ib46 : isBody Tryz.prog 46 = true := isBody_of Tryz.func46 rfl (by kernel_rfl)
@[simp] theorem ib47 : isBody Tryz.prog 47 = true := isBody_of Tryz.func47 rfl (by kernel_rfl)
@[simp] theorem ib48 : isBody Tryz.prog 48 = true := isBody_of Tryz.func48 rfl (by kernel_rfl)
@[simp] theorem ib49 : isBody Tryz.prog 49 = true := isBody_of Tryz.func49 rfl (by kernel_rfl)
@[simp] theorem ib5 : isBody Tryz.prog 5 = true := isBody_of Tryz.func5 rfl (by kernel_rfl)
@[simp] theorem ib50 : isBody Tryz.prog 50 = true := isBody_of Tryz.func50 rfl (by kernel_rfl)
@[simp] theorem ib51 : isBody Tryz.prog 51 = true := isBody_of Tryz.func51 rfl (by kernel_rfl)
@[simp] theorem ib52 : isBody Tryz.prog 52 = true := isBody_of Tryz.func52 rfl (by kernel_rfl)
@[simp] theorem ib53 : isBody Tryz.prog 53 = true := isBody_of Tryz.func53 rfl (by kernel_rfl)
@[simp] theorem ib54 : isBody Tryz.prog 54 = true := isBody_of Tryz.func54 rfl (by kernel_rfl)
@[simp] theorem ib55 : isBody Tryz.prog 55 = true := isBody_of Tryz.func55 rfl (by kernel_rfl)
@[simp] theorem ib56 : isBody Tryz.prog 56 = true := isBody_of Tryz.func56 rfl (by kernel_rfl)
@[simp] theorem ib57 : isBody Tryz.prog 57 = true := isBody_of Tryz.func57 rfl (by kernel_rfl)
@[simp] theorem ib58 : isBody Tryz.prog 58 = true := isBody_of Tryz.func58 rfl (by kernel_rfl)
@[simp] theorem ib59 : isBody Tryz.prog 59 = true := isBody_of Tryz.func59 rfl (by kernel_rfl)
@[simp] theorem ib6 : isBody Tryz.prog 6 = true := isBody_of Tryz.func6 rfl (by kernel_rfl)
@[simp] theorem ib60 : isBody Tryz.prog 60 = true := isBody_of Tryz.func60 rfl (by kernel_rfl)
@[simp] theorem ib61 : isBody Tryz.prog 61 = true := isBody_of Tryz.func61 rfl (by kernel_rfl)
@[simp] theorem ib62 : isBody Tryz.prog 62 = true := isBody_of Tryz.func62 rfl (by kernel_rfl)
@[simp] theorem ib63 : isBody Tryz.prog 63 = true := isBody_of Tryz.func63 rfl (by kernel_rfl)
@[simp] theorem ib64 : isBody Tryz.prog 64 = true := isBody_of Tryz.func64 rfl (by kernel_rfl)
@[simp] theorem ib65 : isBody Tryz.prog 65 = true := isBody_of Tryz.func65 rfl (by kernel_rfl)
@[simp] theorem ib66 : isBody Tryz.prog 66 = true := isBody_of Tryz.func66 rfl (by kernel_rfl)
@[simp] theorem ib67 : isBody Tryz.prog 67 = true := isBody_of Tryz.func67 rfl (by kernel_rfl)
@[simp] theorem ib68 : isBody Tryz.prog 68 = true := isBody_of Tryz.func68 rfl (by kernel_rfl)
@[simp] theorem ib69 : isBody Tryz.prog 69 = true := isBody_of Tryz.func69 rfl (by kernel_rfl)
@[simp] theorem ib7 : isBody Tryz.prog 7 = true := isBody_of Tryz.func7 rfl (by kernel_rfl)
@[simp] theorem ib70 : isBody Tryz.prog 70 = true := isBody_of Tryz.func70 rfl (by kernel_rfl)
@[simp] theorem ib71 : isBody Tryz.prog 71 = true := isBody_of Tryz.func71 rfl (by kernel_rfl)
@[simp] theorem ib72 : isBody Tryz.prog 72 = true := isBody_of Tryz.func72 rfl (by kernel_rfl)
@[simp] theorem ib73 : isBody Tryz.prog 73 = true := isBody_of Tryz.func73 rfl (by kernel_rfl)
@[simp] theorem ib74 : isBody Tryz.prog 74 = true := isBody_of Tryz.func74 rfl (by kernel_rfl)
@[simp] theorem ib75 : isBody Tryz.prog 75 = true := isBody_of Tryz.func75 rfl (by kernel_rfl)
@[simp] theorem ib76 : isBody Tryz.prog 76 = true := isBody_of Tryz.func76 rfl (by kernel_rfl)
@[simp] theorem ib77 : isBody Tryz.prog 77 = true := isBody_of Tryz.func77 rfl (by kernel_rfl)
@[simp] theorem ib78 : isBody Tryz.prog 78 = true := isBody_of Tryz.func78 rfl (by kernel_rfl)
@[simp] theorem ib79 : isBody Tryz.prog 79 = true := isBody_of Tryz.func79 rfl (by kernel_rfl)
@[simp] theorem ib8 : isBody Tryz.prog 8 = true := isBody_of Tryz.func8 rfl (by kernel_rfl)
@[simp] theorem ib80 : isBody Tryz.prog 80 = true := isBody_of Tryz.func80 rfl (by kernel_rfl)
@[simp] theorem ib81 : isBody Tryz.prog 81 = true := isBody_of Tryz.func81 rfl (by kernel_rfl)
@[simp] theorem ib82 : isBody Tryz.prog 82 = true := isBody_of Tryz.func82 rfl (by kernel_rfl)
@[simp] theorem ib83 : isBody Tryz.prog 83 = true := isBody_of Tryz.func83 rfl (by kernel_rfl)
@[simp] theorem ib84 : isBody Tryz.prog 84 = true := isBody_of Tryz.func84 rfl (by kernel_rfl)
@[simp] theorem ib85 : isBody Tryz.prog 85 = true := isBody_of Tryz.func85 rfl (by kernel_rfl)
@[simp] theorem ib86 : isBody Tryz.prog 86 = true := isBody_of Tryz.func86 rfl (by kernel_rfl)
@[simp] theorem ib87 : isBody Tryz.prog 87 = true := isBody_of Tryz.func87 rfl (by kernel_rfl)
@[simp] theorem ib88 : isBody Tryz.prog 88 = true := isBody_of Tryz.func88 rfl (by kernel_rfl)
@[simp] theorem ib89 : isBody Tryz.prog 89 = true := isBody_of Tryz.func89 rfl (by kernel_rfl)
@[simp] theorem ib9 : isBody Tryz.prog 9 = true := isBody_of Tryz.func9 rfl (by kernel_rfl)
@[simp] theorem ib90 : isBody Tryz.prog 90 = true := isBody_of Tryz.func90 rfl (by kernel_rfl)
@[simp] theorem ib91 : isBody Tryz.prog 91 = true := isBody_of Tryz.func91 rfl (by kernel_rfl)
@[simp] theorem ib92 : isBody Tryz.prog 92 = true := isBody_of Tryz.func92 rfl (by kernel_rfl)
@[simp] theorem ib93 : isBody Tryz.prog 93 = true := isBody_of Tryz.func93 rfl (by kernel_rfl)
@[simp] theorem ib94 : isBody Tryz.prog 94 = true := isBody_of Tryz.func94 rfl (by kernel_rfl)
@[simp] theorem ib95 : isBody Tryz.prog 95 = true := isBody_of Tryz.func95 rfl (by kernel_rfl)
@[simp] theorem ib96 : isBody Tryz.prog 96 = true := isBody_of Tryz.func96 rfl (by kernel_rfl)
@[simp] theorem ib97 : isBody Tryz.prog 97 = true := isBody_of Tryz.func97 rfl (by kernel_rfl)
@[simp] theorem ib98 : isBody Tryz.prog 98 = true := isBody_of Tryz.func98 rfl (by kernel_rfl)
@[simp] theorem ib99 : isBody Tryz.prog 99 = true := isBody_of Tryz.func99 rfl (by kernel_rfl)
@[simp] theorem ix128 {rows : List (List FV)} {tag : Tag} {k : IntKind} {x : Int} : indexE Tryz.prog 128 (.sl rows tag) (.im (.int k x)) = idx 1 rows x := index_of Tryz.underlying128 Pv.nfo26 rfl (by decide)
@[simp] theorem ix130 {rows : List (List FV)} {tag : Tag} {k : IntKind} {x : Int} : indexE Tryz.prog 130 (.sl rows tag) (.im (.int k x)) = idx 1 rows x := index_of Tryz.underlying130 Pv.nfo124 rfl (by decide)
@[simp] theorem ix174 {rows : List (List FV)} {tag : Tag} {k : IntKind} {x : Int} : indexE Tryz.prog 174 (.sl rows tag) (.im (.int k x)) = idx 5 rows x := index_of Tryz.underlying174 Pv.nfo178 rfl (by decide)
@[simp] theorem ix211 {rows : List (List FV)} {tag : Tag} {k : IntKind} {x : Int} : indexE Tryz.prog 211 (.sl rows tag) (.im (.int k x)) = idx 1 rows x := index_of Tryz.underlying211 Pv.nfo4 rfl (by decide)
@[simp] theorem ix222 {rows : List (List FV)} {tag : Tag} {k : IntKind} {x : Int} : indexE Tryz.prog 222 (.sl rows tag) (.im (.int k x)) = idx 1 rows x := index_of Tryz.underlying222 Pv.nfo74 rfl (by decide)
@[simp] theorem ix23 {rows : List (List FV)} {tag : Tag} {k : IntKind} {x : Int} : indexE Tryz.prog 23 (.sl rows tag) (.im (.int k x)) = idx 2 rows x := index_of Tryz.underlying23 Pv.nfo101 rfl (by decide)
@[simp] theorem ix233 {rows : List (List FV)} {tag : Tag} {k : IntKind} {x : Int} : indexE Tryz.prog 233 (.sl rows tag) (.im (.int k x)) = idx 4 rows x := index_of Tryz.underlying233 Pv.nfo280 rfl (by decide)
@[simp] theorem ix24 {rows : List (List FV)} {tag : Tag} {k : IntKind} {x : Int} : indexE Tryz.prog 24 (.sl rows tag) (.im (.int k x)) = idx 3 rows x := index_of Tryz.underlying24 Pv.nfo104 rfl (by decide)
@[simp] theorem ix25 {rows : List (List FV)} {tag : Tag} {k : IntKind} {x : Int} : indexE Tryz.prog 25 (.sl rows tag) (.im (.int k x)) = idx 2 rows x := index_of Tryz.underlying25 Pv.nfo78 rfl (by decide)
@[simp] theorem ix26 {rows : List (List FV)} {tag : Tag} {k : IntKind} {x : Int} : indexE Tryz.prog 26 (.sl rows tag) (.im (.int k x)) = idx 6 rows x := index_of Tryz.underlying26 Pv.nfo82 rfl (by decide)
@[simp] theorem ix268 {rows : List (List FV)} {tag : Tag} {k : IntKind} {x : Int} : indexE Tryz.prog 268 (.sl rows tag) (.im (.int k x)) = idx 2 rows x := index_of Tryz.underlying268 Pv.nfo270 rfl (by decide)
@[simp] theorem ix33 {rows : List (List FV)} {tag : Tag} {k : IntKind} {x : Int} : indexE Tryz.prog 33 (.sl rows tag) (.im (.int k x)) = idx 2 rows x := index_of Tryz.underlying33 Pv.nfo102 rfl (by decide)
@[simp] theorem ix34 {rows : List (List FV)} {tag : Tag} {k : IntKind} {x : Int} : indexE Tryz.prog 34 (.sl rows tag) (.im (.int k x)) = idx 3 rows x := index_of Tryz.underlying34 Pv.nfo105 rfl (by decide)
@[simp] theorem ix35 {rows : List (List FV)} {tag : Tag} {k : IntKind} {x : Int} : indexE Tryz.prog 35 (.sl rows tag) (.im (.int k x)) = idx 2 rows x := index_of Tryz.underlying35 Pv.nfo98 rfl (by decide)
@[simp] theorem ix36 {rows : List (List FV)} {tag : Tag} {k : IntKind} {x : Int} : indexE Tryz.prog 36 (.sl rows tag) (.im (.int k x)) = idx 6 rows x := index_of Tryz.underlying36 Pv.nfo176 rfl (by decide)
@[simp] theorem ix45 {rows : List (List FV)} {tag : Tag} {k : IntKind} {x : Int} : indexE Tryz.prog 45 (.sl rows tag) (.im (.int k x)) = idx 4 rows x := index_of Tryz.underlying45 Pv.nfo49 rfl (by decide)
@[simp] theorem ix50 {rows : List (List FV)} {tag : Tag} {k : IntKind} {x : Int} : indexE Tryz.prog 50 (.sl rows tag) (.im (.int k x)) = idx 6 rows x := index_of Tryz.underlying50 Pv.nfo56 rfl (by decide)
@[simp] theorem ix63 {rows : List (List FV)} {tag : Tag} {k : IntKind} {x : Int} : indexE Tryz.prog 63 (.sl rows tag) (.im (.int k x)) = idx 6 rows x := index_of Tryz.underlying63 Pv.nfo68 rfl (by decide)
@[simp] theorem ix74 {rows : List (List FV)} {tag : Tag} {k : IntKind} {x : Int} : indexE Tryz.prog 74 (.sl rows tag) (.im (.int k x)) = idx 1 rows x := index_of Tryz.underlying74 Pv.nfo9 rfl (by decide)
@[simp] theorem ix80 {rows : List (List FV)} {tag : Tag} {k : IntKind} {x : Int} : indexE Tryz.prog 80 (.sl rows tag) (.im (.int k x)) = idx 5 rows x := index_of Tryz.underlying80 Pv.nfo88 rfl (by decide)
@[simp] theorem kf101 : kindF Tryz.prog 101 = .w none := by kernel_rfl
@[simp] theorem kf104 : kindF Tryz.prog 104 = .r := by kernel_rfl
@[simp] theorem kf106 : kindF Tryz.prog 106 = .w none := by kernel_rfl
@[simp] theorem kf107 : kindF Tryz.prog 107 = .w none := by kernel_rfl
@[simp] theorem kf109 : kindF Tryz.prog 109 = .p := by kernel_rfl
@[simp] theorem kf110 : kindF Tryz.prog 110 = .w none := by kernel_rfl
@[simp] theorem kf113 : kindF Tryz.prog 113 = .w none := by kernel_rfl
@[simp] theorem kf114 : kindF Tryz.prog 114 = .p := by kernel_rfl
@[simp] theorem kf115 : kindF Tryz.prog 115 = .p := by kernel_rfl
@[simp] theorem kf118 : kindF Tryz.prog 118 = .r := by kernel_rfl
@[simp] theorem kf120 : kindF Tryz.prog 120 = .w none := by kernel_rfl
@[simp] theorem kf121 : kindF Tryz.prog 121 = .w none := by kernel_rfl
@[simp] theorem kf122 : kindF Tryz.prog 122 = .w none := by kernel_rfl
@[simp] theorem kf124 : kindF Tryz.prog 124 = .p := by kernel_rfl
@[simp] theorem kf125 : kindF Tryz.prog 125 = .p := by kernel_rfl
@[simp] theorem kf127 : kindF Tryz.prog 127 = .p := by kernel_rfl
@[simp] theorem kf13 : kindF Tryz.prog 13 = .p := by kernel_rfl
@[simp] theorem kf134 : kindF Tryz.prog 134 = .p := by kernel_rfl
@[simp] theorem kf145 : kindF Tryz.prog 145 = .p := by kernel_rfl
@[simp] theorem kf150 : kindF Tryz.prog 150 = .p := by kernel_rfl
@[simp] theorem kf156 : kindF Tryz.prog 156 = .p := by kernel_rfl
@[simp] theorem kf159 : kindF Tryz.prog 159 = .p := by kernel_rfl
@[simp] theorem kf161 : kindF Tryz.prog 161 = .p := by kernel_rfl
@[simp] theorem kf162 : kindF Tryz.prog 162 = .w none := by kernel_rfl
@[simp] theorem kf163 : kindF Tryz.prog 163 = .p := by kernel_rfl
@[simp] theorem kf172 : kindF Tryz.prog 172 = .r := by kernel_rfl
@[simp] theorem kf179 : kindF Tryz.prog 179 = .p := by kernel_rfl
@[simp] theorem kf18 : kindF Tryz.prog 18 = .p := by kernel_rfl
@[simp] theorem kf184 : kindF Tryz.prog 184 = .w none := by kernel_rfl
@[simp] theorem kf21 : kindF Tryz.prog 21 = .p := by kernel_rfl
@[simp] theorem kf211 : kindF Tryz.prog 211 = .w none := by kernel_rfl
@[simp] theorem kf220 : kindF Tryz.prog 220 = .p := by kernel_rfl
@[simp] theorem kf221 : kindF Tryz.prog 221 = .r := by kernel_rfl
@[simp] theorem kf222 : kindF Tryz.prog 222 = .r := by kernel_rfl
@[simp] theorem kf223 : kindF Tryz.prog 223 = .p := by kernel_rfl
@[simp] theorem kf224 : kindF Tryz.prog 224 = .p := by kernel_rfl
@[simp] theorem kf225 : kindF Tryz.prog 225 = .p := by kernel_rfl
@[simp] theorem kf238 : kindF Tryz.prog 238 = .p := by kernel_rfl
@[simp] theorem kf24 : kindF Tryz.prog 24 = .p := by kernel_rfl
@[simp] theorem kf250 : kindF Tryz.prog 250 = .p := by kernel_rfl
@[simp] theorem kf30 : kindF Tryz.prog 30 = .p := by kernel_rfl
@[simp] theorem kf31 : kindF Tryz.prog 31 = .r := by kernel_rfl
@[simp] theorem kf32 : kindF Tryz.prog 32 = .r := by kernel_rfl
@[simp] theorem kf34 : kindF Tryz.prog 34 = .p := by kernel_rfl
@[simp] theorem kf37 : kindF Tryz.prog 37 = .p := by kernel_rfl
@[simp] theorem kf40 : kindF Tryz.prog 40 = .p := by kernel_rfl
@[simp] theorem kf42 : kindF Tryz.prog 42 = .p := by kernel_rfl
@[simp] theorem kf45 : kindF Tryz.prog 45 = .p := by kernel_rfl
@[simp] theorem kf48 : kindF Tryz.prog 48 = .p := by kernel_rfl
@[simp] theorem kf49 : kindF Tryz.prog 49 = .p := by kernel_rfl
@[simp] theorem kf51 : kindF Tryz.prog 51 = .p := by kernel_rfl
@[simp] theorem kf63 : kindF Tryz.prog 63 = .p := by kernel_rfl
@[simp] theorem kf76 : kindF Tryz.prog 76 = .p := by kernel_rfl
@[simp] theorem kf77 : kindF Tryz.prog 77 = .p := by kernel_rfl
@[simp] theorem kf78 : kindF Tryz.prog 78 = .p := by kernel_rfl
@[simp] theorem kf92 : kindF Tryz.prog 92 = .p := by kernel_rfl
@[simp] theorem kf95 : kindF Tryz.prog 95 = .w none := by kernel_rfl
@[simp] theorem kf96 : kindF Tryz.prog 96 = .p := by kernel_rfl
@[simp] theorem kt10 : keepT 10 = false := by decide
@[simp] theorem kt100 : keepT 100 = false := by decide
@[simp] theorem kt101 : keepT 101 = false := by decide
@[simp] theorem kt102 : keepT 102 = false := by decide
@[simp] theorem kt103 : keepT 103 = false := by decide
@[simp] theorem kt104 : keepT 104 = false := by decide
@[simp] theorem kt105 : keepT 105 = false := by decide
@[simp] theorem kt106 : keepT 106 = true := by decide
@[simp] theorem kt107 : keepT 107 = false := by decide
@[simp] theorem kt108 : keepT 108 = false := by decide
@[simp] theorem kt109 : keepT 109 = false := by decide
@[simp] theorem kt11 : keepT 11 = false := by decide
@[simp] theorem kt110 : keepT 110 = false := by decide
@[simp] theorem kt111 : keepT 111 = false := by decide
@[simp] theorem kt112 : keepT 112 = false := by decide
@[simp] theorem kt113 : keepT 113 = false := by decide
@[simp] theorem kt114 : keepT 114 = false := by decide
@[simp] theorem kt115 : keepT 115 = false := by decide
@[simp] theorem kt116 : keepT 116 = false := by decide
@[simp] theorem kt117 : keepT 117 = false := by decide
@[simp] theorem kt118 : keepT 118 = false := by decide
@[simp] theorem kt119 : keepT 119 = false := by decide
@[simp] theorem kt12 : keepT 12 = false := by decide
@[simp] theorem kt120 : keepT 120 = false := by decide
@[simp] theorem kt121 : keepT 121 = false := by decide
@[simp] theorem kt122 : keepT 122 = false := by decide
@[simp] theorem kt123 : keepT 123 = false := by decide
@[simp] theorem kt124 : keepT 124 = false := by decide
@[simp] theorem kt125 : keepT 125 = false := by decide
@[simp] theorem kt126 : keepT 126 = false := by decide
@[simp] theorem kt127 : keepT 127 = false := by decide
@[simp] theorem kt128 : keepT 128 = false := by decide
@[simp] theorem kt129 : keepT 129 = false := by decide
@[simp] theorem kt13 : keepT 13 = false := by decide
@[simp] theorem kt130 : keepT 130 = false := by decide
@[simp] theorem kt131 : keepT 131 = false := by decide
@[simp] theorem kt132 : keepT 132 = false := by decide
@[simp] theorem kt133 : keepT 133 = false := by decide
@[simp] theorem kt134 : keepT 134 = false := by decide
@[simp] theorem kt135 : keepT 135 = false := by decide
@[simp] theorem kt136 : keepT 136 = false := by decide
@[simp] theorem kt137 : keepT 137 = false := by decide
@[simp] theorem kt138 : keepT 138 = false := by decide
@[simp] theorem kt139 : keepT 139 = false := by decide
@[simp] theorem kt14 : keepT 14 = false := by decide
@[simp] theorem kt140 : keepT 140 = false := by decide
@[simp] theorem kt141 : keepT 141 = false := by decide
@[simp] theorem kt142 : keepT 142 = false := by decide
@[simp] theorem kt143 : keepT 143 = false := by decide
@[simp] theorem kt144 : keepT 144 = false := by decide
@[simp] theorem kt145 : keepT 145 = false := by decide
@[simp] theorem kt146 : keepT 146 = false := by decide
@[simp] theorem kt147 : keepT 147 = false := by decide
@[simp] theorem kt148 : keepT 148 = false := by decide
@[simp] theorem kt149 : keepT 149 = true := by decide
@[simp] theorem kt15 : keepT 15 = false := by decide
@[simp] theorem kt150 : keepT 150 = false := by decide
@[simp] theorem kt151 : keepT 151 = false := by decide
@[simp] theorem kt152 : keepT 152 = false := by decide
@[simp] theorem kt153 : keepT 153 = false := by decide
@[simp] theorem kt154 : keepT 154 = false := by decide
@[simp] theorem kt155 : keepT 155 = false := by decide
@[simp] theorem kt156 : keepT 156 = false := by decide
@[simp] theorem kt157 : keepT 157 = false := by decide
@[simp] theorem kt158 : keepT 158 = false := by decide
@[simp] theorem kt159 : keepT 159 = false := by decide
@[simp] theorem kt16 : keepT 16 = false := by decide
@[simp] theorem kt160 : keepT 160 = false := by decide
@[simp] theorem kt161 : keepT 161 = false := by decide
@[simp] theorem kt162 : keepT 162 = false := by decide
@[simp] theorem kt163 : keepT 163 = false := by decide
@[simp] theorem kt164 : keepT 164 = false := by decide
@[simp] theorem kt165 : keepT 165 = false := by decide
@[simp] theorem kt166 : keepT 166 = false := by decide
@[simp] theorem kt167 : keepT 167 = false := by decide
@[simp] theorem kt168 : keepT 168 = true := by decide
@[simp] theorem kt169 : keepT 169 = false := by decide
@[simp] theorem kt17 : keepT 17 = false := by decide
@[simp] theorem kt170 : keepT 170 = false := by decide
@[simp] theorem kt171 : keepT 171 = false := by decide
@[simp] theorem kt172 : keepT 172 = false := by decide
@[simp] theorem kt173 : keepT 173 = false := by decide
@[simp] theorem kt175 : keepT 175 = false := by decide
@[simp] theorem kt176 : keepT 176 = false := by decide
@[simp] theorem kt177 : keepT 177 = false := by decide
@[simp] theorem kt178 : keepT 178 = false := by decide
@[simp] theorem kt179 : keepT 179 = false := by decide
@[simp] theorem kt18 : keepT 18 = false := by decide
@[simp] theorem kt180 : keepT 180 = false := by decide
@[simp] theorem kt181 : keepT 181 = false := by decide
@[simp] theorem kt182 : keepT 182 = false := by decide
@[simp] theorem kt183 : keepT 183 = false := by decide
@[simp] theorem kt184 : keepT 184 = false := by decide
@[simp] theorem kt185 : keepT 185 = false := by decide
@[simp] theorem kt186 : keepT 186 = false := by decide
@[simp] theorem kt187 : keepT 187 = false := by decide
@[simp] theorem kt188 : keepT 188 = false := by decide
@[simp] theorem kt189 : keepT 189 = false := by decide
@[simp] theorem kt19 : keepT 19 = false := by decide
@[simp] theorem kt190 : keepT 190 = false := by decide
@[simp] theorem kt191 : keepT 191 = false := by decide
@[simp] theorem kt192 : keepT 192 = false := by decide
@[simp] theorem kt193 : keepT 193 = false := by decide
@[simp] theorem kt194 : keepT 194 = false := by decide
@[simp] theorem kt195 : keepT 195 = false := by decide
@[simp] theorem kt196 : keepT 196 = false := by decide
@[simp] theorem kt197 : keepT 197 = false := by decide
@[simp] theorem kt198 : keepT 198 = false := by decide
@[simp] theorem kt199 : keepT 199 = false := by decide
@[simp] theorem kt20 : keepT 20 = false := by decide
@[simp] theorem kt200 : keepT 200 = false := by decide
@[simp] theorem kt201 : keepT 201 = false := by decide
@[simp] theorem kt202 : keepT 202 = false := by decide
@[simp] theorem kt203 : keepT 203 = false := by decide
@[simp] theorem kt204 : keepT 204 = false := by decide
@[simp] theorem kt206 : keepT 206 = false := by decide
@[simp] theorem kt207 : keepT 207 = false := by decide
@[simp] theorem kt208 : keepT 208 = false := by decide
@[simp] theorem kt209 : keepT 209 = false := by decide
@[simp] theorem kt21 : keepT 21 = false := by decide
@[simp] theorem kt211 : keepT 211 = false := by decide
@[simp] theorem kt212 : keepT 212 = false := by decide
@[simp] theorem kt213 : keepT 213 = false := by decide
@[simp] theorem kt214 : keepT 214 = false := by decide
@[simp] theorem kt215 : keepT 215 = false := by decide
@[simp] theorem kt216 : keepT 216 = false := by decide
@[simp] theorem kt217 : keepT 217 = false := by decide
@[simp] theorem kt218 : keepT 218 = false := by decide
@[simp] theorem kt219 : keepT 219 = false := by decide
@[simp] theorem kt22 : keepT 22 = false := by decide
@[simp] theorem kt220 : keepT 220 = false := by decide
@[simp] theorem kt221 : keepT 221 = false := by decide
@[simp] theorem kt222 : keepT 222 = false := by decide
@[simp] theorem kt223 : keepT 223 = false := by decide
@[simp] theorem kt224 : keepT 224 = false := by decide
@[simp] theorem kt225 : keepT 225 = false := by decide
@[simp] theorem kt226 : keepT 226 = false := by decide
@[simp] theorem kt227 : keepT 227 = false := by decide
@[simp] theorem kt228 : keepT 228 = false := by decide
@[simp] theorem kt229 : keepT 229 = false := by decide
@[simp] theorem kt23 : keepT 23 = false := by decide
@[simp] theorem kt230 : keepT 230 = false := by decide
@[simp] theorem kt231 : keepT 231 = false := by decide
@[simp] theorem kt232 : keepT 232 = false := by decide
@[simp] theorem kt233 : keepT 233 = false := by decide
@[simp] theorem kt234 : keepT 234 = false := by decide
@[simp] theorem kt236 : keepT 236 = false := by decide
@[simp] theorem kt237 : keepT 237 = false := by decide
@[simp] theorem kt24 : keepT 24 = false := by decide
@[simp] theorem kt245 : keepT 245 = false := by decide
@[simp] theorem kt246 : keepT 246 = false := by decide
@[simp] theorem kt247 : keepT 247 = false := by decide
@[simp] theorem kt248 : keepT 248 = false := by decide
@[simp] theorem kt249 : keepT 249 = false := by decide
@[simp] theorem kt25 : keepT 25 = false := by decide
@[simp] theorem kt250 : keepT 250 = false := by decide
@[simp] theorem kt251 : keepT 251 = false := by decide
@[simp] theorem kt255 : keepT 255 = false := by decide
@[simp] theorem kt256 : keepT 256 = false := by decide
@[simp] theorem kt257 : keepT 257 = false := by decide
@[simp] theorem kt258 : keepT 258 = false := by decide
@[simp] theorem kt259 : keepT 259 = false := by decide
@[simp] theorem kt26 : keepT 26 = false := by decide
@[simp] theorem kt27 : keepT 27 = false := by decide
@[simp] theorem kt28 : keepT 28 = false := by decide
@[simp] theorem kt29 : keepT 29 = false := by decide
@[simp] theorem kt3 : keepT 3 = false := by decide
@[simp] theorem kt30 : keepT 30 = false := by decide
@[simp] theorem kt31 : keepT 31 = false := by decide
@[simp] theorem kt32 : keepT 32 = false := by decide
@[simp] theorem kt33 : keepT 33 = false := by decide
@[simp] theorem kt34 : keepT 34 = false := by decide
@[simp] theorem kt35 : keepT 35 = false := by decide
@[simp] theorem kt36 : keepT 36 = false := by decide
@[simp] theorem kt37 : keepT 37 = false := by decide
@[simp] theorem kt38 : keepT 38 = false := by decide
@[simp] theorem kt39 : keepT 39 = false := by decide
@[simp] theorem kt4 : keepT 4 = false := by decide
@[simp] theorem kt40 : keepT 40 = false := by decide
@[simp] theorem kt41 : keepT 41 = false := by decide
@[simp] theorem kt42 : keepT 42 = false := by decide
@[simp] theorem kt43 : keepT 43 = false := by decide
@[simp] theorem kt44 : keepT 44 = false := by decide
@[simp] theorem kt45 : keepT 45 = false := by decide
@[simp] theorem kt46 : keepT 46 = false := by decide
@[simp] theorem kt47 : keepT 47 = false := by decide
@[simp] theorem kt48 : keepT 48 = false := by decide
@[simp] theorem kt49 : keepT 49 = false := by decide
@[simp] theorem kt5 : keepT 5 = false := by decide
@[simp] theorem kt50 : keepT 50 = false := by decide
@[simp] theorem kt51 : keepT 51 = false := by decide
@[simp] theorem kt52 : keepT 52 = false := by decide
@[simp] theorem kt53 : keepT 53 = false := by decide
@[simp] theorem kt54 : keepT 54 = false := by decide
@[simp] theorem kt55 : keepT 55 = false := by decide
@[simp] theorem kt56 : keepT 56 = false := by decide
@[simp] theorem kt57 : keepT 57 = false := by decide
@[simp] theorem kt58 : keepT 58 = false := by decide
@[simp] theorem kt59 : keepT 59 = false := by decide
@[simp] theorem kt6 : keepT 6 = false := by decide
@[simp] theorem kt60 : keepT 60 = false := by decide
@[simp] theorem kt61 : keepT 61 = false := by decide
@[simp] theorem kt62 : keepT 62 = false := by decide
@[simp] theorem kt63 : keepT 63 = false := by decide
@[simp] theorem kt64 : keepT 64 = false := by decide
@[simp] theorem kt65 : keepT 65 = false := by decide
@[simp] theorem kt66 : keepT 66 = false := by decide
@[simp] theorem kt67 : keepT 67 = false := by decide
@[simp] theorem kt68 : keepT 68 = false := by decide
@[simp] theorem kt69 : keepT 69 = false := by decide
@[simp] theorem kt7 : keepT 7 = false := by decide
@[simp] theorem kt70 : keepT 70 = false := by decide
@[simp] theorem kt71 : keepT 71 = false := by decide
@[simp] theorem kt72 : keepT 72 = false := by decide
@[simp] theorem kt73 : keepT 73 = false := by decide
@[simp] theorem kt74 : keepT 74 = false := by decide
@[simp] theorem kt75 : keepT 75 = false := by decide
@[simp] theorem kt76 : keepT 76 = false := by decide
@[simp] theorem kt77 : keepT 77 = false := by decide
@[simp] theorem kt78 : keepT 78 = false := by decide
@[simp] theorem kt79 : keepT 79 = false := by decide
@[simp] theorem kt8 : keepT 8 = false := by decide
@[simp] theorem kt80 : keepT 80 = false := by decide
@[simp] theorem kt81 : keepT 81 = false := by decide
@[simp] theorem kt82 : keepT 82 = false := by decide
@[simp] theorem kt83 : keepT 83 = false := by decide
@[simp] theorem kt84 : keepT 84 = false := by decide
@[simp] theorem kt85 : keepT 85 = false := by decide
@[simp] theorem kt86 : keepT 86 = false := by decide
@[simp] theorem kt87 : keepT 87 = false := by decide
@[simp] theorem kt88 : keepT 88 = false := by decide
@[simp] theorem kt89 : keepT 89 = false := by decide
@[simp] theorem kt9 : keepT 9 = false := by decide
@[simp] theorem kt90 : keepT 90 = false := by decide
@[simp] theorem kt91 : keepT 91 = false := by decide
@[simp] theorem kt92 : keepT 92 = false := by decide
@[simp] theorem kt93 : keepT 93 = false := by decide
@[simp] theorem kt94 : keepT 94 = false := by decide
@[simp] theorem kt95 : keepT 95 = false := by decide
@[simp] theorem kt96 : keepT 96 = false := by decide
@[simp] theorem kt97 : keepT 97 = false := by decide
@[simp] theorem kt98 : keepT 98 = false := by decide
@[simp] theorem kt99 : keepT 99 = false := by decide
@[simp] theorem ld101 {cells : List PV} {o : Nat} : loadE Tryz.prog 101 cells o = ldA 2 cells o := load_agg Tryz.underlying101 Pv.nfo101 rfl
@[simp] theorem ld102 {cells : List PV} {o : Nat} : loadE Tryz.prog 102 cells o = ldA 2 cells o := load_agg Tryz.underlying102 Pv.nfo102 rfl
@[simp] theorem ld104 {cells : List PV} {o : Nat} : loadE Tryz.prog 104 cells o = ldA 3 cells o := load_agg Tryz.underlying104 Pv.nfo104 rfl
@[simp] theorem ld105 {cells : List PV} {o : Nat} : loadE Tryz.prog 105 cells o = ldA 3 cells o := load_agg Tryz.underlying105 Pv.nfo105 rfl
@[simp] theorem ld124 {cells : List PV} {o : Nat} : loadE Tryz.prog 124 cells o = cells[o]? := load_one Tryz.underlying124 rfl
@[simp] theorem ld140 {cells : List PV} {o : Nat} : loadE Tryz.prog 140 cells o = cells[o]? := load_one Tryz.underlying140 rfl
@[simp] theorem ld141 {cells : List PV} {o : Nat} : loadE Tryz.prog 141 cells o = cells[o]? := load_one Tryz.underlying141 rfl
@[simp] theorem ld155 {cells : List PV} {o : Nat} : loadE Tryz.prog 155 cells o = cells[o]? := load_one Tryz.underlying155 rfl
@[simp] theorem ld157 {cells : List PV} {o : Nat} : loadE Tryz.prog 157 cells o = cells[o]? := load_one Tryz.underlying157 rfl
@[simp] theorem ld174 {cells : List PV} {o : Nat} : loadE Tryz.prog 174 cells o = cells[o]? := load_one Tryz.underlying174 rfl
@[simp] theorem ld176 {cells : List PV} {o : Nat} : loadE Tryz.prog 176 cells o = ldA 6 cells o := load_agg Tryz.underlying176 Pv.nfo176 rfl
@[simp] theorem ld178 {cells : List PV} {o : Nat} : loadE Tryz.prog 178 cells o = ldA 5 cells o := load_agg Tryz.underlying178 Pv.nfo178 rfl
@[simp] theorem ld201 {cells : List PV} {o : Nat} : loadE Tryz.prog 201 cells o = cells[o]? := load_one Tryz.underlying201 rfl
@[simp] theorem ld23 {cells : List PV} {o : Nat} : loadE Tryz.prog 23 cells o = cells[o]? := load_one Tryz.underlying23 rfl
@[simp] theorem ld233 {cells : List PV} {o : Nat} : loadE Tryz.prog 233 cells o = cells[o]? := load_one Tryz.underlying233 rfl
@[simp] theorem ld237 {cells : List PV} {o : Nat} : loadE Tryz.prog 237 cells o = ldA 3 cells o := load_agg Tryz.underlying237 Pv.nfo237 rfl
@[simp] theorem ld24 {cells : List PV} {o : Nat} : loadE Tryz.prog 24 cells o = cells[o]? := load_one Tryz.underlying24 rfl
@[simp] theorem ld25 {cells : List PV} {o : Nat} : loadE Tryz.prog 25 cells o = cells[o]? := load_one Tryz.underlying25 rfl
@[simp] theorem ld26 {cells : List PV} {o : Nat} : loadE Tryz.prog 26 cells o = cells[o]? := load_one Tryz.underlying26 rfl
@[simp] theorem ld270 {cells : List PV} {o : Nat} : loadE Tryz.prog 270 cells o = ldA 2 cells o := load_agg Tryz.underlying270 Pv.nfo270 rfl
@[simp] theorem ld28 {cells : List PV} {o : Nat} : loadE Tryz.prog 28 cells o = ldA 4 cells o := load_agg Tryz.underlying28 Pv.nfo28 rfl
@[simp] theorem ld29 {cells : List PV} {o : Nat} : loadE Tryz.prog 29 cells o = cells[o]? := load_one Tryz.underlying29 rfl
@[simp] theorem ld3 {cells : List PV} {o : Nat} : loadE Tryz.prog 3 cells o = cells[o]? := load_one Tryz.underlying3 rfl
@[simp] theorem ld33 {cells : List PV} {o : Nat} : loadE Tryz.prog 33 cells o = cells[o]? := load_one Tryz.underlying33 rfl
@[simp] theorem ld34 {cells : List PV} {o : Nat} : loadE Tryz.prog 34 cells o = cells[o]? := load_one Tryz.underlying34 rfl
@[simp] theorem ld35 {cells : List PV} {o : Nat} : loadE Tryz.prog 35 cells o = cells[o]? := load_one Tryz.underlying35 rfl
@[simp] theorem ld36 {cells : List PV} {o : Nat} : loadE Tryz.prog 36 cells o = cells[o]? := load_one Tryz.underlying36 rfl
@[simp] theorem ld38 {cells : List PV} {o : Nat} : loadE Tryz.prog 38 cells o = ldA 4 cells o := load_agg Tryz.underlying38 Pv.nfo38 rfl
@[simp] theorem ld4 {cells : List PV} {o : Nat} : loadE Tryz.prog 4 cells o = cells[o]? := load_one Tryz.underlying4 rfl
@[simp] theorem ld45 {cells : List PV} {o : Nat} : loadE Tryz.prog 45 cells o = cells[o]? := load_one Tryz.underlying45 rfl
@[simp] theorem ld49 {cells : List PV} {o : Nat} : loadE Tryz.prog 49 cells o = ldA 4 cells o := load_agg Tryz.underlying49 Pv.nfo49 rfl
@[simp] theorem ld5 {cells : List PV} {o : Nat} : loadE Tryz.prog 5 cells o = cells[o]? := load_one Tryz.underlying5 rfl
@[simp] theorem ld50 {cells : List PV} {o : Nat} : loadE Tryz.prog 50 cells o = cells[o]? := load_one Tryz.underlying50 rfl
@[simp] theorem ld52 {cells : List PV} {o : Nat} : loadE Tryz.prog 52 cells o = ldA 4 cells o := load_agg Tryz.underlying52 Pv.nfo52 rfl
@[simp] theorem ld56 {cells : List PV} {o : Nat} : loadE Tryz.prog 56 cells o = ldA 6 cells o := load_agg Tryz.underlying56 Pv.nfo56 rfl
@[simp] theorem ld63 {cells : List PV} {o : Nat} : loadE Tryz.prog 63 cells o = cells[o]? := load_one Tryz.underlying63 rfl
@[simp] theorem ld65 {cells : List PV} {o : Nat} : loadE Tryz.prog 65 cells o = ldA 4 cells o := load_agg Tryz.underlying65 Pv.nfo65 rfl
@[simp] theorem ld68 {cells : List PV} {o : Nat} : loadE Tryz.prog 68 cells o = ldA 6 cells o := load_agg Tryz.underlying68 Pv.nfo68 rfl
@[simp] theorem ld74 {cells : List PV} {o : Nat} : loadE Tryz.prog 74 cells o = cells[o]? := load_one Tryz.underlying74 rfl
@[simp] theorem ld78 {cells : List PV} {o : Nat} : loadE Tryz.prog 78 cells o = ldA 2 cells o := load_agg Tryz.underlying78 Pv.nfo78 rfl
@[simp] theorem ld80 {cells : List PV} {o : Nat} : loadE Tryz.prog 80 cells o = cells[o]? := load_one Tryz.underlying80 rfl
@[simp] theorem ld82 {cells : List PV} {o : Nat} : loadE Tryz.prog 82 cells o = ldA 6 cells o := load_agg Tryz.underlying82 Pv.nfo82 rfl
@[simp] theorem ld88 {cells : List PV} {o : Nat} : loadE Tryz.prog 88 cells o = ldA 5 cells o := load_agg Tryz.underlying88 Pv.nfo88 rfl
@[simp] theorem ld9 {cells : List PV} {o : Nat} : loadE Tryz.prog 9 cells o = cells[o]? := load_one Tryz.underlying9 rfl
@[simp] theorem ld95 {cells : List PV} {o : Nat} : loadE Tryz.prog 95 cells o = cells[o]? := load_one Tryz.underlying95 rfl
@[simp] theorem ld98 {cells : List PV} {o : Nat} : loadE Tryz.prog 98 cells o = ldA 2 cells o := load_agg Tryz.underlying98 Pv.nfo98 rfl
@[simp] theorem ln128 {rows : List (List FV)} {tag : Tag} : lenE Tryz.prog 128 (.sl rows tag) = some (.im (.int .i64 rows.length)) := len_sl Tryz.underlying128
@[simp] theorem ln130 {rows : List (List FV)} {tag : Tag} : lenE Tryz.prog 130 (.sl rows tag) = some (.im (.int .i64 rows.length)) := len_sl Tryz.underlying130
@[simp] theorem ln141 {rows : List (List FV)} {tag : Tag} : lenE Tryz.prog 141 (.sl rows tag) = some (.im (.int .i64 rows.length)) := len_sl Tryz.underlying141
@[simp] theorem ln174 {rows : List (List FV)} {tag : Tag} : lenE Tryz.prog 174 (.sl rows tag) = some (.im (.int .i64 rows.length)) := len_sl Tryz.underlying174
@[simp] theorem ln211 {rows : List (List FV)} {tag : Tag} : lenE Tryz.prog 211 (.sl rows tag) = some (.im (.int .i64 rows.length)) := len_sl Tryz.underlying211
@[simp] theorem ln222 {rows : List (List FV)} {tag : Tag} : lenE Tryz.prog 222 (.sl rows tag) = some (.im (.int .i64 rows.length)) := len_sl Tryz.underlying222
@[simp] theorem ln23 {rows : List (List FV)} {tag : Tag} : lenE Tryz.prog 23 (.sl rows tag) = some (.im (.int .i64 rows.length)) := len_sl Tryz.underlying23
@[simp] theorem ln233 {rows : List (List FV)} {tag : Tag} : lenE Tryz.prog 233 (.sl rows tag) = some (.im (.int .i64 rows.length)) := len_sl Tryz.underlying233
@[simp] theorem ln24 {rows : List (List FV)} {tag : Tag} : lenE Tryz.prog 24 (.sl rows tag) = some (.im (.int .i64 rows.length)) := len_sl Tryz.underlying24
@[simp] theorem ln25 {rows : List (List FV)} {tag : Tag} : lenE Tryz.prog 25 (.sl rows tag) = some (.im (.int .i64 rows.length)) := len_sl Tryz.underlying25
@[simp] theorem ln26 {rows : List (List FV)} {tag : Tag} : lenE Tryz.prog 26 (.sl rows tag) = some (.im (.int .i64 rows.length)) := len_sl Tryz.underlying26
@[simp] theorem ln268 {rows : List (List FV)} {tag : Tag} : lenE Tryz.prog 268 (.sl rows tag) = some (.im (.int .i64 rows.length)) := len_sl Tryz.underlying268
@[simp] theorem ln33 {rows : List (List FV)} {tag : Tag} : lenE Tryz.prog 33 (.sl rows tag) = some (.im (.int .i64 rows.length)) := len_sl Tryz.underlying33
@[simp] theorem ln34 {rows : List (List FV)} {tag : Tag} : lenE Tryz.prog 34 (.sl rows tag) = some (.im (.int .i64 rows.length)) := len_sl Tryz.underlying34
@[simp] theorem ln35 {rows : List (List FV)} {tag : Tag} : lenE Tryz.prog 35 (.sl rows tag) = some (.im (.int .i64 rows.length)) := len_sl Tryz.underlying35
@[simp] theorem ln36 {rows : List (List FV)} {tag : Tag} : lenE Tryz.prog 36 (.sl rows tag) = some (.im (.int .i64 rows.length)) := len_sl Tryz.underlying36
@[simp] theorem ln45 {rows : List (List FV)} {tag : Tag} : lenE Tryz.prog 45 (.sl rows tag) = some (.im (.int .i64 rows.length)) := len_sl Tryz.underlying45
@[simp] theorem ln50 {rows : List (List FV)} {tag : Tag} : lenE Tryz.prog 50 (.sl rows tag) = some (.im (.int .i64 rows.length)) := len_sl Tryz.underlying50
@[simp] theorem ln63 {rows : List (List FV)} {tag : Tag} : lenE Tryz.prog 63 (.sl rows tag) = some (.im (.int .i64 rows.length)) := len_sl Tryz.underlying63
@[simp] theorem ln74 {rows : List (List FV)} {tag : Tag} : lenE Tryz.prog 74 (.sl rows tag) = some (.im (.int .i64 rows.length)) := len_sl Tryz.underlying74
@[simp] theorem ln80 {rows : List (List FV)} {tag : Tag} : lenE Tryz.prog 80 (.sl rows tag) = some (.im (.int .i64 rows.length)) := len_sl Tryz.underlying80
@[simp] theorem ln9 {s : ByteArray} : lenE Tryz.prog 9 (.im (.string s)) = some (.im (.int .i64 s.size)) := len_str Tryz.underlying9
@[simp] theorem mt128 : mapTs Tryz.prog #[128] = false := by kernel_rfl
@[simp] theorem mt130 : mapTs Tryz.prog #[130] = false := by kernel_rfl
@[simp] theorem mt141 : mapTs Tryz.prog #[141] = false := by kernel_rfl
@[simp] theorem mt174 : mapTs Tryz.prog #[174] = false := by kernel_rfl
@[simp] theorem mt211 : mapTs Tryz.prog #[211] = false := by kernel_rfl
@[simp] theorem mt222 : mapTs Tryz.prog #[222] = false := by kernel_rfl
@[simp] theorem mt23 : mapTs Tryz.prog #[23] = false := by kernel_rfl
@[simp] theorem mt233 : mapTs Tryz.prog #[233] = false := by kernel_rfl
@[simp] theorem mt24 : mapTs Tryz.prog #[24] = false := by kernel_rfl
@[simp] theorem mt25 : mapTs Tryz.prog #[25] = false := by kernel_rfl
@[simp] theorem mt26 : mapTs Tryz.prog #[26] = false := by kernel_rfl
@[simp] theorem mt268 : mapTs Tryz.prog #[268] = false := by kernel_rfl
@[simp] theorem mt33 : mapTs Tryz.prog #[33] = false := by kernel_rfl
@[simp] theorem mt34 : mapTs Tryz.prog #[34] = false := by kernel_rfl
@[simp] theorem mt35 : mapTs Tryz.prog #[35] = false := by kernel_rfl
@[simp] theorem mt36 : mapTs Tryz.prog #[36] = false := by kernel_rfl
@[simp] theorem mt45 : mapTs Tryz.prog #[45] = false := by kernel_rfl
@[simp] theorem mt50 : mapTs Tryz.prog #[50] = false := by kernel_rfl
@[simp] theorem mt63 : mapTs Tryz.prog #[63] = false := by kernel_rfl
@[simp] theorem mt74 : mapTs Tryz.prog #[74] = false := by kernel_rfl
@[simp] theorem mt80 : mapTs Tryz.prog #[80] = false := by kernel_rfl
@[simp] theorem mt9 : mapTs Tryz.prog #[9] = false := by kernel_rfl
@[simp] theorem rf101 : roF Tryz.prog 6 101 = false := by kernel_rfl
@[simp] theorem rf104 : roF Tryz.prog 6 104 = true := by kernel_rfl
@[simp] theorem rf106 : roF Tryz.prog 6 106 = false := by kernel_rfl
@[simp] theorem rf107 : roF Tryz.prog 6 107 = false := by kernel_rfl
@[simp] theorem rf109 : roF Tryz.prog 6 109 = false := by kernel_rfl
@[simp] theorem rf110 : roF Tryz.prog 6 110 = false := by kernel_rfl
@[simp] theorem rf113 : roF Tryz.prog 6 113 = false := by kernel_rfl
@[simp] theorem rf114 : roF Tryz.prog 6 114 = false := by kernel_rfl
@[simp] theorem rf115 : roF Tryz.prog 6 115 = false := by kernel_rfl
@[simp] theorem rf118 : roF Tryz.prog 6 118 = true := by kernel_rfl
@[simp] theorem rf120 : roF Tryz.prog 6 120 = false := by kernel_rfl
@[simp] theorem rf121 : roF Tryz.prog 6 121 = false := by kernel_rfl
@[simp] theorem rf122 : roF Tryz.prog 6 122 = false := by kernel_rfl
@[simp] theorem rf124 : roF Tryz.prog 6 124 = false := by kernel_rfl
@[simp] theorem rf125 : roF Tryz.prog 6 125 = false := by kernel_rfl
@[simp] theorem rf127 : roF Tryz.prog 6 127 = false := by kernel_rfl
@[simp] theorem rf13 : roF Tryz.prog 6 13 = false := by kernel_rfl
@[simp] theorem rf134 : roF Tryz.prog 6 134 = false := by kernel_rfl
@[simp] theorem rf145 : roF Tryz.prog 6 145 = false := by kernel_rfl
@[simp] theorem rf150 : roF Tryz.prog 6 150 = false := by kernel_rfl
@[simp] theorem rf156 : roF Tryz.prog 6 156 = false := by kernel_rfl
@[simp] theorem rf159 : roF Tryz.prog 6 159 = false := by kernel_rfl
@[simp] theorem rf161 : roF Tryz.prog 6 161 = false := by kernel_rfl
@[simp] theorem rf162 : roF Tryz.prog 6 162 = false := by kernel_rfl
@[simp] theorem rf163 : roF Tryz.prog 6 163 = false := by kernel_rfl
@[simp] theorem rf172 : roF Tryz.prog 6 172 = true := by kernel_rfl
@[simp] theorem rf179 : roF Tryz.prog 6 179 = false := by kernel_rfl
@[simp] theorem rf18 : roF Tryz.prog 6 18 = false := by kernel_rfl
@[simp] theorem rf184 : roF Tryz.prog 6 184 = false := by kernel_rfl
@[simp] theorem rf21 : roF Tryz.prog 6 21 = false := by kernel_rfl
@[simp] theorem rf211 : roF Tryz.prog 6 211 = false := by kernel_rfl
@[simp] theorem rf220 : roF Tryz.prog 6 220 = false := by kernel_rfl
@[simp] theorem rf221 : roF Tryz.prog 6 221 = true := by kernel_rfl
@[simp] theorem rf222 : roF Tryz.prog 6 222 = true := by kernel_rfl
@[simp] theorem rf223 : roF Tryz.prog 6 223 = false := by kernel_rfl
@[simp] theorem rf224 : roF Tryz.prog 6 224 = false := by kernel_rfl
@[simp] theorem rf225 : roF Tryz.prog 6 225 = false := by kernel_rfl
@[simp] theorem rf238 : roF Tryz.prog 6 238 = false := by kernel_rfl
@[simp] theorem rf24 : roF Tryz.prog 6 24 = false := by kernel_rfl
@[simp] theorem rf250 : roF Tryz.prog 6 250 = false := by kernel_rfl
@[simp] theorem rf30 : roF Tryz.prog 6 30 = false := by kernel_rfl
@[simp] theorem rf31 : roF Tryz.prog 6 31 = true := by kernel_rfl
@[simp] theorem rf32 : roF Tryz.prog 6 32 = true := by kernel_rfl
@[simp] theorem rf34 : roF Tryz.prog 6 34 = false := by kernel_rfl
@[simp] theorem rf37 : roF Tryz.prog 6 37 = false := by kernel_rfl
@[simp] theorem rf40 : roF Tryz.prog 6 40 = false := by kernel_rfl
@[simp] theorem rf42 : roF Tryz.prog 6 42 = false := by kernel_rfl
@[simp] theorem rf45 : roF Tryz.prog 6 45 = false := by kernel_rfl
@[simp] theorem rf48 : roF Tryz.prog 6 48 = false := by kernel_rfl
@[simp] theorem rf49 : roF Tryz.prog 6 49 = false := by kernel_rfl
@[simp] theorem rf51 : roF Tryz.prog 6 51 = false := by kernel_rfl
@[simp] theorem rf63 : roF Tryz.prog 6 63 = false := by kernel_rfl
@[simp] theorem rf76 : roF Tryz.prog 6 76 = false := by kernel_rfl
@[simp] theorem rf77 : roF Tryz.prog 6 77 = false := by kernel_rfl
@[simp] theorem rf78 : roF Tryz.prog 6 78 = false := by kernel_rfl
@[simp] theorem rf92 : roF Tryz.prog 6 92 = false := by kernel_rfl
@[simp] theorem rf95 : roF Tryz.prog 6 95 = false := by kernel_rfl
@[simp] theorem rf96 : roF Tryz.prog 6 96 = false := by kernel_rfl
@[simp] theorem rg9 {b : ByteArray} : rangeE Tryz.prog 9 (.im (.string b)) = some (.iter b 0) := range_str Tryz.underlying9
@[simp] theorem si9 {s : ByteArray} {k : IntKind} {x : Int} : strIndexE Tryz.prog 9 (.im (.string s)) (.im (.int k x)) = strIdx s x := strIndex_of Tryz.underlying9
@[simp] theorem ss141 {rows : List (List FV)} {tag : Tag} {lo hi : Option PV} : sliceE Tryz.prog 141 (.sl rows tag) lo hi none = slL 1 rows tag lo hi := slice_sl Tryz.underlying141 Pv.nfo5 rfl
@[simp] theorem ss26 {rows : List (List FV)} {tag : Tag} {lo hi : Option PV} : sliceE Tryz.prog 26 (.sl rows tag) lo hi none = slL 6 rows tag lo hi := slice_sl Tryz.underlying26 Pv.nfo82 rfl
@[simp] theorem ss74 {rows : List (List FV)} {tag : Tag} {lo hi : Option PV} : sliceE Tryz.prog 74 (.sl rows tag) lo hi none = slL 1 rows tag lo hi := slice_sl Tryz.underlying74 Pv.nfo9 rfl
@[simp] theorem ss9 {s : ByteArray} {lo hi : Option PV} : sliceE Tryz.prog 9 (.im (.string s)) lo hi none = slS s lo hi := slice_str Tryz.underlying9
@[simp] theorem st101 {H : Hand} {env : Nat → PV} {σ : Sto} {a x : Operand} : valO Tryz.prog H env σ (.store 101 a x) = stE 2 σ (opdE env a) (opdE env x) := store_of Pv.nfo101 rfl
@[simp] theorem st102 {H : Hand} {env : Nat → PV} {σ : Sto} {a x : Operand} : valO Tryz.prog H env σ (.store 102 a x) = stE 2 σ (opdE env a) (opdE env x) := store_of Pv.nfo102 rfl
@[simp] theorem st104 {H : Hand} {env : Nat → PV} {σ : Sto} {a x : Operand} : valO Tryz.prog H env σ (.store 104 a x) = stE 3 σ (opdE env a) (opdE env x) := store_of Pv.nfo104 rfl
@[simp] theorem st105 {H : Hand} {env : Nat → PV} {σ : Sto} {a x : Operand} : valO Tryz.prog H env σ (.store 105 a x) = stE 3 σ (opdE env a) (opdE env x) := store_of Pv.nfo105 rfl
@[simp] theorem st140 {H : Hand} {env : Nat → PV} {σ : Sto} {a x : Operand} : valO Tryz.prog H env σ (.store 140 a x) = stE 1 σ (opdE env a) (opdE env x) := store_of Pv.nfo140 rfl
@[simp] theorem st141 {H : Hand} {env : Nat → PV} {σ : Sto} {a x : Operand} : valO Tryz.prog H env σ (.store 141 a x) = stE 1 σ (opdE env a) (opdE env x) := store_of Pv.nfo141 rfl
@[simp] theorem st155 {H : Hand} {env : Nat → PV} {σ : Sto} {a x : Operand} : valO Tryz.prog H env σ (.store 155 a x) = stE 1 σ (opdE env a) (opdE env x) := store_of Pv.nfo155 rfl
@[simp] theorem st157 {H : Hand} {env : Nat → PV} {σ : Sto} {a x : Operand} : valO Tryz.prog H env σ (.store 157 a x) = stE 1 σ (opdE env a) (opdE env x) := store_of Pv.nfo157 rfl
@[simp] theorem st174 {H : Hand} {env : Nat → PV} {σ : Sto} {a x : Operand} : valO Tryz.prog H env σ (.store 174 a x) = stE 1 σ (opdE env a) (opdE env x) := store_of Pv.nfo174 rfl
@[simp] theorem st176 {H : Hand} {env : Nat → PV} {σ : Sto} {a x : Operand} : valO Tryz.prog H env σ (.store 176 a x) = stE 6 σ (opdE env a) (opdE env x) := store_of Pv.nfo176 rfl
@[simp] theorem st178 {H : Hand} {env : Nat → PV} {σ : Sto} {a x : Operand} : valO Tryz.prog H env σ (.store 178 a x) = stE 5 σ (opdE env a) (opdE env x) := store_of Pv.nfo178 rfl
@[simp] theorem st201 {H : Hand} {env : Nat → PV} {σ : Sto} {a x : Operand} : valO Tryz.prog H env σ (.store 201 a x) = stE 1 σ (opdE env a) (opdE env x) := store_of Pv.nfo201 rfl
@[simp] theorem st23 {H : Hand} {env : Nat → PV} {σ : Sto} {a x : Operand} : valO Tryz.prog H env σ (.store 23 a x) = stE 1 σ (opdE env a) (opdE env x) := store_of Pv.nfo23 rfl
@[simp] theorem st237 {H : Hand} {env : Nat → PV} {σ : Sto} {a x : Operand} : valO Tryz.prog H env σ (.store 237 a x) = stE 3 σ (opdE env a) (opdE env x) := store_of Pv.nfo237 rfl
@[simp] theorem st24 {H : Hand} {env : Nat → PV} {σ : Sto} {a x : Operand} : valO Tryz.prog H env σ (.store 24 a x) = stE 1 σ (opdE env a) (opdE env x) := store_of Pv.nfo24 rfl
@[simp] theorem st243 {H : Hand} {env : Nat → PV} {σ : Sto} {a x : Operand} : valO Tryz.prog H env σ (.store 243 a x) = stE 2 σ (opdE env a) (opdE env x) := store_of Pv.nfo243 rfl
@[simp] theorem st25 {H : Hand} {env : Nat → PV} {σ : Sto} {a x : Operand} : valO Tryz.prog H env σ (.store 25 a x) = stE 1 σ (opdE env a) (opdE env x) := store_of Pv.nfo25 rfl
@[simp] theorem st253 {H : Hand} {env : Nat → PV} {σ : Sto} {a x : Operand} : valO Tryz.prog H env σ (.store 253 a x) = stE 2 σ (opdE env a) (opdE env x) := store_of Pv.nfo253 rfl
@[simp] theorem st26 {H : Hand} {env : Nat → PV} {σ : Sto} {a x : Operand} : valO Tryz.prog H env σ (.store 26 a x) = stE 1 σ (opdE env a) (opdE env x) := store_of Pv.nfo26 rfl
@[simp] theorem st270 {H : Hand} {env : Nat → PV} {σ : Sto} {a x : Operand} : valO Tryz.prog H env σ (.store 270 a x) = stE 2 σ (opdE env a) (opdE env x) := store_of Pv.nfo270 rfl
@[simp] theorem st28 {H : Hand} {env : Nat → PV} {σ : Sto} {a x : Operand} : valO Tryz.prog H env σ (.store 28 a x) = stE 4 σ (opdE env a) (opdE env x) := store_of Pv.nfo28 rfl
@[simp] theorem st29 {H : Hand} {env : Nat → PV} {σ : Sto} {a x : Operand} : valO Tryz.prog H env σ (.store 29 a x) = stE 1 σ (opdE env a) (opdE env x) := store_of Pv.nfo29 rfl
@[simp] theorem st3 {H : Hand} {env : Nat → PV} {σ : Sto} {a x : Operand} : valO Tryz.prog H env σ (.store 3 a x) = stE 1 σ (opdE env a) (opdE env x) := store_of Pv.nfo3 rfl
@[simp] theorem st33 {H : Hand} {env : Nat → PV} {σ : Sto} {a x : Operand} : valO Tryz.prog H env σ (.store 33 a x) = stE 1 σ (opdE env a) (opdE env x) := store_of Pv.nfo33 rfl
@[simp] theorem st34 {H : Hand} {env : Nat → PV} {σ : Sto} {a x : Operand} : valO Tryz.prog H env σ (.store 34 a x) = stE 1 σ (opdE env a) (opdE env x) := store_of Pv.nfo34 rfl
@[simp] theorem st35 {H : Hand} {env : Nat → PV} {σ : Sto} {a x : Operand} : valO Tryz.prog H env σ (.store 35 a x) = stE 1 σ (opdE env a) (opdE env x) := store_of Pv.nfo35 rfl
@[simp] theorem st38 {H : Hand} {env : Nat → PV} {σ : Sto} {a x : Operand} : valO Tryz.prog H env σ (.store 38 a x) = stE 4 σ (opdE env a) (opdE env x) := store_of Pv.nfo38 rfl
@[simp] theorem st4 {H : Hand} {env : Nat → PV} {σ : Sto} {a x : Operand} : valO Tryz.prog H env σ (.store 4 a x) = stE 1 σ (opdE env a) (opdE env x) := store_of Pv.nfo4 rfl
@[simp] theorem st49 {H : Hand} {env : Nat → PV} {σ : Sto} {a x : Operand} : valO Tryz.prog H env σ (.store 49 a x) = stE 4 σ (opdE env a) (opdE env x) := store_of Pv.nfo49 rfl
@[simp] theorem st50 {H : Hand} {env : Nat → PV} {σ : Sto} {a x : Operand} : valO Tryz.prog H env σ (.store 50 a x) = stE 1 σ (opdE env a) (opdE env x) := store_of Pv.nfo50 rfl
@[simp] theorem st52 {H : Hand} {env : Nat → PV} {σ : Sto} {a x : Operand} : valO Tryz.prog H env σ (.store 52 a x) = stE 4 σ (opdE env a) (opdE env x) := store_of Pv.nfo52 rfl
@[simp] theorem st56 {H : Hand} {env : Nat → PV} {σ : Sto} {a x : Operand} : valO Tryz.prog H env σ (.store 56 a x) = stE 6 σ (opdE env a) (opdE env x) := store_of Pv.nfo56 rfl
@[simp] theorem st63 {H : Hand} {env : Nat → PV} {σ : Sto} {a x : Operand} : valO Tryz.prog H env σ (.store 63 a x) = stE 1 σ (opdE env a) (opdE env x) := store_of Pv.nfo63 rfl
@[simp] theorem st65 {H : Hand} {env : Nat → PV} {σ : Sto} {a x : Operand} : valO Tryz.prog H env σ (.store 65 a x) = stE 4 σ (opdE env a) (opdE env x) := store_of Pv.nfo65 rfl
@[simp] theorem st68 {H : Hand} {env : Nat → PV} {σ : Sto} {a x : Operand} : valO Tryz.prog H env σ (.store 68 a x) = stE 6 σ (opdE env a) (opdE env x) := store_of Pv.nfo68 rfl
@[simp] theorem st74 {H : Hand} {env : Nat → PV} {σ : Sto} {a x : Operand} : valO Tryz.prog H env σ (.store 74 a x) = stE 1 σ (opdE env a) (opdE env x) := store_of Pv.nfo74 rfl
@[simp] theorem st78 {H : Hand} {env : Nat → PV} {σ : Sto} {a x : Operand} : valO Tryz.prog H env σ (.store 78 a x) = stE 2 σ (opdE env a) (opdE env x) := store_of Pv.nfo78 rfl
@[simp] theorem st80 {H : Hand} {env : Nat → PV} {σ : Sto} {a x : Operand} : valO Tryz.prog H env σ (.store 80 a x) = stE 1 σ (opdE env a) (opdE env x) := store_of Pv.nfo80 rfl
@[simp] theorem st82 {H : Hand} {env : Nat → PV} {σ : Sto} {a x : Operand} : valO Tryz.prog H env σ (.store 82 a x) = stE 6 σ (opdE env a) (opdE env x) := store_of Pv.nfo82 rfl
@[simp] theorem st88 {H : Hand} {env : Nat → PV} {σ : Sto} {a x : Operand} : valO Tryz.prog H env σ (.store 88 a x) = stE 5 σ (opdE env a) (opdE env x) := store_of Pv.nfo88 rfl
@[simp] theorem st9 {H : Hand} {env : Nat → PV} {σ : Sto} {a x : Operand} : valO Tryz.prog H env σ (.store 9 a x) = stE 1 σ (opdE env a) (opdE env x) := store_of Pv.nfo9 rfl
@[simp] theorem st98 {H : Hand} {env : Nat → PV} {σ : Sto} {a x : Operand} : valO Tryz.prog H env σ (.store 98 a x) = stE 2 σ (opdE env a) (opdE env x) := store_of Pv.nfo98 rfl
end Go.Proofs.YtfgoedndpcblpaaGreatDoor.Pv
end
section
namespace Go.Proofs.YtfgoedndpcblpaaGreatDoor.Lx
open Go Go.Proofs
set_option linter.unusedVariables false
def spanD (p : Nat → Bool) (s : ByteArray) : Nat → Nat → Nat
  | 0, _ => s.size
  | b + 1, pos => if pos < s.size then (if p (Utf8.decode s pos).1 = true then spanD p s b (pos + (Utf8.decode s pos).2) else pos) else s.size
theorem dwidth (s : ByteArray) (pos : Nat) (h : pos < s.size) : 1 ≤ (Utf8.decode s pos).2 := by
  by_cases ha : (s[pos]'h).toNat < 128
  · rw [decode_ascii s pos h ha]
    exact Nat.le_refl _
  · exact (decode_high s pos h (by omega)).2
theorem get_plus (s : ByteArray) (i : Nat) (h : i < s.size) : s.get! i = s[i]'h := by
  simp [ByteArray.get!, getElem!_pos, h]
  rfl
theorem dbytes (s : ByteArray) (pos : Nat) (_h : pos < s.size) : ∀ j, 1 ≤ j → j < (Utf8.decode s pos).2 → ∃ h' : pos + j < s.size, 128 ≤ (s[pos + j]'h').toNat := by
  intro j h1 h2
  have key : ∀ k, (decide (pos + k < s.size) && (s.get! (pos + k)).toNat / 64 == 2) = true → ∃ h' : pos + k < s.size, 128 ≤ (s[pos + k]'h').toNat := by
    intro k hk
    simp only [Bool.and_eq_true, decide_eq_true_eq, beq_iff_eq] at hk
    obtain ⟨hk1, hk2⟩ := hk
    refine ⟨hk1, ?_⟩
    rw [get_plus s (pos + k) hk1] at hk2
    omega
  simp only [Utf8.decode] at h2
  split at h2
  · simp at h2; omega
  · split at h2
    · rename_i hc
      simp only [Bool.and_eq_true, beq_iff_eq] at hc
      split at h2
      · have : j = 1 := by simp at h2; omega
        subst this
        exact key 1 (by simpa using hc.2)
      · simp at h2; omega
    · split at h2
      · rename_i hc
        simp only [Bool.and_eq_true, beq_iff_eq] at hc
        split at h2
        · have : j = 1 ∨ j = 2 := by simp at h2; omega
          rcases this with rfl | rfl
          · exact key 1 (by simpa using hc.1.2)
          · exact key 2 (by simpa using hc.2)
        · simp at h2; omega
      · split at h2
        · rename_i hc
          simp only [Bool.and_eq_true, beq_iff_eq] at hc
          split at h2
          · have : j = 1 ∨ j = 2 ∨ j = 3 := by simp at h2; omega
            rcases this with rfl | rfl | rfl
            · exact key 1 (by simpa using hc.1.1.2)
            · exact key 2 (by simpa using hc.1.2)
            · exact key 3 (by simpa using hc.2)
          · simp at h2; omega
        · simp at h2; omega
def wh (q : UInt8 → Bool) (l : List UInt8) : Nat := (l.takeWhile q).length
theorem wh_nil (q : UInt8 → Bool) : wh q [] = 0 := rfl
theorem wh_cons (q : UInt8 → Bool) (c : UInt8) (l : List UInt8) : wh q (c :: l) = if q c = true then 1 + wh q l else 0 := by
  unfold wh
  rw [List.takeWhile_cons]
  split
  · simp; omega
  · rfl
theorem wh_le (q : UInt8 → Bool) (l : List UInt8) : wh q l ≤ l.length := by
  induction l with
  | nil => simp [wh]
  | cons c l ih => rw [wh_cons]; split <;> simp <;> omega
theorem drop_cons (s : ByteArray) (pos : Nat) (h : pos < s.size) : s.data.toList.drop pos = s[pos] :: s.data.toList.drop (pos + 1) := by
  rw [List.drop_eq_getElem_cons (by simpa using h)]
  rfl
theorem wh_high (q : UInt8 → Bool) (s : ByteArray) (hq : ∀ b : UInt8, 128 ≤ b.toNat → q b = true) (pos : Nat) :
    ∀ n, (∀ j, j < n → ∃ h' : pos + j < s.size, 128 ≤ (s[pos + j]'h').toNat) → wh q (s.data.toList.drop pos) = n + wh q (s.data.toList.drop (pos + n)) := by
  intro n
  induction n with
  | zero => intro _; simp
  | succ n ih =>
    intro hj
    rw [ih (fun j hj' => hj j (by omega))]
    obtain ⟨h', hh⟩ := hj n (by omega)
    rw [drop_cons s (pos + n) h', wh_cons, if_pos (hq _ hh)]
    simp only [← Nat.add_assoc]
theorem spanD_wh (p : Nat → Bool) (q : UInt8 → Bool) (c : Bool) (hl : ∀ b : UInt8, b.toNat < 128 → q b = p b.toNat) (hh : ∀ b : UInt8, 128 ≤ b.toNat → q b = c) (hr : ∀ r, 128 ≤ r → p r = c) (s : ByteArray) :
    ∀ b pos, pos ≤ s.size → s.size ≤ pos + b → spanD p s b pos = pos + wh q (s.data.toList.drop pos) := by
  intro b
  induction b with
  | zero =>
    intro pos h1 h2
    have : s.data.toList.drop pos = [] := List.drop_eq_nil_of_le (by simp; omega)
    rw [this]; simp [spanD, wh]; omega
  | succ b ih =>
    intro pos h1 h2
    unfold spanD
    by_cases hp : pos < s.size
    · rw [if_pos hp]
      have hcons := drop_cons s pos hp
      by_cases ha : (s[pos]'hp).toNat < 128
      · rw [decode_ascii s pos hp ha]
        rw [hcons, wh_cons, hl _ ha]
        by_cases hpp : p (s[pos]'hp).toNat = true
        · rw [if_pos hpp, if_pos hpp, ih (pos + 1) (by omega) (by omega)]; omega
        · rw [if_neg hpp, if_neg hpp]; rfl
      · have hd := decode_high s pos hp (by omega)
        have hpr := hr _ hd.1
        rw [hpr]
        cases c with
        | false =>
          rw [if_neg (by simp), hcons, wh_cons, hh _ (by omega), if_neg (by simp)]; rfl
        | true =>
          rw [if_pos rfl]
          have hb : ∀ j, j < (Utf8.decode s pos).2 → ∃ h' : pos + j < s.size, 128 ≤ (s[pos + j]'h').toNat := by
            intro j hj
            by_cases h0 : j = 0
            · subst h0; exact ⟨hp, by simp; omega⟩
            · exact dbytes s pos hp j (by omega) hj
          have hle : pos + (Utf8.decode s pos).2 ≤ s.size := by
            obtain ⟨h', _⟩ := hb ((Utf8.decode s pos).2 - 1) (by omega)
            omega
          rw [ih _ hle (by omega), wh_high q s hh pos _ hb]; omega
    · rw [if_neg hp]
      have : s.data.toList.drop pos = [] := List.drop_eq_nil_of_le (by simp; omega)
      rw [this, wh_nil]; omega
def letB (x : Nat) : Bool := decide (97 ≤ x) && decide (x ≤ 122) || decide (65 ≤ x) && decide (x ≤ 90)
def digB (x : Nat) : Bool := decide (48 ≤ x) && decide (x ≤ 57)
def innB (x : Nat) : Bool := letB x || digB x || decide (x = 95)
def noNl (x : Nat) : Bool := !decide (x = 10)
def byB (p : Nat → Bool) (b : UInt8) : Bool := p b.toNat
def skip : Bool → List UInt8 → Nat
  | _, [] => 0
  | true, c :: r => if c.toNat = 10 then 1 + skip false r else 1 + skip true r
  | false, c :: r => if c.toNat = 32 ∨ c.toNat = 9 ∨ c.toNat = 10 then 1 + skip false r else if c.toNat = 35 then 1 + skip true r else 0
theorem skip_le : ∀ (b : Bool) (l : List UInt8), skip b l ≤ l.length
  | _, [] => by simp [skip]
  | true, c :: r => by
    have h1 := skip_le false r; have h2 := skip_le true r
    simp only [skip]; split <;> simp <;> omega
  | false, c :: r => by
    have h1 := skip_le false r; have h2 := skip_le true r
    simp only [skip]; split
    · simp; omega
    · split <;> simp; omega
theorem skip_true : ∀ (l : List UInt8), skip true l = wh (byB noNl) l + skip false (l.drop (wh (byB noNl) l))
  | [] => by simp [skip, wh]
  | c :: r => by
    by_cases h : c.toNat = 10
    · have hw : wh (byB noNl) (c :: r) = 0 := by rw [wh_cons]; simp [byB, noNl, h]
      rw [hw]; simp [skip, h]
    · have hw : wh (byB noNl) (c :: r) = wh (byB noNl) r + 1 := by rw [wh_cons]; simp [byB, noNl, h]; omega
      rw [hw]
      have ih := skip_true r
      simp only [skip, h, if_false, List.drop_succ_cons]
      omega
theorem wh_spanD (p : Nat → Bool) (c : Bool) (hr : ∀ r, 128 ≤ r → p r = c) (s : ByteArray) : spanD p s s.size 0 = wh (byB p) s.data.toList := by
  have h := spanD_wh p (byB p) c (fun _ _ => rfl) (fun b hb => hr _ hb) hr s s.size 0 (Nat.zero_le _) (by omega)
  simpa using h
theorem wh_letters (s : ByteArray) : spanD innB s s.size 0 = wh (byB innB) s.data.toList :=
  wh_spanD innB false (fun r h => by unfold innB letB digB; simp; omega) s
theorem wh_digits (s : ByteArray) : spanD digB s s.size 0 = wh (byB digB) s.data.toList :=
  wh_spanD digB false (fun r h => by unfold digB; simp; omega) s
theorem wh_noNl (s : ByteArray) : spanD noNl s s.size 0 = wh (byB noNl) s.data.toList :=
  wh_spanD noNl true (fun r h => by unfold noNl; simp; omega) s
def numL : Int → List UInt8 → Option Int
  | n, [] => some n
  | n, c :: r => if n > 115292150460684697 then none else numL (10 * n + ((c.toNat : Int) - 48)) r
def numF (l : List UInt8) : Int × Int :=
  match numL 0 l with
  | none => (0, 111)
  | some n => if 40 < l.length ∨ 1152921504606846976 < n then (0, 111) else (n, 0)
def signBytes : List UInt8 := [123, 32, 125, 32, 40, 32, 41, 32, 91, 32, 93, 32, 59, 32, 58, 32, 44, 32, 61, 32, 61, 61, 32, 33, 61, 32, 60, 32, 60, 61, 32, 62, 32, 62, 61, 32, 43, 32, 45, 32, 42, 32, 47, 32, 33, 32, 38, 38, 32, 124, 124]
def signsL : List (List UInt8) := [[123], [125], [40], [41], [91], [93], [59], [58], [44], [61], [61, 61], [33, 61], [60], [60, 61], [62], [62, 61], [43], [45], [42], [47], [33], [38, 38], [124, 124]]
theorem fields_signs : Lib.fields signBytes = signsL := by decide
def better (l best x : List UInt8) : List UInt8 := if x.isPrefixOf l = true ∧ best.length < x.length then x else best
def signF (l : List UInt8) : List UInt8 := signsL.foldl (better l) []
def tokF : List UInt8 → Int × List UInt8 × Int × Int
  | [] => (0, [], 0, 0)
  | c :: r =>
    if byB letB c = true then (if 16 < wh (byB innB) (c :: r) then (0, [], 0, 111) else (0, (c :: r).take (wh (byB innB) (c :: r)), 0, 0))
    else if byB digB c = true then (1, (c :: r).take (wh (byB digB) (c :: r)), (numF ((c :: r).take (wh (byB digB) (c :: r)))).1, (numF ((c :: r).take (wh (byB digB) (c :: r)))).2)
    else if signF (c :: r) = [] then (0, [], 0, 110) else (2, signF (c :: r), 0, 0)
theorem tokF_cons {s : ByteArray} (h0 : 0 < s.size) : tokF s.data.toList =
    if letB s[0].toNat = true then (if 16 < wh (byB innB) s.data.toList then (0, [], 0, 111) else (0, s.data.toList.take (wh (byB innB) s.data.toList), 0, 0))
    else if digB s[0].toNat = true then (1, s.data.toList.take (wh (byB digB) s.data.toList), (numF (s.data.toList.take (wh (byB digB) s.data.toList))).1, (numF (s.data.toList.take (wh (byB digB) s.data.toList))).2)
    else if signF s.data.toList = [] then (0, [], 0, 110) else (2, signF s.data.toList, 0, 0) := by
  have hd : s.data.toList = s[0] :: s.data.toList.drop 1 := by have := drop_cons s 0 h0; simpa using this
  rw [hd]; rfl
theorem wh_le_size (q : UInt8 → Bool) (s : ByteArray) : wh q s.data.toList ≤ s.size := by
  have := wh_le q s.data.toList
  rw [Array.length_toList] at this
  exact this
theorem take_wh (q : UInt8 → Bool) : ∀ (l : List UInt8), ∀ b ∈ l.take (wh q l), q b = true
  | [], b, h => by simp at h
  | c :: l, b, h => by
    rw [wh_cons] at h
    split at h
    · rw [Nat.add_comm, List.take_succ_cons] at h
      rcases List.mem_cons.mp h with rfl | h'
      · assumption
      · exact take_wh q l b h'
    · simp at h
def strOf (l : List UInt8) : ByteArray := ⟨l.toArray⟩
theorem strOf_list (l : List UInt8) : (strOf l).data.toList = l := rfl
theorem strOf_size (l : List UInt8) : (strOf l).size = l.length := by simp [strOf, ByteArray.size]
theorem strOf_self (s : ByteArray) : strOf s.data.toList = s := by
  cases s; rfl
theorem extract_drop (s : ByteArray) (a : Nat) : s.extract a s.size = strOf (s.data.toList.drop a) := by
  apply ByteArray.ext
  apply Array.toList_inj.mp
  rw [Lib.extract_to_end]
  simp [strOf]
theorem extract_take' (s : ByteArray) (k : Nat) : s.extract 0 k = strOf (s.data.toList.take k) := by
  apply ByteArray.ext
  apply Array.toList_inj.mp
  rw [Lib.extract_data]
  simp [strOf]
theorem toList_data (s : ByteArray) : s.toList = s.data.toList := by
  have := Lib.extract_toList s 0 s.size
  have h2 := Lib.extract_data s 0 s.size
  have e : s.extract 0 s.size = s := by
    apply ByteArray.ext
    apply Array.toList_inj.mp
    rw [h2]
    simp
    exact List.take_of_length_le (by simp)
  rw [e] at this h2
  rw [this]; exact h2.symm
theorem size_list (s : ByteArray) : s.size = s.data.toList.length := (Array.length_toList).symm
theorem whole_wh (q : UInt8 → Bool) (l : List UInt8) : (l.take (wh q l)).all q = true := List.all_eq_true.mpr (take_wh q l)
abbrev Tk := Int × List UInt8 × Int × Nat
inductive LexR where
  | ok (l : List Tk)
  | no (at' : Nat) (e : Int)
def LexR.cons (t : Tk) : LexR → LexR
  | .ok l => .ok (t :: l)
  | .no a e => .no a e
def lexS : Nat → Nat → List UInt8 → LexR
  | 0, _, _ => .ok []
  | _ + 1, _, [] => .ok []
  | f + 1, a, c :: r =>
    if (tokF (c :: r)).2.2.2 = 0 then
      (lexS f (a + (tokF (c :: r)).2.1.length + skip false ((c :: r).drop (tokF (c :: r)).2.1.length)) (((c :: r).drop (tokF (c :: r)).2.1.length).drop (skip false ((c :: r).drop (tokF (c :: r)).2.1.length)))).cons ((tokF (c :: r)).1, (tokF (c :: r)).2.1, (tokF (c :: r)).2.2.1, a)
    else .no a (tokF (c :: r)).2.2.2
def lexA (l : List UInt8) : LexR := lexS l.length (skip false l) (l.drop (skip false l))
theorem take_len {q : UInt8 → Bool} {l : List UInt8} : (l.take (wh q l)).length = wh q l := by
  rw [List.length_take]; have := wh_le q l; omega
theorem sign_len (l : List UInt8) : (signF l).length ≤ l.length := by
  have h : ∀ (xs : List (List UInt8)) (b : List UInt8), b.length ≤ l.length → (xs.foldl (better l) b).length ≤ l.length := by
    intro xs
    induction xs with
    | nil => intro b hb; exact hb
    | cons x xs ih =>
      intro b hb
      rw [List.foldl_cons]
      apply ih
      unfold better
      split
      · rename_i h
        exact List.IsPrefix.length_le (List.isPrefixOf_iff_prefix.mp h.1)
      · exact hb
  exact h _ _ (Nat.zero_le _)
theorem tokF_len : ∀ (l : List UInt8), (tokF l).2.1.length ≤ l.length
  | [] => Nat.le_refl _
  | c :: r => by
    simp only [tokF]
    split
    · split
      · exact Nat.zero_le _
      · exact List.length_take_le' _ _
    · split
      · exact List.length_take_le' _ _
      · split
        · exact Nat.zero_le _
        · exact sign_len _
theorem tokF_pos (c : UInt8) (r : List UInt8) (h : (tokF (c :: r)).2.2.2 = 0) : 1 ≤ (tokF (c :: r)).2.1.length := by
  simp only [tokF] at h ⊢
  split at h
  · rename_i hl
    rw [if_pos hl]
    split at h
    · cases h
    · rename_i h2
      rw [if_neg h2]
      simp only
      rw [take_len, wh_cons, if_pos (by unfold byB at hl ⊢; unfold innB; simp [hl])]
      omega
  · rename_i hl
    rw [if_neg hl]
    split at h
    · rename_i hd
      rw [if_pos hd]
      simp only
      rw [take_len, wh_cons, if_pos hd]
      omega
    · rename_i hd
      rw [if_neg hd]
      split at h
      · cases h
      · rename_i h2
        rw [if_neg h2]
        simp only
        cases hs : signF (c :: r) with
        | nil => exact absurd hs h2
        | cons a b => simp
end Go.Proofs.YtfgoedndpcblpaaGreatDoor.Lx
end
section
namespace Go.Proofs.YtfgoedndpcblpaaGreatDoor.Pv
open Go Go.Proofs Go.Proofs.YtfgoedndpcblpaaGreatDoor.Lx
set_option linter.unusedSimpArgs false
set_option linter.unusedVariables false
variable {L : Lib} {σ : Sto}
def Free (L : Lib) (l : List FuncId) : Prop := ∀ f ∈ l, L f = none
theorem Free.sub {L : Lib} {l m : List FuncId} (h : Free L l) (hs : ∀ f ∈ m, f ∈ l) : Free L m := fun f hf => h f (hs f hf)
theorem leL (a x : Nat) : decide ((a : Int) ≤ (x : Int)) = decide (a ≤ x) := by simp
theorem leR (a x : Nat) : decide ((x : Int) ≤ (a : Int)) = decide (x ≤ a) := by simp
theorem spanD_any (p : Nat → Bool) (s : ByteArray) : ∀ (f g pos : Nat), s.size ≤ pos + f → s.size ≤ pos + g → spanD p s f pos = spanD p s g pos
  | 0, 0, pos, _, _ => rfl
  | 0, g + 1, pos, h, _ => by simp only [spanD]; rw [if_neg (by omega)]
  | f + 1, 0, pos, _, h => by simp only [spanD]; rw [if_neg (by omega)]
  | f + 1, g + 1, pos, h1, h2 => by
    simp only [spanD]
    split
    · rename_i h
      have := dwidth s pos h
      rw [spanD_any p s f g _ (by omega) (by omega)]
    · rfl
theorem eqR (a x : Nat) : ((x : Int) = (a : Int)) ↔ x = a := by omega
theorem digit_ok (hl : L 139 = none) (x : Nat) : callE (EV Tryz.prog L) 139 [.im (.int .i32 x)] σ = some (boo (digB x), σ) := by
  refine call_fn hl Tryz.func139 Tryz.ntmps139 Tryz.results139 (by simp) rfl rfl (ids := []) ⟨_, rfl, by kernel_rfl, ?_⟩
  simp (contextual := true) (implicitDefEqProofs := false) [-decide_eq_true_eq, -decide_eq_false_iff_not, -Bool.not_and, -Bool.not_or, -Bool.and_eq_false_imp, digB]
  by_cases h1 : 48 ≤ x <;> by_cases h2 : x ≤ 57 <;> simp [h1, h2] <;> omega
theorem letter_ok (hl : L 137 = none) (x : Nat) : callE (EV Tryz.prog L) 137 [.im (.int .i32 x)] σ = some (boo (letB x), σ) := by
  refine call_fn hl Tryz.func137 Tryz.ntmps137 Tryz.results137 (by simp) rfl rfl (ids := []) ⟨_, rfl, by kernel_rfl, ?_⟩
  simp (contextual := true) (implicitDefEqProofs := false) [-decide_eq_true_eq, -decide_eq_false_iff_not, -Bool.not_and, -Bool.not_or, -Bool.and_eq_false_imp, letB]
  rw [← leL 97, ← leR 122, ← leL 65, ← leR 90]; rfl
theorem inner_ok (hl : Free L [139, 137, 138]) (x : Nat) : callE (EV Tryz.prog L) 138 [.im (.int .i32 x)] σ = some (boo (innB x), σ) := by
  refine call_fn (hl _ (by simp)) Tryz.func138 Tryz.ntmps138 Tryz.results138 (by simp) rfl rfl (ids := []) ⟨_, rfl, by kernel_rfl, ?_⟩
  simp (contextual := true) (implicitDefEqProofs := false) [-decide_eq_true_eq, -decide_eq_false_iff_not, -Bool.not_and, -Bool.not_or, -Bool.and_eq_false_imp, innB, digit_ok (hl _ (by simp)), letter_ok (hl _ (by simp))]
  exact fun _ _ => eqR 95 x
theorem newline_ok (hl : L 136 = none) (x : Nat) : callE (EV Tryz.prog L) 136 [.im (.int .i32 x)] σ = some (boo (noNl x), σ) := by
  refine call_fn hl Tryz.func136 Tryz.ntmps136 Tryz.results136 (by simp) rfl rfl (ids := []) ⟨_, rfl, by kernel_rfl, ?_⟩
  simp (contextual := true) (implicitDefEqProofs := false) [-decide_eq_true_eq, -decide_eq_false_iff_not, -Bool.not_and, -Bool.not_or, -Bool.and_eq_false_imp, noNl]
  exact eqR 10 x
theorem while_ok (hl : L 135 = none) {g : FuncId} {p : Nat → Bool} (hb : isBody Tryz.prog g = true) (hp : ∀ (x : Nat) (σ : Sto), callE (EV Tryz.prog L) g [.im (.int .i32 x)] σ = some (boo (p x), σ)) (s : ByteArray) :
    callE (EV Tryz.prog L) 135 [str s, .im (.func (.func g) #[] #[])] σ = some (int (spanD p s s.size 0), σ) := by
  refine call_fn hl Tryz.func135 Tryz.ntmps135 Tryz.results135 (by simp) rfl rfl (ids := []) ⟨_, rfl, by kernel_rfl, ?_⟩
  simp (contextual := true) (implicitDefEqProofs := false) [-decide_eq_true_eq, -decide_eq_false_iff_not, -Bool.not_and, -Bool.not_or, -Bool.and_eq_false_imp]
  refine WP.loop (fun m s' => ∃ pos, m = s.size - pos ∧ s'.sto = ⟨[.iter s pos], []⟩ ∧ s'.env 0 = str s ∧ s'.env 1 = .im (.func (.func g) #[] #[]) ∧ s'.env 8 = .ptr 0 0 ∧ spanD p s (s.size - pos) pos = spanD p s s.size 0) s.size ⟨0, by simp⟩ ?_
  rintro m ⟨env, τ⟩ ⟨pos, rfl, h1, h2, h3, h4, h5⟩
  simp only at h1 h2 h3 h4
  subst h1
  simp (contextual := true) (implicitDefEqProofs := false) [-decide_eq_true_eq, -decide_eq_false_iff_not, -Bool.not_and, -Bool.not_or, -Bool.and_eq_false_imp, h2, h3, h4, hp, hb]
  refine ⟨fun h => ?_, fun h => ?_⟩
  · have hw := dwidth s pos h
    obtain ⟨f, hf⟩ : ∃ f, s.size - pos = f + 1 := ⟨s.size - pos - 1, by omega⟩
    rw [← h5, hf]
    simp only [spanD, h, if_true]
    refine ⟨fun hq => by simp [hq], fun hq => ⟨_, by omega, _, rfl, rfl, ?_⟩⟩
    simp only [hq, if_true]
    exact spanD_any p s _ _ _ (by omega) (by omega)
  · rw [← h5, show s.size - pos = 0 from by omega]
    rfl
end Go.Proofs.YtfgoedndpcblpaaGreatDoor.Pv
end
section
namespace Go.Proofs.YtfgoedndpcblpaaGreatDoor.Pv
open Go Go.Proofs Go.Proofs.YtfgoedndpcblpaaGreatDoor.Lx
set_option linter.unusedSimpArgs false
set_option linter.unusedVariables false
variable {L : Lib} {σ : Sto}
theorem while_nl (hl : Free L [136, 135]) (s : ByteArray) : callE (EV Tryz.prog L) 135 [str s, .im (.func (.func 136) #[] #[])] σ = some (int (wh (byB noNl) s.data.toList), σ) := by
  rw [while_ok (hl _ (by simp)) (by simp) (fun x σ => newline_ok (hl _ (by simp)) x) s, wh_noNl]
theorem while_dig (hl : Free L [139, 135]) (s : ByteArray) : callE (EV Tryz.prog L) 135 [str s, .im (.func (.func 139) #[] #[])] σ = some (int (wh (byB digB) s.data.toList), σ) := by
  rw [while_ok (hl _ (by simp)) (by simp) (fun x σ => digit_ok (hl _ (by simp)) x) s, wh_digits]
theorem while_inn (hl : Free L [139, 137, 138, 135]) (s : ByteArray) : callE (EV Tryz.prog L) 135 [str s, .im (.func (.func 138) #[] #[])] σ = some (int (wh (byB innB) s.data.toList), σ) := by
  rw [while_ok (hl _ (by simp)) (by simp) (fun x σ => inner_ok (hl.sub (by simp)) x) s, wh_letters]
theorem nothing_ok (hl : Free L [136, 135, 64]) (s : ByteArray) (hs : s.size < 4611686018427387904) : callE (EV Tryz.prog L) 64 [str s] σ = some (int (skip false s.data.toList), σ) := by
  refine call_fn (hl _ (by simp)) Tryz.func64 Tryz.ntmps64 Tryz.results64 (by simp) rfl rfl (ids := []) ⟨_, rfl, by kernel_rfl, ?_⟩
  simp (contextual := true) (implicitDefEqProofs := false) [-decide_eq_true_eq, -decide_eq_false_iff_not, -Bool.not_and, -Bool.not_or, -Bool.and_eq_false_imp]
  refine WP.loop (fun m s' => ∃ pos : Nat, pos ≤ s.size ∧ m = s.size - pos ∧ s'.sto = ⟨[], []⟩ ∧ s'.env 0 = str s ∧ s'.env 3 = int pos ∧ pos + skip false (s.data.toList.drop pos) = skip false s.data.toList) s.size ⟨0, by simp⟩ ?_
  rintro m ⟨env, τ⟩ ⟨pos, hp, rfl, h1, h2, h3, h4⟩
  simp only at h1 h2 h3
  subst h1
  by_cases hlt : pos < s.size
  · rw [drop_cons s pos hlt] at h4
    have hx := strIdx_get hlt
    have hsl := slS_lo (b := s) (k := .i64) hp
    simp (contextual := true) (implicitDefEqProofs := false) [-decide_eq_true_eq, -decide_eq_false_iff_not, -Bool.not_and, -Bool.not_or, -Bool.and_eq_false_imp, h2, h3, hlt, hx, hsl, extract_drop, while_nl (hl.sub (by simp)), strOf_list]
    simp only [decide_eq_true_eq, decide_eq_false_iff_not]
    have hA : s[pos].toNat = 32 ∨ s[pos].toNat = 9 ∨ s[pos].toNat = 10 → ∃ m', m' < s.size - pos ∧ ∃ q : Nat, q ≤ s.size ∧ m' = s.size - q ∧ IntKind.wrap .i64 ((pos : Int) + 1) = (q : Int) ∧ q + skip false (s.data.toList.drop q) = skip false s.data.toList := by
      intro e
      refine ⟨_, ?_, pos + 1, hlt, rfl, wrap_succ (by omega), ?_⟩
      · omega
      · rw [← h4]; simp only [skip, if_pos e]; omega
    refine ⟨fun e => hA (by omega), fun e1 => ⟨fun e => hA (by omega), fun e2 => ⟨fun e => hA (by omega), fun e3 => ⟨fun e => ?_, fun e4 => ?_⟩⟩⟩⟩
    · have hd := drop_cons s pos hlt
      have h35 : s[pos].toNat = 35 := by omega
      have h10 : wh (byB noNl) (s.data.toList.drop pos) = wh (byB noNl) (s.data.toList.drop (pos + 1)) + 1 := by
        rw [hd, wh_cons, if_pos (by simp [byB, noNl, h35])]; omega
      have hw := wh_le (byB noNl) (s.data.toList.drop pos)
      rw [List.length_drop, ← size_list] at hw
      refine ⟨_, ?_, pos + wh (byB noNl) (s.data.toList.drop pos), by omega, rfl, wrap_add (by omega), ?_⟩
      · omega
      · rw [← h4]
        simp only [skip]
        rw [if_neg (by omega), if_pos h35, skip_true, h10, List.drop_drop]
        rw [show pos + 1 + wh (byB noNl) (s.data.toList.drop (pos + 1)) = pos + (wh (byB noNl) (s.data.toList.drop (pos + 1)) + 1) from by omega]
        omega
    · rw [← h4]
      simp only [skip]
      rw [if_neg (by omega), if_neg (by omega)]
      simp
  · have hd : decide (pos < s.size) = false := by simp; omega
    simp (contextual := true) (implicitDefEqProofs := false) [-decide_eq_true_eq, -decide_eq_false_iff_not, -Bool.not_and, -Bool.not_or, -Bool.and_eq_false_imp, h2, h3, hd]
    rw [List.drop_eq_nil_of_le (by rw [← size_list]; omega)] at h4
    simp only [skip] at h4
    omega
end Go.Proofs.YtfgoedndpcblpaaGreatDoor.Pv
end
section
namespace Go.Proofs.YtfgoedndpcblpaaGreatDoor.Pv
open Go Go.Proofs Go.Proofs.YtfgoedndpcblpaaGreatDoor.Lx
set_option linter.unusedSimpArgs false
set_option linter.unusedVariables false
variable {L : Lib} {σ : Sto}
theorem call_lib {f : FuncId} {h : List PV → Sto → Option (PV × Sto)} {args : List PV} {σ1 : Sto} {r : PV} (hl : L f = some h) (ha : ptrsL args = []) (e : h (eraL args) ⟨[], []⟩ = some (r, σ1)) (hp : r.ptrs = []) : callE (EV Tryz.prog L) f args σ = some (r.era, σ) :=
  call_pure ha (EV_lib hl e) hp
def strsB (l : List (List UInt8)) : PV := .sl (l.map fun x => [.im (.string (strOf x))]) .unk
def fieldsH : List PV → Sto → Option (PV × Sto)
  | [.im (.string s)], σ => if s.size < 4294967281 ∧ (s.data.toList.all fun b => decide (b.toNat < 128)) = true then some (strsB (Lib.fields s.data.toList), σ) else none
  | _, _ => none
theorem fields_ok (hF : L 116 = some fieldsH) (s : ByteArray) (h : s.size < 4294967281 ∧ (s.data.toList.all fun b => decide (b.toNat < 128)) = true) : callE (EV Tryz.prog L) 116 [str s] σ = some (strsB (Lib.fields s.data.toList), σ) := by
  rw [call_lib hF rfl (r := strsB (Lib.fields s.data.toList)) (σ1 := ⟨[], []⟩) (by simp [fieldsH, h]) rfl]; rfl
theorem prefix2_ok (hl : L 226 = none) (s p : ByteArray) : callE (EV Tryz.prog L) 226 [str s, str p] σ = some (boo (p.data.toList.isPrefixOf s.data.toList), σ) := by
  refine call_fn hl Tryz.func226 Tryz.ntmps226 Tryz.results226 (by simp) rfl rfl (ids := []) ⟨_, rfl, by kernel_rfl, ?_⟩
  have h : decide (p.size ≤ s.size) = true → slS s none (some (int (p.size : Nat))) = some (str (s.extract 0 p.size)) := fun h => slS_hi (of_decide_eq_true h)
  have e : (decide (p.size ≤ s.size) && decide (s.extract 0 p.size = p)) = p.data.toList.isPrefixOf s.data.toList := by
    rw [extract_take']
    by_cases h1 : p.size ≤ s.size
    · by_cases h2 : p.data.toList <+: s.data.toList
      · have h3 := List.prefix_iff_eq_take.1 h2
        rw [← size_list] at h3
        simp only [h1, decide_true, Bool.true_and]
        rw [List.isPrefixOf_iff_prefix.2 h2, ← h3]; simp [strOf]
      · have h4 : p.data.toList.isPrefixOf s.data.toList = false := by
          cases h5 : p.data.toList.isPrefixOf s.data.toList with
          | false => rfl
          | true => exact absurd (List.isPrefixOf_iff_prefix.1 h5) h2
        rw [h4]
        simp only [h1, decide_true, Bool.true_and, decide_eq_false_iff_not]
        intro h5
        refine h2 (List.prefix_iff_eq_take.2 ?_)
        rw [← size_list]
        have := congrArg (fun b => b.data.toList) h5
        simpa [strOf] using this.symm
    · have h4 : p.data.toList.isPrefixOf s.data.toList = false := by
        cases h5 : p.data.toList.isPrefixOf s.data.toList with
        | false => rfl
        | true =>
          have := (List.isPrefixOf_iff_prefix.1 h5).length_le
          rw [← size_list, ← size_list] at this
          exact absurd this h1
      rw [h4]; simp [h1]
  simp (contextual := true) (implicitDefEqProofs := false) [-decide_eq_true_eq, -decide_eq_false_iff_not, -Bool.not_and, -Bool.not_or, -Bool.and_eq_false_imp, h, ← e]
theorem prefix_ok (hl : Free L [183, 226]) (s p : ByteArray) : callE (EV Tryz.prog L) 183 [str s, str p] σ = some (boo (p.data.toList.isPrefixOf s.data.toList), σ) := by
  refine call_fn (hl _ (by simp)) Tryz.func183 Tryz.ntmps183 Tryz.results183 (by simp) rfl rfl (ids := []) ⟨_, rfl, by kernel_rfl, ?_⟩
  simp (contextual := true) (implicitDefEqProofs := false) [-decide_eq_true_eq, -decide_eq_false_iff_not, -Bool.not_and, -Bool.not_or, -Bool.and_eq_false_imp, prefix2_ok (hl _ (by simp))]
theorem signs_plain : signBytes.length = 51 ∧ (signBytes.all fun b => decide (b.toNat < 128)) = true := by decide
theorem fold_go (l : List UInt8) : ∀ (xs : List (List UInt8)) (x best : List UInt8), (x :: xs).foldl (better l) best = xs.foldl (better l) (better l best x) := fun _ _ _ => rfl
theorem sign_ok (hl : Free L [141, 183, 226]) (hF : L 116 = some fieldsH) (s : ByteArray) : callE (EV Tryz.prog L) 141 [str s] σ = some (str (strOf (signF s.data.toList)), σ) := by
  refine call_fn (hl _ (by simp)) Tryz.func141 Tryz.ntmps141 Tryz.results141 (by simp) rfl rfl (ids := []) ⟨_, rfl, by kernel_rfl, ?_⟩
  have hfl := fields_ok (L := L) (σ := ⟨[], []⟩) hF (strOf signBytes) (by simp [strOf, ByteArray.size, signs_plain])
  rw [strOf_list, fields_signs] at hfl
  simp only [strOf, signBytes] at hfl
  simp (contextual := true) (implicitDefEqProofs := false) [-decide_eq_true_eq, -decide_eq_false_iff_not, -Bool.not_and, -Bool.not_or, -Bool.and_eq_false_imp, hfl, strsB]
  refine WP.each signsL (fun rest i s' => s'.sto = ⟨[], []⟩ ∧ s'.env 0 = str s ∧ s'.env 6 = strsB signsL ∧ s'.env 7 = int signsL.length ∧ s'.env 8 = int i ∧ ∃ best, s'.env 3 = str (strOf best) ∧ rest.foldl (better s.data.toList) best = signF s.data.toList) ⟨rfl, by simp, by simp [strsB], by simp, by simp, [], by simp [strOf], rfl⟩ ?_ ?_
  · rintro x xs i ⟨env, τ⟩ hx hi hxs ⟨h1, h2, h3, h4, h5, best, h6, h7⟩
    simp only at h1 h2 h3 h4 h5 h6
    subst h1
    have hix : idx 1 (signsL.map fun x => [.im (.string (strOf x))]) i = some (.el [.im (.string (strOf x))] 0) := idx_get (by rw [List.getElem?_map, hx]; rfl) rfl
    have hlt : decide (i < signsL.length) = true := by simp [hi]
    simp (contextual := true) (implicitDefEqProofs := false) [-decide_eq_true_eq, -decide_eq_false_iff_not, -Bool.not_and, -Bool.not_or, -Bool.and_eq_false_imp, h2, h3, h4, h5, h6, hlt, strsB, hix, prefix_ok (hl.sub (by simp)), strOf_list, strOf_size]
    have hw : IntKind.wrap .i64 ((i : Int) + 1) = (i : Int) + 1 := wrap_of (by have : signsL.length = 23 := rfl; omega)
    have hb : ∀ b, better s.data.toList best x = b → b.foldl (fun a _ => a) b = b → xs.foldl (better s.data.toList) b = signF s.data.toList := fun b e _ => by rw [← h7, fold_go, e]
    have hf : ∀ (b : List UInt8), b.foldl (fun a _ => a) b = b := fun b => by
      have : ∀ (l a : List UInt8), l.foldl (fun a _ => a) a = a := fun l => by induction l with | nil => intro a; rfl | cons x l ih => intro a; exact ih a
      exact this b b
    refine ⟨fun hp => ⟨fun hd => ⟨hw, x, rfl, hb _ ?_ (hf _)⟩, fun hd => ⟨hw, best, rfl, hb _ ?_ (hf _)⟩⟩, fun hp => ⟨hw, best, rfl, hb _ ?_ (hf _)⟩⟩
    · unfold better; rw [if_pos ⟨List.isPrefixOf_iff_prefix.2 hp, of_decide_eq_true hd⟩]
    · unfold better; rw [if_neg (fun h => (of_decide_eq_false hd) h.2)]
    · unfold better; rw [if_neg (fun h => hp (List.isPrefixOf_iff_prefix.1 h.1))]
  · rintro ⟨env, τ⟩ ⟨h1, h2, h3, h4, h5, best, h6, h7⟩
    simp only at h1 h2 h3 h4 h5 h6
    subst h1
    simp only [List.foldl_nil] at h7
    simp (contextual := true) (implicitDefEqProofs := false) [-decide_eq_true_eq, -decide_eq_false_iff_not, -Bool.not_and, -Bool.not_or, -Bool.and_eq_false_imp, h2, h3, h4, h5, h6, h7]
end Go.Proofs.YtfgoedndpcblpaaGreatDoor.Pv
end
section
namespace Go.Proofs.YtfgoedndpcblpaaGreatDoor.Pv
open Go Go.Proofs Go.Proofs.YtfgoedndpcblpaaGreatDoor.Lx
set_option linter.unusedSimpArgs false
set_option linter.unusedVariables false
variable {L : Lib} {σ : Sto}
theorem decode_dig (s : ByteArray) (pos : Nat) (h : pos < s.size) (hd : byB digB s[pos] = true) : Utf8.decode s pos = (s[pos].toNat, 1) := by
  have : s[pos].toNat < 128 := by unfold byB digB at hd; simp at hd; omega
  exact decode_ascii s pos h this
theorem number_ok (hl : L 140 = none) (s : ByteArray) (hd : s.data.toList.all (byB digB) = true) : callE (EV Tryz.prog L) 140 [str s] σ = some (.tup [int (numF s.data.toList).1, int (numF s.data.toList).2], σ) := by
  refine call_fn hl Tryz.func140 Tryz.ntmps140 Tryz.results140 (by simp) rfl rfl (ids := []) ⟨_, rfl, by kernel_rfl, ?_⟩
  simp (contextual := true) (implicitDefEqProofs := false) [-decide_eq_true_eq, -decide_eq_false_iff_not, -Bool.not_and, -Bool.not_or, -Bool.and_eq_false_imp]
  refine WP.loop (fun m s' => ∃ (pos : Nat) (n : Int), pos ≤ s.size ∧ m = s.size - pos ∧ s'.sto = ⟨[.iter s pos], []⟩ ∧ s'.env 0 = str s ∧ s'.env 8 = .ptr 0 0 ∧ s'.env 4 = int n ∧ 0 ≤ n ∧ n ≤ 1152921504606846976 * 2 ∧ numL n (s.data.toList.drop pos) = numL 0 s.data.toList) s.size ⟨0, 0, by simp⟩ ?_
  rintro m ⟨env, τ⟩ ⟨pos, n, hp, rfl, h1, h2, h3, h4, h5, h6, h7⟩
  simp only at h1 h2 h3 h4
  subst h1
  by_cases hlt : pos < s.size
  · have hmem : s[pos] ∈ s.data.toList := by rw [Array.mem_toList_iff]; exact Array.getElem_mem (by simpa using hlt)
    have hb := List.all_eq_true.1 hd _ hmem
    have hdec := decode_dig s pos hlt hb
    rw [drop_cons s pos hlt] at h7
    have hr : 48 ≤ s[pos].toNat ∧ s[pos].toNat ≤ 57 := by unfold byB digB at hb; simpa using hb
    have hlt' : decide (pos < s.size) = true := by simp [hlt]
    simp (contextual := true) (implicitDefEqProofs := false) [-decide_eq_true_eq, -decide_eq_false_iff_not, -Bool.not_and, -Bool.not_or, -Bool.and_eq_false_imp, h2, h3, h4, hlt, hdec]
    have hnum : numF s.data.toList = (match numL 0 s.data.toList with | none => (0, 111) | some n => if 40 < s.data.toList.length ∨ 1152921504606846976 < n then (0, 111) else (n, 0)) := rfl
    refine ⟨fun e => ?_, fun e => ?_⟩
    · have e' := of_decide_eq_true e
      simp only [numL] at h7
      rw [if_pos e'] at h7
      rw [hnum, ← h7]
      exact ⟨rfl, rfl⟩
    · have e' := of_decide_eq_false e
      have w1 : IntKind.wrap .i64 (10 * n) = 10 * n := wrap_of (by omega)
      have w2 : IntKind.wrap .i32 ((s[pos].toNat : Int) - 48) = (s[pos].toNat : Int) - 48 := wrap32_of (by omega)
      have w3 : IntKind.wrap .i64 ((s[pos].toNat : Int) - 48) = (s[pos].toNat : Int) - 48 := wrap_of (by omega)
      have w4 : IntKind.wrap .i64 (10 * n + ((s[pos].toNat : Int) - 48)) = 10 * n + ((s[pos].toNat : Int) - 48) := wrap_of (by omega)
      rw [w1, w2, w3, w4]
      simp only [numL] at h7
      rw [if_neg e'] at h7
      exact ⟨_, by omega, pos + 1, hlt, rfl, rfl, by omega, by omega, h7⟩
  · have hlt' : decide (pos < s.size) = false := by simp [hlt]
    simp (contextual := true) (implicitDefEqProofs := false) [-decide_eq_true_eq, -decide_eq_false_iff_not, -Bool.not_and, -Bool.not_or, -Bool.and_eq_false_imp, h2, h3, h4, hlt]
    have hnum : numF s.data.toList = (match numL 0 s.data.toList with | none => (0, 111) | some n => if 40 < s.data.toList.length ∨ 1152921504606846976 < n then (0, 111) else (n, 0)) := rfl
    rw [List.drop_eq_nil_of_le (by rw [← size_list]; omega)] at h7
    simp only [numL] at h7
    rw [hnum, ← h7]
    simp only [decide_eq_true_eq, decide_eq_false_iff_not, ← size_list]
    refine ⟨fun e => ?_, fun e1 e2 => ?_⟩
    · rw [if_pos (by omega)]; exact ⟨rfl, rfl⟩
    · rw [if_neg (by omega)]; exact ⟨rfl, rfl⟩
def tokC (k : Int) (t : List UInt8) (n a : Int) : List PV := [int k, str (strOf t), int n, int a]
theorem token_ok (hl : Free L [139, 137, 138, 135, 140, 141, 183, 226, 65]) (hF : L 116 = some fieldsH) (s : ByteArray) (h0 : 0 < s.size) (hs : s.size < 4611686018427387904) :
    callE (EV Tryz.prog L) 65 [str s] σ = some (.tup [.agg (tokC (tokF s.data.toList).1 (tokF s.data.toList).2.1 (tokF s.data.toList).2.2.1 0), int (tokF s.data.toList).2.2.2], σ) := by
  refine call_fn (hl _ (by simp)) Tryz.func65 Tryz.ntmps65 Tryz.results65 (by simp) rfl rfl (ids := []) ⟨_, rfl, by kernel_rfl, ?_⟩
  have hx := strIdx_get h0
  simp only [Int.natCast_zero] at hx
  have hb := s[0].toNat_lt
  have w1 : IntKind.wrap .i32 (s[0].toNat : Int) = (s[0].toNat : Int) := wrap32_of (by omega)
  have hi := wh_le_size (byB innB) s
  have hg := wh_le_size (byB digB) s
  have s1 := slS_hi (k := .i64) hi
  have s2 := slS_hi (k := .i64) hg
  rw [tokF_cons h0]
  have hnum := fun σ => number_ok (L := L) (σ := σ) (hl _ (by simp)) (strOf (s.data.toList.take (wh (byB digB) s.data.toList))) (by rw [strOf_list]; exact whole_wh _ _)
  simp only [strOf_list] at hnum
  simp (contextual := true) (implicitDefEqProofs := false) [-decide_eq_true_eq, -decide_eq_false_iff_not, -Bool.not_and, -Bool.not_or, -Bool.and_eq_false_imp, hx, w1, letter_ok (hl _ (by simp)), digit_ok (hl _ (by simp)), while_inn (hl.sub (by simp)), while_dig (hl.sub (by simp)), s1, s2, extract_take', sign_ok (hl.sub (by simp)) hF, hnum]
  refine ⟨fun _ => ⟨fun e => ?_, fun e => ?_⟩, fun _ => ⟨fun _ => rfl, fun _ => ⟨fun e => ?_, fun e => ?_⟩⟩⟩
  · have := of_decide_eq_true e; rw [if_pos (by omega)]; exact ⟨rfl, rfl⟩
  · have := of_decide_eq_false e; rw [if_neg (by omega)]; exact ⟨rfl, rfl⟩
  · have h : signF s.data.toList = [] := by simpa [strOf] using of_decide_eq_true e
    rw [if_pos h]; exact ⟨rfl, rfl⟩
  · have h : signF s.data.toList ≠ [] := by simpa [strOf] using of_decide_eq_false e
    rw [if_neg h]; exact ⟨rfl, rfl⟩
end Go.Proofs.YtfgoedndpcblpaaGreatDoor.Pv
end
section
namespace Go.Proofs.YtfgoedndpcblpaaGreatDoor.Pv
open Go Go.Proofs Go.Proofs.YtfgoedndpcblpaaGreatDoor.Lx
set_option linter.unusedSimpArgs false
set_option linter.unusedVariables false
variable {L : Lib} {σ : Sto}
def tokR (t : Tk) : List FV := [.im (.int .i64 t.1), .im (.string (strOf t.2.1)), .im (.int .i64 t.2.2.1), .im (.int .i64 t.2.2.2)]
def lexOut (n : Nat) : LexR → PV
  | .ok l => .tup [.sl (l.map tokR) .unk, int n, int 0]
  | .no a e => .tup [.sl [] .unk, int a, int e]
def LexR.pre (p : List Tk) : LexR → LexR
  | .ok l => .ok (p ++ l)
  | .no a e => .no a e
theorem LexR.pre_cons (p : List Tk) (t : Tk) (r : LexR) : LexR.pre p (r.cons t) = LexR.pre (p ++ [t]) r := by
  cases r <;> simp [LexR.pre, LexR.cons]
theorem lexS_step (s : ByteArray) (a f : Nat) (h : a < s.size) : lexS (f + 1) a (s.data.toList.drop a) = if (tokF (s.data.toList.drop a)).2.2.2 = 0 then
    (lexS f (a + (tokF (s.data.toList.drop a)).2.1.length + skip false (s.data.toList.drop (a + (tokF (s.data.toList.drop a)).2.1.length))) (s.data.toList.drop (a + (tokF (s.data.toList.drop a)).2.1.length + skip false (s.data.toList.drop (a + (tokF (s.data.toList.drop a)).2.1.length))))).cons ((tokF (s.data.toList.drop a)).1, (tokF (s.data.toList.drop a)).2.1, (tokF (s.data.toList.drop a)).2.2.1, a)
    else .no a (tokF (s.data.toList.drop a)).2.2.2 := by
  rw [drop_cons s a h]
  simp only [lexS]
  rw [← drop_cons s a h, List.drop_drop, List.drop_drop]
theorem Lex_ok (hl : Free L [139, 137, 138, 136, 135, 64, 140, 141, 183, 226, 65, 22]) (hF : L 116 = some fieldsH) (s : ByteArray) (hs : s.size ≤ 4096) :
    callE (EV Tryz.prog L) 22 [str s] σ = some (lexOut s.size (lexA s.data.toList), σ) := by
  refine call_fn (hl _ (by simp)) Tryz.func22 Tryz.ntmps22 Tryz.results22 (by simp) rfl rfl (ids := []) ⟨_, rfl, by kernel_rfl, ?_⟩
  have hs' : decide ((4096 : Int) < (s.size : Int)) = false := by simp; omega
  have hno := fun σ (b : ByteArray) hb => nothing_ok (L := L) (σ := σ) (hl.sub (by simp)) b hb
  simp (contextual := true) (implicitDefEqProofs := false) [-decide_eq_true_eq, -decide_eq_false_iff_not, -Bool.not_and, -Bool.not_or, -Bool.and_eq_false_imp, -Int.natCast_add, hs', fun σ => hno σ s (by omega)]
  have h0 := skip_le false s.data.toList
  rw [← size_list] at h0
  refine WP.loop (fun m s' => ∃ (a f : Nat) (pre : List Tk) (tag : Tag) (bx : List Bx) (gr : List (Nat × Nat)), m = s.size - a ∧ a ≤ s.size ∧ pre.length ≤ a ∧ s.size ≤ a + f ∧ s'.sto = ⟨bx, gr⟩ ∧ s'.env 0 = str s ∧ s'.env 5 = .sl (pre.map tokR) tag ∧ s'.env 6 = int a ∧ Own 4 gr (pre.map tokR) tag ∧ lexA s.data.toList = LexR.pre pre (lexS f a (s.data.toList.drop a))) (s.size - skip false s.data.toList) ?_ ?_
  · exact ⟨skip false s.data.toList, s.data.toList.length, [], .full, [], [], rfl, h0, by simp, by rw [← size_list]; omega, rfl, by simp, by simp, by simp, .nil, by simp only [lexA, LexR.pre]; cases lexS _ _ _ <;> rfl⟩
  rintro m ⟨env, τ⟩ ⟨a, f, pre, tag, bx, gr, rfl, ha, hp, hf, h1, h2, h3, h4, h5, h6⟩
  simp only at h1 h2 h3 h4
  subst h1
  have hsz : (strOf (s.data.toList.drop a)).size = s.size - a := by rw [strOf_size, List.length_drop, ← size_list]
  by_cases hlt : a < s.size
  · obtain ⟨f, rfl⟩ : ∃ g, f = g + 1 := ⟨f - 1, by omega⟩
    rw [lexS_step s a f hlt] at h6
    have htok := fun σ => token_ok (L := L) (σ := σ) (hl.sub (by simp)) hF (strOf (s.data.toList.drop a)) (by omega) (by omega)
    simp only [strOf_list] at htok
    have hsl := slS_lo (b := s) (k := .i64) ha
    have hle := tokF_len (s.data.toList.drop a)
    rw [List.length_drop, ← size_list] at hle
    have hd := drop_cons s a hlt
    have hpos : (tokF (s.data.toList.drop a)).2.2.2 = 0 → 1 ≤ (tokF (s.data.toList.drop a)).2.1.length := fun e => by rw [hd] at e ⊢; exact tokF_pos _ _ e
    generalize tokF (s.data.toList.drop a) = t at *
    obtain ⟨tag', gr', happ, hown⟩ := app_own (b := 40) (xs := [tokR (t.1, t.2.1, t.2.2.1, a)]) h5 (sized_map fun _ => rfl) rfl (by simp; omega) (by simp)
    simp only [tokR] at happ
    have hw1 : IntKind.wrap .i64 ((a : Int) + (t.2.1.length : Int)) = ((a + t.2.1.length : Nat) : Int) := wrap_add (by omega)
    have hsl2 := slS_lo (b := s) (k := .i64) (i := a + t.2.1.length) (by omega)
    have hn2 := fun σ => hno σ (strOf (s.data.toList.drop (a + t.2.1.length))) (by rw [strOf_size, List.length_drop, ← size_list]; omega)
    simp only [strOf_list] at hn2
    have hlt' : decide (a < s.size) = true := by simp [hlt]
    simp (contextual := true) (implicitDefEqProofs := false) [-decide_eq_true_eq, -decide_eq_false_iff_not, -Bool.not_and, -Bool.not_or, -Bool.and_eq_false_imp, -Int.natCast_add, h2, h3, h4, hlt, hsl, extract_drop, htok, tokC, happ, strOf_size, hw1, hsl2, hn2]
    refine ⟨fun e => ?_, fun e => ?_⟩
    · have e' := of_decide_eq_false e
      rw [if_neg e'] at h6
      rw [h6]; rfl
    · have e' := of_decide_eq_true e
      rw [if_pos e', LexR.pre_cons] at h6
      have hp1 := hpos e'
      have hsk := skip_le false (s.data.toList.drop (a + t.2.1.length))
      rw [List.length_drop, ← size_list] at hsk
      refine ⟨_, ?_, a + t.2.1.length + skip false (s.data.toList.drop (a + t.2.1.length)), rfl, by omega, f, pre ++ [(t.1, t.2.1, t.2.2.1, a)], by simp; omega, by omega, tag', _, gr', ⟨rfl, rfl⟩, ⟨by simp [tokR], rfl⟩, wrap_add (by omega), ?_, h6⟩
      · omega
      · simpa using hown
  · have hlt' : decide (a < s.size) = false := by simp [hlt]
    simp (contextual := true) (implicitDefEqProofs := false) [-decide_eq_true_eq, -decide_eq_false_iff_not, -Bool.not_and, -Bool.not_or, -Bool.and_eq_false_imp, -Int.natCast_add, h2, h3, h4, hlt]
    rw [List.drop_eq_nil_of_le (by rw [← size_list]; omega)] at h6
    have : ∀ f a, lexS f a [] = .ok [] := fun f a => by cases f <;> rfl
    rw [this] at h6
    simp only [LexR.pre, List.append_nil] at h6
    rw [h6]; rfl
theorem Lex_long (hl : Free L [22]) (s : ByteArray) (hs : 4096 < s.size) (hs2 : s.size < 9223372036854775808) : callE (EV Tryz.prog L) 22 [str s] σ = some (.tup [.sl [] .unk, int 0, int 111], σ) := by
  refine call_fn (hl _ (by simp)) Tryz.func22 Tryz.ntmps22 Tryz.results22 (by simp) rfl rfl (ids := []) ⟨_, rfl, by kernel_rfl, ?_⟩
  have hs' : decide ((4096 : Int) < (s.size : Int)) = true := by simp; omega
  simp (contextual := true) (implicitDefEqProofs := false) [-decide_eq_true_eq, -decide_eq_false_iff_not, -Bool.not_and, -Bool.not_or, -Bool.and_eq_false_imp, -Int.natCast_add, hs']
end Go.Proofs.YtfgoedndpcblpaaGreatDoor.Pv
end
section
namespace Go.Proofs
open Go.Shelf
def Tryz.lays156_ren : Go.Shelf.Ren := ⟨fun | 156 => 96 | 165 => 164 | 166 => 162 | 169 => 99 | 240 => 201 | 241 => 204 | 276 => 235 | 277 => 238 | n => n, fun | 31 => 74 | 9 => 9 | 3 => 3 | 4 => 4 | 0 => 0 | 20 => 20 | 72 => 143 | 76 => 215 | 70 => 140 | 37 => 141 | 75 => 214 | 127 => 220 | 164 => 297 | 5 => 5 | 80 => 149 | n => n, fun | n => n⟩
theorem Tryz.lays156 : Go.Proofs.Lays.n156 Tryz.prog Tryz.lays156_ren := {
  mixed := by kernel_rfl
  f156 := Tryz.func96.trans (congrArg some (by kernel_rfl))
  f165 := Tryz.func164.trans (congrArg some (by kernel_rfl))
  f166 := Tryz.func162.trans (congrArg some (by kernel_rfl))
  f169 := Tryz.func99.trans (congrArg some (by kernel_rfl))
  f240 := Tryz.func201.trans (congrArg some (by kernel_rfl))
  f241 := Tryz.func204.trans (congrArg some (by kernel_rfl))
  f276 := Tryz.func235.trans (congrArg some (by kernel_rfl))
  f277 := Tryz.func238.trans (congrArg some (by kernel_rfl))
  t0 := Tryz.underlying0
  a0 := Tryz.isAgg0
  z0 := Tryz.sizeOf0
  v0 := Tryz.zeroValue0
  t3 := Tryz.underlying3
  a3 := Tryz.isAgg3
  z3 := Tryz.sizeOf3
  v3 := Tryz.zeroValue3
  t4 := Tryz.underlying4
  a4 := Tryz.isAgg4
  z4 := Tryz.sizeOf4
  v4 := Tryz.zeroValue4
  t9 := Tryz.underlying9
  a9 := Tryz.isAgg9
  z9 := Tryz.sizeOf9
  v9 := Tryz.zeroValue9
  t20 := Tryz.underlying20
  a20 := Tryz.isAgg20
  z20 := Tryz.sizeOf20
  v20 := Tryz.zeroValue20
  t31 := Tryz.underlying74
  a31 := Tryz.isAgg74
  z31 := Tryz.sizeOf74
  v31 := Tryz.zeroValue74
  t37 := Tryz.underlying141
  a37 := Tryz.isAgg141
  z37 := Tryz.sizeOf141
  v37 := Tryz.zeroValue141
  t70 := Tryz.underlying140
  a70 := Tryz.isAgg140
  z70 := Tryz.sizeOf140
  v70 := Tryz.zeroValue140
  t72 := Tryz.underlying143
  a72 := Tryz.isAgg143
  z72 := Tryz.sizeOf143
  v72 := Tryz.zeroValue143
  t75 := Tryz.underlying214
  a75 := Tryz.isAgg214
  z75 := Tryz.sizeOf214
  v75 := Tryz.zeroValue214
  t76 := Tryz.underlying215
  a76 := Tryz.isAgg215
  z76 := Tryz.sizeOf215
  v76 := Tryz.zeroValue215
  t127 := Tryz.underlying220
  a127 := Tryz.isAgg220
  z127 := Tryz.sizeOf220
  v127 := Tryz.zeroValue220
  t164 := Tryz.underlying297
  a164 := Tryz.isAgg297
  z164 := Tryz.sizeOf297
  v164 := Tryz.zeroValue297 }
theorem Tryz.Builder_Extra_156 : Builder.Extra Tryz.prog Tryz.lays156_ren := {
  sizeBuilder := by kernel_rfl
  liesBuilder := by kernel_rfl
  t5 := Tryz.underlying5
  a5 := Tryz.isAgg5
  z5 := Tryz.sizeOf5
  v5 := Tryz.zeroValue5
  infoByte := by kernel_rfl
  cellsByte := by kernel_rfl
  sizeByte := by kernel_rfl
  neB5 := by decide }
open Go.RowKit in
theorem Tryz.strings_Join_none (a : Option Addr) (c : Nat) (sep : ByteArray) (w : World) :
    Calls Tryz.prog 96 #[.slice a 0 c, .string sep] w fun e w' => e = .returned (.string ⟨#[]⟩) ∧ w' = w := Any.strings_Join_none Tryz.lays156 Tryz.Builder_Extra_156 a c sep w
open Go.RowKit in
theorem Tryz.strings_Join (bk o c : Nat) (xs : List ByteArray) (sep : ByteArray) (w : World) (hcells : ∀ (j : Nat) x, xs[j]? = some x → w.cell? ⟨bk, o + j, none⟩ = some (.string x)) (hbk : bk < w.heap.size) (hN : xs.length ≤ 140737488355328) (hcap : xs.length ≤ c) (hlen : (Lib.join (xs.map (·.data.toList)) sep.data.toList).length ≤ 140737488355328) :
    Calls Tryz.prog 96 #[.slice (some ⟨bk, o, none⟩) xs.length c, .string sep] w fun e w' => e = .returned (.string ⟨(Lib.join (xs.map (·.data.toList)) sep.data.toList).toArray⟩) ∧ Below w.heap.size w w' := Any.strings_Join Tryz.lays156 Tryz.Builder_Extra_156 bk o c xs sep w hcells hbk hN hcap hlen
def Tryz.laysM246_ren : Go.Shelf.Ren := ⟨fun | 246 => 205 | 283 => 239 | 284 => 240 | 285 => 241 | 286 => 242 | 129 => 154 | 317 => 252 | 318 => 253 | 319 => 254 | 320 => 255 | 337 => 257 | 338 => 258 | n => n, fun | 2 => 2 | 3 => 3 | 9 => 9 | 4 => 4 | 171 => 304 | 0 => 0 | 53 => 206 | 37 => 141 | 5 => 5 | 173 => 306 | 212 => 323 | 51 => 204 | 20 => 20 | 213 => 324 | 46 => 136 | 232 => 328 | 233 => 329 | n => n, fun | 17 => 3 | 18 => 4 | 19 => 5 | n => n⟩
theorem Tryz.laysM246 : Go.Proofs.LaysM.n246 Tryz.prog Tryz.laysM246_ren := {
  mixed := by kernel_rfl
  f129 := Tryz.func154.trans (congrArg some (by kernel_rfl))
  f246 := Tryz.func205.trans (congrArg some (by kernel_rfl))
  f283 := Tryz.func239.trans (congrArg some (by kernel_rfl))
  f284 := Tryz.func240.trans (congrArg some (by kernel_rfl))
  f285 := Tryz.func241.trans (congrArg some (by kernel_rfl))
  f286 := Tryz.func242.trans (congrArg some (by kernel_rfl))
  f317 := Tryz.func252.trans (congrArg some (by kernel_rfl))
  f318 := Tryz.func253.trans (congrArg some (by kernel_rfl))
  f319 := Tryz.func254.trans (congrArg some (by kernel_rfl))
  f320 := Tryz.func255.trans (congrArg some (by kernel_rfl))
  f337 := Tryz.func257.trans (congrArg some (by kernel_rfl))
  f338 := Tryz.func258.trans (congrArg some (by kernel_rfl))
  t0 := Tryz.underlying0
  a0 := Tryz.isAgg0
  z0 := Tryz.sizeOf0
  v0 := Tryz.zeroValue0
  t2 := Tryz.underlying2
  a2 := Tryz.isAgg2
  z2 := Tryz.sizeOf2
  v2 := Tryz.zeroValue2
  t3 := Tryz.underlying3
  a3 := Tryz.isAgg3
  z3 := Tryz.sizeOf3
  v3 := Tryz.zeroValue3
  t4 := Tryz.underlying4
  a4 := Tryz.isAgg4
  z4 := Tryz.sizeOf4
  v4 := Tryz.zeroValue4
  t5 := Tryz.underlying5
  a5 := Tryz.isAgg5
  z5 := Tryz.sizeOf5
  v5 := Tryz.zeroValue5
  t9 := Tryz.underlying9
  a9 := Tryz.isAgg9
  z9 := Tryz.sizeOf9
  v9 := Tryz.zeroValue9
  t20 := Tryz.underlying20
  a20 := Tryz.isAgg20
  z20 := Tryz.sizeOf20
  v20 := Tryz.zeroValue20
  t37 := Tryz.underlying141
  a37 := Tryz.isAgg141
  z37 := Tryz.sizeOf141
  v37 := Tryz.zeroValue141
  t46 := Tryz.underlying136
  a46 := Tryz.isAgg136
  z46 := Tryz.sizeOf136
  v46 := Tryz.zeroValue136
  t51 := Tryz.underlying204
  a51 := Tryz.isAgg204
  z51 := Tryz.sizeOf204
  v51 := Tryz.zeroValue204
  t53 := Tryz.underlying206
  a53 := Tryz.isAgg206
  z53 := Tryz.sizeOf206
  v53 := Tryz.zeroValue206
  t171 := Tryz.underlying304
  a171 := Tryz.isAgg304
  z171 := Tryz.sizeOf304
  v171 := Tryz.zeroValue304
  t173 := Tryz.underlying306
  a173 := Tryz.isAgg306
  z173 := Tryz.sizeOf306
  v173 := Tryz.zeroValue306
  t212 := Tryz.underlying323
  a212 := Tryz.isAgg323
  z212 := Tryz.sizeOf323
  v212 := Tryz.zeroValue323
  t213 := Tryz.underlying324
  a213 := Tryz.isAgg324
  z213 := Tryz.sizeOf324
  t232 := Tryz.underlying328
  a232 := Tryz.isAgg328
  z232 := Tryz.sizeOf328
  v232 := Tryz.zeroValue328
  t233 := Tryz.underlying329
  a233 := Tryz.isAgg329
  z233 := Tryz.sizeOf329
  v233 := Tryz.zeroValue329
  g17 := by kernel_rfl
  g18 := by kernel_rfl
  g19 := by kernel_rfl
  i0 := by kernel_rfl
  i2 := by kernel_rfl
  i3 := by kernel_rfl
  i4 := by kernel_rfl
  i5 := by kernel_rfl
  i9 := by kernel_rfl
  i20 := by kernel_rfl
  i37 := by kernel_rfl
  i46 := by kernel_rfl
  i51 := by kernel_rfl
  i53 := by kernel_rfl
  i171 := by kernel_rfl
  i173 := by kernel_rfl
  i212 := by kernel_rfl
  i232 := by kernel_rfl
  i233 := by kernel_rfl
  m17 := by kernel_rfl
  m18 := by kernel_rfl
  m19 := by kernel_rfl }
open Go.RowKit Go.Sort Go.Lib in
theorem Tryz.internal_strconv_FormatInt_10 (n : Int) (h0 : -9223372036854775808 ≤ n) (h1 : n ≤ 9223372036854775807) (w : World) (htab : Lib.TabIs Tryz.prog w "internal/strconv.uint64pow10" .u64 Lib.pow10Tab) :
    Calls Tryz.prog 205 #[.int .i64 n, .int .i64 10] w fun e w' => e = .returned (.string ⟨(Lib.itoa n).toArray⟩) ∧ ∃ k os, w' = grow (w.drewN k) os := Any.internal_strconv_FormatInt_10 Tryz.laysM246 n h0 h1 w htab
def Tryz.lays157_ren : Go.Shelf.Ren := ⟨fun | 157 => 116 | 229 => 173 | 199 => 174 | 261 => 210 | 311 => 243 | 312 => 244 | n => n, fun | 9 => 9 | 31 => 74 | 3 => 3 | 5 => 5 | 4 => 4 | 119 => 227 | 0 => 0 | 40 => 189 | 152 => 268 | 21 => 21 | 154 => 270 | 51 => 204 | 141 => 272 | 196 => 311 | 193 => 308 | 198 => 314 | 49 => 312 | 194 => 309 | 201 => 317 | 226 => 325 | 46 => 136 | 227 => 326 | n => n, fun | 0 => 0 | 6 => 1 | n => n⟩
theorem Tryz.lays157 : Go.Proofs.Lays.n157 Tryz.prog Tryz.lays157_ren := {
  mixed := by kernel_rfl
  f157 := Tryz.func116.trans (congrArg some (by kernel_rfl))
  f199 := Tryz.func174.trans (congrArg some (by kernel_rfl))
  f229 := Tryz.func173.trans (congrArg some (by kernel_rfl))
  f261 := Tryz.func210.trans (congrArg some (by kernel_rfl))
  f311 := Tryz.func243.trans (congrArg some (by kernel_rfl))
  f312 := Tryz.func244.trans (congrArg some (by kernel_rfl))
  t0 := Tryz.underlying0
  a0 := Tryz.isAgg0
  z0 := Tryz.sizeOf0
  v0 := Tryz.zeroValue0
  t3 := Tryz.underlying3
  a3 := Tryz.isAgg3
  z3 := Tryz.sizeOf3
  v3 := Tryz.zeroValue3
  t4 := Tryz.underlying4
  a4 := Tryz.isAgg4
  z4 := Tryz.sizeOf4
  v4 := Tryz.zeroValue4
  t5 := Tryz.underlying5
  a5 := Tryz.isAgg5
  z5 := Tryz.sizeOf5
  v5 := Tryz.zeroValue5
  t9 := Tryz.underlying9
  a9 := Tryz.isAgg9
  z9 := Tryz.sizeOf9
  v9 := Tryz.zeroValue9
  t21 := Tryz.underlying21
  a21 := Tryz.isAgg21
  z21 := Tryz.sizeOf21
  v21 := Tryz.zeroValue21
  t31 := Tryz.underlying74
  a31 := Tryz.isAgg74
  z31 := Tryz.sizeOf74
  v31 := Tryz.zeroValue74
  t40 := Tryz.underlying189
  a40 := Tryz.isAgg189
  z40 := Tryz.sizeOf189
  v40 := Tryz.zeroValue189
  t46 := Tryz.underlying136
  a46 := Tryz.isAgg136
  z46 := Tryz.sizeOf136
  v46 := Tryz.zeroValue136
  t49 := Tryz.underlying312
  a49 := Tryz.isAgg312
  z49 := Tryz.sizeOf312
  v49 := Tryz.zeroValue312
  t51 := Tryz.underlying204
  a51 := Tryz.isAgg204
  z51 := Tryz.sizeOf204
  v51 := Tryz.zeroValue204
  t119 := Tryz.underlying227
  a119 := Tryz.isAgg227
  z119 := Tryz.sizeOf227
  t141 := Tryz.underlying272
  a141 := Tryz.isAgg272
  z141 := Tryz.sizeOf272
  v141 := Tryz.zeroValue272
  t152 := Tryz.underlying268
  a152 := Tryz.isAgg268
  z152 := Tryz.sizeOf268
  v152 := Tryz.zeroValue268
  t154 := Tryz.underlying270
  a154 := Tryz.isAgg270
  z154 := Tryz.sizeOf270
  v154 := Tryz.zeroValue270
  t193 := Tryz.underlying308
  a193 := Tryz.isAgg308
  z193 := Tryz.sizeOf308
  v193 := Tryz.zeroValue308
  t194 := Tryz.underlying309
  a194 := Tryz.isAgg309
  z194 := Tryz.sizeOf309
  v194 := Tryz.zeroValue309
  t196 := Tryz.underlying311
  a196 := Tryz.isAgg311
  z196 := Tryz.sizeOf311
  v196 := Tryz.zeroValue311
  t198 := Tryz.underlying314
  a198 := Tryz.isAgg314
  z198 := Tryz.sizeOf314
  v198 := Tryz.zeroValue314
  t201 := Tryz.underlying317
  a201 := Tryz.isAgg317
  z201 := Tryz.sizeOf317
  v201 := Tryz.zeroValue317
  t226 := Tryz.underlying325
  a226 := Tryz.isAgg325
  z226 := Tryz.sizeOf325
  v226 := Tryz.zeroValue325
  t227 := Tryz.underlying326
  a227 := Tryz.isAgg326
  z227 := Tryz.sizeOf326
  v227 := Tryz.zeroValue326
  g0 := by kernel_rfl
  g6 := by kernel_rfl }
open Go.RowKit Go.Lib in
theorem Tryz.strings_Fields (s : ByteArray) (w : World) (hs : s.size < 4294967281) (hascii : ∀ (j : Nat) b, s.data.toList[j]? = some b → b.toNat < 128) (htab : Lib.TabIs Tryz.prog w "strings.asciiSpace" .u8 Lib.asciiSpaceTab) :
    Calls Tryz.prog 116 #[.string s] w fun e w' =>
      e = .returned (.slice (some ⟨w.heap.size, 0, none⟩) (Lib.fields s.data.toList).length (Lib.fields s.data.toList).length) ∧ w' = w.alloc (.cells ((Lib.fields s.data.toList).map fun l => Value.string ⟨l.toArray⟩).toArray 9) := Any.strings_Fields Tryz.lays157 (by kernel_rfl) (by kernel_rfl) s w hs hascii htab
def Tryz.lays105_ren : Go.Shelf.Ren := ⟨fun | 105 => 163 | 212 => 202 | 99 => 183 | 165 => 164 | 166 => 162 | 170 => 203 | 169 => 99 | 263 => 236 | 264 => 237 | 206 => 226 | 240 => 201 | 241 => 204 | 276 => 235 | 277 => 238 | n => n, fun | 9 => 9 | 3 => 3 | 4 => 4 | 20 => 20 | 0 => 0 | 46 => 136 | 109 => 264 | 5 => 5 | 72 => 143 | 76 => 215 | 51 => 204 | 146 => 299 | 53 => 206 | 148 => 301 | 70 => 140 | 37 => 141 | 75 => 214 | 127 => 220 | 164 => 297 | 80 => 149 | n => n, fun | n => n⟩
theorem Tryz.lays105 : Go.Proofs.Lays.n105 Tryz.prog Tryz.lays105_ren := {
  mixed := by kernel_rfl
  f99 := Tryz.func183.trans (congrArg some (by kernel_rfl))
  f105 := Tryz.func163.trans (congrArg some (by kernel_rfl))
  f165 := Tryz.func164.trans (congrArg some (by kernel_rfl))
  f166 := Tryz.func162.trans (congrArg some (by kernel_rfl))
  f169 := Tryz.func99.trans (congrArg some (by kernel_rfl))
  f170 := Tryz.func203.trans (congrArg some (by kernel_rfl))
  f206 := Tryz.func226.trans (congrArg some (by kernel_rfl))
  f212 := Tryz.func202.trans (congrArg some (by kernel_rfl))
  f240 := Tryz.func201.trans (congrArg some (by kernel_rfl))
  f241 := Tryz.func204.trans (congrArg some (by kernel_rfl))
  f263 := Tryz.func236.trans (congrArg some (by kernel_rfl))
  f264 := Tryz.func237.trans (congrArg some (by kernel_rfl))
  f276 := Tryz.func235.trans (congrArg some (by kernel_rfl))
  f277 := Tryz.func238.trans (congrArg some (by kernel_rfl))
  t0 := Tryz.underlying0
  a0 := Tryz.isAgg0
  z0 := Tryz.sizeOf0
  v0 := Tryz.zeroValue0
  t3 := Tryz.underlying3
  a3 := Tryz.isAgg3
  z3 := Tryz.sizeOf3
  v3 := Tryz.zeroValue3
  t4 := Tryz.underlying4
  a4 := Tryz.isAgg4
  z4 := Tryz.sizeOf4
  v4 := Tryz.zeroValue4
  t5 := Tryz.underlying5
  a5 := Tryz.isAgg5
  z5 := Tryz.sizeOf5
  v5 := Tryz.zeroValue5
  t9 := Tryz.underlying9
  a9 := Tryz.isAgg9
  z9 := Tryz.sizeOf9
  v9 := Tryz.zeroValue9
  t20 := Tryz.underlying20
  a20 := Tryz.isAgg20
  z20 := Tryz.sizeOf20
  v20 := Tryz.zeroValue20
  t37 := Tryz.underlying141
  a37 := Tryz.isAgg141
  z37 := Tryz.sizeOf141
  v37 := Tryz.zeroValue141
  t46 := Tryz.underlying136
  a46 := Tryz.isAgg136
  z46 := Tryz.sizeOf136
  v46 := Tryz.zeroValue136
  t51 := Tryz.underlying204
  a51 := Tryz.isAgg204
  z51 := Tryz.sizeOf204
  v51 := Tryz.zeroValue204
  t53 := Tryz.underlying206
  a53 := Tryz.isAgg206
  z53 := Tryz.sizeOf206
  v53 := Tryz.zeroValue206
  t70 := Tryz.underlying140
  a70 := Tryz.isAgg140
  z70 := Tryz.sizeOf140
  v70 := Tryz.zeroValue140
  t72 := Tryz.underlying143
  a72 := Tryz.isAgg143
  z72 := Tryz.sizeOf143
  v72 := Tryz.zeroValue143
  t75 := Tryz.underlying214
  a75 := Tryz.isAgg214
  z75 := Tryz.sizeOf214
  v75 := Tryz.zeroValue214
  t76 := Tryz.underlying215
  a76 := Tryz.isAgg215
  z76 := Tryz.sizeOf215
  v76 := Tryz.zeroValue215
  t109 := Tryz.underlying264
  a109 := Tryz.isAgg264
  z109 := Tryz.sizeOf264
  v109 := Tryz.zeroValue264
  t127 := Tryz.underlying220
  a127 := Tryz.isAgg220
  z127 := Tryz.sizeOf220
  v127 := Tryz.zeroValue220
  t146 := Tryz.underlying299
  a146 := Tryz.isAgg299
  z146 := Tryz.sizeOf299
  v146 := Tryz.zeroValue299
  t148 := Tryz.underlying301
  a148 := Tryz.isAgg301
  z148 := Tryz.sizeOf301
  v148 := Tryz.zeroValue301
  t164 := Tryz.underlying297
  a164 := Tryz.isAgg297
  z164 := Tryz.sizeOf297
  v164 := Tryz.zeroValue297 }
theorem Tryz.Builder_Extra_105 : Builder.Extra Tryz.prog Tryz.lays105_ren := {
  sizeBuilder := by kernel_rfl
  liesBuilder := by kernel_rfl
  t5 := Tryz.underlying5
  a5 := Tryz.isAgg5
  z5 := Tryz.sizeOf5
  v5 := Tryz.zeroValue5
  infoByte := by kernel_rfl
  cellsByte := by kernel_rfl
  sizeByte := by kernel_rfl
  neB5 := by decide }
open Go.RowKit Go.Lib in
theorem Tryz.strings_Repeat (s : ByteArray) (c : Nat) (w : World) (hc : c ≤ 9223372036854775807) (hlen : s.size * c ≤ 140737488355328) :
    Calls Tryz.prog 163 #[.string s, .int .i64 c] w fun e w' => e = .returned (.string ⟨(Lib.repeatL s.data.toList c).toArray⟩) ∧ Below w.heap.size w w' := Any.strings_Repeat Tryz.lays105 Tryz.Builder_Extra_105 s c w hc hlen
end Go.Proofs
end
section
namespace Go.Proofs.YtfgoedndpcblpaaGreatDoor.Pv
open Go Go.Proofs Go.RowKit
set_option linter.unusedSimpArgs false
set_option linter.unusedVariables false
theorem Inv.below {G : Gh} {σ : Sto} {w w' : World} (h : Inv G σ w) (hb : Below w.heap.size w w') : Inv G σ w' ∧ Later G w G w' := by
  have hk : ∀ b, b < w.heap.size → w'.heap[b]? = w.heap[b]? := hb.block
  refine ⟨⟨?_, h.bxl, ?_, h.bxf, h.bxn, h.grl, ?_, h.grn, h.grb⟩, ⟨.refl G, hb.size, fun b hlt _ => hk b hlt, fun _ e => .inl e, fun _ _ _ e => .inl e, hb.os, hb.tape, hb.output⟩⟩
  · intro b o v e
    have := h.fz b o v e
    have hlt := h.fz_lt e
    unfold World.cell? at this ⊢
    rw [show (⟨b, o, none⟩ : Addr).block = b from rfl] at this ⊢
    rw [hk b hlt]; exact this
  · intro i blk x e1 e2
    obtain ⟨o, h2, h3⟩ := h.bxc i blk x e1 e2
    exact ⟨o, (hk blk (h.bx_lt e1)).trans h2, h3⟩
  · intro g r e
    obtain ⟨cs, fr, h2, h3⟩ := h.grc g r e
    exact ⟨cs, fr, (hk _ (h.gr_lt e)).trans h2, h3⟩
theorem funOk_str {T : Base} {f : FuncId} {h : List PV → Sto → Option (PV × Sto)} (hh : ∀ args σ r σ', h args σ = some (r, σ') → σ' = σ ∧ ∃ b, r = .im (.string b) ∧ ∀ (G : Gh) (w : World) (vals : Array Value), Tab T G w → Inv G σ w → args.length = vals.size → (∀ i (h : i < args.length), Rep G args[i] (vals.getD i undef)) → Calls Tryz.prog f vals w fun e w' => e = .returned (.string b) ∧ Below w.heap.size w w') : FunOk Tryz.prog T f h := by
  intro args σ r σ' he G w vals hT hI hl ha
  obtain ⟨rfl, b, rfl, hc⟩ := hh args σ r σ' he
  refine (hc G w vals hT hI hl ha).mono ?_
  rintro e w' ⟨rfl, hb⟩
  obtain ⟨h1, h2⟩ := hI.below hb
  exact ⟨_, G, rfl, h1, .im _, h2⟩
theorem vals1 {a : PV} {vals : Array Value} {G : Gh} (hl : [a].length = vals.size) (ha : ∀ i (h : i < [a].length), Rep G [a][i] (vals.getD i undef)) : ∃ v, vals = #[v] ∧ Rep G a v := by
  obtain ⟨l⟩ := vals
  rcases l with _ | ⟨v, _ | ⟨u, l⟩⟩
  · cases hl
  · exact ⟨v, rfl, ha 0 (by simp)⟩
  · simp at hl
theorem vals2 {a b : PV} {vals : Array Value} {G : Gh} (hl : [a, b].length = vals.size) (ha : ∀ i (h : i < [a, b].length), Rep G [a, b][i] (vals.getD i undef)) : ∃ v u, vals = #[v, u] ∧ Rep G a v ∧ Rep G b u := by
  obtain ⟨l⟩ := vals
  rcases l with _ | ⟨v, _ | ⟨u, _ | ⟨x, l⟩⟩⟩
  · cases hl
  · simp at hl
  · exact ⟨v, u, rfl, ha 0 (by simp), ha 1 (by simp)⟩
  · simp at hl
theorem rep_im {G : Gh} {v u : Value} (h : Rep G (.im v) u) : u = v := by cases h; rfl
def asciiB : Nat → Obj → Prop := fun b o => Tryz.prog.globalNamed "strings.asciiSpace" = some b ∧ ∃ t fr, o = .cells (Lib.asciiSpaceTab.map fun z => Value.int .u8 z).toArray t fr
theorem strs_rep {G : Gh} {w : World} (l : List (List UInt8)) (t : TypeId) : Rep (G.freeze w.heap.size (l.map fun x => Value.string ⟨x.toArray⟩).toArray) (strsB l) (.slice (some ⟨w.heap.size, 0, none⟩) l.length l.length) := by
  have e : l.length = (l.map fun x => ([.im (.string (Lx.strOf x))] : List FV)).length := by simp
  have := Rep.sl (G := G.freeze w.heap.size (l.map fun x => Value.string ⟨x.toArray⟩).toArray) (rows := l.map fun x => [.im (.string (Lx.strOf x))]) (tag := .unk) (a := some ⟨w.heap.size, 0, none⟩) (cap := l.length) (RepF.sl 1 (fun i _ => (l[i]?.map fun x => Value.string ⟨x.toArray⟩).getD undef) (by simp) (by simp) (fun i hi j hj => ⟨w.heap.size, 0, rfl, by
      have hj0 : j = 0 := by omega
      subst hj0
      have hi' : i < l.length := by simpa using hi
      show (if w.heap.size = w.heap.size then _ else _) = _
      rw [if_pos rfl, Nat.zero_add, Nat.mul_one, Nat.add_zero, List.getElem?_toArray, List.getElem?_map, List.getElem?_eq_getElem hi']
      rfl⟩) (fun i hi j hj => by
      have hi' : i < l.length := by simpa using hi
      simp only [List.getElem_map, List.length_singleton] at hj ⊢
      have hj0 : j = 0 := by omega
      subst hj0
      rw [List.getElem?_eq_getElem hi']
      exact .im _ rfl)) trivial
  rw [← e] at this
  exact this
theorem fields_fun {T : Base} {b : Nat} {o : Obj} (hb : asciiB b o) (hT0 : T b = some o) : FunOk Tryz.prog T 116 fieldsH := by
  intro args σ r σ' he G w vals hT hI hl ha
  unfold fieldsH at he
  split at he
  · rename_i σ0 s
    split at he
    · rename_i hs
      cases he
      obtain ⟨v, rfl, hv⟩ := vals1 hl ha
      obtain rfl := rep_im hv
      obtain ⟨h1, t, fr, rfl⟩ := hb
      have htab : Lib.TabIs Tryz.prog w "strings.asciiSpace" .u8 Lib.asciiSpaceTab := by
        unfold Lib.TabIs World.var?
        rw [h1]
        simp only [Option.bind_some]
        rw [(hT b _ hT0).1]
      refine (Tryz.strings_Fields s w hs.1 (fun j x hj => of_decide_eq_true (List.all_eq_true.1 hs.2 x (List.mem_of_getElem? hj))) htab).mono ?_
      rintro e w' ⟨rfl, rfl⟩
      obtain ⟨h2, h3⟩ := hI.newRow ((Lib.fields s.data.toList).map fun l => Value.string ⟨l.toArray⟩).toArray 9
      exact ⟨_, _, rfl, h2, strs_rep _ 9, h3⟩
    · cases he
  · cases he
def rowStr : List FV → Option ByteArray
  | [.im (.string b)] => some b
  | _ => none
def rowsStr : List (List FV) → Option (List ByteArray)
  | [] => some []
  | x :: xs => match rowStr x, rowsStr xs with
    | some b, some bs => some (b :: bs)
    | _, _ => none
def joinF (l : List ByteArray) (s : ByteArray) : List UInt8 := Lib.join (l.map (·.data.toList)) s.data.toList
def joinH : List PV → Sto → Option (PV × Sto)
  | [.sl rows _, .im (.string s)], σ => match rowsStr rows with
    | some l => if (joinF l s).length ≤ 140737488355328 ∧ l.length ≤ 140737488355328 then some (.im (.string (Lx.strOf (joinF l s))), σ) else none
    | none => none
  | _, _ => none
theorem rowsStr_spec : ∀ {rows : List (List FV)} {l : List ByteArray}, rowsStr rows = some l → rows = l.map fun b => [.im (.string b)]
  | [], l, h => by cases h; rfl
  | x :: xs, l, h => by
    simp only [rowsStr] at h
    split at h
    · rename_i b bs h1 h2
      cases h
      rw [rowsStr_spec h2]
      unfold rowStr at h1
      split at h1
      · cases h1; rfl
      · cases h1
    · cases h
theorem join_fun {T : Base} : FunOk Tryz.prog T 96 joinH := by
  refine funOk_str fun args σ r σ' he => ?_
  unfold joinH at he
  split at he
  · rename_i σ0 rows tag s
    split at he
    · rename_i l hr
      split at he
      · rename_i hlen
        cases he
        refine ⟨rfl, _, rfl, fun G w vals hT hI hl ha => ?_⟩
        obtain ⟨v, u, rfl, hv, hu⟩ := vals2 hl ha
        obtain rfl := rep_im hu
        have hrows := rowsStr_spec hr
        subst hrows
        cases hv with
        | sl hF ht =>
          rename_i a cap
          cases l with
          | nil => exact (Tryz.strings_Join_none a cap s w).mono fun e w' ⟨h1, h2⟩ => ⟨h1, h2 ▸ Below.refl _ _⟩
          | cons x xs =>
            have hsz : sized 1 ((x :: xs).map fun b => ([.im (.string b)] : List FV)) = true := by simp [sized]
            obtain ⟨_, hcap, f, hFl⟩ := hF.flat hsz (by decide)
            have hlen1 : ((x :: xs).map fun b => ([.im (.string b)] : List FV)).length = (x :: xs).length := by simp
            obtain ⟨b, o, rfl, _⟩ := hFl.at_ 0 (by simp)
            rw [hlen1] at hcap ⊢
            refine Tryz.strings_Join b o cap (x :: xs) s w (fun j y hj => ?_) ?_ hlen.2 hcap hlen.1
            · have hjl : j < (x :: xs).length := (List.getElem?_eq_some_iff.1 hj).1
              obtain ⟨b', o', e', k'⟩ := hFl.at_ j (by rw [hlen1]; omega)
              cases e'
              have hjm : j < ((x :: xs).map fun b => ([.im (.string b)] : List FV)).length := by rw [hlen1]; exact hjl
              have hrow : ((x :: xs).map fun b => ([.im (.string b)] : List FV))[j]'hjm = [.im (.string y)] := by
                rw [List.getElem_map, (List.getElem?_eq_some_iff.1 hj).2]
              have h0 : 0 < (((x :: xs).map fun b => ([.im (.string b)] : List FV))[j]'hjm).length := by rw [hrow]; exact Nat.one_pos
              have hrp := hFl.rep j hjm 0 h0
              rw [Nat.mul_one, Nat.add_zero, List.getElem_of_eq hrow] at hrp
              have hrp : RepF G.fz (.im (.string y)) (f j) := hrp
              have hf : f j = .string y := by
                generalize hq : f j = q at hrp
                cases hrp; rfl
              rw [← hf]
              exact hI.fz _ _ _ k'
            · obtain ⟨b', o', e', k'⟩ := hFl.at_ 0 (by simp)
              cases e'
              exact hI.fz_lt k'
      · cases he
    · cases he
  · cases he
def repeatH : List PV → Sto → Option (PV × Sto)
  | [.im (.string s), .im (.int .i64 n)], σ => if 0 ≤ n ∧ n ≤ 9223372036854775807 ∧ s.size * n.toNat ≤ 140737488355328 then some (.im (.string (Lx.strOf (Lib.repeatL s.data.toList n.toNat))), σ) else none
  | _, _ => none
theorem repeat_fun {T : Base} : FunOk Tryz.prog T 163 repeatH := by
  refine funOk_str fun args σ r σ' he => ?_
  unfold repeatH at he
  split at he
  · rename_i σ0 s n
    split at he
    · rename_i hc
      cases he
      refine ⟨rfl, _, rfl, fun G w vals hT hI hl ha => ?_⟩
      obtain ⟨v, u, rfl, hv, hu⟩ := vals2 hl ha
      obtain rfl := rep_im hu
      obtain rfl := rep_im hv
      have := Tryz.strings_Repeat s n.toNat w (by omega) hc.2.2
      rw [show ((n.toNat : Nat) : Int) = n by omega] at this
      exact this
    · cases he
  · cases he
def powB : Nat → Obj → Prop := fun b o => Tryz.prog.globalNamed "internal/strconv.uint64pow10" = some b ∧ ∃ t fr, o = .cells (Lib.pow10Tab.map fun z => Value.int .u64 z).toArray t fr
def formatH : List PV → Sto → Option (PV × Sto)
  | [.im (.int .i64 n), .im (.int .i64 b)], σ => if b = 10 ∧ -9223372036854775808 ≤ n ∧ n ≤ 9223372036854775807 then some (.im (.string (Lx.strOf (Lib.itoa n))), σ) else none
  | _, _ => none
theorem format_fun {T : Base} {b : Nat} {o : Obj} (hb : powB b o) (hT0 : T b = some o) : FunOk Tryz.prog T 205 formatH := by
  refine funOk_str fun args σ r σ' he => ?_
  unfold formatH at he
  split at he
  · rename_i σ0 n b0
    split at he
    · rename_i hc
      cases he
      refine ⟨rfl, _, rfl, fun G w vals hT hI hl ha => ?_⟩
      obtain ⟨v, u, rfl, hv, hu⟩ := vals2 hl ha
      obtain rfl := rep_im hu
      obtain rfl := rep_im hv
      obtain ⟨h1, t, fr, rfl⟩ := hb
      have htab : Lib.TabIs Tryz.prog w "internal/strconv.uint64pow10" .u64 Lib.pow10Tab := by
        unfold Lib.TabIs World.var?
        rw [h1]
        simp only [Option.bind_some]
        rw [(hT b _ hT0).1]
      obtain ⟨rfl, h2, h3⟩ := hc
      exact (Tryz.internal_strconv_FormatInt_10 n h2 h3 w htab).mono fun e w' ⟨he, k, os, hw⟩ => ⟨he, hw ▸ Go.Lib.below_grow _ w (Nat.le_refl _) k os⟩
    · cases he
  · cases he
end Go.Proofs.YtfgoedndpcblpaaGreatDoor.Pv
end
section
namespace Go.Proofs.YtfgoedndpcblpaaGreatDoor.Pv
open Go Go.Proofs Go.RowKit
set_option linter.unusedSimpArgs false
set_option linter.unusedVariables false
theorem sizeBuilder : (Tryz.prog.info? 143).map (·.size) = some 2 := by kernel_rfl
theorem cellsByte : Tryz.prog.cellsOf 5 = 1 := by kernel_rfl
set_option maxHeartbeats 1000000 in
set_option maxRecDepth 100000 in
theorem copyCheck_used (b : Nat) (w : World) (h0 : w.cell? ⟨b, 0, none⟩ = some (.pointer (some ⟨b, 0, none⟩))) :
    Calls Tryz.prog 201 #[.pointer (some ⟨b, 0, none⟩)] w fun e w' => e = .returned (.tuple #[]) ∧ w' = w := by
  obtain ⟨j, hj, _⟩ := Option.map_eq_some_iff.1 sizeBuilder
  go_enter Tryz.func201, Tryz.ntmps201
  go_wp2
  rw [Go.Lib.run_neq_ptr_same w _ Tryz.underlying140 hj]
  go_wp2
  go_end0
  exact ⟨rfl, rfl⟩
set_option maxHeartbeats 1000000 in
set_option maxRecDepth 100000 in
theorem copyCheck_fresh (b : Nat) (w : World) (e : TypeId) (n : Nat) (h0 : w.cell? ⟨b, 0, none⟩ = some (.pointer none)) (hsh : w.shape? b = some (e, n)) (hn : 0 < n) (hlies : liesAt Tryz.prog Tryz.prog.depth e (n / Tryz.prog.cellsOf e) 0 143 1 = true) (hfz : w.frozen? ⟨b, 0, none⟩ = false) :
    Calls Tryz.prog 201 #[.pointer (some ⟨b, 0, none⟩)] w fun e w' => e = .returned (.tuple #[]) ∧ w' = w.setCell ⟨b, 0, none⟩ (.pointer (some ⟨b, 0, none⟩)) := by
  obtain ⟨j, hj, hjs⟩ := Option.map_eq_some_iff.1 sizeBuilder
  go_enter Tryz.func201, Tryz.ntmps201
  go_wp2
  rw [Go.Lib.run_to_unsafe w ⟨b, 0, none⟩ Tryz.underlying140 Tryz.underlying297 hj (by rw [hjs]; decide) hsh hn]
  simp only [Result.andThen]
  rw [Oper.upon_value]
  go_wp2
  rw [run_callFunc_extern Tryz.func235 (by kernel_rfl) (by kernel_rfl) (by kernel_rfl) (e := Extern.AbiNoEscape.same) (by kernel_rfl)]
  rw [Go.Lib.run_noEscape]
  simp only [Result.andThen]
  rw [Oper.upon_value]
  go_wp2
  rw [Go.Lib.run_from_unsafe w ⟨b, 0, none⟩ Tryz.underlying297 Tryz.underlying140 hj hsh hlies]
  simp only [Result.andThen]
  rw [Oper.upon_value]
  go_wp2
  go_end0
  exact ⟨rfl, rfl⟩
def copyH : List PV → Sto → Option (PV × Sto)
  | [.ptr b 0], σ => match σ.bx[b]? with
    | some (.cells (x :: .sl rows tag :: rest)) => match x with
      | .im (.pointer none) => some (.tup [], { σ with bx := σ.bx.set b (.cells (.ptr b 0 :: .sl rows tag :: rest)) })
      | .ptr c 0 => if c = b then some (.tup [], σ) else none
      | _ => none
    | _ => none
  | _, _ => none
theorem copy_fun {T : Base} : FunOk Tryz.prog T 201 copyH := by
  intro args σ r σ' he G w vals hT hI hl ha
  unfold copyH at he
  split at he
  · rename_i σ0 b
    obtain ⟨v, rfl, hv⟩ := vals1 hl ha
    cases hv with
    | ptr hb =>
    rename_i blk
    split at he
    · rename_i x rows tag rest hc
      obtain ⟨ob, h1, hx⟩ := hI.bxc b blk _ hb hc
      cases hx with
      | @cells _ cs t h2 h3 h4 =>
      have hz : 0 < cs.size := by rw [h2]; simp
      have hx0 : Rep G x (cs.getD 0 undef) := h3 0 (by simp)
      have hcell : ∀ v, cs.getD 0 undef = v → w.cell? ⟨blk, 0, none⟩ = some v := by
        intro v e
        unfold World.cell?
        rw [h1]
        show cs[0]? = some v
        rw [← e, Array.getD_eq_getD_getElem?, Array.getElem?_eq_getElem hz]; rfl
      split at he
      · cases he
        have hv0 := rep_im hx0
        have hlies : liesB t cs.size = true := by
          have := h4 rfl
          rw [h2]; exact this
        unfold liesB at hlies
        rw [Bool.and_eq_true] at hlies
        refine (copyCheck_fresh blk w t cs.size (hcell _ hv0) (by unfold World.shape?; rw [h1]) hz hlies.2 (by unfold World.frozen?; rw [h1]; simp)).mono ?_
        rintro e w' ⟨rfl, rfl⟩
        rw [setCell_row h1]
        have hne : ∀ j (h : j < (PV.ptr b 0 :: .sl rows tag :: rest).length), Rep G (PV.ptr b 0 :: .sl rows tag :: rest)[j] ((cs.setIfInBounds 0 (.pointer (some ⟨blk, 0, none⟩))).getD j undef) := by
          intro j hj
          cases j with
          | zero =>
            rw [Array.getD_eq_getD_getElem?, Array.getElem?_setIfInBounds_self_of_lt hz]
            exact .ptr hb
          | succ j =>
            have := h3 (j + 1) hj
            rw [Array.getD_eq_getD_getElem?, Array.getElem?_setIfInBounds_ne (by omega), ← Array.getD_eq_getD_getElem?]
            exact this
        obtain ⟨h5, h6⟩ := hI.setBox (cells' := .ptr b 0 :: .sl rows tag :: rest) hb hc (by simp) (fun hf => by cases hf) (by rw [Array.size_setIfInBounds, h2]; simp) hne
        exact ⟨_, G, rfl, h5, .tup rfl (fun i h => by cases h), h6⟩
      · rename_i c
        split at he
        · rename_i hcb
          subst hcb
          cases he
          have hv0 : cs.getD 0 undef = .pointer (some ⟨blk, 0, none⟩) := by
            generalize hq : cs.getD 0 undef = q at hx0
            cases hx0 with
            | ptr hb' => rw [hb] at hb'; cases hb'; rfl
          refine (copyCheck_used blk w (hcell _ hv0)).mono ?_
          rintro e w' ⟨rfl, rfl⟩
          exact ⟨_, G, rfl, hI, .tup rfl (fun i h => by cases h), .refl _ _⟩
        · cases he
      · cases he
    · cases he
  · cases he
theorem Inv.share {G : Gh} {σ : Sto} {w : World} (h : Inv G σ w) {g n : Nat} {r : Grow} (hr : G.gr[g]? = some r) (hn : n ≤ r.len * r.sz) : Inv G σ (w.freeze ⟨r.blk, 0, none⟩ n) ∧ Later G w G (w.freeze ⟨r.blk, 0, none⟩ n) := by
  obtain ⟨cs, fr, k1, k2, k3, k4, k5⟩ := h.grc g r hr
  have hoth : ∀ k, k ≠ r.blk → (w.freeze ⟨r.blk, 0, none⟩ n).heap[k]? = w.heap[k]? := by
    intro k hk
    unfold World.freeze
    split
    · rfl
    · simp only [Array.getElem?_modify]
      rw [if_neg (Ne.symm hk)]
  have hself : ∃ fr', (w.freeze ⟨r.blk, 0, none⟩ n).heap[r.blk]? = some (.cells cs r.elem fr') ∧ fr'.2 ≤ r.len * r.sz := by
    unfold World.freeze
    split
    · exact ⟨fr, k1, k2⟩
    · simp only [Array.getElem?_modify, if_true, k1, Option.map_some]
      obtain ⟨lo, hi⟩ := fr
      refine ⟨_, rfl, ?_⟩
      split
      · simp only; omega
      · simp only at k2 ⊢; omega
  obtain ⟨fr', e1, e2⟩ := hself
  have hsz : (w.freeze ⟨r.blk, 0, none⟩ n).heap.size = w.heap.size := by
    unfold World.freeze
    split
    · rfl
    · simp
  have hio : (w.freeze ⟨r.blk, 0, none⟩ n).os = w.os ∧ (w.freeze ⟨r.blk, 0, none⟩ n).tape = w.tape ∧ (w.freeze ⟨r.blk, 0, none⟩ n).output = w.output := by
    unfold World.freeze
    split <;> exact ⟨rfl, rfl, rfl⟩
  have hcell : ∀ b o, (w.freeze ⟨r.blk, 0, none⟩ n).cell? ⟨b, o, none⟩ = w.cell? ⟨b, o, none⟩ := by
    intro b o
    unfold World.cell?
    rw [show (⟨b, o, none⟩ : Addr).block = b from rfl]
    by_cases hb : b = r.blk
    · subst hb; rw [e1, k1]
    · rw [hoth b hb]
  refine ⟨⟨fun b o v e => by rw [hcell]; exact h.fz b o v e, h.bxl, fun i blk x e3 e4 => ?_, h.bxf, h.bxn, h.grl, fun g' s e3 => ?_, h.grn, h.grb⟩, ⟨.refl G, by omega, fun b _ hb => hoth b (fun e => hb (.inr ⟨g, r, hr, e.symm⟩)), fun _ e => .inl e, fun _ _ _ e => .inl e, hio⟩⟩
  · obtain ⟨o, h2, h3⟩ := h.bxc i blk x e3 e4
    exact ⟨o, (hoth blk (fun e => h.grb g i blk r hr e3 e.symm)).trans h2, h3⟩
  · by_cases hg : g' = g
    · subst hg
      rw [hr] at e3; cases e3
      exact ⟨cs, fr', e1, e2, k3, k4, k5⟩
    · obtain ⟨cs2, fr2, h2, h3⟩ := h.grc g' s e3
      exact ⟨cs2, fr2, (hoth _ (fun e => hg (h.grn g' g s r e3 hr e))).trans h2, h3⟩
def rowByte : List FV → Option UInt8
  | [.im (.int .u8 n)] => if 0 ≤ n ∧ n < 256 then some (UInt8.ofNat n.toNat) else none
  | _ => none
def rowsByte : List (List FV) → Option (List UInt8)
  | [] => some []
  | x :: xs => match rowByte x, rowsByte xs with
    | some b, some bs => some (b :: bs)
    | _, _ => none
theorem rowsByte_spec : ∀ {rows : List (List FV)} {l : List UInt8}, rowsByte rows = some l → rows = l.map fun b => [.im (.int .u8 b.toNat)]
  | [], l, h => by cases h; rfl
  | x :: xs, l, h => by
    simp only [rowsByte] at h
    split at h
    · rename_i b bs h1 h2
      cases h
      rw [rowsByte_spec h2]
      unfold rowByte at h1
      split at h1
      · rename_i n
        split at h1
        · rename_i hn
          cases h1
          have e : ((UInt8.ofNat n.toNat).toNat : Int) = n := by
            rw [UInt8.toNat_ofNat']
            omega
          simp only [List.map_cons, e]
        · cases h1
      · cases h1
    · cases h
theorem rowsByte_str (s : ByteArray) : rowsByte (strRows s) = some s.data.toList := by
  unfold strRows
  induction s.data.toList with
  | nil => rfl
  | cons b l ih =>
    have hb : rowByte [.im (.int .u8 b.toNat)] = some b := by
      have := b.toNat_lt
      simp only [rowByte]
      rw [if_pos (by omega)]
      congr 1
      apply UInt8.toNat_inj.1
      rw [UInt8.toNat_ofNat']
      have : ((b.toNat : Int)).toNat = b.toNat := by omega
      rw [this]; omega
    simp only [List.map_cons, rowsByte, hb, ih]
set_option maxHeartbeats 2000000 in
set_option maxRecDepth 100000 in
theorem string_calls (b g cap cells : Nat) (l : List UInt8) (w : World) (h0 : l ≠ []) (c0 : w.cell? ⟨b, 1, none⟩ = some (.slice (some ⟨g, 0, none⟩) l.length cap)) (hc : cap ≠ 0) (hsh : w.shape? g = some (5, cells)) (hle : l.length ≤ cells) (h63 : l.length ≤ 9223372036854775807)
    (hcell : ∀ j x, l[j]? = some x → w.cell? ((⟨g, 0, none⟩ : Addr).add j) = some (.int .u8 x.toNat)) :
    Calls Tryz.prog 99 #[.pointer (some ⟨b, 0, none⟩)] w fun e w' => e = .returned (.string ⟨l.toArray⟩) ∧ w' = w.drew.freeze ⟨g, 0, none⟩ l.length := by
  have c1 : w.drew.cell? ⟨b, 1, none⟩ = some (.slice (some ⟨g, 0, none⟩) l.length cap) := c0
  have hSD : (Builtin.unsafeSliceData_ #[141] 220 #[.slice (some ⟨g, 0, none⟩) l.length cap]).run Tryz.prog w.drew = .ok (.pointer (some ⟨g, 0, none⟩)) w.drew :=
    Go.Lib.run_unsafeSliceData_row _ _ _ _ _ _ hc
  have hUS : (Builtin.unsafeString_ #[220, 3] 9 #[.pointer (some ⟨g, 0, none⟩), .int .i64 l.length]).run Tryz.prog w.drew = .ok (.string ⟨l.toArray⟩) (w.drew.freeze ⟨g, 0, none⟩ l.length) :=
    Go.Lib.run_unsafeString_row w.drew 220 3 9 5 Tryz.underlying220 cellsByte g cells hsh l h0 hle h63 hcell
  clear hcell hsh c0
  go_enter Tryz.func99, Tryz.ntmps99
  go_wp2
  go_region
  all_goals (go_wp2; go_ret; exact ⟨rfl, rfl⟩)
def stringH : List PV → Sto → Option (PV × Sto)
  | [.ptr b 0], σ => match σ.bx[b]? with
    | some (.cells (_ :: .sl rows (.grow g) :: _)) => match rowsByte rows with
      | some l => if l ≠ [] ∧ l.length ≤ 9223372036854775807 ∧ σ.gr[g]? = some (l.length, 0) then some (.im (.string (Lx.strOf l)), σ) else none
      | none => none
    | _ => none
  | _, _ => none
theorem string_fun {T : Base} : FunOk Tryz.prog T 99 stringH := by
  intro args σ r σ' he G w vals hT hI hl ha
  unfold stringH at he
  split at he
  · rename_i σ0 b
    obtain ⟨v, rfl, hv⟩ := vals1 hl ha
    cases hv with
    | ptr hb =>
    rename_i blk
    split at he
    · rename_i x rows g rest hc
      split at he
      · rename_i l hrw
        split at he
        · rename_i hcond
          cases he
          obtain ⟨h0, h63, hgr⟩ := hcond
          have hrows := rowsByte_spec hrw
          subst hrows
          obtain ⟨ob, h1, hx⟩ := hI.bxc b blk _ hb hc
          cases hx with
          | @cells _ cs t h2 h3 h4 =>
          have hz : 1 < cs.size := by rw [h2]; simp
          have hx1 : Rep G (.sl (l.map fun b => ([.im (.int .u8 b.toNat)] : List FV)) (.grow g)) (cs.getD 1 undef) := h3 1 (by simp)
          generalize hq : cs.getD 1 undef = q at hx1
          cases hx1 with
          | @sl _ _ a cap hF ht =>
          have hlen : (l.map fun b => ([.im (.int .u8 b.toNat)] : List FV)).length = l.length := by simp
          obtain ⟨rr, hr, hrl, hrc⟩ := ht
          have hcode : (rr.len, rr.code) = (l.length, 0) := by
            have : σ.gr[g]? = some (rr.len, rr.code) := by rw [← hI.grl, List.getElem?_map, hr]; rfl
            rw [hgr] at this; exact (Option.some.inj this).symm
          have hln : rr.len = l.length := congrArg Prod.fst hcode
          have hel : rr.elem = byteT := by
            have h5 : rr.code = 0 := congrArg Prod.snd hcode
            unfold Grow.code at h5
            split at h5
            · assumption
            · exact absurd h5 rr.ok.1
          have hs1 : rr.sz = 1 := rr.ok.2 hel
          obtain ⟨rfl, hcp⟩ := hrc (by rw [hlen, hln])
          obtain ⟨ds, fr, k1, k2, k3, k4, k5⟩ := hI.grc g rr hr
          have hl0 : l.length ≠ 0 := by simpa using h0
          rw [hlen] at hq
          refine (string_calls blk rr.blk cap ds.size l w h0 ?_ (by omega) (by unfold World.shape?; rw [k1, hel]; rfl) (by rw [k3, hs1]; omega) h63 (fun j y hj => ?_)).mono ?_
          · unfold World.cell?
            rw [h1]
            show cs[1]? = _
            rw [← hq, Array.getD_eq_getD_getElem?, Array.getElem?_eq_getElem hz]; rfl
          · have hsz : sized 1 (l.map fun b => ([.im (.int .u8 b.toNat)] : List FV)) = true := by simp [sized]
            obtain ⟨_, _, f, hFl⟩ := hF.flat hsz (by decide)
            have hjl : j < l.length := (List.getElem?_eq_some_iff.1 hj).1
            obtain ⟨b', o', e', k'⟩ := hFl.at_ j (by rw [hlen]; omega)
            cases e'
            have hjm : j < (l.map fun b => ([.im (.int .u8 b.toNat)] : List FV)).length := by rw [hlen]; exact hjl
            have hrow : (l.map fun b => ([.im (.int .u8 b.toNat)] : List FV))[j]'hjm = [.im (.int .u8 y.toNat)] := by
              rw [List.getElem_map, (List.getElem?_eq_some_iff.1 hj).2]
            have hj0 : 0 < ((l.map fun b => ([.im (.int .u8 b.toNat)] : List FV))[j]'hjm).length := by rw [hrow]; exact Nat.one_pos
            have hrp := hFl.rep j hjm 0 hj0
            rw [Nat.mul_one, Nat.add_zero, List.getElem_of_eq hrow] at hrp
            have hrp : RepF G.fz (.im (.int .u8 y.toNat)) (f j) := hrp
            have hf : f j = .int .u8 y.toNat := by
              generalize hq : f j = q at hrp
              cases hrp; rfl
            have := hI.fz _ _ _ k'
            rw [hf] at this
            rw [Addr.add_mid]
            exact this
          · rintro e w' ⟨rfl, rfl⟩
            have hI2 : Inv G σ w.drew := hI.heap rfl
            obtain ⟨h5, h6⟩ := hI2.share hr (n := l.length) (by rw [hs1, hln]; omega)
            exact ⟨_, G, rfl, h5, .im _, (Later.heap (w := w) (w' := w.drew) G rfl ⟨rfl, rfl, rfl⟩).trans h6⟩
        · cases he
      · cases he
    · cases he
  · cases he
end Go.Proofs.YtfgoedndpcblpaaGreatDoor.Pv
end
section
namespace Go.Proofs.YtfgoedndpcblpaaGreatDoor.Ps
open Go Go.Proofs Go.Proofs.YtfgoedndpcblpaaGreatDoor.Lx
set_option linter.unusedVariables false
inductive Ex where
  | mk (op name : ByteArray) (n : Int) (l : List Ex) (at_ : Int)
  deriving Inhabited
structure PS where
  l : List Tk
  k : Nat
  e : Nat
  no : Int
  bl : Nat
  inn : Nat
def PS.stop (p : PS) (x : Int) : PS := if p.no = 0 then { p with no := x } else p
def PS.tok (p : PS) : Tk := p.l.getD p.k (-1, [], 0, 0)
def PS.place (p : PS) : Nat := if p.k < p.l.length then p.tok.2.2.2 else p.e
def PS.kind (p : PS) : Int := p.tok.1
def PS.text (p : PS) : List UInt8 := p.tok.2.1
def PS.num (p : PS) : Int := p.tok.2.2.1
def PS.on (p : PS) (kind : Int) : Bool := decide (p.no = 0) && decide (p.k < p.l.length) && decide (p.kind = kind)
def PS.word (p : PS) (kind : Int) (s : List UInt8) : Bool := p.on kind && decide (p.text = s)
def PS.go (p : PS) : PS := { p with k := p.k + 1 }
def PS.take (p : PS) (kind : Int) (s : List UInt8) : Bool × PS := if p.word kind s = true then (true, p.go) else (false, p)
def PS.need (p : PS) (s : List UInt8) : PS := if p.word 2 s = true then p.go else p.stop 130
def resBytes : List UInt8 := [101, 110, 117, 109, 32, 118, 97, 114, 32, 112, 114, 111, 99, 32, 109, 97, 105, 110, 32, 105, 102, 32, 101, 108, 115, 101, 32, 119, 104, 105, 108, 101, 32, 97, 115, 115, 101, 114, 116, 32, 97, 115, 115, 117, 109, 101, 32, 99, 97, 108, 108, 32, 115, 107, 105, 112, 32, 105, 110, 112, 117, 116, 32, 116, 114, 117, 101, 32, 102, 97, 108, 115, 101, 32, 105, 110, 116, 32, 98, 111, 111, 108]
def resL : List (List UInt8) := Lib.fields resBytes
def reserved (s : List UInt8) : Bool := resL.contains s
def PS.name (p : PS) : ByteArray × PS := if (p.on 0 && !reserved p.text) = true then (strOf p.text, p.go) else (⟨#[]⟩, p.stop 130)
def PS.deep (p : PS) : PS := if 32 ≤ p.inn then p.stop 131 else { p with inn := p.inn + 1 }
def PS.within (p : PS) (f : PS → PS) : PS := if 32 ≤ p.inn then p.stop 131 else
  { f { p with inn := p.inn + 1, k := p.k + 1 } with inn := (f { p with inn := p.inn + 1, k := p.k + 1 }).inn - 1 }
def levB : List (List UInt8) := [[124, 124], [38, 38], [61, 61, 32, 33, 61, 32, 60, 32, 60, 61, 32, 62, 32, 62, 61], [43, 32, 45], [42, 32, 47]]
def levL (n : Nat) : List (List UInt8) := Lib.fields (levB.getD n [])
def sB (l : List UInt8) : ByteArray := strOf l
def chainS (g : PS → Ex × PS) (lev : Nat) : Nat → Ex → PS → Ex × PS
  | 0, e, p => (e, p)
  | m + 1, e, p => if (p.on 2 && (levL lev).contains p.text) = true then
      (if lev = 2 then (.mk (strOf p.text) ⟨#[]⟩ 0 [e, (g p.go).1] p.place, (g p.go).2)
       else chainS g lev m (.mk (strOf p.text) ⟨#[]⟩ 0 [e, (g p.go).1] p.place) (g p.go).2)
    else (e, p)
mutual
def exprS : Nat → Nat → PS → Ex × PS
  | 0, _, p => (.mk ⟨#[]⟩ ⟨#[]⟩ 0 [] 0, p)
  | D + 1, lev, p => if lev = 5 then firstS D p else chainS (exprS D (lev + 1)) lev p.l.length (exprS D (lev + 1) p).1 (exprS D (lev + 1) p).2
def firstS : Nat → PS → Ex × PS
  | 0, p => (.mk ⟨#[]⟩ ⟨#[]⟩ 0 [] 0, p)
  | D + 1, p =>
    if (p.word 2 [45] || p.word 2 [33]) = true then
      (.mk (sB (if p.text = [33] then [110, 111, 116] else [110, 101, 103])) ⟨#[]⟩ 0 (if 32 ≤ p.inn then [] else [(firstS D { p with inn := p.inn + 1, k := p.k + 1 }).1]) p.place, p.within fun q => (firstS D q).2)
    else if p.word 2 [40] = true then
      (if 32 ≤ p.inn then .mk ⟨#[]⟩ ⟨#[]⟩ 0 [] p.place else (exprS D 0 { p with inn := p.inn + 1, k := p.k + 1 }).1, p.within fun q => (exprS D 0 q).2.need [41])
    else if p.on 1 = true then (.mk (sB [110, 117, 109]) ⟨#[]⟩ p.num [] p.place, p.go)
    else if (p.word 0 [116, 114, 117, 101] || p.word 0 [102, 97, 108, 115, 101]) = true then (.mk (strOf p.text) ⟨#[]⟩ 0 [] p.place, p.go)
    else if p.name.2.word 2 [91] = true then
      (.mk (sB [97, 116]) p.name.1 0 (if 32 ≤ p.name.2.inn then [] else [(exprS D 0 { p.name.2 with inn := p.name.2.inn + 1, k := p.name.2.k + 1 }).1]) p.place, p.name.2.within fun q => (exprS D 0 q).2.need [93])
    else (.mk (sB [110, 97, 109, 101]) p.name.1 0 [] p.place, p.name.2)
end
structure Adv (p q : PS) : Prop where
  l : q.l = p.l
  e : q.e = p.e
  bl : q.bl = p.bl
  inn : q.inn = p.inn
  k : p.k ≤ q.k
  no : p.no ≠ 0 → q.no = p.no
theorem Adv.refl (p : PS) : Adv p p := ⟨rfl, rfl, rfl, rfl, Nat.le_refl _, fun _ => rfl⟩
theorem Adv.trans {p q r : PS} (h : Adv p q) (k : Adv q r) : Adv p r := ⟨k.l.trans h.l, k.e.trans h.e, k.bl.trans h.bl, k.inn.trans h.inn, Nat.le_trans h.k k.k, fun hn => (k.no (by rw [h.no hn]; exact hn)).trans (h.no hn)⟩
theorem Adv.stop (p : PS) (x : Int) : Adv p (p.stop x) := by unfold PS.stop; split; exact ⟨rfl, rfl, rfl, rfl, Nat.le_refl _, fun hn => absurd (by assumption) hn⟩; exact .refl p
theorem Adv.go (p : PS) : Adv p p.go := ⟨rfl, rfl, rfl, rfl, Nat.le_succ _, fun _ => rfl⟩
theorem Adv.take (p : PS) (k : Int) (s : List UInt8) : Adv p (p.take k s).2 := by unfold PS.take; split; exact .go p; exact .refl p
theorem Adv.need (p : PS) (s : List UInt8) : Adv p (p.need s) := by unfold PS.need; split; exact .go p; exact .stop p _
theorem Adv.name (p : PS) : Adv p p.name.2 := by unfold PS.name; split; exact .go p; exact .stop p _
theorem Adv.within {p : PS} {f : PS → PS} (h : ∀ q, Adv q (f q)) : Adv p (p.within f) := by
  unfold PS.within
  split
  · exact .stop p _
  · have := h { p with inn := p.inn + 1, k := p.k + 1 }
    exact ⟨this.l, this.e, this.bl, by show _ - 1 = _; rw [this.inn]; rfl, Nat.le_trans (Nat.le_succ _) this.k, this.no⟩
theorem Adv.chain {g : PS → Ex × PS} (h : ∀ q, Adv q (g q).2) (lev : Nat) : ∀ (m : Nat) (e : Ex) (p : PS), Adv p (chainS g lev m e p).2
  | 0, e, p => .refl p
  | m + 1, e, p => by
    simp only [chainS]
    split
    · split
      · exact (Adv.go p).trans (h _)
      · exact (Adv.go p).trans ((h _).trans (Adv.chain h lev m _ _))
    · exact .refl p
theorem Adv.both : ∀ (D : Nat), (∀ lev p, Adv p (exprS D lev p).2) ∧ ∀ p, Adv p (firstS D p).2
  | 0 => ⟨fun _ p => by simp only [exprS]; exact .refl p, fun p => by simp only [firstS]; exact .refl p⟩
  | D + 1 => by
    obtain ⟨h1, h2⟩ := Adv.both D
    refine ⟨fun lev p => ?_, fun p => ?_⟩
    · simp only [exprS]
      split
      · exact h2 p
      · exact (h1 _ p).trans (Adv.chain (h1 _) lev _ _ _)
    · simp only [firstS]
      split
      · exact .within fun q => h2 q
      · split
        · exact .within fun q => (h1 0 q).trans (.need _ _)
        · split
          · exact .go p
          · split
            · exact .go p
            · split
              · exact (Adv.name p).trans (.within fun q => (h1 0 q).trans (.need _ _))
              · exact .name p
theorem Adv.expr (D lev : Nat) (p : PS) : Adv p (exprS D lev p).2 := (Adv.both D).1 lev p
theorem Adv.first (D : Nat) (p : PS) : Adv p (firstS D p).2 := (Adv.both D).2 p
end Go.Proofs.YtfgoedndpcblpaaGreatDoor.Ps
end
section
namespace Go.Proofs.YtfgoedndpcblpaaGreatDoor.Pv
open Go Go.Proofs Go.Proofs.YtfgoedndpcblpaaGreatDoor.Lx Go.Proofs.YtfgoedndpcblpaaGreatDoor.Ps
set_option linter.unusedSimpArgs false
set_option linter.unusedVariables false
variable {L : Lib} {σ : Sto}
def psC (p : PS) : List PV := [.sl (p.l.map tokR) .unk, int p.k, int p.e, int p.no, int p.bl, int p.inn]
abbrev psB (p : PS) : Bx := .cells (psC p)
def Meth (L : Lib) (f : FuncId) (args : List PV) (p : PS) (r : PV) (p' : PS) : Prop := ∃ more gr, EV Tryz.prog L f (.ptr 0 0 :: args) ⟨[psB p], []⟩ = some (r, ⟨psB p' :: more, gr⟩)
theorem gather_known (bx : List Bx) : ∀ (n : Nat) (todo acc : List Nat), (∀ b ∈ todo, b ∈ acc) → gather bx n todo acc = acc
  | 0, _, _, _ => rfl
  | n + 1, [], _, _ => rfl
  | n + 1, b :: todo, acc, h => by
    simp only [gather]
    rw [if_pos (h b (by simp))]
    exact gather_known bx n todo acc fun c hc => h c (by simp [hc])
theorem call_box {H : Hand} {f : FuncId} {b : Nat} {args : List PV} {r : PV} {cs cs' : List PV} {more : List Bx} {gr : List (Nat × Nat)} (hb : σ.bx[b]? = some (.cells cs)) (ha : ptrsL args = []) (he : eraL args = args)
    (c1 : ptrsL cs = []) (c2 : tagsL cs = []) (c3 : ∀ ρ τ, τ .unk = .unk → renL ρ τ cs = some cs) (d1 : ptrsL cs' = []) (d2 : tagsL cs' = []) (d3 : ∀ ρ τ, τ .unk = .unk → renL ρ τ cs' = some cs') (hr : r.ptrs = [])
    (h : H f (.ptr 0 0 :: args) ⟨[.cells cs], []⟩ = some (r, ⟨.cells cs' :: more, gr⟩)) : callE H f (.ptr b 0 :: args) σ = some (r.era, { σ with bx := σ.bx.set b (.cells cs') }) := by
  have hlt := (List.getElem?_eq_some_iff.1 hb).1
  have e0 : gather σ.bx 64 (ptrsL (.ptr b 0 :: args)) [] = [b] := by
    show gather σ.bx 64 ([b] ++ ptrsL args) [] = [b]
    rw [ha]
    show gather σ.bx 63 (ptrsAt σ.bx b ++ []) [b] = [b]
    have : ptrsAt σ.bx b = [] := by unfold ptrsAt; rw [hb]; exact c1
    rw [this]; rfl
  have e1 : tagsB σ.bx [b] = [] := by
    have : tagsAt σ.bx b = [] := by unfold tagsAt; rw [hb]; exact c2
    simp [tagsB, this]
  unfold callE
  rw [e0, e1]
  simp only [dd]
  have hfb : find [b] b = some 0 := by simp [find]
  have hren : renL (find [b]) (fun _ => .unk) (.ptr b 0 :: args) = some (.ptr 0 0 :: args) := by
    simp only [renL, PV.ren, hfb, Option.map_some, (renL_era (ρ := find [b]) ha).1, he]
  have hsel : selE σ [b] [] = some ⟨[.cells cs], []⟩ := by
    simp only [selE, pickL, hb]
    simp only [renBs, Bx.ren, c3 _ (Tag.sel []) rfl, Option.map_some]
  unfold callIn
  rw [hren, hsel]
  simp only [h]
  have g0 : gather (.cells cs' :: more) 64 (r.ptrs ++ ptrsUpto (.cells cs' :: more) [b].length) (iota [b].length) = [0] := by
    have : ptrsUpto (Bx.cells cs' :: more) 1 = [] := by simp [ptrsUpto, ptrsAt, Bx.ptrs, d1]
    show gather (.cells cs' :: more) 64 (r.ptrs ++ ptrsUpto (Bx.cells cs' :: more) 1) [0] = [0]
    rw [hr, this]; rfl
  rw [g0]
  have g1 : tagsB (Bx.cells cs' :: more) [0] = [] := by simp [tagsB, tagsAt, Bx.tags, d2]
  simp only [g1, dd, iota, List.length_nil]
  unfold callBack
  obtain ⟨k1, k2, k3⟩ := ren_era (ρ := find [0]) hr
  have hsel2 : selE ⟨.cells cs' :: more, gr⟩ [0] [] = some ⟨[.cells cs'], []⟩ := by
    simp [selE, pickL, renBs, Bx.ren, d3 _ (Tag.sel []) rfl]
  rw [k1, hsel2]
  simp only
  obtain ⟨k4, _, _⟩ := ren_era (ρ := backB [b] σ.bx.length [Bx.cells cs'].length) k2
  rw [k4, k3]
  have hd := d3 (backB [b] σ.bx.length [Bx.cells cs'].length) (Tag.back [] σ.gr.length ([] : List (Nat × Nat)).length) rfl
  simp only [List.length_nil] at hd
  simp only [renBs, Bx.ren, hd, Option.map_some, List.length_nil]
  simp [backL, putMany]
theorem psC_plain (p : PS) : ptrsL (psC p) = [] ∧ tagsL (psC p) = [] ∧ ∀ ρ τ, τ .unk = .unk → renL ρ τ (psC p) = some (psC p) := ⟨rfl, rfl, fun ρ τ h => by simp [psC, renL, PV.ren, h]⟩
theorem Meth.call {f : FuncId} {args : List PV} {p p' : PS} {r : PV} (h : Meth L f args p r p') (ha : ptrsL args = []) (he : eraL args = args) (hr : r.ptrs = []) {b : Nat} (hb : σ.bx[b]? = some (psB p)) : callE (EV Tryz.prog L) f (.ptr b 0 :: args) σ = some (r.era, { σ with bx := σ.bx.set b (psB p') }) := by
  obtain ⟨more, gr, h⟩ := h
  exact call_box hb ha he (psC_plain p).1 (psC_plain p).2.1 (psC_plain p).2.2 (psC_plain p').1 (psC_plain p').2.1 (psC_plain p').2.2 hr h
theorem meth_fn {f : FuncId} {fn : Func} {n : Nat} {ids : List Nat} {rs : Array ResultVar} {args : List PV} {p p' : PS} {r : PV} (hl : L f = none) (hf : Tryz.prog.funcs[f]? = some fn) (hn : fn.ntmps = n) (hrs : fn.results = rs) (hlen : (PV.ptr 0 0 :: args).length ≤ n)
    (h : ∃ c, fn.body = some c ∧ statOk Tryz.prog ids c = true ∧ WP Tryz.prog L n ids c ⟨initE (.ptr 0 0 :: args), ⟨[psB p], []⟩⟩ fun ctl s => (ctl = .next ∨ ctl = .ret) ∧ Run (outE Tryz.prog s.env s.sto rs.toList) fun r' => r' = r ∧ ∃ more, s.sto.bx = psB p' :: more) : Meth L f args p r p' := by
  obtain ⟨c, hb, hst, k, ctl, s', h1, h2, r', h3, rfl, more, h5⟩ := h
  subst hn; subst hrs
  refine ⟨more, s'.sto.gr, EV_fn hl hf hb hst hlen ⟨k, ctl, s', h1, h2, h3, ?_⟩⟩
  rw [← h5]
theorem idx_tok {l : List Tk} {k : Nat} (h : decide (k < l.length) = true) : idx 4 (l.map tokR) (k : Int) = some (.el (tokR (l.getD k (-1, [], 0, 0))) 0) := by
  have h' := of_decide_eq_true h
  refine idx_get ?_ rfl
  rw [List.getElem?_map, List.getD_eq_getElem?_getD, List.getElem?_eq_getElem h']; rfl
theorem strOf_inj (s : ByteArray) (l : List UInt8) : decide (strOf l = s) = decide (l = s.data.toList) := by
  have : strOf l = s ↔ l = s.data.toList := ⟨fun h => by rw [← h, strOf_list], fun h => by rw [h, strOf_self]⟩
  simp [this]
theorem on_ok (hl : L 172 = none) (p : PS) (kind : Int) : Meth L 172 [int kind] p (boo (p.on kind)) p := by
  refine meth_fn (ids := []) hl Tryz.func172 Tryz.ntmps172 Tryz.results172 (by simp) ⟨_, rfl, by kernel_rfl, ?_⟩
  have hi : decide (p.k < p.l.length) = true → idx 4 (p.l.map tokR) (p.k : Int) = some (.el (tokR p.tok) 0) := idx_tok
  simp (contextual := true) (implicitDefEqProofs := false) [-decide_eq_true_eq, -decide_eq_false_iff_not, -Bool.not_and, -Bool.not_or, -Bool.and_eq_false_imp, -Int.natCast_add, psC, hi, tokR, PS.on, PS.kind]
  rfl
theorem place_ok (hl : L 118 = none) (p : PS) : Meth L 118 [] p (int p.place) p := by
  refine meth_fn (ids := []) hl Tryz.func118 Tryz.ntmps118 Tryz.results118 (by simp) ⟨_, rfl, by kernel_rfl, ?_⟩
  have hi : decide (p.k < p.l.length) = true → idx 4 (p.l.map tokR) (p.k : Int) = some (.el (tokR p.tok) 0) := idx_tok
  simp (contextual := true) (implicitDefEqProofs := false) [-decide_eq_true_eq, -decide_eq_false_iff_not, -Bool.not_and, -Bool.not_or, -Bool.and_eq_false_imp, -Int.natCast_add, psC, hi, tokR, PS.place]
  exact ⟨fun h => by rw [if_pos (of_decide_eq_true h)], fun h => by rw [if_neg (of_decide_eq_false h)]⟩
theorem stop_ok (hl : L 117 = none) (p : PS) (x : Int) : Meth L 117 [int x] p (.tup []) (p.stop x) := by
  refine meth_fn (ids := []) hl Tryz.func117 Tryz.ntmps117 Tryz.results117 (by simp) ⟨_, rfl, by kernel_rfl, ?_⟩
  simp (contextual := true) (implicitDefEqProofs := false) [-decide_eq_true_eq, -decide_eq_false_iff_not, -Bool.not_and, -Bool.not_or, -Bool.and_eq_false_imp, -Int.natCast_add, psC, PS.stop]
  exact ⟨fun h => by rw [if_pos (of_decide_eq_true h)]; simp, fun h => by rw [if_neg (of_decide_eq_false h)]; simp⟩
theorem on0 (hl : L 172 = none) {l : List Tk} {k e : Nat} {no : Int} {bl inn : Nat} {bx : List Bx} {gr : List (Nat × Nat)} (kind : Int) : callE (EV Tryz.prog L) 172 (.ptr 0 0 :: [int kind]) ⟨.cells [.sl (l.map tokR) .unk, int k, int e, int no, int bl, int inn] :: bx, gr⟩ = some (boo (PS.on (PS.mk l k e no bl inn) kind), ⟨.cells [.sl (l.map tokR) .unk, int k, int e, int no, int bl, int inn] :: bx, gr⟩) :=
  (on_ok hl ⟨l, k, e, no, bl, inn⟩ kind).call rfl rfl rfl rfl
theorem place0 (hl : L 118 = none) {l : List Tk} {k e : Nat} {no : Int} {bl inn : Nat} {bx : List Bx} {gr : List (Nat × Nat)}  : callE (EV Tryz.prog L) 118 (.ptr 0 0 :: []) ⟨.cells [.sl (l.map tokR) .unk, int k, int e, int no, int bl, int inn] :: bx, gr⟩ = some (int (PS.place (PS.mk l k e no bl inn)), ⟨.cells [.sl (l.map tokR) .unk, int k, int e, int no, int bl, int inn] :: bx, gr⟩) :=
  (place_ok hl ⟨l, k, e, no, bl, inn⟩ ).call rfl rfl rfl rfl
theorem stop0 (hl : L 117 = none) {l : List Tk} {k e : Nat} {no : Int} {bl inn : Nat} {bx : List Bx} {gr : List (Nat × Nat)} (x : Int) : callE (EV Tryz.prog L) 117 (.ptr 0 0 :: [int x]) ⟨.cells [.sl (l.map tokR) .unk, int k, int e, int no, int bl, int inn] :: bx, gr⟩ = some (.tup [], ⟨.cells [.sl ((PS.stop (PS.mk l k e no bl inn) x).l.map tokR) .unk, int (PS.stop (PS.mk l k e no bl inn) x).k, int (PS.stop (PS.mk l k e no bl inn) x).e, int (PS.stop (PS.mk l k e no bl inn) x).no, int (PS.stop (PS.mk l k e no bl inn) x).bl, int (PS.stop (PS.mk l k e no bl inn) x).inn] :: bx, gr⟩) :=
  (stop_ok hl ⟨l, k, e, no, bl, inn⟩ x).call rfl rfl rfl rfl
theorem word_ok (hl : Free L [172, 175]) (p : PS) (kind : Int) (s : ByteArray) : Meth L 175 [int kind, str s] p (boo (p.word kind s.data.toList)) p := by
  refine meth_fn (ids := []) (hl _ (by simp)) Tryz.func175 Tryz.ntmps175 Tryz.results175 (by simp) ⟨_, rfl, by kernel_rfl, ?_⟩
  have hi : decide (p.k < p.l.length) = true → idx 4 (p.l.map tokR) (p.k : Int) = some (.el (tokR p.tok) 0) := idx_tok
  have hon : p.on kind = true → decide (p.k < p.l.length) = true := fun h => by unfold PS.on at h; simp at h; simp [h]
  have ho := fun bx gr => on0 (hl _ (by simp)) (l := p.l) (k := p.k) (e := p.e) (no := p.no) (bl := p.bl) (inn := p.inn) (bx := bx) (gr := gr) kind
  simp (contextual := true) (implicitDefEqProofs := false) [-decide_eq_true_eq, -decide_eq_false_iff_not, -Bool.not_and, -Bool.not_or, -Bool.and_eq_false_imp, -Int.natCast_add, psB, psC, hi, tokR, ho, hon, PS.word, PS.text, strOf_inj]
  rfl
def idxG (v : List UInt8) : List (List UInt8) → Nat → Int
  | [], _ => -1
  | x :: xs, i => if v = x then i else idxG v xs (i + 1)
theorem idxG_has (v : List UInt8) : ∀ (l : List (List UInt8)) (i : Nat), 0 ≤ idxG v l i ↔ v ∈ l
  | [], i => by simp [idxG]
  | x :: xs, i => by
    simp only [idxG]
    split
    · rename_i h; subst h; simp
    · rename_i h
      rw [idxG_has v xs (i + 1)]
      simp [h]
theorem index_ok (hl : L 86 = none) (l : List (List UInt8)) (v : ByteArray) (hn : l.length < 4611686018427387904) : callE (EV Tryz.prog L) 86 [strsB l, str v] σ = some (int (idxG v.data.toList l 0), σ) := by
  refine call_fn hl Tryz.func86 Tryz.ntmps86 Tryz.results86 (by simp) rfl rfl (ids := []) ⟨_, rfl, by kernel_rfl, ?_⟩
  simp (contextual := true) (implicitDefEqProofs := false) [-decide_eq_true_eq, -decide_eq_false_iff_not, -Bool.not_and, -Bool.not_or, -Bool.and_eq_false_imp, -Int.natCast_add, strsB]
  refine WP.each l (fun rest i s' => s'.sto = ⟨[], []⟩ ∧ s'.env 0 = strsB l ∧ s'.env 1 = str v ∧ s'.env 7 = int l.length ∧ s'.env 8 = int i ∧ idxG v.data.toList rest i = idxG v.data.toList l 0) ⟨rfl, by simp [strsB], by simp, by simp, by simp, rfl⟩ ?_ ?_
  · rintro x xs i ⟨env, τ⟩ hx hi hxs ⟨h1, h2, h3, h4, h5, h6⟩
    simp only at h1 h2 h3 h4 h5
    subst h1
    have hix : idx 1 (l.map fun x => [.im (.string (strOf x))]) i = some (.el [.im (.string (strOf x))] 0) := idx_get (by rw [List.getElem?_map, hx]; rfl) rfl
    have hlt : decide (i < l.length) = true := by simp [hi]
    have hw : IntKind.wrap .i64 ((i : Int) + 1) = ((i + 1 : Nat) : Int) := wrap_succ (by omega)
    have he : decide (v = strOf x) = decide (v.data.toList = x) := by
      have : v = strOf x ↔ v.data.toList = x := ⟨fun h => by rw [h, strOf_list], fun h => by rw [← h, strOf_self]⟩
      simp [this]
    simp (contextual := true) (implicitDefEqProofs := false) [-decide_eq_true_eq, -decide_eq_false_iff_not, -Bool.not_and, -Bool.not_or, -Bool.and_eq_false_imp, -Int.natCast_add, h2, h3, h4, h5, hlt, strsB, hix, he, hw]
    simp only [idxG] at h6
    refine ⟨fun e => ?_, fun e => ?_⟩
    · rw [if_pos (of_decide_eq_true e)] at h6; rw [← h6]
    · rw [if_neg (of_decide_eq_false e)] at h6; exact h6
  · rintro ⟨env, τ⟩ ⟨h1, h2, h3, h4, h5, h6⟩
    simp only at h1 h2 h3 h4 h5
    subst h1
    simp (contextual := true) (implicitDefEqProofs := false) [-decide_eq_true_eq, -decide_eq_false_iff_not, -Bool.not_and, -Bool.not_or, -Bool.and_eq_false_imp, -Int.natCast_add, h2, h3, h4, h5]
    rw [← h6]; rfl
theorem contains_ok (hl : Free L [86, 104]) (l : List (List UInt8)) (v : ByteArray) (hn : l.length < 4611686018427387904) : callE (EV Tryz.prog L) 104 [strsB l, str v] σ = some (boo (l.contains v.data.toList), σ) := by
  refine call_fn (hl _ (by simp)) Tryz.func104 Tryz.ntmps104 Tryz.results104 (by simp) rfl rfl (ids := []) ⟨_, rfl, by kernel_rfl, ?_⟩
  have hi := fun σ => index_ok (L := L) (σ := σ) (hl _ (by simp)) l v hn
  simp only [strsB] at hi
  simp (contextual := true) (implicitDefEqProofs := false) [-decide_eq_true_eq, -decide_eq_false_iff_not, -Bool.not_and, -Bool.not_or, -Bool.and_eq_false_imp, -Int.natCast_add, strsB, hi]
  exact idxG_has _ _ _
theorem res_bytes : resBytes.length = 82 ∧ (resBytes.all fun b => decide (b.toNat < 128)) = true := by decide
theorem res_len : resL.length = 16 := by decide
theorem reserved_ok (hl : Free L [86, 104, 45]) (hF : L 116 = some fieldsH) (s : ByteArray) : callE (EV Tryz.prog L) 45 [str s] σ = some (boo (reserved s.data.toList), σ) := by
  refine call_fn (hl _ (by simp)) Tryz.func45 Tryz.ntmps45 Tryz.results45 (by simp) rfl rfl (ids := []) ⟨_, rfl, by kernel_rfl, ?_⟩
  have hfl := fun σ => fields_ok (L := L) (σ := σ) hF (strOf resBytes) (by rw [strOf_size, strOf_list]; exact ⟨by rw [res_bytes.1]; omega, res_bytes.2⟩)
  have hc := fun σ => contains_ok (L := L) (σ := σ) (hl.sub (by simp)) resL s (by rw [res_len]; omega)
  rw [strOf_list] at hfl
  simp only [strOf, resBytes] at hfl
  simp only [resL, resBytes] at hc
  simp (contextual := true) (implicitDefEqProofs := false) [-decide_eq_true_eq, -decide_eq_false_iff_not, -Bool.not_and, -Bool.not_or, -Bool.and_eq_false_imp, -Int.natCast_add, hfl, hc, resL, resBytes, reserved]
end Go.Proofs.YtfgoedndpcblpaaGreatDoor.Pv
end
section
namespace Go.Proofs.YtfgoedndpcblpaaGreatDoor.Pv
open Go Go.Proofs Go.Proofs.YtfgoedndpcblpaaGreatDoor.Lx Go.Proofs.YtfgoedndpcblpaaGreatDoor.Ps
set_option linter.unusedSimpArgs false
set_option linter.unusedVariables false
variable {L : Lib} {σ : Sto}
@[simp] theorem PS.eta (q : PS) : PS.mk q.l q.k q.e q.no q.bl q.inn = q := rfl
theorem on_lt {p : PS} {kind : Int} (h : p.on kind = true) : decide (p.k < p.l.length) = true := by unfold PS.on at h; simp at h; simp [h]
theorem word_on {p : PS} {kind : Int} {s : List UInt8} (h : p.word kind s = true) : p.on kind = true := by unfold PS.word at h; simp at h; exact h.1
theorem go_wrap {p : PS} (hv : p.l.length < 4611686018427387904) (h : decide (p.k < p.l.length) = true) : IntKind.wrap .i64 ((p.k : Int) + 1) = ((p.k + 1 : Nat) : Int) := by
  have := of_decide_eq_true h
  exact wrap_succ (by omega)
theorem word0 (hl : Free L [172, 175]) {l : List Tk} {k e : Nat} {no : Int} {bl inn : Nat} {bx : List Bx} {gr : List (Nat × Nat)} (kind : Int) (s : ByteArray) : callE (EV Tryz.prog L) 175 (.ptr 0 0 :: [int kind, str s]) ⟨.cells [.sl (l.map tokR) .unk, int k, int e, int no, int bl, int inn] :: bx, gr⟩ = some (boo (PS.word (PS.mk l k e no bl inn) kind s.data.toList), ⟨.cells [.sl (l.map tokR) .unk, int k, int e, int no, int bl, int inn] :: bx, gr⟩) :=
  (word_ok hl ⟨l, k, e, no, bl, inn⟩ kind s).call rfl rfl rfl rfl
theorem take_ok (hl : Free L [172, 175, 119]) (p : PS) (hv : p.l.length < 4611686018427387904) (kind : Int) (s : ByteArray) : Meth L 119 [int kind, str s] p (boo (p.take kind s.data.toList).1) (p.take kind s.data.toList).2 := by
  refine meth_fn (ids := []) (hl _ (by simp)) Tryz.func119 Tryz.ntmps119 Tryz.results119 (by simp) ⟨_, rfl, by kernel_rfl, ?_⟩
  have hw := fun bx gr => word0 (hl.sub (by simp)) (l := p.l) (k := p.k) (e := p.e) (no := p.no) (bl := p.bl) (inn := p.inn) (bx := bx) (gr := gr) kind s
  have hg : p.word kind s.data.toList = true → IntKind.wrap .i64 ((p.k : Int) + 1) = ((p.k + 1 : Nat) : Int) := fun h => go_wrap hv (on_lt (word_on h))
  simp (contextual := true) (implicitDefEqProofs := false) [-decide_eq_true_eq, -decide_eq_false_iff_not, -Bool.not_and, -Bool.not_or, -Bool.and_eq_false_imp, -Int.natCast_add, psB, psC, hw, hg, PS.take, PS.go]
theorem take0 (hl : Free L [172, 175, 119]) {l : List Tk} {k e : Nat} {no : Int} {bl inn : Nat} {bx : List Bx} {gr : List (Nat × Nat)} (hv : l.length < 4611686018427387904) (kind : Int) (s : ByteArray) : callE (EV Tryz.prog L) 119 (.ptr 0 0 :: [int kind, str s]) ⟨.cells [.sl (l.map tokR) .unk, int k, int e, int no, int bl, int inn] :: bx, gr⟩ = some (boo (PS.take (PS.mk l k e no bl inn) kind s.data.toList).1, ⟨.cells [.sl ((PS.take (PS.mk l k e no bl inn) kind s.data.toList).2.l.map tokR) .unk, int (PS.take (PS.mk l k e no bl inn) kind s.data.toList).2.k, int (PS.take (PS.mk l k e no bl inn) kind s.data.toList).2.e, int (PS.take (PS.mk l k e no bl inn) kind s.data.toList).2.no, int (PS.take (PS.mk l k e no bl inn) kind s.data.toList).2.bl, int (PS.take (PS.mk l k e no bl inn) kind s.data.toList).2.inn] :: bx, gr⟩) :=
  (take_ok hl ⟨l, k, e, no, bl, inn⟩ hv kind s).call rfl rfl rfl rfl
theorem need_eq (p : PS) (s : List UInt8) : p.need s = if (p.take 2 s).1 = true then (p.take 2 s).2 else (p.take 2 s).2.stop 130 := by
  unfold PS.need PS.take
  split <;> simp
theorem need_ok (hl : Free L [172, 175, 119, 117, 176]) (p : PS) (hv : p.l.length < 4611686018427387904) (s : ByteArray) : Meth L 176 [str s] p (.tup []) (p.need s.data.toList) := by
  refine meth_fn (ids := []) (hl _ (by simp)) Tryz.func176 Tryz.ntmps176 Tryz.results176 (by simp) ⟨_, rfl, by kernel_rfl, ?_⟩
  have ht := fun bx gr => take0 (hl.sub (by simp)) (l := p.l) (k := p.k) (e := p.e) (no := p.no) (bl := p.bl) (inn := p.inn) (bx := bx) (gr := gr) hv 2 s
  have hs := fun l k e no bl inn bx gr => stop0 (hl _ (by simp)) (l := l) (k := k) (e := e) (no := no) (bl := bl) (inn := inn) (bx := bx) (gr := gr) 130
  rw [need_eq]
  simp (contextual := true) (implicitDefEqProofs := false) [-decide_eq_true_eq, -decide_eq_false_iff_not, -Bool.not_and, -Bool.not_or, -Bool.and_eq_false_imp, -Int.natCast_add, psB, psC, ht, hs]
theorem need1 (hl : Free L [172, 175, 119, 117, 176]) {x0 : Bx} {l : List Tk} {k e : Nat} {no : Int} {bl inn : Nat} {bx : List Bx} {gr : List (Nat × Nat)} (hv : l.length < 4611686018427387904) (s : ByteArray) : callE (EV Tryz.prog L) 176 (.ptr 1 0 :: [str s]) ⟨x0 :: .cells [.sl (l.map tokR) .unk, int k, int e, int no, int bl, int inn] :: bx, gr⟩ = some (.tup [], ⟨x0 :: .cells [.sl ((PS.need (PS.mk l k e no bl inn) s.data.toList).l.map tokR) .unk, int (PS.need (PS.mk l k e no bl inn) s.data.toList).k, int (PS.need (PS.mk l k e no bl inn) s.data.toList).e, int (PS.need (PS.mk l k e no bl inn) s.data.toList).no, int (PS.need (PS.mk l k e no bl inn) s.data.toList).bl, int (PS.need (PS.mk l k e no bl inn) s.data.toList).inn] :: bx, gr⟩) :=
  (need_ok hl ⟨l, k, e, no, bl, inn⟩ hv s).call rfl rfl rfl rfl
theorem name_ok (hl : Free L [172, 45, 104, 86, 117, 122]) (hF : L 116 = some fieldsH) (p : PS) (hv : p.l.length < 4611686018427387904) : Meth L 122 [] p (str p.name.1) p.name.2 := by
  refine meth_fn (ids := []) (hl _ (by simp)) Tryz.func122 Tryz.ntmps122 Tryz.results122 (by simp) ⟨_, rfl, by kernel_rfl, ?_⟩
  have hi : decide (p.k < p.l.length) = true → idx 4 (p.l.map tokR) (p.k : Int) = some (.el (tokR p.tok) 0) := idx_tok
  have ho := fun bx gr => on0 (hl _ (by simp)) (l := p.l) (k := p.k) (e := p.e) (no := p.no) (bl := p.bl) (inn := p.inn) (bx := bx) (gr := gr) 0
  have hon : p.on 0 = true → decide (p.k < p.l.length) = true := on_lt
  have hg : p.on 0 = true → IntKind.wrap .i64 ((p.k : Int) + 1) = ((p.k + 1 : Nat) : Int) := fun h => go_wrap hv (on_lt h)
  have hs := fun l k e no bl inn bx gr => stop0 (hl _ (by simp)) (l := l) (k := k) (e := e) (no := no) (bl := bl) (inn := inn) (bx := bx) (gr := gr) 130
  have hr := fun σ s => reserved_ok (L := L) (σ := σ) (hl.sub (by simp)) hF s
  have hb : p.on 0 = true → IntKind.wrap .i64 (((p.k + 1 : Nat) : Int) - 1) = (p.k : Int) := fun h => by
    have := of_decide_eq_true (on_lt h)
    rw [wrap_of (by omega)]; omega
  simp (contextual := true) (implicitDefEqProofs := false) [-decide_eq_true_eq, -decide_eq_false_iff_not, -Bool.not_and, -Bool.not_or, -Bool.and_eq_false_imp, -Int.natCast_add, psB, psC, hi, tokR, ho, hon, hg, hs, hr, hb, strOf_list, PS.name, PS.go, PS.text]
theorem name0 (hl : Free L [172, 45, 104, 86, 117, 122]) (hF : L 116 = some fieldsH) {l : List Tk} {k e : Nat} {no : Int} {bl inn : Nat} {bx : List Bx} {gr : List (Nat × Nat)} (hv : l.length < 4611686018427387904) : callE (EV Tryz.prog L) 122 (.ptr 0 0 :: []) ⟨.cells [.sl (l.map tokR) .unk, int k, int e, int no, int bl, int inn] :: bx, gr⟩ = some (str (PS.name (PS.mk l k e no bl inn)).1, ⟨.cells [.sl ((PS.name (PS.mk l k e no bl inn)).2.l.map tokR) .unk, int (PS.name (PS.mk l k e no bl inn)).2.k, int (PS.name (PS.mk l k e no bl inn)).2.e, int (PS.name (PS.mk l k e no bl inn)).2.no, int (PS.name (PS.mk l k e no bl inn)).2.bl, int (PS.name (PS.mk l k e no bl inn)).2.inn] :: bx, gr⟩) :=
  (name_ok hl hF ⟨l, k, e, no, bl, inn⟩ hv).call rfl rfl rfl rfl
structure Lone (cs : List PV) : Prop where
  ptrs : ptrsL cs = []
  tags : tagsL cs = []
  ren : ∀ (ρ : Nat → Option Nat) (τ : Tag → Tag), τ .unk = .unk → τ .full = .full → renL ρ τ cs = some cs
theorem psC_flat (p : PS) : Lone (psC p) := ⟨rfl, rfl, fun ρ τ h _ => (psC_plain p).2.2 ρ τ h⟩
theorem deeper_ok (hl : Free L [117, 177]) (p : PS) (hi : p.inn ≤ 32) : ∃ more gr, EV Tryz.prog L 177 [.ptr 0 0, .ptr 0 5, int 32] ⟨[psB p], []⟩ = some (boo (decide (p.inn < 32)), ⟨psB p.deep :: more, gr⟩) := by
  refine meth_fn (args := [.ptr 0 5, int 32]) (ids := []) (hl _ (by simp)) Tryz.func177 Tryz.ntmps177 Tryz.results177 (by simp) ⟨_, rfl, by kernel_rfl, ?_⟩
  have hs := fun l k e no bl inn bx gr => stop0 (hl _ (by simp)) (l := l) (k := k) (e := e) (no := no) (bl := bl) (inn := inn) (bx := bx) (gr := gr) 131
  have hw : IntKind.wrap .i64 ((p.inn : Int) + 1) = ((p.inn + 1 : Nat) : Int) := wrap_succ (by omega)
  simp (contextual := true) (implicitDefEqProofs := false) [-decide_eq_true_eq, -decide_eq_false_iff_not, -Bool.not_and, -Bool.not_or, -Bool.and_eq_false_imp, -Int.natCast_add, psB, psC, hs, hw]
  refine ⟨fun e => ?_, fun e => ?_⟩
  · have e' := of_decide_eq_true e
    have : p.deep = p.stop 131 := if_pos (by omega)
    rw [this]; exact ⟨by omega, rfl, rfl, rfl, rfl, rfl, rfl⟩
  · have e' := of_decide_eq_false e
    have : p.deep = { p with inn := p.inn + 1 } := if_neg (by omega)
    rw [this]; exact ⟨by omega, rfl, rfl, rfl, rfl, rfl, rfl⟩
theorem call_deeper (hl : Free L [117, 177]) (p : PS) (hi : p.inn ≤ 32) (bx : List Bx) (gr : List (Nat × Nat)) : callE (EV Tryz.prog L) 177 [.ptr 0 0, .ptr 0 5, int 32] ⟨psB p :: bx, gr⟩ = some (boo (decide (p.inn < 32)), ⟨psB p.deep :: bx, gr⟩) := by
  obtain ⟨more, gr0, h⟩ := deeper_ok hl p hi
  have f1 := psC_flat p
  have f2 := psC_flat p.deep
  unfold callE
  have e0 : gather (psB p :: bx) 64 (ptrsL [.ptr 0 0, .ptr 0 5, int 32]) [] = [0] := by
    simp [ptrsL, PV.ptrs, gather, ptrsAt, Bx.ptrs, f1.ptrs]
  have e1 : tagsB (psB p :: bx) [0] = [] := by simp [tagsB, tagsAt, Bx.tags, f1.tags]
  rw [e0, e1]
  simp only [dd]
  unfold callIn
  have e2 : renL (find [0]) (fun _ => .unk) [.ptr 0 0, .ptr 0 5, int 32] = some [.ptr 0 0, .ptr 0 5, int 32] := rfl
  have e3 : selE ⟨psB p :: bx, gr⟩ [0] [] = some ⟨[psB p], []⟩ := by simp [selE, pickL, renBs, Bx.ren, f1.ren _ (Tag.sel []) rfl rfl]
  rw [e2, e3]
  simp only [h]
  unfold callBack
  have e4 : gather (psB p.deep :: more) 64 ((boo (decide (p.inn < 32))).ptrs ++ ptrsUpto (psB p.deep :: more) [0].length) (iota [0].length) = [0] := by
    simp [ptrsUpto, ptrsAt, Bx.ptrs, f2.ptrs, iota, gather]
  have e5 : tagsB (psB p.deep :: more) [0] = [] := by simp [tagsB, tagsAt, Bx.tags, f2.tags]
  have e6 : selE ⟨psB p.deep :: more, gr0⟩ [0] [] = some ⟨[psB p.deep], []⟩ := by simp [selE, pickL, renBs, Bx.ren, f2.ren _ (Tag.sel []) rfl rfl]
  rw [e4, e5]
  simp only [dd, iota, List.length_nil]
  rw [e6]
  simp [PV.ren, renBs, Bx.ren, f2.ren _ (Tag.back [] gr.length 0) rfl rfl, backL, putMany]
def Clo (L : Lib) (F : FuncId) (p : PS) (e : List PV) (p' : PS) (e' : List PV) : Prop := ∃ more gr, EV Tryz.prog L F [.ptr 0 0, .ptr 2 0] ⟨[.cells [.ptr 1 0], psB p, .cells e], []⟩ = some (.tup [], ⟨.cells [.ptr 1 0] :: psB p' :: .cells e' :: more, gr⟩)
theorem Clo.call {F : FuncId} {p p' : PS} {e e' : List PV} (h : Clo L F p e p' e') (he : Lone e) (he' : Lone e') (gr : List (Nat × Nat)) : callE (EV Tryz.prog L) F [.ptr 1 0, .ptr 2 0] ⟨[psB p, .cells [.ptr 0 0], .cells e], gr⟩ = some (.tup [], ⟨[psB p', .cells [.ptr 0 0], .cells e'], gr⟩) := by
  obtain ⟨more, gr0, h⟩ := h
  have f1 := psC_flat p
  have f2 := psC_flat p'
  unfold callE
  have e0 : gather [psB p, .cells [.ptr 0 0], .cells e] 64 (ptrsL [.ptr 1 0, .ptr 2 0]) [] = [1, 0, 2] := by
    simp [ptrsL, PV.ptrs, gather, ptrsAt, Bx.ptrs, f1.ptrs, he.ptrs]
  have e1 : tagsB [psB p, .cells [.ptr 0 0], .cells e] [1, 0, 2] = [] := by simp [tagsB, tagsAt, Bx.tags, f1.tags, he.tags, tagsL, PV.tags]
  rw [e0, e1]
  simp only [dd]
  unfold callIn
  have e2 : renL (find [1, 0, 2]) (fun _ => .unk) [.ptr 1 0, .ptr 2 0] = some [.ptr 0 0, .ptr 2 0] := rfl
  have e3 : selE ⟨[psB p, .cells [.ptr 0 0], .cells e], gr⟩ [1, 0, 2] [] = some ⟨[.cells [.ptr 1 0], psB p, .cells e], []⟩ := by
    simp [selE, pickL, renBs, Bx.ren, f1.ren _ (Tag.sel []) rfl rfl, he.ren _ (Tag.sel []) rfl rfl, renL, PV.ren, find]
  rw [e2, e3]
  simp only [h]
  unfold callBack
  have e4 : gather (.cells [.ptr 1 0] :: psB p' :: .cells e' :: more) 64 ((PV.tup []).ptrs ++ ptrsUpto (.cells [.ptr 1 0] :: psB p' :: .cells e' :: more) [1, 0, 2].length) (iota [1, 0, 2].length) = [0, 1, 2] := by
    simp [ptrsUpto, ptrsAt, Bx.ptrs, f2.ptrs, he'.ptrs, iota, gather, ptrsL, PV.ptrs]
  have e5 : tagsB (.cells [.ptr 1 0] :: psB p' :: .cells e' :: more) [0, 1, 2] = [] := by simp [tagsB, tagsAt, Bx.tags, f2.tags, he'.tags, tagsL, PV.tags]
  have e6 : selE ⟨.cells [.ptr 1 0] :: psB p' :: .cells e' :: more, gr0⟩ [0, 1, 2] [] = some ⟨[.cells [.ptr 1 0], psB p', .cells e'], []⟩ := by
    simp [selE, pickL, renBs, Bx.ren, f2.ren _ (Tag.sel []) rfl rfl, he'.ren _ (Tag.sel []) rfl rfl, renL, PV.ren, find]
  rw [e4, e5]
  simp only [dd, iota, List.length_nil]
  rw [e6]
  simp [PV.ren, renL, renBs, Bx.ren, f2.ren _ (Tag.back [] gr.length 0) rfl rfl, he'.ren _ (Tag.back [] gr.length 0) rfl rfl, backL, putMany, backB]
def Wit (L : Lib) (F : FuncId) (p : PS) (e : List PV) (p' : PS) (e' : List PV) : Prop := ∃ more gr, EV Tryz.prog L 206 [.ptr 0 0, .fn (.func F) [.ptr 1 0, .ptr 2 0]] ⟨[psB p, .cells [.ptr 0 0], .cells e], []⟩ = some (.tup [], ⟨psB p' :: .cells [.ptr 0 0] :: .cells e' :: more, gr⟩)
theorem Wit.call {F : FuncId} {p p' : PS} {e e' : List PV} (h : Wit L F p e p' e') (he : Lone e) (he' : Lone e') (x2 : Bx) (gr : List (Nat × Nat)) : callE (EV Tryz.prog L) 206 [.ptr 0 0, .fn (.func F) [.ptr 1 0, .ptr 3 0]] ⟨[psB p, .cells [.ptr 0 0], x2, .cells e], gr⟩ = some (.tup [], ⟨[psB p', .cells [.ptr 0 0], x2, .cells e'], gr⟩) := by
  obtain ⟨more, gr0, h⟩ := h
  have f1 := psC_flat p
  have f2 := psC_flat p'
  unfold callE
  have e0 : gather [psB p, .cells [.ptr 0 0], x2, .cells e] 64 (ptrsL [.ptr 0 0, .fn (.func F) [.ptr 1 0, .ptr 3 0]]) [] = [0, 1, 3] := by
    simp [ptrsL, PV.ptrs, gather, ptrsAt, Bx.ptrs, f1.ptrs, he.ptrs]
  have e1 : tagsB [psB p, .cells [.ptr 0 0], x2, .cells e] [0, 1, 3] = [] := by simp [tagsB, tagsAt, Bx.tags, f1.tags, he.tags, tagsL, PV.tags]
  rw [e0, e1]
  simp only [dd]
  unfold callIn
  have e2 : renL (find [0, 1, 3]) (fun _ => .unk) [.ptr 0 0, .fn (.func F) [.ptr 1 0, .ptr 3 0]] = some [.ptr 0 0, .fn (.func F) [.ptr 1 0, .ptr 2 0]] := rfl
  have e3 : selE ⟨[psB p, .cells [.ptr 0 0], x2, .cells e], gr⟩ [0, 1, 3] [] = some ⟨[psB p, .cells [.ptr 0 0], .cells e], []⟩ := by
    simp [selE, pickL, renBs, Bx.ren, f1.ren _ (Tag.sel []) rfl rfl, he.ren _ (Tag.sel []) rfl rfl, renL, PV.ren, find]
  rw [e2, e3]
  simp only [h]
  unfold callBack
  have e4 : gather (psB p' :: .cells [.ptr 0 0] :: .cells e' :: more) 64 ((PV.tup []).ptrs ++ ptrsUpto (psB p' :: .cells [.ptr 0 0] :: .cells e' :: more) [0, 1, 3].length) (iota [0, 1, 3].length) = [0, 1, 2] := by
    simp [ptrsUpto, ptrsAt, Bx.ptrs, f2.ptrs, he'.ptrs, iota, gather, ptrsL, PV.ptrs]
  have e5 : tagsB (psB p' :: .cells [.ptr 0 0] :: .cells e' :: more) [0, 1, 2] = [] := by simp [tagsB, tagsAt, Bx.tags, f2.tags, he'.tags, tagsL, PV.tags]
  have e6 : selE ⟨psB p' :: .cells [.ptr 0 0] :: .cells e' :: more, gr0⟩ [0, 1, 2] [] = some ⟨[psB p', .cells [.ptr 0 0], .cells e'], []⟩ := by
    simp [selE, pickL, renBs, Bx.ren, f2.ren _ (Tag.sel []) rfl rfl, he'.ren _ (Tag.sel []) rfl rfl, renL, PV.ren, find]
  rw [e4, e5]
  simp only [dd, iota, List.length_nil]
  rw [e6]
  simp [PV.ren, renL, renBs, Bx.ren, f2.ren _ (Tag.back [] gr.length 0) rfl rfl, he'.ren _ (Tag.back [] gr.length 0) rfl rfl, backL, putMany, backB]
end Go.Proofs.YtfgoedndpcblpaaGreatDoor.Pv
end
section
namespace Go.Proofs.YtfgoedndpcblpaaGreatDoor.Pv
open Go Go.Proofs Go.Proofs.YtfgoedndpcblpaaGreatDoor.Lx Go.Proofs.YtfgoedndpcblpaaGreatDoor.Ps
set_option linter.unusedSimpArgs false
set_option linter.unusedVariables false
variable {L : Lib} {σ : Sto}
mutual
def exR : Ex → List FV
  | .mk op name n l a => [.im (.string op), .im (.string name), .im (.int .i64 n), .sl (exRs l), .im (.int .i64 a)]
def exRs : List Ex → List (List FV)
  | [] => []
  | x :: xs => exR x :: exRs xs
end
def exC : Ex → List PV
  | .mk op name n l a => [str op, str name, int n, .sl (exRs l) .unk, int a]
@[simp] theorem exC_flag (x : Ex) : flagged (exC x) = false := by cases x; rfl
theorem exC_lone (op name : ByteArray) (n : Int) (rows : List (List FV)) (t : Tag) (ht : t = .unk ∨ t = .full) (a : Int) : Lone [str op, str name, int n, .sl rows t, int a] := ⟨rfl, by rcases ht with rfl | rfl <;> rfl, fun ρ τ h1 h2 => by rcases ht with rfl | rfl <;> simp [renL, PV.ren, h1, h2]⟩
theorem exC_row (e : Ex) : toFs (exC e) = some (exR e) ∧ ptrsL (exC e) = [] ∧ eraL (exC e) = exC e := by cases e; exact ⟨rfl, rfl, rfl⟩
theorem within_deep (hl : Free L [117, 177, 206]) {F : FuncId} {p : PS} {e : List PV} (hi : p.inn = 32) : Wit L F p e (p.stop 131) e := by
  have hd := fun bx gr => call_deeper (hl.sub (by simp)) p (by omega) bx gr
  have hdp : p.deep = p.stop 131 := if_pos (by omega)
  rw [hdp] at hd
  simp only [psB, psC] at hd
  have hlt : decide (p.inn < 32) = false := by simp; omega
  refine ⟨[], [], EV_fn (ids := []) (hl _ (by simp)) Tryz.func206 rfl (by kernel_rfl) (by rw [Tryz.ntmps206]; simp) ?_⟩
  rw [Tryz.ntmps206, Tryz.results206]
  simp (contextual := true) (implicitDefEqProofs := false) [-decide_eq_true_eq, -decide_eq_false_iff_not, -Bool.not_and, -Bool.not_or, -Bool.and_eq_false_imp, -Int.natCast_add, psB, psC, hd, hlt]
theorem within_go (hl : Free L [117, 177, 206]) {F : FuncId} (hb : isBody Tryz.prog F = true) {p p1 : PS} {e e1 : List PV} (hi : p.inn < 32) (hk : p.k < 4611686018427387904) (he : Lone e) (he1 : Lone e1) (h1 : 1 ≤ p1.inn) (h2 : p1.inn ≤ 32) (hc : Clo L F { p with inn := p.inn + 1, k := p.k + 1 } e p1 e1) : Wit L F p e { p1 with inn := p1.inn - 1 } e1 := by
  have hd := fun bx gr => call_deeper (hl.sub (by simp)) p (by omega) bx gr
  have hdp : p.deep = { p with inn := p.inn + 1 } := if_neg (by omega)
  rw [hdp] at hd
  simp only [psB, psC] at hd
  have hlt : decide (p.inn < 32) = true := by simp; omega
  have hc' := fun gr => hc.call he he1 gr
  simp only [psB, psC] at hc'
  have hw : IntKind.wrap .i64 ((p.k : Int) + 1) = ((p.k + 1 : Nat) : Int) := wrap_succ (by omega)
  have hw2 : IntKind.wrap .i64 ((p1.inn : Int) - 1) = ((p1.inn - 1 : Nat) : Int) := by rw [wrap_of (by omega)]; omega
  refine ⟨[], [], EV_fn (ids := []) (hl _ (by simp)) Tryz.func206 rfl (by kernel_rfl) (by rw [Tryz.ntmps206]; simp) ?_⟩
  rw [Tryz.ntmps206, Tryz.results206]
  simp (contextual := true) (implicitDefEqProofs := false) [-decide_eq_true_eq, -decide_eq_false_iff_not, -Bool.not_and, -Bool.not_or, -Bool.and_eq_false_imp, -Int.natCast_add, psB, psC, hd, hlt, hc', hw, hw2, hb]
def Ret (L : Lib) (f : FuncId) (args : List PV) (p : PS) (e : Ex) (p' : PS) : Prop := ∃ r, r.ptrs = [] ∧ r.era = .agg (exC e) ∧ Meth L f args p r p'
theorem Ret.call {f : FuncId} {args : List PV} {p p' : PS} {e : Ex} (h : Ret L f args p e p') (ha : ptrsL args = []) (he : eraL args = args) {b : Nat} (hb : σ.bx[b]? = some (psB p)) : callE (EV Tryz.prog L) f (.ptr b 0 :: args) σ = some (.agg (exC e), { σ with bx := σ.bx.set b (psB p') }) := by
  obtain ⟨r, h1, h2, h3⟩ := h
  rw [← h2]; exact h3.call ha he h1 hb
theorem exC_all (x : Ex) : (exC x).all PV.leaf = true ∧ (exC x).length = 5 ∧ (exR x).length = 5 ∧ (exR x).take 5 = exR x ∧ (exC x).take 5 = exC x := by cases x; exact ⟨rfl, rfl, rfl, rfl, rfl⟩
theorem clo_neg (hl : Free L [207]) {p p' : PS} {x : Ex} (op name : ByteArray) (n : Int) (rows : List (List FV)) (t : Tag) (a : Int) (h : Ret L 171 [] p x p') : Clo L 207 p [str op, str name, int n, .sl rows t, int a] p' [str op, str name, int n, .sl [exR x] .full, int a] := by
  have hc := fun x0 bx gr => h.call (σ := ⟨x0 :: psB p :: bx, gr⟩) rfl rfl (b := 1) rfl
  simp only [psB, psC, List.set_cons_succ, List.set_cons_zero] at hc
  have hx := exC_all x
  refine ⟨[], [], EV_fn (ids := []) (hl _ (by simp)) Tryz.func207 rfl (by kernel_rfl) (by rw [Tryz.ntmps207]; simp) ?_⟩
  rw [Tryz.ntmps207, Tryz.results207]
  simp (contextual := true) (implicitDefEqProofs := false) [-decide_eq_true_eq, -decide_eq_false_iff_not, -Bool.not_and, -Bool.not_or, -Bool.and_eq_false_imp, -Int.natCast_add, psB, psC, hc, hx.1, hx.2.1, hx.2.2.2.1, (exC_row x).1]
theorem clo_paren (hl : Free L [172, 175, 119, 117, 176, 208, 209]) {p p' : PS} (hv : p'.l.length < 4611686018427387904) {x : Ex} (op name : ByteArray) (n : Int) (rows : List (List FV)) (t : Tag) (a : Int) (h : Ret L 113 [int 0] p x p') : Clo L 208 p [str op, str name, int n, .sl rows t, int a] (p'.need [41]) (exC x) := by
  have hc := fun x0 bx gr => h.call (σ := ⟨x0 :: psB p :: bx, gr⟩) rfl rfl (b := 1) rfl
  simp only [psB, psC, List.set_cons_succ, List.set_cons_zero] at hc
  have hx := exC_all x
  have hn := fun x0 bx gr => need1 (x0 := x0) (l := p'.l) (k := p'.k) (e := p'.e) (no := p'.no) (bl := p'.bl) (inn := p'.inn) (bx := bx) (gr := gr) (hl.sub (by simp)) hv ⟨#[41]⟩
  refine ⟨[], [], EV_fn (ids := []) (hl _ (by simp)) Tryz.func208 rfl (by kernel_rfl) (by rw [Tryz.ntmps208]; simp) ?_⟩
  rw [Tryz.ntmps208, Tryz.results208]
  simp (contextual := true) (implicitDefEqProofs := false) [-decide_eq_true_eq, -decide_eq_false_iff_not, -Bool.not_and, -Bool.not_or, -Bool.and_eq_false_imp, -Int.natCast_add, psB, psC, hc, hx.1, hx.2.1, hn]
theorem clo_at (hl : Free L [172, 175, 119, 117, 176, 208, 209]) {p p' : PS} (hv : p'.l.length < 4611686018427387904) {x : Ex} (op name : ByteArray) (n : Int) (rows : List (List FV)) (t : Tag) (a : Int) (h : Ret L 113 [int 0] p x p') : Clo L 209 p [str op, str name, int n, .sl rows t, int a] (p'.need [93]) [str op, str name, int n, .sl [exR x] .full, int a] := by
  have hc := fun x0 bx gr => h.call (σ := ⟨x0 :: psB p :: bx, gr⟩) rfl rfl (b := 1) rfl
  simp only [psB, psC, List.set_cons_succ, List.set_cons_zero] at hc
  have hx := exC_all x
  have hn := fun x0 bx gr => need1 (x0 := x0) (l := p'.l) (k := p'.k) (e := p'.e) (no := p'.no) (bl := p'.bl) (inn := p'.inn) (bx := bx) (gr := gr) (hl.sub (by simp)) hv ⟨#[93]⟩
  refine ⟨[], [], EV_fn (ids := []) (hl _ (by simp)) Tryz.func209 rfl (by kernel_rfl) (by rw [Tryz.ntmps209]; simp) ?_⟩
  rw [Tryz.ntmps209, Tryz.results209]
  simp (contextual := true) (implicitDefEqProofs := false) [-decide_eq_true_eq, -decide_eq_false_iff_not, -Bool.not_and, -Bool.not_or, -Bool.and_eq_false_imp, -Int.natCast_add, psB, psC, hc, hx.1, hx.2.1, hx.2.2.2.1, (exC_row x).1, hn]
end Go.Proofs.YtfgoedndpcblpaaGreatDoor.Pv
end
section
namespace Go.Proofs.YtfgoedndpcblpaaGreatDoor.Pv
open Go Go.Proofs Go.Proofs.YtfgoedndpcblpaaGreatDoor.Lx Go.Proofs.YtfgoedndpcblpaaGreatDoor.Ps
set_option linter.unusedSimpArgs false
set_option linter.unusedVariables false
variable {L : Lib} {σ : Sto}
@[simp] def firstFs : List FuncId := [172, 175, 119, 117, 176, 118, 122, 45, 104, 86, 177, 206, 207, 208, 209, 171]
abbrev exL (op name : ByteArray) (n : Int) (rows : List (List FV)) (t : Tag) (a : Int) : List PV := [str op, str name, int n, .sl rows t, int a]
theorem exL_lone {op name : ByteArray} {n : Int} {rows : List (List FV)} {t : Tag} {a : Int} (ht : t = .unk ∨ t = .full) : Lone (exL op name n rows t a) := exC_lone _ _ _ _ _ ht _
theorem within_any (hl : Free L firstFs) {F : FuncId} (hb : isBody Tryz.prog F = true) {p : PS} {f : PS → PS} {e e1 : List PV} (hi : p.inn ≤ 32) (hk : p.k < 4611686018427387904) (he : Lone e) (he1 : Lone e1) (hf : ∀ q, Adv q (f q)) (hc : p.inn < 32 → Clo L F { p with inn := p.inn + 1, k := p.k + 1 } e (f { p with inn := p.inn + 1, k := p.k + 1 }) e1) : Wit L F p e (p.within f) (if 32 ≤ p.inn then e else e1) := by
  by_cases h : p.inn = 32
  · have h1 : p.within f = p.stop 131 := by unfold PS.within; rw [if_pos (by omega)]
    rw [h1, if_pos (by omega)]
    exact within_deep (hl.sub (by simp [firstFs])) h
  · have hlt : p.inn < 32 := by omega
    have ha := hf { p with inn := p.inn + 1, k := p.k + 1 }
    have h1 : p.within f = { f { p with inn := p.inn + 1, k := p.k + 1 } with inn := (f { p with inn := p.inn + 1, k := p.k + 1 }).inn - 1 } := by unfold PS.within; rw [if_neg (by omega)]
    rw [h1, if_neg (by omega)]
    exact within_go (hl.sub (by simp [firstFs])) hb hlt hk he he1 (by rw [ha.inn]; exact Nat.le_add_left _ _) (by rw [ha.inn]; exact hlt) (hc hlt)
theorem wit_call {F : FuncId} {p p' : PS} {e e' : List PV} (h : Wit L F p e p' e') (he : Lone e) (he' : Lone e') (x2 : Bx) (gr : List (Nat × Nat)) : callE (EV Tryz.prog L) 206 [.ptr 0 0, .fn (.func F) [.ptr 1 0, .ptr 3 0]] ⟨[.cells [.sl (p.l.map tokR) .unk, int p.k, int p.e, int p.no, int p.bl, int p.inn], .cells [.ptr 0 0], x2, .cells e], gr⟩ = some (.tup [], ⟨[.cells [.sl (p'.l.map tokR) .unk, int p'.k, int p'.e, int p'.no, int p'.bl, int p'.inn], .cells [.ptr 0 0], x2, .cells e'], gr⟩) := h.call he he' x2 gr
theorem first_num (hl : Free L firstFs) (D : Nat) (p : PS) (hv : p.l.length < 4611686018427387904) (hn1 : p.word 2 [45] = false) (hn2 : p.word 2 [33] = false) (hp1 : p.word 2 [40] = false) (hm : p.on 1 = true) :
    Ret L 171 [] p (firstS (D + 1) p).1 (firstS (D + 1) p).2 := by
  have hlt := on_lt hm
  have hix : idx 4 (p.l.map tokR) (p.k : Int) = some (.el (tokR p.tok) 0) := idx_tok hlt
  have hg : IntKind.wrap .i64 ((p.k : Int) + 1) = ((p.k + 1 : Nat) : Int) := go_wrap hv hlt
  have e1 : firstS (D + 1) p = (.mk (sB [110, 117, 109]) ⟨#[]⟩ p.num [] p.place, p.go) := by simp only [firstS, hn1, hn2, hp1, hm]; rfl
  rw [e1]
  refine ⟨.agg (exL (sB [110, 117, 109]) ⟨#[]⟩ p.num [] .full p.place), rfl, rfl, ?_⟩
  refine meth_fn (ids := [15]) (hl _ (by simp)) Tryz.func171 Tryz.ntmps171 Tryz.results171 (by simp) ⟨_, rfl, by kernel_rfl, ?_⟩
  simp (maxSteps := 1000000) (contextual := true) (implicitDefEqProofs := false) [-decide_eq_true_eq, -decide_eq_false_iff_not, -Bool.not_and, -Bool.not_or, -Bool.and_eq_false_imp, -Int.natCast_add, psB, psC, place0 (hl _ (by simp [firstFs])), word0 (hl.sub (by simp [firstFs])), on0 (hl _ (by simp [firstFs])), hn1, hn2, hp1, hm, hix, hg, tokR, PS.go, sB, strOf, PS.num, exL]
  kernel_rfl
theorem first_neg (hl : Free L firstFs) (D : Nat) (p : PS) (hv : p.l.length < 4611686018427387904) (hi : p.inn ≤ 32) (hn : p.word 2 [45] = true ∨ (p.word 2 [45] = false ∧ p.word 2 [33] = true))
    (hr : p.inn < 32 → Ret L 171 [] { p with inn := p.inn + 1, k := p.k + 1 } (firstS D { p with inn := p.inn + 1, k := p.k + 1 }).1 (firstS D { p with inn := p.inn + 1, k := p.k + 1 }).2) :
    Ret L 171 [] p (firstS (D + 1) p).1 (firstS (D + 1) p).2 := by
  have hlt : decide (p.k < p.l.length) = true := by rcases hn with h | ⟨_, h⟩ <;> exact on_lt (word_on h)
  have hkl := of_decide_eq_true hlt
  have hix : idx 4 (p.l.map tokR) (p.k : Int) = some (.el (tokR p.tok) 0) := idx_tok hlt
  have hor : (p.word 2 [45] || p.word 2 [33]) = true := by rcases hn with h | ⟨_, h⟩ <;> simp [h]
  have main : ∀ op, op = sB (if p.text = [33] then [110, 111, 116] else [110, 101, 103]) → Ret L 171 [] p (firstS (D + 1) p).1 (firstS (D + 1) p).2 := by
    intro op hop
    have hw := within_any hl (F := 207) (by simp) (p := p) (f := fun q => (firstS D q).2) (e := exL op ⟨#[]⟩ 0 [] .full p.place) (e1 := exL op ⟨#[]⟩ 0 [exR (firstS D { p with inn := p.inn + 1, k := p.k + 1 }).1] .full p.place) hi (by omega) (exL_lone (.inr rfl)) (exL_lone (.inr rfl)) (fun q => Adv.first D q) (fun h => clo_neg (hl.sub (by simp [firstFs])) _ _ _ _ _ _ (hr h))
    obtain ⟨rows, hrows⟩ : ∃ rows, rows = if 32 ≤ p.inn then [] else [exR (firstS D { p with inn := p.inn + 1, k := p.k + 1 }).1] := ⟨_, rfl⟩
    have he2 : (if 32 ≤ p.inn then exL op ⟨#[]⟩ 0 [] .full (p.place : Int) else exL op ⟨#[]⟩ 0 [exR (firstS D { p with inn := p.inn + 1, k := p.k + 1 }).1] .full p.place) = exL op ⟨#[]⟩ 0 rows .full p.place := by rw [hrows]; split <;> rfl
    rw [he2] at hw
    have hcall := wit_call hw (exL_lone (.inr rfl)) (exL_lone (.inr rfl))
    have e1 : (firstS (D + 1) p).2 = p.within fun q => (firstS D q).2 := by simp only [firstS, if_pos hor]
    have e2 : exC (firstS (D + 1) p).1 = exL op ⟨#[]⟩ 0 rows .unk p.place := by
      simp only [firstS, if_pos hor]
      rw [← hop, hrows]
      split <;> rfl
    refine ⟨.agg (exL op ⟨#[]⟩ 0 rows .full p.place), rfl, by rw [e2]; rfl, ?_⟩
    rw [e1]
    simp only [exL] at hcall
    by_cases hsel : p.text = [33]
    · rw [if_pos hsel] at hop
      simp only [PS.text] at hsel
      subst hop
      simp only [sB, strOf] at hcall
      rcases hn with hn1 | ⟨hn1, hn2⟩
      · refine meth_fn (ids := [15]) (hl _ (by simp)) Tryz.func171 Tryz.ntmps171 Tryz.results171 (by simp) ⟨_, rfl, by kernel_rfl, ?_⟩
        simp (maxSteps := 1000000) (contextual := true) (implicitDefEqProofs := false) [-decide_eq_true_eq, -decide_eq_false_iff_not, -Bool.not_and, -Bool.not_or, -Bool.and_eq_false_imp, -Int.natCast_add, psB, psC, place0 (hl _ (by simp [firstFs])), word0 (hl.sub (by simp [firstFs])), hn1, hsel, hix, tokR, hcall, strOf_inj, exL, sB, strOf]
      · refine meth_fn (ids := [15]) (hl _ (by simp)) Tryz.func171 Tryz.ntmps171 Tryz.results171 (by simp) ⟨_, rfl, by kernel_rfl, ?_⟩
        simp (maxSteps := 1000000) (contextual := true) (implicitDefEqProofs := false) [-decide_eq_true_eq, -decide_eq_false_iff_not, -Bool.not_and, -Bool.not_or, -Bool.and_eq_false_imp, -Int.natCast_add, psB, psC, place0 (hl _ (by simp [firstFs])), word0 (hl.sub (by simp [firstFs])), hn1, hn2, hsel, hix, tokR, hcall, strOf_inj, exL, sB, strOf]
    · rw [if_neg hsel] at hop
      have hsel' : decide (p.tok.2.1 = [33]) = false := by simpa [PS.text] using hsel
      subst hop
      simp only [sB, strOf] at hcall
      rcases hn with hn1 | ⟨hn1, hn2⟩
      · refine meth_fn (ids := [15]) (hl _ (by simp)) Tryz.func171 Tryz.ntmps171 Tryz.results171 (by simp) ⟨_, rfl, by kernel_rfl, ?_⟩
        simp (maxSteps := 1000000) (contextual := true) (implicitDefEqProofs := false) [-decide_eq_true_eq, -decide_eq_false_iff_not, -Bool.not_and, -Bool.not_or, -Bool.and_eq_false_imp, -Int.natCast_add, psB, psC, place0 (hl _ (by simp [firstFs])), word0 (hl.sub (by simp [firstFs])), hn1, hsel', hix, tokR, hcall, strOf_inj, exL, sB, strOf]
      · refine meth_fn (ids := [15]) (hl _ (by simp)) Tryz.func171 Tryz.ntmps171 Tryz.results171 (by simp) ⟨_, rfl, by kernel_rfl, ?_⟩
        simp (maxSteps := 1000000) (contextual := true) (implicitDefEqProofs := false) [-decide_eq_true_eq, -decide_eq_false_iff_not, -Bool.not_and, -Bool.not_or, -Bool.and_eq_false_imp, -Int.natCast_add, psB, psC, place0 (hl _ (by simp [firstFs])), word0 (hl.sub (by simp [firstFs])), hn1, hn2, hsel', hix, tokR, hcall, strOf_inj, exL, sB, strOf]
  exact main _ rfl
theorem first_par (hl : Free L firstFs) (D : Nat) (p : PS) (hv : p.l.length < 4611686018427387904) (hi : p.inn ≤ 32) (hn1 : p.word 2 [45] = false) (hn2 : p.word 2 [33] = false) (hp1 : p.word 2 [40] = true)
    (hr : p.inn < 32 → Ret L 113 [int 0] { p with inn := p.inn + 1, k := p.k + 1 } (exprS D 0 { p with inn := p.inn + 1, k := p.k + 1 }).1 (exprS D 0 { p with inn := p.inn + 1, k := p.k + 1 }).2) :
    Ret L 171 [] p (firstS (D + 1) p).1 (firstS (D + 1) p).2 := by
  have hlt : decide (p.k < p.l.length) = true := on_lt (word_on hp1)
  have hkl := of_decide_eq_true hlt
  have e0 : (p.word 2 [45] || p.word 2 [33]) = false := by simp [hn1, hn2]
  have hadv := Adv.expr D 0 { p with inn := p.inn + 1, k := p.k + 1 }
  have hw := within_any hl (F := 208) (by simp) (p := p) (f := fun q => (exprS D 0 q).2.need [41]) (e := exL ⟨#[]⟩ ⟨#[]⟩ 0 [] .full p.place) (e1 := exC (exprS D 0 { p with inn := p.inn + 1, k := p.k + 1 }).1) hi (by omega) (exL_lone (.inr rfl)) (by cases (exprS D 0 { p with inn := p.inn + 1, k := p.k + 1 }).1; exact exL_lone (.inl rfl)) (fun q => (Adv.expr D 0 q).trans (.need _ _)) (fun h => clo_paren (hl.sub (by simp)) (by rw [hadv.l]; exact hv) _ _ _ _ _ _ (hr h))
  obtain ⟨op, name, n, rows, t, a, hrows, ht⟩ : ∃ op name n rows t a, (if 32 ≤ p.inn then exL ⟨#[]⟩ ⟨#[]⟩ 0 [] .full (p.place : Int) else exC (exprS D 0 { p with inn := p.inn + 1, k := p.k + 1 }).1) = exL op name n rows t a ∧ (t = .unk ∨ t = .full) := by
    split
    · exact ⟨_, _, _, _, _, _, rfl, .inr rfl⟩
    · cases (exprS D 0 { p with inn := p.inn + 1, k := p.k + 1 }).1; exact ⟨_, _, _, _, _, _, rfl, .inl rfl⟩
  have e2 : exC (firstS (D + 1) p).1 = exL op name n rows .unk a := by
    simp only [firstS, e0, hp1, if_true, Bool.false_eq_true, if_false]
    split at hrows
    · rename_i h; rw [if_pos h]; simp only [exL, List.cons.injEq, PV.sl.injEq] at hrows; obtain ⟨h1, h2, h3, ⟨h4, _⟩, h5, _⟩ := hrows; simp only [exL, exC, ← h1, ← h2, ← h3, ← h4, ← h5]; rfl
    · rename_i h; rw [if_neg h]
      generalize (exprS D 0 { p with inn := p.inn + 1, k := p.k + 1 }).1 = x at hrows
      cases x
      simp only [exL, exC, List.cons.injEq, PV.sl.injEq] at hrows
      obtain ⟨h1, h2, h3, ⟨h4, _⟩, h5, _⟩ := hrows; simp only [exL, exC, ← h1, ← h2, ← h3, ← h4, ← h5]
  rw [hrows] at hw
  have hcall := wit_call hw (exL_lone (.inr rfl)) (exL_lone ht)
  have e1 : (firstS (D + 1) p).2 = p.within fun q => (exprS D 0 q).2.need [41] := by simp only [firstS, e0, hp1, if_true, Bool.false_eq_true, if_false]
  refine ⟨.agg (exL op name n rows t a), rfl, by rw [e2]; rfl, ?_⟩
  rw [e1]
  simp only [exL] at hcall
  refine meth_fn (ids := [15]) (hl _ (by simp)) Tryz.func171 Tryz.ntmps171 Tryz.results171 (by simp) ⟨_, rfl, by kernel_rfl, ?_⟩
  simp (maxSteps := 1000000) (contextual := true) (implicitDefEqProofs := false) [-decide_eq_true_eq, -decide_eq_false_iff_not, -Bool.not_and, -Bool.not_or, -Bool.and_eq_false_imp, -Int.natCast_add, psB, psC, place0 (hl _ (by simp)), word0 (hl.sub (by simp)), hn1, hn2, hp1, hcall, exL]
theorem first_bool (hl : Free L firstFs) (D : Nat) (p : PS) (hv : p.l.length < 4611686018427387904) (hn1 : p.word 2 [45] = false) (hn2 : p.word 2 [33] = false) (hp1 : p.word 2 [40] = false) (hm : p.on 1 = false) (hb : p.word 0 [116, 114, 117, 101] = true ∨ (p.word 0 [116, 114, 117, 101] = false ∧ p.word 0 [102, 97, 108, 115, 101] = true)) :
    Ret L 171 [] p (firstS (D + 1) p).1 (firstS (D + 1) p).2 := by
  have hlt : decide (p.k < p.l.length) = true := by rcases hb with h | ⟨_, h⟩ <;> exact on_lt (word_on h)
  have hix : idx 4 (p.l.map tokR) (p.k : Int) = some (.el (tokR p.tok) 0) := idx_tok hlt
  have hg : IntKind.wrap .i64 ((p.k : Int) + 1) = ((p.k + 1 : Nat) : Int) := go_wrap hv hlt
  have hor : (p.word 0 [116, 114, 117, 101] || p.word 0 [102, 97, 108, 115, 101]) = true := by rcases hb with h | ⟨_, h⟩ <;> simp [h]
  have e1 : firstS (D + 1) p = (.mk (strOf p.text) ⟨#[]⟩ 0 [] p.place, p.go) := by simp only [firstS, hn1, hn2, hp1, hm, if_pos hor]; rfl
  rw [e1]
  refine ⟨.agg (exL (strOf p.text) ⟨#[]⟩ 0 [] .full p.place), rfl, rfl, ?_⟩
  rcases hb with hb1 | ⟨hb1, hb2⟩
  · refine meth_fn (ids := [15, 19]) (hl _ (by simp)) Tryz.func171 Tryz.ntmps171 Tryz.results171 (by simp) ⟨_, rfl, by kernel_rfl, ?_⟩
    simp (maxSteps := 1000000) (contextual := true) (implicitDefEqProofs := false) [-decide_eq_true_eq, -decide_eq_false_iff_not, -Bool.not_and, -Bool.not_or, -Bool.and_eq_false_imp, -Int.natCast_add, psB, psC, place0 (hl _ (by simp)), word0 (hl.sub (by simp)), on0 (hl _ (by simp)), hn1, hn2, hp1, hm, hix, hg, tokR, PS.go, PS.text, exL, hb1]
    trace_state
    kernel_rfl
  · refine meth_fn (ids := [15, 19]) (hl _ (by simp)) Tryz.func171 Tryz.ntmps171 Tryz.results171 (by simp) ⟨_, rfl, by kernel_rfl, ?_⟩
    simp (maxSteps := 1000000) (contextual := true) (implicitDefEqProofs := false) [-decide_eq_true_eq, -decide_eq_false_iff_not, -Bool.not_and, -Bool.not_or, -Bool.and_eq_false_imp, -Int.natCast_add, psB, psC, place0 (hl _ (by simp)), word0 (hl.sub (by simp)), on0 (hl _ (by simp)), hn1, hn2, hp1, hm, hix, hg, tokR, PS.go, PS.text, exL, hb1, hb2]
    kernel_rfl
theorem first_name (hl : Free L firstFs) (hF : L 116 = some fieldsH) (D : Nat) (p : PS) (hv : p.l.length < 4611686018427387904) (hi : p.inn ≤ 32) (hn1 : p.word 2 [45] = false) (hn2 : p.word 2 [33] = false) (hp1 : p.word 2 [40] = false) (hm : p.on 1 = false) (hb1 : p.word 0 [116, 114, 117, 101] = false) (hb2 : p.word 0 [102, 97, 108, 115, 101] = false)
    (hr : p.name.2.inn < 32 → Ret L 113 [int 0] { p.name.2 with inn := p.name.2.inn + 1, k := p.name.2.k + 1 } (exprS D 0 { p.name.2 with inn := p.name.2.inn + 1, k := p.name.2.k + 1 }).1 (exprS D 0 { p.name.2 with inn := p.name.2.inn + 1, k := p.name.2.k + 1 }).2) :
    Ret L 171 [] p (firstS (D + 1) p).1 (firstS (D + 1) p).2 := by
  have hN := Adv.name p
  generalize hq : p.name.2 = q at *
  have hv2 : q.l.length < 4611686018427387904 := by rw [hN.l]; exact hv
  have e0 : (p.word 2 [45] || p.word 2 [33]) = false := by simp [hn1, hn2]
  have e3 : (p.word 0 [116, 114, 117, 101] || p.word 0 [102, 97, 108, 115, 101]) = false := by simp [hb1, hb2]
  by_cases hw2 : q.word 2 [91] = true
  · have hkl := of_decide_eq_true (on_lt (word_on hw2))
    have hadv := Adv.expr D 0 { q with inn := q.inn + 1, k := q.k + 1 }
    have hi2 : q.inn ≤ 32 := by rw [hN.inn]; exact hi
    have hw := within_any hl (F := 209) (by simp) (p := q) (f := fun q => (exprS D 0 q).2.need [93]) (e := exL (sB [97, 116]) p.name.1 0 [] .full p.place) (e1 := exL (sB [97, 116]) p.name.1 0 [exR (exprS D 0 { q with inn := q.inn + 1, k := q.k + 1 }).1] .full p.place) hi2 (by omega) (exL_lone (.inr rfl)) (exL_lone (.inr rfl)) (fun q => (Adv.expr D 0 q).trans (.need _ _)) (fun h => clo_at (hl.sub (by simp)) (by rw [hadv.l]; exact hv2) _ _ _ _ _ _ (hr h))
    obtain ⟨rows, hrows⟩ : ∃ rows, rows = if 32 ≤ q.inn then [] else [exR (exprS D 0 { q with inn := q.inn + 1, k := q.k + 1 }).1] := ⟨_, rfl⟩
    have he2 : (if 32 ≤ q.inn then exL (sB [97, 116]) p.name.1 0 [] .full (p.place : Int) else exL (sB [97, 116]) p.name.1 0 [exR (exprS D 0 { q with inn := q.inn + 1, k := q.k + 1 }).1] .full p.place) = exL (sB [97, 116]) p.name.1 0 rows .full p.place := by rw [hrows]; split <;> rfl
    rw [he2] at hw
    have hcall := wit_call hw (exL_lone (.inr rfl)) (exL_lone (.inr rfl))
    have e1 : (firstS (D + 1) p).2 = q.within fun q => (exprS D 0 q).2.need [93] := by simp only [firstS, e0, hp1, hm, e3, hq, hw2, if_true, Bool.false_eq_true, if_false]
    have e2 : exC (firstS (D + 1) p).1 = exL (sB [97, 116]) p.name.1 0 rows .unk p.place := by
      simp only [firstS, e0, hp1, hm, e3, hq, hw2, if_true, Bool.false_eq_true, if_false]
      rw [hrows]
      split <;> rfl
    refine ⟨.agg (exL (sB [97, 116]) p.name.1 0 rows .full p.place), rfl, by rw [e2]; rfl, ?_⟩
    rw [e1]
    simp only [exL, sB, strOf] at hcall
    refine meth_fn (ids := [15]) (hl _ (by simp)) Tryz.func171 Tryz.ntmps171 Tryz.results171 (by simp) ⟨_, rfl, by kernel_rfl, ?_⟩
    simp (maxSteps := 1000000) (contextual := true) (implicitDefEqProofs := false) [-decide_eq_true_eq, -decide_eq_false_iff_not, -Bool.not_and, -Bool.not_or, -Bool.and_eq_false_imp, -Int.natCast_add, psB, psC, place0 (hl _ (by simp)), word0 (hl.sub (by simp)), on0 (hl _ (by simp)), name0 (hl.sub (by simp)) hF hv, hq, hw2, hn1, hn2, hp1, hm, hb1, hb2, hcall, exL, sB, strOf]
  · have hw3 : q.word 2 [91] = false := by simpa using hw2
    have e1 : firstS (D + 1) p = (.mk (sB [110, 97, 109, 101]) p.name.1 0 [] p.place, q) := by simp only [firstS, e0, hp1, hm, e3, hq, hw3, if_true, Bool.false_eq_true, if_false]
    rw [e1]
    refine ⟨.agg (exL (sB [110, 97, 109, 101]) p.name.1 0 [] .full p.place), rfl, rfl, ?_⟩
    refine meth_fn (ids := [15]) (hl _ (by simp)) Tryz.func171 Tryz.ntmps171 Tryz.results171 (by simp) ⟨_, rfl, by kernel_rfl, ?_⟩
    simp (maxSteps := 1000000) (contextual := true) (implicitDefEqProofs := false) [-decide_eq_true_eq, -decide_eq_false_iff_not, -Bool.not_and, -Bool.not_or, -Bool.and_eq_false_imp, -Int.natCast_add, psB, psC, place0 (hl _ (by simp)), word0 (hl.sub (by simp)), on0 (hl _ (by simp)), name0 (hl.sub (by simp)) hF hv, hq, hw3, hn1, hn2, hp1, hm, hb1, hb2, exL, sB, strOf]
end Go.Proofs.YtfgoedndpcblpaaGreatDoor.Pv
end
section
namespace Go.Proofs.YtfgoedndpcblpaaGreatDoor.Pv
open Go Go.Proofs Go.Proofs.YtfgoedndpcblpaaGreatDoor.Lx Go.Proofs.YtfgoedndpcblpaaGreatDoor.Ps
set_option linter.unusedSimpArgs false
set_option linter.unusedVariables false
variable {L : Lib} {σ : Sto}
@[simp] def exprFs : List FuncId := [172, 175, 119, 117, 176, 118, 122, 45, 104, 86, 177, 206, 207, 208, 209, 171, 170, 113]
theorem levels_ok (hl : Free L exprFs) : callE (EV Tryz.prog L) 170 [] σ = some (strsB levB, σ) := by
  refine call_fn (ids := []) (hl _ (by simp)) Tryz.func170 Tryz.ntmps170 Tryz.results170 (by simp) rfl rfl ⟨_, rfl, by kernel_rfl, ?_⟩
  simp (maxSteps := 1000000) (contextual := true) (implicitDefEqProofs := false) [-decide_eq_true_eq, -decide_eq_false_iff_not, -Bool.not_and, -Bool.not_or, -Bool.and_eq_false_imp, -Int.natCast_add, strsB, levB, strOf]
  rfl
theorem lev_plain : ∀ lev, lev < 5 → (strOf (levB.getD lev [])).size < 4294967281 ∧ ((strOf (levB.getD lev [])).data.toList.all fun b => decide (b.toNat < 128)) = true := by decide
theorem lev_two : ∀ lev, lev < 5 → (decide (2 < ((levL lev).length : Int)) = decide (lev = 2)) ∧ (levL lev).length < 4611686018427387904 := by decide
theorem expr_five (hl : Free L exprFs) {p p' : PS} {e : Ex} (h : Ret L 171 [] p e p') : Ret L 113 [int 5] p e p' := by
  have hc := fun bx gr => h.call (σ := ⟨psB p :: bx, gr⟩) rfl rfl (b := 0) rfl
  simp only [psB, psC, List.set_cons_zero] at hc
  have hx := exC_all e
  refine ⟨.agg (exC e), by simp only [PV.ptrs]; exact (exC_row e).2.1, by simp only [PV.era]; rw [(exC_row e).2.2], ?_⟩
  refine meth_fn (ids := [6, 8]) (hl _ (by simp)) Tryz.func113 Tryz.ntmps113 Tryz.results113 (by simp) ⟨_, rfl, by kernel_rfl, ?_⟩
  simp (maxSteps := 1000000) (contextual := true) (implicitDefEqProofs := false) [-decide_eq_true_eq, -decide_eq_false_iff_not, -Bool.not_and, -Bool.not_or, -Bool.and_eq_false_imp, -Int.natCast_add, psB, psC, levels_ok hl, strsB, levB, hc, hx.1, hx.2.1, hx.2.2.2.2]
theorem exR_app (x y : Ex) (bx : List Bx) (gr : List (Nat × Nat)) : appL 5 72 ⟨bx, gr⟩ [exR x] .full [exR y] = some (.sl [exR x, exR y] (.grow gr.length), ⟨bx, gr ++ [(2, 5)]⟩) := by
  have h : ∀ z, sized 5 [exR z] = true := fun z => by simp [sized, (exC_all z).2.2.1]
  unfold appL
  rw [if_pos ⟨h x, h y, by simp⟩]
  rfl
theorem gather_ps {p : PS} {bx : List Bx} : gather (psB p :: bx) 64 [0] [] = [0] := by
  simp [gather, ptrsAt, Bx.ptrs, (psC_flat p).ptrs]
theorem ret_fn {f : FuncId} {fn : Func} {n : Nat} {ids : List Nat} {rs : Array ResultVar} {args : List PV} {p p' : PS} {e : Ex} (hl : L f = none) (hf : Tryz.prog.funcs[f]? = some fn) (hn : fn.ntmps = n) (hrs : fn.results = rs) (hlen : (PV.ptr 0 0 :: args).length ≤ n)
    (h : ∃ c, fn.body = some c ∧ statOk Tryz.prog ids c = true ∧ WP Tryz.prog L n ids c ⟨initE (.ptr 0 0 :: args), ⟨[psB p], []⟩⟩ fun ctl s => (ctl = .next ∨ ctl = .ret) ∧ Run (outE Tryz.prog s.env s.sto rs.toList) fun r => r.ptrs = [] ∧ r.era = .agg (exC e) ∧ ∃ more, s.sto.bx = psB p' :: more) : Ret L f args p e p' := by
  obtain ⟨c, hb, hst, k, ctl, s', h1, h2, r', h3, h4, h5, more, h6⟩ := h
  subst hn; subst hrs
  refine ⟨r', h4, h5, more, s'.sto.gr, EV_fn hl hf hb hst hlen ⟨k, ctl, s', h1, h2, h3, ?_⟩⟩
  rw [← h6]
def boxNo (n : Nat) : Nat := if n ≤ 2 then n else 3
theorem expr_loop (hl : Free L exprFs) (hF : L 116 = some fieldsH) (D lev : Nat) (hlev : lev < 5) (p : PS) (hv : p.l.length < 4611686018427387904) (hi : p.inn ≤ 32)
    (h1 : Ret L 113 [int ((lev + 1 : Nat) : Int)] p (exprS D (lev + 1) p).1 (exprS D (lev + 1) p).2)
    (h2 : ∀ q : PS, q.l = p.l → q.inn = p.inn → Ret L 113 [int ((lev + 1 : Nat) : Int)] q (exprS D (lev + 1) q).1 (exprS D (lev + 1) q).2) :
    Ret L 113 [int (lev : Int)] p (exprS (D + 1) lev p).1 (exprS (D + 1) lev p).2 := by
  have e0 : exprS (D + 1) lev p = chainS (exprS D (lev + 1)) lev p.l.length (exprS D (lev + 1) p).1 (exprS D (lev + 1) p).2 := by simp only [exprS]; rw [if_neg (by omega)]
  have hadv := Adv.expr D (lev + 1) p
  have hc1 := fun bx gr => h1.call (σ := ⟨psB p :: bx, gr⟩) rfl rfl (b := 0) rfl
  simp only [psB, psC, List.set_cons_zero] at hc1
  rw [e0]
  generalize exprS D (lev + 1) p = r1 at *
  obtain ⟨ex0, q0⟩ := r1
  simp only at hc1 hadv ⊢
  obtain ⟨R, hR⟩ : ∃ R, R = chainS (exprS D (lev + 1)) lev p.l.length ex0 q0 := ⟨_, rfl⟩
  rw [← hR]
  have hx := exC_all ex0
  have hw : IntKind.wrap .i64 ((lev : Int) + 1) = ((lev + 1 : Nat) : Int) := wrap_succ (by omega)
  have hlb : levB.length = 5 := rfl
  have hne : decide ((lev : Int) = 5) = false := by simp; omega
  have hil : idx 1 (levB.map fun x => [FV.im (.string (strOf x))]) (lev : Int) = some (.el [.im (.string (strOf (levB.getD lev [])))] 0) := by
    refine idx_get ?_ rfl
    rw [List.getElem?_map, List.getD_eq_getElem?_getD, List.getElem?_eq_getElem (by omega)]; rfl
  have hfl := fun σ => fields_ok (L := L) (σ := σ) hF _ (lev_plain lev hlev)
  rw [strOf_list] at hfl
  have hlv := fun σ => levels_ok (L := L) (σ := σ) hl
  obtain ⟨lb, hlbv⟩ : ∃ lb, levB.getD lev [] = lb := ⟨_, rfl⟩
  have hll : levL lev = Lib.fields lb := by unfold levL; rw [hlbv]
  rw [hlbv] at hil hfl
  refine ret_fn (ids := [6, 8]) (hl _ (by simp)) Tryz.func113 Tryz.ntmps113 Tryz.results113 (by simp) ⟨_, rfl, by kernel_rfl, ?_⟩
  simp only [strsB] at hlv hfl
  simp (maxSteps := 1000000) (contextual := true) (implicitDefEqProofs := false) [-decide_eq_true_eq, -decide_eq_false_iff_not, -Bool.not_and, -Bool.not_or, -Bool.and_eq_false_imp, -Int.natCast_add, psB, psC, hlv, strsB, hlb, hne, hil, hfl, hw, hc1, hx.1, hx.2.1, hx.2.2.2.2]
  refine WP.loop (fun m s' => ∃ (ex : Ex) (q : PS) (op name : ByteArray) (n : Int) (rows : List (List FV)) (tag : Tag) (a : Int) (junk : List Bx) (gr : List (Nat × Nat)), exC ex = [str op, str name, int n, .sl rows .unk, int a] ∧ q.l = p.l ∧ q.inn = p.inn ∧ q.l.length ≤ q.k + m ∧ chainS (exprS D (lev + 1)) lev m ex q = R ∧ s'.sto = ⟨psB q :: .cells [str ⟨#[]⟩, str ⟨#[]⟩, int 0, .sl [] .full, int 0] :: .cells [str op, str name, int n, .sl rows tag, int a] :: junk, gr⟩ ∧ s'.env 0 = .ptr 0 0 ∧ s'.env 1 = int lev ∧ s'.env 4 = .ptr 1 0 ∧ s'.env 5 = strsB (levL lev) ∧ s'.env 6 = .ptr 2 0) p.l.length ?_ ?_
  · cases ex0 with
    | mk op name n l a => exact ⟨.mk op name n l a, q0, op, name, n, exRs l, .unk, a, [], [], rfl, hadv.l, hadv.inn, by rw [hadv.l]; exact Nat.le_add_left _ _, hR.symm, rfl, rfl, rfl, rfl, by simp [hll, strsB], rfl⟩
  · rintro m ⟨env, τ⟩ ⟨ex, q, op, name, n, rows, tag, a, junk, gr, g1, g2, g3, g4, g5, g6, g7, g8, g9, g10, g11⟩
    simp only at g6 g7 g8 g9 g10 g11
    subst g6
    have hix : decide (q.k < q.l.length) = true → idx 4 (q.l.map tokR) (q.k : Int) = some (.el (tokR q.tok) 0) := idx_tok
    have hon : q.on 2 = true → decide (q.k < q.l.length) = true := on_lt
    have hct := fun σ s => contains_ok (L := L) (σ := σ) (hl.sub (by simp)) (levL lev) s (lev_two lev hlev).2
    simp only [strsB] at hct g10
    by_cases hc : (q.on 2 && (levL lev).contains q.text) = true
    · have hlt : decide (q.k < q.l.length) = true := by simp only [Bool.and_eq_true] at hc; exact on_lt hc.1
      have hc2 : q.on 2 = true ∧ (levL lev).contains q.text = true := by simpa only [Bool.and_eq_true] using hc
      obtain ⟨hc3, hc4⟩ := hc2
      have hc5 : decide (q.tok.2.1 ∈ levL lev) = true := by simpa [PS.text] using hc4
      have hg : IntKind.wrap .i64 ((q.k : Int) + 1) = ((q.k + 1 : Nat) : Int) := go_wrap (by rw [g2]; exact hv) hlt
      have hnx := fun bx gr => (h2 q.go g2 g3).call (σ := ⟨psB q.go :: bx, gr⟩) rfl rfl (b := 0) rfl
      have hadv2 := Adv.expr D (lev + 1) q.go
      have hm : ∃ m', m = m' + 1 := ⟨m - 1, by have := of_decide_eq_true hlt; omega⟩
      obtain ⟨m, rfl⟩ := hm
      simp only [chainS] at g5
      rw [if_pos hc] at g5
      generalize exprS D (lev + 1) q.go = r2 at *
      obtain ⟨y, q2⟩ := r2
      simp only at g5 hadv2
      simp only [psB, psC, List.set_cons_zero, PS.go] at hnx
      have hgat : ∀ (k : Nat) (bx : List Bx), gather (.cells [.sl (q.l.map tokR) .unk, .im (.int .i64 k), int q.e, int q.no, int q.bl, int q.inn] :: bx) 64 [0] [] = [0] := fun k bx => gather_ps (p := { q with k := k })
      have hapx := exR_app ex y
      have hxe := exC_all ex
      have hxn := exC_all y
      have hrow : exR ex = [.im (.string op), .im (.string name), .im (.int .i64 n), .sl rows, .im (.int .i64 a)] := by
        cases ex; simp only [exC, List.cons.injEq, PV.im.injEq, Value.string.injEq, Value.int.injEq, PV.sl.injEq] at g1
        obtain ⟨h1, h2, ⟨_, h3⟩, ⟨h4, _⟩, ⟨_, h5⟩, _⟩ := g1
        simp only [exR, h1, h2, h3, h4, h5]
      rw [hrow] at hapx
      simp (maxSteps := 1000000) (contextual := true) (implicitDefEqProofs := false) [-decide_eq_true_eq, -decide_eq_false_iff_not, -Bool.not_and, -Bool.not_or, -Bool.and_eq_false_imp, -Int.natCast_add, psB, psC, g7, g8, g9, g10, g11, on0 (hl _ (by simp)), hix hlt, tokR, hct, strOf_list, hc3, hc5, place0 (hl _ (by simp)), hgat, hg, hw, hnx, PS.go, hapx, hxn.1, hxn.2.1, hxn.2.2.2.1, (exC_row y).1, (exC_row y).2.1, (lev_two lev hlev).1]
      have hb : boxNo (junk.length + 1 + 1 + 1) = 3 := if_neg (by omega)
      refine ⟨orderOk_ren boxNo ?_, orderOk_ren boxNo ?_, fun hd => ?_, fun hd => ?_⟩
      · simp only [List.map, Cls.ren, Option.map, hb]; kernel_rfl
      · simp only [List.map, Cls.ren, Option.map, hb]; kernel_rfl
      · rw [if_pos (of_decide_eq_true hd)] at g5
        rw [← g5]
        simp [exC, exRs, hrow, PS.text]
      · rw [if_neg (of_decide_eq_false hd)] at g5
        exact ⟨m, Nat.lt_succ_self m, _, q2, _, _, _, _, .grow gr.length, _, rfl, hadv2.l.trans g2, hadv2.inn.trans g3, by rw [hadv2.l]; have := hadv2.k; simp only [PS.go] at this ⊢; omega, g5, by simp [exRs, hrow, PS.text], rfl⟩
    · have hcf : q.on 2 = true → (levL lev).contains q.text = false := fun h => by
        simp only [h, Bool.true_and] at hc; simpa using hc
      have hcf2 : q.on 2 = true → decide (q.tok.2.1 ∈ levL lev) = false := fun h => by have := hcf h; simpa [PS.text] using this
      have hend : R = (ex, q) := by
        rw [← g5]
        cases m with
        | zero => rfl
        | succ m => simp only [chainS]; rw [if_neg hc]
      simp (maxSteps := 1000000) (contextual := true) (implicitDefEqProofs := false) [-decide_eq_true_eq, -decide_eq_false_iff_not, -Bool.not_and, -Bool.not_or, -Bool.and_eq_false_imp, -Int.natCast_add, psB, psC, g7, g8, g9, g10, g11, on0 (hl _ (by simp)), hix, hon, tokR, hct, strOf_list, hcf2]
      simp [hend, g1]
end Go.Proofs.YtfgoedndpcblpaaGreatDoor.Pv
end
section
namespace Go.Proofs.YtfgoedndpcblpaaGreatDoor.Pv
open Go Go.Proofs Go.Proofs.YtfgoedndpcblpaaGreatDoor.Lx Go.Proofs.YtfgoedndpcblpaaGreatDoor.Ps
set_option linter.unusedSimpArgs false
set_option linter.unusedVariables false
variable {L : Lib} {σ : Sto}
theorem both_ok (hl : Free L exprFs) (hF : L 116 = some fieldsH) : ∀ D : Nat, (∀ lev (p : PS), lev ≤ 5 → p.inn ≤ 32 → p.l.length < 4611686018427387904 → 1 + 7 * (32 - p.inn) + (6 - lev) ≤ D → Ret L 113 [int (lev : Int)] p (exprS D lev p).1 (exprS D lev p).2) ∧
    ∀ p : PS, p.inn ≤ 32 → p.l.length < 4611686018427387904 → 1 + 7 * (32 - p.inn) ≤ D → Ret L 171 [] p (firstS D p).1 (firstS D p).2
  | 0 => ⟨fun lev p _ _ _ h => by omega, fun p _ _ h => by omega⟩
  | D + 1 => by
    have hlf : Free L firstFs := hl.sub (by simp [firstFs])
    obtain ⟨hE, hS⟩ := both_ok hl hF D
    refine ⟨fun lev p hv hi hk hD => ?_, fun p hi hk hD => ?_⟩
    · by_cases h5 : lev = 5
      · subst h5
        have e0 : exprS (D + 1) 5 p = firstS D p := by simp only [exprS, if_true]
        rw [e0]
        exact expr_five hl (hS p hi hk (by omega))
      · exact expr_loop hl hF D lev (by omega) p hk hi (hE (lev + 1) p (by omega) hi hk (by omega)) (fun q h1 h2 => hE (lev + 1) q (by omega) (by omega) (by rw [h1]; exact hk) (by rw [h2]; omega))
    · have hin : ∀ q : PS, q.l = p.l → q.inn = p.inn → q.inn < 32 → Ret L 113 [int 0] { q with inn := q.inn + 1, k := q.k + 1 } (exprS D 0 { q with inn := q.inn + 1, k := q.k + 1 }).1 (exprS D 0 { q with inn := q.inn + 1, k := q.k + 1 }).2 := fun q h1 h2 h3 =>
        hE 0 { q with inn := q.inn + 1, k := q.k + 1 } (by omega) h3 (by show q.l.length < _; rw [h1]; exact hk) (by show 1 + 7 * (32 - (q.inn + 1)) + (6 - 0) ≤ D; omega)
      have hn0 : p.inn < 32 → Ret L 171 [] { p with inn := p.inn + 1, k := p.k + 1 } (firstS D { p with inn := p.inn + 1, k := p.k + 1 }).1 (firstS D { p with inn := p.inn + 1, k := p.k + 1 }).2 := fun h =>
        hS { p with inn := p.inn + 1, k := p.k + 1 } h hk (by show 1 + 7 * (32 - (p.inn + 1)) ≤ D; omega)
      cases c1 : p.word 2 [45] with
      | true => exact first_neg hlf D p hk hi (.inl c1) hn0
      | false =>
      cases c2 : p.word 2 [33] with
      | true => exact first_neg hlf D p hk hi (.inr ⟨c1, c2⟩) hn0
      | false =>
      cases c3 : p.word 2 [40] with
      | true => exact first_par hlf D p hk hi c1 c2 c3 (hin p rfl rfl)
      | false =>
      cases c4 : p.on 1 with
      | true => exact first_num hlf D p hk c1 c2 c3 c4
      | false =>
      cases c5 : p.word 0 [116, 114, 117, 101] with
      | true => exact first_bool hlf D p hk c1 c2 c3 c4 (.inl c5)
      | false =>
      cases c6 : p.word 0 [102, 97, 108, 115, 101] with
      | true => exact first_bool hlf D p hk c1 c2 c3 c4 (.inr ⟨c5, c6⟩)
      | false => exact first_name hlf hF D p hk hi c1 c2 c3 c4 c5 c6 (hin p.name.2 (Adv.name p).l (Adv.name p).inn)
theorem expr_ok (hl : Free L exprFs) (hF : L 116 = some fieldsH) {p : PS} (hi : p.inn = 0) (hk : p.l.length < 4611686018427387904) {D : Nat} (hD : 231 ≤ D) : Ret L 113 [int 0] p (exprS D 0 p).1 (exprS D 0 p).2 :=
  (both_ok hl hF D).1 0 p (by omega) (by omega) hk (by omega)
end Go.Proofs.YtfgoedndpcblpaaGreatDoor.Pv
end
section
namespace Go.Proofs.YtfgoedndpcblpaaGreatDoor.Pv
open Go Go.Proofs Go.Proofs.YtfgoedndpcblpaaGreatDoor.Lx Go.Proofs.YtfgoedndpcblpaaGreatDoor.Ps
set_option linter.unusedSimpArgs false
set_option linter.unusedVariables false
variable {L : Lib} {σ : Sto}
theorem lexS_len : ∀ (f a : Nat) (l : List UInt8) (ts : List Tk), lexS f a l = .ok ts → ts.length ≤ f
  | 0, a, l, ts, h => by
    cases l with
    | nil => simp only [lexS] at h; cases h; simp
    | cons b bs => simp only [lexS] at h; cases h; simp
  | f + 1, a, [], ts, h => by simp only [lexS] at h; cases h; simp
  | f + 1, a, b :: bs, ts, h => by
    simp only [lexS] at h
    split at h
    · generalize hr : lexS f _ _ = r at h
      cases r with
      | ok t2 => simp only [LexR.cons] at h; cases h; have := lexS_len f _ _ _ hr; simp only [List.length_cons]; omega
      | no a e => simp only [LexR.cons] at h; cases h
    · cases h
def lexL : LexR → List Tk
  | .ok l => l
  | .no _ _ => []
def lexN : LexR → Int
  | .ok _ => 0
  | .no _ e => e
def lexP (n : Nat) : LexR → Nat
  | .ok _ => n
  | .no a _ => a
theorem lexOut_eq (n : Nat) (r : LexR) : lexOut n r = .tup [.sl ((lexL r).map tokR) .unk, int (lexP n r), int (lexN r)] := by cases r <;> rfl
theorem lexL_len (s : ByteArray) : (lexL (lexA s.data.toList)).length ≤ s.size := by
  cases h : lexA s.data.toList with
  | ok l => have := lexS_len _ _ _ _ h; rw [← size_list] at this; exact this
  | no a e => exact Nat.zero_le _
def zeroEx : Ex := .mk ⟨#[]⟩ ⟨#[]⟩ 0 [] 0
def finP (p : PS) : PS := if p.no = 0 then (if p.k < p.l.length then p.stop 130 else p) else p
def startP (s : ByteArray) : PS := ⟨lexL (lexA s.data.toList), 0, s.size, 0, 0, 0⟩
def exprOut (s : ByteArray) : Ex × Nat × Int :=
  if 4096 < s.size then (zeroEx, 0, 111) else
  if lexN (lexA s.data.toList) = 0 then
    (if (finP (exprS 231 0 (startP s)).2).no = 0 then ((exprS 231 0 (startP s)).1, s.size, 0) else (zeroEx, (finP (exprS 231 0 (startP s)).2).place, (finP (exprS 231 0 (startP s)).2).no))
  else (zeroEx, lexP s.size (lexA s.data.toList), lexN (lexA s.data.toList))
@[simp] def readFs : List FuncId := exprFs ++ [139, 137, 138, 136, 135, 64, 140, 141, 183, 226, 65, 22, 112, 111, 43]
theorem expr1_ok {p p' : PS} {e : Ex} (hl : Free L [112]) (h : Ret L 113 [int 0] p e p') : Ret L 112 [] p e p' := by
  have hc := fun bx gr => h.call (σ := ⟨psB p :: bx, gr⟩) rfl rfl (b := 0) rfl
  simp only [psB, psC, List.set_cons_zero] at hc
  have hx := exC_all e
  refine ⟨.agg (exC e), by simp only [PV.ptrs]; exact (exC_row e).2.1, by simp only [PV.era]; rw [(exC_row e).2.2], ?_⟩
  refine meth_fn (ids := []) (hl _ (by simp)) Tryz.func112 Tryz.ntmps112 Tryz.results112 (by simp) ⟨_, rfl, by kernel_rfl, ?_⟩
  simp (maxSteps := 1000000) (contextual := true) (implicitDefEqProofs := false) [-decide_eq_true_eq, -decide_eq_false_iff_not, -Bool.not_and, -Bool.not_or, -Bool.and_eq_false_imp, -Int.natCast_add, psB, psC, hc, hx.1, hx.2.1, hx.2.2.2.2]
theorem read_long (hl : Free L readFs) (hF : L 116 = some fieldsH) (s : ByteArray) (hs : 4096 < s.size) (hs2 : s.size < 9223372036854775808) : callE (EV Tryz.prog L) 111 [str s, .im (.func (.func 112) #[] #[])] σ = some (.tup [.agg (exC (exprOut s).1), int (exprOut s).2.1, int (exprOut s).2.2], σ) := by
  have e0 : exprOut s = (zeroEx, 0, 111) := by unfold exprOut; rw [if_pos hs]
  rw [e0]
  have hx := fun σ => Lex_long (L := L) (σ := σ) (hl.sub (by simp)) s hs hs2
  refine call_fn (ids := [10]) (hl _ (by simp)) Tryz.func111 Tryz.ntmps111 Tryz.results111 (by simp) rfl rfl ⟨_, rfl, by kernel_rfl, ?_⟩
  simp (maxSteps := 1000000) (contextual := true) (implicitDefEqProofs := false) [-decide_eq_true_eq, -decide_eq_false_iff_not, -Bool.not_and, -Bool.not_or, -Bool.and_eq_false_imp, -Int.natCast_add, hx]
  rfl
theorem read_ok (hl : Free L readFs) (hF : L 116 = some fieldsH) (s : ByteArray) (hs : s.size ≤ 4096) : callE (EV Tryz.prog L) 111 [str s, .im (.func (.func 112) #[] #[])] σ = some (.tup [.agg (exC (exprOut s).1), int (exprOut s).2.1, int (exprOut s).2.2], σ) := by
  have hx := fun σ => Lex_ok (L := L) (σ := σ) (hl.sub (by simp)) hF s hs
  simp only [lexOut_eq] at hx
  have hlen := lexL_len s
  have hR := expr1_ok (hl.sub (by simp)) (expr_ok (hl.sub (by simp +contextual)) hF (p := startP s) rfl (show (lexL (lexA s.data.toList)).length < _ by omega) (D := 231) (by omega))
  have hadv := Adv.expr 231 0 (startP s)
  have e0 : exprOut s = if lexN (lexA s.data.toList) = 0 then
    (if (finP (exprS 231 0 (startP s)).2).no = 0 then ((exprS 231 0 (startP s)).1, s.size, 0) else (zeroEx, (finP (exprS 231 0 (startP s)).2).place, (finP (exprS 231 0 (startP s)).2).no))
  else (zeroEx, lexP s.size (lexA s.data.toList), lexN (lexA s.data.toList)) := by unfold exprOut; rw [if_neg (by omega)]
  have hc := fun x0 x1 bx gr => hR.call (σ := ⟨x0 :: x1 :: psB (startP s) :: bx, gr⟩) rfl rfl (b := 2) rfl
  simp only [psB, psC, List.set_cons_succ, List.set_cons_zero] at hc
  generalize exprS 231 0 (startP s) = r at *
  obtain ⟨e, p⟩ := r
  simp only at hc hadv e0
  have hl0 : p.l = lexL (lexA s.data.toList) := hadv.l
  unfold startP at hc
  simp only at hc
  generalize lexL (lexA s.data.toList) = l at *
  generalize lexN (lexA s.data.toList) = no at *
  generalize lexP s.size (lexA s.data.toList) = at_ at *
  have hst := fun x0 x1 bx gr => (stop_ok (hl _ (by simp)) p 130).call (σ := ⟨x0 :: x1 :: psB p :: bx, gr⟩) rfl rfl rfl (b := 2) rfl
  have hpl := fun x0 x1 bx gr => (place_ok (hl _ (by simp)) p).call (σ := ⟨x0 :: x1 :: psB p :: bx, gr⟩) rfl rfl rfl (b := 2) rfl
  have hpl2 := fun x0 x1 bx gr => (place_ok (hl _ (by simp)) (p.stop 130)).call (σ := ⟨x0 :: x1 :: psB (p.stop 130) :: bx, gr⟩) rfl rfl rfl (b := 2) rfl
  simp only [psB, psC, List.set_cons_succ, List.set_cons_zero] at hst hpl hpl2
  have hc2 : ∀ x0 x1 bx gr, callE (EV Tryz.prog L) 112 [.ptr 2 0] ⟨x0 :: x1 :: .cells [.sl (l.map tokR) .unk, .im (.int .i64 0), .im (.int .i64 s.size), .im (.int .i64 0), .im (.int .i64 0), .im (.int .i64 0)] :: bx, gr⟩ = some (.agg (exC e), ⟨x0 :: x1 :: .cells [.sl (p.l.map tokR) .unk, int p.k, int p.e, int p.no, int p.bl, int p.inn] :: bx, gr⟩) := hc
  have hx2 := exC_all e
  refine call_fn (ids := [10]) (hl _ (by simp)) Tryz.func111 Tryz.ntmps111 Tryz.results111 (by simp) rfl rfl ⟨_, rfl, by kernel_rfl, ?_⟩
  simp (maxSteps := 1000000) (contextual := true) (implicitDefEqProofs := false) [-decide_eq_true_eq, -decide_eq_false_iff_not, -Bool.not_and, -Bool.not_or, -Bool.and_eq_false_imp, -Int.natCast_add, hx, hc2, hst, hpl, hpl2, hx2.1, hx2.2.1, hx2.2.2.2.2]
  have hee := exC_row e
  rw [e0]
  refine ⟨fun hn => ?_, fun hn => ⟨fun h1 h2 => ?_, fun h1 => ⟨fun h2 => ?_, fun h2 => ?_⟩⟩⟩
  · rw [if_neg (of_decide_eq_false hn)]; exact ⟨rfl, rfl, rfl⟩
  · have hf : finP p = p.stop 130 := by unfold finP; rw [if_pos (of_decide_eq_true h1), if_pos (by rw [hl0]; exact of_decide_eq_true h2)]
    rw [if_pos (of_decide_eq_true hn), hf]
    refine ⟨fun h3 => ?_, fun h3 => ?_⟩
    · rw [if_neg (of_decide_eq_false h3)]; exact ⟨by kernel_rfl, rfl, rfl, rfl⟩
    · rw [if_pos (of_decide_eq_true h3)]; exact ⟨hee.2.1, hee.2.2, rfl, rfl⟩
  · have hf : finP p = p := by unfold finP; rw [if_neg (of_decide_eq_false h2)]
    rw [if_pos (of_decide_eq_true hn), hf, if_neg (of_decide_eq_false h2)]; exact ⟨by kernel_rfl, rfl, rfl, rfl⟩
  · have hf : finP p = p := by
      unfold finP; rw [if_pos (of_decide_eq_true h2), if_neg (fun h3 => ?_)]
      rw [hl0] at h3
      rw [h2, decide_eq_true h3] at h1; cases h1
    rw [if_pos (of_decide_eq_true hn), hf, if_pos (of_decide_eq_true h2)]; exact ⟨hee.2.1, hee.2.2, rfl, rfl⟩
theorem Expr_ok (hl : Free L readFs) (hF : L 116 = some fieldsH) (s : ByteArray) (hs2 : s.size < 9223372036854775808) : callE (EV Tryz.prog L) 43 [str s] σ = some (.tup [.agg (exC (exprOut s).1), int (exprOut s).2.1, int (exprOut s).2.2], σ) := by
  have hr := fun σ => show callE (EV Tryz.prog L) 111 [str s, .im (.func (.func 112) #[] #[])] σ = some (.tup [.agg (exC (exprOut s).1), int (exprOut s).2.1, int (exprOut s).2.2], σ) from (by
    by_cases h : 4096 < s.size
    · exact read_long hl hF s h hs2
    · exact read_ok hl hF s (by omega))
  have hx := exC_all (exprOut s).1
  have hee := exC_row (exprOut s).1
  refine call_fn (ids := []) (hl _ (by simp)) Tryz.func43 Tryz.ntmps43 Tryz.results43 (by simp) rfl rfl ⟨_, rfl, by kernel_rfl, ?_⟩
  simp (maxSteps := 1000000) (contextual := true) (implicitDefEqProofs := false) [-decide_eq_true_eq, -decide_eq_false_iff_not, -Bool.not_and, -Bool.not_or, -Bool.and_eq_false_imp, -Int.natCast_add, hr, hx.1, hx.2.1, hx.2.2.2.2, hee.2.1, hee.2.2]
end Go.Proofs.YtfgoedndpcblpaaGreatDoor.Pv
end
section
namespace Go.Proofs.YtfgoedndpcblpaaGreatDoor.Pv
open Go Go.Proofs Go.RowKit Go.Proofs.YtfgoedndpcblpaaGreatDoor.Lx Go.Proofs.YtfgoedndpcblpaaGreatDoor.Ps
set_option linter.unusedSimpArgs false
set_option linter.unusedVariables false
noncomputable section
theorem EV_hand {T : Base} {L : Lib} (h : ∀ k, HandOk Tryz.prog T (evF Tryz.prog L k)) : HandOk Tryz.prog T (EV Tryz.prog L) := fun f args σ r σ' e => by
  obtain ⟨k, hk⟩ := EV_iff.1 e
  exact h k f args σ r σ' hk
theorem told_fun {T : Base} {L : Lib} (hH : HandOk Tryz.prog T (EV Tryz.prog L)) {f : FuncId} {h : List PV → Sto → Option (PV × Sto)} (hh : ∀ args σ r σ', h args σ = some (r, σ') → callE (EV Tryz.prog L) f args σ = some (r, σ')) : FunOk Tryz.prog T f h :=
  fun args σ r σ' e G w vals hT hI hl ha => call_sound hH (hh args σ r σ' e) hT hI hl ha
def decT : List FV → Option Tk
  | [.im (.int .i64 k), .im (.string s), .im (.int .i64 n), .im (.int .i64 a)] => if 0 ≤ a then some (k, s.data.toList, n, a.toNat) else none
  | _ => none
def decTs : List (List FV) → Option (List Tk)
  | [] => some []
  | x :: xs => match decT x, decTs xs with
    | some y, some ys => some (y :: ys)
    | _, _ => none
def decP : List PV → Option PS
  | [.sl rows .unk, .im (.int .i64 k), .im (.int .i64 e), .im (.int .i64 no), .im (.int .i64 bl), .im (.int .i64 inn)] => match decTs rows with
    | some l => if 0 ≤ k ∧ 0 ≤ e ∧ 0 ≤ bl ∧ 0 ≤ inn then some ⟨l, k.toNat, e.toNat, no, bl.toNat, inn.toNat⟩ else none
    | none => none
  | _ => none
theorem decT_spec {x : List FV} {t : Tk} (h : decT x = some t) : x = tokR t := by
  unfold decT at h
  split at h
  · rename_i k s n a
    split at h
    · rename_i ha
      cases h
      have e : ((a.toNat : Nat) : Int) = a := by omega
      simp only [tokR, strOf_self, e]
    · cases h
  · cases h
theorem decTs_spec : ∀ {x : List (List FV)} {t : List Tk}, decTs x = some t → x = t.map tokR
  | [], t, h => by cases h; rfl
  | x :: xs, t, h => by
    simp only [decTs] at h
    split at h
    · rename_i y ys h1 h2
      cases h
      rw [List.map_cons, ← decT_spec h1, ← decTs_spec h2]
    · cases h
theorem decP_spec {cs : List PV} {p : PS} (h : decP cs = some p) : cs = psC p := by
  unfold decP at h
  split at h
  · rename_i rows k e no bl inn
    split at h
    · rename_i l hl
      split at h
      · rename_i hc
        cases h
        obtain ⟨h1, h2, h3, h4⟩ := hc
        have e1 : ((k.toNat : Nat) : Int) = k := by omega
        have e2 : ((e.toNat : Nat) : Int) = e := by omega
        have e3 : ((bl.toNat : Nat) : Int) = bl := by omega
        have e4 : ((inn.toNat : Nat) : Int) = inn := by omega
        simp only [psC, e1, e2, e3, e4, decTs_spec hl]
      · cases h
    · cases h
  · cases h
def methH (g : PS → List PV → Option (PV × PS)) : List PV → Sto → Option (PV × Sto)
  | .ptr b 0 :: args, σ => match σ.bx[b]? with
    | some (.cells cs) => match decP cs with
      | some p => (g p args).map fun x => (x.1, { σ with bx := σ.bx.set b (psB x.2) })
      | none => none
    | _ => none
  | _, _ => none
theorem meth_told {L : Lib} {f : FuncId} {g : PS → List PV → Option (PV × PS)} (hg : ∀ p args r p', g p args = some (r, p') → ptrsL args = [] ∧ eraL args = args ∧ ∃ r0, r0.ptrs = [] ∧ r0.era = r ∧ Meth L f args p r0 p') : ∀ args σ r σ', methH g args σ = some (r, σ') → callE (EV Tryz.prog L) f args σ = some (r, σ') := by
  intro args σ r σ' h
  unfold methH at h
  split at h
  · rename_i σ0 b args0
    split at h
    · rename_i cs hc
      split at h
      · rename_i p hp
        obtain ⟨x, h1, h2⟩ := Option.map_eq_some_iff.1 h
        cases h2
        obtain ⟨h3, h4, r0, h5, h6, h7⟩ := hg p args0 x.1 x.2 h1
        rw [← h6]
        exact h7.call h3 h4 h5 (by rw [hc, decP_spec hp])
      · cases h
    · cases h
  · cases h
theorem meth_still {g : PS → List PV → Option (PV × PS)} (hg : ∀ p args r p', g p args = some (r, p') → p' = p) : ∀ args σ r σ', methH g args σ = some (r, σ') → σ' = σ := by
  intro args σ r σ' h
  unfold methH at h
  split at h
  · rename_i σ0 b args0
    split at h
    · rename_i cs hc
      split at h
      · rename_i p hp
        obtain ⟨x, h1, h2⟩ := Option.map_eq_some_iff.1 h
        cases h2
        obtain rfl := hg p args0 x.1 x.2 h1
        have hlt := (List.getElem?_eq_some_iff.1 hc).1
        have : σ.bx.set b (psB x.2) = σ.bx := by
          apply List.ext_getElem?
          intro i
          by_cases hi : i = b
          · subst hi; rw [List.getElem?_set_self hlt, hc, decP_spec hp]
          · rw [List.getElem?_set_ne (Ne.symm hi)]
        rw [this]
      · cases h
    · cases h
  · cases h
def lexH : List PV → Sto → Option (PV × Sto)
  | [.im (.string s)], σ => if s.size ≤ 4096 then some (lexOut s.size (Lx.lexA s.data.toList), σ) else none
  | _, _ => none
def onG (p : PS) : List PV → Option (PV × PS)
  | [.im (.int .i64 k)] => some (boo (p.on k), p)
  | _ => none
def wordG (p : PS) : List PV → Option (PV × PS)
  | [.im (.int .i64 k), .im (.string s)] => some (boo (p.word k s.data.toList), p)
  | _ => none
def placeG (p : PS) : List PV → Option (PV × PS)
  | [] => some (int p.place, p)
  | _ => none
def stopG (p : PS) : List PV → Option (PV × PS)
  | [.im (.int .i64 x)] => some (.tup [], p.stop x)
  | _ => none
def takeG (p : PS) : List PV → Option (PV × PS)
  | [.im (.int .i64 k), .im (.string s)] => if p.l.length < 4611686018427387904 then some (boo (p.take k s.data.toList).1, (p.take k s.data.toList).2) else none
  | _ => none
def needG (p : PS) : List PV → Option (PV × PS)
  | [.im (.string s)] => if p.l.length < 4611686018427387904 then some (.tup [], p.need s.data.toList) else none
  | _ => none
def nameG (p : PS) : List PV → Option (PV × PS)
  | [] => if p.l.length < 4611686018427387904 then some (str p.name.1, p.name.2) else none
  | _ => none
def exprG (p : PS) : List PV → Option (PV × PS)
  | [.im (.int .i64 0)] => if p.l.length < 4611686018427387904 ∧ p.inn = 0 then some (.agg (exC (exprS 231 0 p).1), (exprS 231 0 p).2) else none
  | _ => none
def reservedH : List PV → Sto → Option (PV × Sto)
  | [.im (.string s)], σ => some (boo (reserved s.data.toList), σ)
  | _, _ => none
abbrev Hd := List PV → Sto → Option (PV × Sto)
def look : List (FuncId × Hd) → Lib → Lib
  | [], L => L
  | x :: l, L => fun f => if f = x.1 then some x.2 else look l L f
theorem look_all {Q : FuncId → Hd → Prop} {L : Lib} : ∀ {l : List (FuncId × Hd)}, (∀ x ∈ l, Q x.1 x.2) → (∀ f h, L f = some h → Q f h) → ∀ f h, look l L f = some h → Q f h
  | [], _, h2, f, h, e => h2 f h e
  | x :: l, h1, h2, f, h, e => by
    simp only [look] at e
    by_cases hf : f = x.1
    · rw [if_pos hf] at e; cases e; subst hf; exact h1 x (List.mem_cons_self ..)
    · rw [if_neg hf] at e; exact look_all (fun y hy => h1 y (List.mem_cons_of_mem _ hy)) h2 f h e
def libL : Lib := look [(116, fieldsH), (96, joinH), (163, repeatH), (205, formatH), (201, copyH), (99, stringH)] fun _ => none
def libX : Lib := look [(22, lexH), (172, methH onG), (175, methH wordG), (118, methH placeG), (117, methH stopG), (119, methH takeG), (176, methH needG), (122, methH nameG), (113, methH exprG), (45, reservedH)] libL
end
end Go.Proofs.YtfgoedndpcblpaaGreatDoor.Pv
end
