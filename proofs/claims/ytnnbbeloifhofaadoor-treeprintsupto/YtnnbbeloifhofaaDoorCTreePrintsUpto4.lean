/- Texts of this claim, joined. -/
import Derived.Test.YtnnbbeloifhofaaDoorCTreePrintsUpto0
import Derived.Test.YtnnbbeloifhofaaDoorCTreePrintsUpto3
import Derived.Test.YtnnbbeloifhofaaDoorCTreePrintsUpto2
import Derived.Test.YtnnbbeloifhofaaDoorCTreePrintsUpto1
section
namespace Go.Proofs.YtnnbbeloifhofaaDoor.P
open Go.RowKit Go.Proofs.YtnnbbeloifhofaaDoorW.PrintWords Go.Proofs.YtnnbbeloifhofaaDoorW.PrintLast Go.Proofs.YtnnbbeloifhofaaDoorW.PrintMore
attribute [local go_sem] max2_int min2_int max_two min_two max_three min_three max_four min_four
set_option linter.unusedVariables false
set_option linter.unusedSimpArgs false
mutual
def helmsmanref12_block.l0:Nat→List (S29)→ByteArray→ByteArray→Int→Option (ByteArray)
 | 0,_,_,_,_=>none
 | k+1,x0,x1,x5,x6=>if x6 < (x0.length:Int) then (if 0≤x6 then (if x5.size+x1.size≤9223372036854775807 then (if ((rd_T29 x0 x6).f0).toList=([115,101,116]:List UInt8) then (if (x5++x1).size+((rd_T29 x0 x6).f1).size≤9223372036854775807 then (if ((x5++x1)++((rd_T29 x0 x6).f1)).size+3≤9223372036854775807 then (if 0 < (((rd_T29 x0 x6).f2).length:Int) then ((helmsmanref12_Text.f k ((rd_T24 ((rd_T29 x0 x6).f2) 0).f0) ((rd_T24 ((rd_T29 x0 x6).f2) 0).f1) ((rd_T24 ((rd_T29 x0 x6).f2) 0).f2) ((rd_T24 ((rd_T29 x0 x6).f2) 0).f3) ((rd_T24 ((rd_T29 x0 x6).f2) 0).f4)).bind fun t262=>(if (((x5++x1)++((rd_T29 x0 x6).f1))++(⟨#[32,61,32]⟩:ByteArray)).size+t262.size≤9223372036854775807 then (if ((((x5++x1)++((rd_T29 x0 x6).f1))++(⟨#[32,61,32]⟩:ByteArray))++t262).size+2≤9223372036854775807 then (helmsmanref12_block.l0 k x0 x1 (((((x5++x1)++((rd_T29 x0 x6).f1))++(⟨#[32,61,32]⟩:ByteArray))++t262)++(⟨#[59,10]⟩:ByteArray)) (wrap64 (x6+1))) else (none)) else (none))) else (none)) else (none)) else (none)) else (if ((rd_T29 x0 x6).f0).toList=([112,117,116]:List UInt8) then (if (x5++x1).size+((rd_T29 x0 x6).f1).size≤9223372036854775807 then (if ((x5++x1)++((rd_T29 x0 x6).f1)).size+1≤9223372036854775807 then (if 0 < (((rd_T29 x0 x6).f2).length:Int) then ((helmsmanref12_Text.f k ((rd_T24 ((rd_T29 x0 x6).f2) 0).f0) ((rd_T24 ((rd_T29 x0 x6).f2) 0).f1) ((rd_T24 ((rd_T29 x0 x6).f2) 0).f2) ((rd_T24 ((rd_T29 x0 x6).f2) 0).f3) ((rd_T24 ((rd_T29 x0 x6).f2) 0).f4)).bind fun t264=>(if (((x5++x1)++((rd_T29 x0 x6).f1))++(⟨#[91]⟩:ByteArray)).size+t264.size≤9223372036854775807 then (if ((((x5++x1)++((rd_T29 x0 x6).f1))++(⟨#[91]⟩:ByteArray))++t264).size+4≤9223372036854775807 then (if 1 < (((rd_T29 x0 x6).f2).length:Int) then ((helmsmanref12_Text.f k ((rd_T24 ((rd_T29 x0 x6).f2) 1).f0) ((rd_T24 ((rd_T29 x0 x6).f2) 1).f1) ((rd_T24 ((rd_T29 x0 x6).f2) 1).f2) ((rd_T24 ((rd_T29 x0 x6).f2) 1).f3) ((rd_T24 ((rd_T29 x0 x6).f2) 1).f4)).bind fun t266=>(if (((((x5++x1)++((rd_T29 x0 x6).f1))++(⟨#[91]⟩:ByteArray))++t264)++(⟨#[93,32,61,32]⟩:ByteArray)).size+t266.size≤9223372036854775807 then (if ((((((x5++x1)++((rd_T29 x0 x6).f1))++(⟨#[91]⟩:ByteArray))++t264)++(⟨#[93,32,61,32]⟩:ByteArray))++t266).size+2≤9223372036854775807 then (helmsmanref12_block.l0 k x0 x1 (((((((x5++x1)++((rd_T29 x0 x6).f1))++(⟨#[91]⟩:ByteArray))++t264)++(⟨#[93,32,61,32]⟩:ByteArray))++t266)++(⟨#[59,10]⟩:ByteArray)) (wrap64 (x6+1))) else (none)) else (none))) else (none)) else (none)) else (none))) else (none)) else (none)) else (none)) else (if ((rd_T29 x0 x6).f0).toList=([105,110,112,117,116]:List UInt8) then (if (x5++x1).size+((rd_T29 x0 x6).f1).size≤9223372036854775807 then (if ((x5++x1)++((rd_T29 x0 x6).f1)).size+8≤9223372036854775807 then (if (((rd_T29 x0 x6).f2).length:Int) > 0 then (if (((x5++x1)++((rd_T29 x0 x6).f1))++(⟨#[32,61,32,105,110,112,117,116]⟩:ByteArray)).size+1≤9223372036854775807 then (if 0 < (((rd_T29 x0 x6).f2).length:Int) then ((helmsmanref12_Text.f k ((rd_T24 ((rd_T29 x0 x6).f2) 0).f0) ((rd_T24 ((rd_T29 x0 x6).f2) 0).f1) ((rd_T24 ((rd_T29 x0 x6).f2) 0).f2) ((rd_T24 ((rd_T29 x0 x6).f2) 0).f3) ((rd_T24 ((rd_T29 x0 x6).f2) 0).f4)).bind fun t268=>(if ((((x5++x1)++((rd_T29 x0 x6).f1))++(⟨#[32,61,32,105,110,112,117,116]⟩:ByteArray))++(⟨#[40]⟩:ByteArray)).size+t268.size≤9223372036854775807 then (if (((((x5++x1)++((rd_T29 x0 x6).f1))++(⟨#[32,61,32,105,110,112,117,116]⟩:ByteArray))++(⟨#[40]⟩:ByteArray))++t268).size+2≤9223372036854775807 then (if 1 < (((rd_T29 x0 x6).f2).length:Int) then ((helmsmanref12_Text.f k ((rd_T24 ((rd_T29 x0 x6).f2) 1).f0) ((rd_T24 ((rd_T29 x0 x6).f2) 1).f1) ((rd_T24 ((rd_T29 x0 x6).f2) 1).f2) ((rd_T24 ((rd_T29 x0 x6).f2) 1).f3) ((rd_T24 ((rd_T29 x0 x6).f2) 1).f4)).bind fun t270=>(if ((((((x5++x1)++((rd_T29 x0 x6).f1))++(⟨#[32,61,32,105,110,112,117,116]⟩:ByteArray))++(⟨#[40]⟩:ByteArray))++t268)++(⟨#[44,32]⟩:ByteArray)).size+t270.size≤9223372036854775807 then (if (((((((x5++x1)++((rd_T29 x0 x6).f1))++(⟨#[32,61,32,105,110,112,117,116]⟩:ByteArray))++(⟨#[40]⟩:ByteArray))++t268)++(⟨#[44,32]⟩:ByteArray))++t270).size+1≤9223372036854775807 then (if ((((((((x5++x1)++((rd_T29 x0 x6).f1))++(⟨#[32,61,32,105,110,112,117,116]⟩:ByteArray))++(⟨#[40]⟩:ByteArray))++t268)++(⟨#[44,32]⟩:ByteArray))++t270)++(⟨#[41]⟩:ByteArray)).size+2≤9223372036854775807 then (helmsmanref12_block.l0 k x0 x1 (((((((((x5++x1)++((rd_T29 x0 x6).f1))++(⟨#[32,61,32,105,110,112,117,116]⟩:ByteArray))++(⟨#[40]⟩:ByteArray))++t268)++(⟨#[44,32]⟩:ByteArray))++t270)++(⟨#[41]⟩:ByteArray))++(⟨#[59,10]⟩:ByteArray)) (wrap64 (x6+1))) else (none)) else (none)) else (none))) else (none)) else (none)) else (none))) else (none)) else (none)) else (if (((x5++x1)++((rd_T29 x0 x6).f1))++(⟨#[32,61,32,105,110,112,117,116]⟩:ByteArray)).size+2≤9223372036854775807 then (helmsmanref12_block.l0 k x0 x1 ((((x5++x1)++((rd_T29 x0 x6).f1))++(⟨#[32,61,32,105,110,112,117,116]⟩:ByteArray))++(⟨#[59,10]⟩:ByteArray)) (wrap64 (x6+1))) else (none))) else (none)) else (none)) else (if ((rd_T29 x0 x6).f0).toList=([97,115,115,101,114,116]:List UInt8) then (helmsmanref12_block.j1 k x0 x1 (x5++x1) x6 ((rd_T29 x0 x6).f0) (((rd_T29 x0 x6).f0).toList == ([97,115,115,101,114,116]:List UInt8)) ((rd_T29 x0 x6).f0) ((rd_T29 x0 x6).f1) ((rd_T29 x0 x6).f2) ((rd_T29 x0 x6).f3) ((rd_T29 x0 x6).f4) ((rd_T29 x0 x6).f5)) else (helmsmanref12_block.j1 k x0 x1 (x5++x1) x6 ((rd_T29 x0 x6).f0) (((rd_T29 x0 x6).f0).toList == ([97,115,115,117,109,101]:List UInt8)) ((rd_T29 x0 x6).f0) ((rd_T29 x0 x6).f1) ((rd_T29 x0 x6).f2) ((rd_T29 x0 x6).f3) ((rd_T29 x0 x6).f4) ((rd_T29 x0 x6).f5)))))) else (none)) else (none)) else (some x5)
def helmsmanref12_block.j1:Nat→List (S29)→ByteArray→ByteArray→Int→ByteArray→Bool→ByteArray→ByteArray→List (S24)→List (S29)→List (S29)→Int→Option (ByteArray)
 | 0,_,_,_,_,_,_,_,_,_,_,_,_=>none
 | k+1,x0,x1,x5,x6,x22,x87,x261000,x261001,x261002,x261003,x261004,x261005=>if x87=true then (if x5.size+x261000.size≤9223372036854775807 then (if (x5++x261000).size+1≤9223372036854775807 then (if 0 < (x261002.length:Int) then ((helmsmanref12_Text.f k ((rd_T24 x261002 0).f0) ((rd_T24 x261002 0).f1) ((rd_T24 x261002 0).f2) ((rd_T24 x261002 0).f3) ((rd_T24 x261002 0).f4)).bind fun t272=>(if ((x5++x261000)++(⟨#[32]⟩:ByteArray)).size+t272.size≤9223372036854775807 then (if (((x5++x261000)++(⟨#[32]⟩:ByteArray))++t272).size+2≤9223372036854775807 then (helmsmanref12_block.l0 k x0 x1 ((((x5++x261000)++(⟨#[32]⟩:ByteArray))++t272)++(⟨#[59,10]⟩:ByteArray)) (wrap64 (x6+1))) else (none)) else (none))) else (none)) else (none)) else (none)) else (if x22.toList=([99,97,108,108]:List UInt8) then (if x5.size+5≤9223372036854775807 then (if (x5++(⟨#[99,97,108,108,32]⟩:ByteArray)).size+x261001.size≤9223372036854775807 then (if ((x5++(⟨#[99,97,108,108,32]⟩:ByteArray))++x261001).size+2≤9223372036854775807 then (helmsmanref12_block.l0 k x0 x1 (((x5++(⟨#[99,97,108,108,32]⟩:ByteArray))++x261001)++(⟨#[59,10]⟩:ByteArray)) (wrap64 (x6+1))) else (none)) else (none)) else (none)) else (if x22.toList=([115,107,105,112]:List UInt8) then (if x5.size+6≤9223372036854775807 then (helmsmanref12_block.l0 k x0 x1 (x5++(⟨#[115,107,105,112,59,10]⟩:ByteArray)) (wrap64 (x6+1))) else (none)) else (if x22.toList=([119,104,105,108,101]:List UInt8) then (if x5.size+6≤9223372036854775807 then (if 0 < (x261002.length:Int) then ((helmsmanref12_Text.f k ((rd_T24 x261002 0).f0) ((rd_T24 x261002 0).f1) ((rd_T24 x261002 0).f2) ((rd_T24 x261002 0).f3) ((rd_T24 x261002 0).f4)).bind fun t274=>(if (x5++(⟨#[119,104,105,108,101,32]⟩:ByteArray)).size+t274.size≤9223372036854775807 then (if ((x5++(⟨#[119,104,105,108,101,32]⟩:ByteArray))++t274).size+3≤9223372036854775807 then (if x1.size+2≤9223372036854775807 then ((helmsmanref12_block.f k x261003 (x1++(⟨#[32,32]⟩:ByteArray))).bind fun t275=>(if (((x5++(⟨#[119,104,105,108,101,32]⟩:ByteArray))++t274)++(⟨#[32,123,10]⟩:ByteArray)).size+t275.size≤9223372036854775807 then (if ((((x5++(⟨#[119,104,105,108,101,32]⟩:ByteArray))++t274)++(⟨#[32,123,10]⟩:ByteArray))++t275).size+x1.size≤9223372036854775807 then (if (((((x5++(⟨#[119,104,105,108,101,32]⟩:ByteArray))++t274)++(⟨#[32,123,10]⟩:ByteArray))++t275)++x1).size+2≤9223372036854775807 then (helmsmanref12_block.l0 k x0 x1 ((((((x5++(⟨#[119,104,105,108,101,32]⟩:ByteArray))++t274)++(⟨#[32,123,10]⟩:ByteArray))++t275)++x1)++(⟨#[125,10]⟩:ByteArray)) (wrap64 (x6+1))) else (none)) else (none)) else (none))) else (none)) else (none)) else (none))) else (none)) else (none)) else (if x22.toList=([105,102]:List UInt8) then (if x5.size+3≤9223372036854775807 then (if 0 < (x261002.length:Int) then ((helmsmanref12_Text.f k ((rd_T24 x261002 0).f0) ((rd_T24 x261002 0).f1) ((rd_T24 x261002 0).f2) ((rd_T24 x261002 0).f3) ((rd_T24 x261002 0).f4)).bind fun t277=>(if (x5++(⟨#[105,102,32]⟩:ByteArray)).size+t277.size≤9223372036854775807 then (if ((x5++(⟨#[105,102,32]⟩:ByteArray))++t277).size+3≤9223372036854775807 then (if x1.size+2≤9223372036854775807 then ((helmsmanref12_block.f k x261003 (x1++(⟨#[32,32]⟩:ByteArray))).bind fun t278=>(if (((x5++(⟨#[105,102,32]⟩:ByteArray))++t277)++(⟨#[32,123,10]⟩:ByteArray)).size+t278.size≤9223372036854775807 then (if (x261004.length:Int) > 0 then (if ((((x5++(⟨#[105,102,32]⟩:ByteArray))++t277)++(⟨#[32,123,10]⟩:ByteArray))++t278).size+x1.size≤9223372036854775807 then (if (((((x5++(⟨#[105,102,32]⟩:ByteArray))++t277)++(⟨#[32,123,10]⟩:ByteArray))++t278)++x1).size+9≤9223372036854775807 then ((helmsmanref12_block.f k x261004 (x1++(⟨#[32,32]⟩:ByteArray))).bind fun t279=>(if ((((((x5++(⟨#[105,102,32]⟩:ByteArray))++t277)++(⟨#[32,123,10]⟩:ByteArray))++t278)++x1)++(⟨#[125,32,101,108,115,101,32,123,10]⟩:ByteArray)).size+t279.size≤9223372036854775807 then (if (((((((x5++(⟨#[105,102,32]⟩:ByteArray))++t277)++(⟨#[32,123,10]⟩:ByteArray))++t278)++x1)++(⟨#[125,32,101,108,115,101,32,123,10]⟩:ByteArray))++t279).size+x1.size≤9223372036854775807 then (if ((((((((x5++(⟨#[105,102,32]⟩:ByteArray))++t277)++(⟨#[32,123,10]⟩:ByteArray))++t278)++x1)++(⟨#[125,32,101,108,115,101,32,123,10]⟩:ByteArray))++t279)++x1).size+2≤9223372036854775807 then (helmsmanref12_block.l0 k x0 x1 (((((((((x5++(⟨#[105,102,32]⟩:ByteArray))++t277)++(⟨#[32,123,10]⟩:ByteArray))++t278)++x1)++(⟨#[125,32,101,108,115,101,32,123,10]⟩:ByteArray))++t279)++x1)++(⟨#[125,10]⟩:ByteArray)) (wrap64 (x6+1))) else (none)) else (none)) else (none))) else (none)) else (none)) else (if ((((x5++(⟨#[105,102,32]⟩:ByteArray))++t277)++(⟨#[32,123,10]⟩:ByteArray))++t278).size+x1.size≤9223372036854775807 then (if (((((x5++(⟨#[105,102,32]⟩:ByteArray))++t277)++(⟨#[32,123,10]⟩:ByteArray))++t278)++x1).size+2≤9223372036854775807 then (helmsmanref12_block.l0 k x0 x1 ((((((x5++(⟨#[105,102,32]⟩:ByteArray))++t277)++(⟨#[32,123,10]⟩:ByteArray))++t278)++x1)++(⟨#[125,10]⟩:ByteArray)) (wrap64 (x6+1))) else (none)) else (none))) else (none))) else (none)) else (none)) else (none))) else (none)) else (none)) else (helmsmanref12_block.l0 k x0 x1 x5 (wrap64 (x6+1)))))))
def helmsmanref12_block.f:Nat→List (S29)→ByteArray→Option (ByteArray)
 | 0,_,_=>none
 | k+1,l0,a1=>helmsmanref12_block.l0 k l0 a1 (⟨#[]⟩:ByteArray) 0
end
def helmsmanref12_block.T9:Bool × List (List Nat × List Nat):=(true,[([],[]),([],[]),([1],[1]),([0,2],[0,2]),([3],[3]),([],[]),([5],[5]),([6],[6]),([7],[7]),([8],[8]),([4,9],[4,9]),([10],[10]),([11,9,0,1,2,3,4,5,6,7,8,9,10,11],[0,11])])
def helmsmanref12_block.B9:List Nat:=[0,0,2,7,15,0,32,96,224,480,1023,2047,4095]
theorem helmsmanref12_block.tab9:rtab .any (opsOf Tryd.f42 9)=helmsmanref12_block.T9:=by kernel_rfl
theorem helmsmanref12_block.bits9:waitsOk helmsmanref12_block.T9.2 helmsmanref12_block.B9=true:=by kernel_rfl
def helmsmanref12_block.T11:Bool × List (List Nat × List Nat):=(true,[([],[]),([],[]),([1],[1]),([0,2],[0,2]),([3],[3]),([],[]),([5],[5]),([6],[6]),([7],[7]),([8],[8]),([4,9],[4,9]),([10],[10]),([],[]),([12],[12]),([13],[13]),([14],[14]),([15,9],[15]),([11,16],[11,16]),([17],[17]),([18,16,0,1,2,3,4,5,6,7,8,9,10,11,12,13,14,15,16,17,18],[0,18])])
def helmsmanref12_block.B11:List Nat:=[0,0,2,7,15,0,32,96,224,480,1023,2047,0,4096,12288,28672,62432,131071,262143,524287]
theorem helmsmanref12_block.tab11:rtab .any (opsOf Tryd.f42 11)=helmsmanref12_block.T11:=by kernel_rfl
theorem helmsmanref12_block.bits11:waitsOk helmsmanref12_block.T11.2 helmsmanref12_block.B11=true:=by kernel_rfl
def helmsmanref12_block.T15:Bool × List (List Nat × List Nat):=(true,[([],[]),([0],[0]),([],[]),([2],[2]),([3],[3]),([4],[4]),([5],[5]),([1,6],[1,6]),([7],[7]),([],[]),([9],[9]),([10],[10]),([11],[11]),([12,6],[12]),([8,13],[8,13]),([14],[14]),([15,13,0,1,2,3,4,5,6,7,8,9,10,11,12,13,14,15],[0,15])])
def helmsmanref12_block.B15:List Nat:=[0,1,0,4,12,28,60,127,255,0,512,1536,3584,7804,16383,32767,65535]
theorem helmsmanref12_block.tab15:rtab .any (opsOf Tryd.f42 15)=helmsmanref12_block.T15:=by kernel_rfl
theorem helmsmanref12_block.bits15:waitsOk helmsmanref12_block.T15.2 helmsmanref12_block.B15=true:=by kernel_rfl
def helmsmanref12_block.T19:Bool × List (List Nat × List Nat):=(true,[([],[]),([],[]),([1],[1]),([0,2],[0,2]),([3],[3]),([],[]),([5],[5]),([6],[6]),([7],[7]),([8],[8]),([4,9],[4,9]),([10],[10]),([11,9,0,1,2,3,4,5,6,7,8,9,10,11],[0,11])])
def helmsmanref12_block.B19:List Nat:=[0,0,2,7,15,0,32,96,224,480,1023,2047,4095]
theorem helmsmanref12_block.tab19:rtab .any (opsOf Tryd.f42 19)=helmsmanref12_block.T19:=by kernel_rfl
theorem helmsmanref12_block.bits19:waitsOk helmsmanref12_block.T19.2 helmsmanref12_block.B19=true:=by kernel_rfl
def helmsmanref12_block.T25:Bool × List (List Nat × List Nat):=(true,[([],[]),([0],[0]),([],[]),([2],[2]),([3],[3]),([4],[4]),([5],[5]),([1,6],[1,6]),([7],[7]),([],[]),([9],[9]),([],[]),([11],[11]),([10,12,6],[10,12]),([8,13],[8,13]),([],[]),([14,15],[14,15]),([16],[16]),([17,13,0,1,2,3,4,5,6,7,8,9,10,11,12,13,14,15,16,17],[0,17])])
def helmsmanref12_block.B25:List Nat:=[0,1,0,4,12,28,60,127,255,0,512,0,2048,7804,16383,0,65535,131071,262143]
theorem helmsmanref12_block.tab25:rtab .any (opsOf Tryd.f42 25)=helmsmanref12_block.T25:=by kernel_rfl
theorem helmsmanref12_block.bits25:waitsOk helmsmanref12_block.T25.2 helmsmanref12_block.B25=true:=by kernel_rfl
def helmsmanref12_block.T27:Bool × List (List Nat × List Nat):=(true,[([],[]),([0],[0]),([],[]),([2],[2]),([3],[3]),([4],[4]),([5],[5]),([1,6],[1,6]),([7],[7]),([],[]),([9],[9]),([],[]),([11],[11]),([10,12,6],[10,12]),([8,13],[8,13]),([14,13,0,1,2,3,4,5,6,7,8,9,10,11,12,13,14],[0,14])])
def helmsmanref12_block.B27:List Nat:=[0,1,0,4,12,28,60,127,255,0,512,0,2048,7804,16383,32767]
theorem helmsmanref12_block.tab27:rtab .any (opsOf Tryd.f42 27)=helmsmanref12_block.T27:=by kernel_rfl
theorem helmsmanref12_block.bits27:waitsOk helmsmanref12_block.T27.2 helmsmanref12_block.B27=true:=by kernel_rfl
set_option maxHeartbeats 8000000 in
set_option maxRecDepth 100000 in
theorem helmsmanref12_block.calls (k:Nat) : ∀ (A0:Option Addr) (c0:Nat) (l0:List (S29)) (a1:ByteArray) (r:ByteArray) (w:World) (hr0:Kd.C k29 w A0 l0.length l0) (hc0:l0.length≤c0) (h:helmsmanref12_block.f k l0 a1=some r),
  Calls Tryd.prog 42 #[.slice A0 l0.length c0,.string a1] w fun e w'=>e=.returned (.string r)∧Below w.heap.size w w':=by
 induction k using Nat.strongRecOn with
 | _ k ih=>
 intro A0 c0 l0 a1 r w hr0 hc0 h
 cases k with
 | zero=>exact absurd h (by simp [helmsmanref12_block.f])
 | succ k=>
 simp only [helmsmanref12_block.f] at h
 have hu29:=Tryd.underlying29
 have hu24:=Tryd.underlying24
 have HR0:=Aside0.mk hr0
 have HC0:=Aside0.mk hc0
 clear hr0 hc0
 have HB:=Aside0.mk (Below.refl w.heap.size w)
 have H:(helmsmanref12_block.l0 k l0 a1 (⟨#[]⟩:ByteArray) 0)=some r:=h
 clear h
 have H':=Aside0.mk H
 clear H
 go_enter Tryd.func42,Tryd.ntmps42
 go_wp2
 (try simp only [Act.put,List.setIfInBounds_toArray,List.set_cons_succ,List.set_cons_zero])
 go_loopg [5,6] k (fun kq v5 v6 w'=>∃ (x5_1:ByteArray) (x6_1:Int),v5=.string x5_1∧v6=.int .i64 x6_1∧Aside0 (helmsmanref12_block.l0 kq l0 a1 x5_1 x6_1=some r)∧Aside0 (kq≤k)∧Aside0 (Below w.heap.size w w'))
 case atStart=>exact ⟨((⟨#[]⟩:ByteArray)),(0),rf_,rf_,H',⟨Nat.le_refl _⟩,⟨bl_ HB.out⟩⟩
 case round=>
  clear H'
  try clear p2
  obtain ⟨x5_1,x6_1,rfl,rfl,HA,HK1,HB⟩:=hrel
  cases gk with
  | zero=>exact absurd HA.out (by simp [helmsmanref12_block.l0])
  | succ k1=>
   have H:=HA.out
   clear HA
   simp only [helmsmanref12_block.l0] at H
   by_cases c3:x6_1 < (l0.length:Int)
   ·rw [if_pos c3] at H
    have c3b0:=decide_eq_true c3
    clear c3
    revert H
    refine gd_ fun c4 H=>?_
    have c4b0:=decide_eq_true c4
    clear c4
    revert H
    refine gd_ fun c5 H=>?_
    have c5b0:=eq_true c5
    have c5b1:=decide_eq_true c5
    have c5b2:=nlt_ c5
    by_cases c6:((rd_T29 l0 x6_1).f0).toList=([115,101,116]:List UInt8)
    ·rw [if_pos c6] at H
     have c6b0:=bqt_ c6
     have c6b1:=bnf_ c6
     clear c6
     revert H
     refine gd_ fun c7 H=>?_
     have c7b0:=eq_true c7
     have c7b1:=decide_eq_true c7
     have c7b2:=nlt_ c7
     try have c7b3:(9223372036854775807 < x5_1.size+a1.size+((rd_T29 l0 x6_1).f1).size)=False:=by have h_:=c7b2;simp only [ByteArray.size_append] at h_;exact h_
     try have c7b4:(x5_1.size+a1.size+((rd_T29 l0 x6_1).f1).size≤9223372036854775807)=True:=by have h_:=c7b0;simp only [ByteArray.size_append] at h_;exact h_
     revert H
     refine gd_ fun c8 H=>?_
     have c8b0:=eq_true c8
     have c8b1:=decide_eq_true c8
     have c8b2:=nlt_ c8
     try have c8b3:(9223372036854775807 < x5_1.size+a1.size+((rd_T29 l0 x6_1).f1).size+3)=False:=by have h_:=c8b2;simp only [ByteArray.size_append] at h_;exact h_
     try have c8b4:(x5_1.size+a1.size+((rd_T29 l0 x6_1).f1).size+3≤9223372036854775807)=True:=by have h_:=c8b0;simp only [ByteArray.size_append] at h_;exact h_
     revert H
     refine gd_ fun c9 H=>?_
     have c9b0:=decide_eq_true c9
     have c9b1:decide (0 < ((rd_T29 l0 x6_1).f2).length)=true:=decide_eq_true (by omega)
     clear c9
     revert H
     refine bd_ fun t262 A10 H=>?_
     revert H
     refine gd_ fun c11 H=>?_
     have c11b0:=eq_true c11
     have c11b1:=decide_eq_true c11
     have c11b2:=nlt_ c11
     try have c11b3:(9223372036854775807 < x5_1.size+a1.size+((rd_T29 l0 x6_1).f1).size+3+t262.size)=False:=by have h_:=c11b2;simp only [ByteArray.size_append] at h_;exact h_
     try have c11b4:(x5_1.size+a1.size+((rd_T29 l0 x6_1).f1).size+3+t262.size≤9223372036854775807)=True:=by have h_:=c11b0;simp only [ByteArray.size_append] at h_;exact h_
     revert H
     refine gd_ fun c12 H=>?_
     have c12b0:=eq_true c12
     have c12b1:=decide_eq_true c12
     have c12b2:=nlt_ c12
     try have c12b3:(9223372036854775807 < x5_1.size+a1.size+((rd_T29 l0 x6_1).f1).size+3+t262.size+2)=False:=by have h_:=c12b2;simp only [ByteArray.size_append] at h_;exact h_
     try have c12b4:(x5_1.size+a1.size+((rd_T29 l0 x6_1).f1).size+3+t262.size+2≤9223372036854775807)=True:=by have h_:=c12b0;simp only [ByteArray.size_append] at h_;exact h_
     have H':=Aside0.mk H
     clear H
     have p259:0≤(x6_1:Int):=of_decide_eq_true as_
     have q259:x6_1 < (l0.length:Int):=of_decide_eq_true as_
     obtain ⟨ad259,A259_2,c259_2,A259_3,c259_3,A259_4,c259_4,e259,hx259_0,hx259_1,hx259_2,hx259_3,hx259_4,hx259_5,hl259_2,hi259_2,hl259_3,hi259_3,hl259_4,hi259_4⟩:=at_T29 HR0.out x6_1 p259 q259
     cases e259
     replace hx259_0:=(cb_ HB.out hx259_0:_)
     replace hx259_1:=(cb_ HB.out hx259_1:_)
     replace hx259_2:=(cb_ HB.out hx259_2:_)
     replace hx259_3:=(cb_ HB.out hx259_3:_)
     replace hx259_4:=(cb_ HB.out hx259_4:_)
     replace hx259_5:=(cb_ HB.out hx259_5:_)
     have HR259_2:=Aside0.mk hi259_2
     have HC259_2:=Aside0.mk hl259_2
     clear hi259_2 hl259_2
     have HR259_3:=Aside0.mk hi259_3
     have HC259_3:=Aside0.mk hl259_3
     clear hi259_3 hl259_3
     have HR259_4:=Aside0.mk hi259_4
     have HC259_4:=Aside0.mk hl259_4
     clear hi259_4 hl259_4
     replace p259:=eq_true p259
     replace q259:=eq_true q259
     try go_wp2_with (first|((with_reducible refine gate_dst (N:=7) rfl ?_);refine bx_ (N:=7) (cs:=#[.string (⟨#[]⟩:ByteArray),.string (⟨#[]⟩:ByteArray),.slice none 0 0,.slice none 0 0,.slice none 0 0,.int .i64 0]) (t:=29) ?_;intro gb260 hg w13 hbox hb;have BK260:=Aside0.mk (hbox);have GW260:=Aside0.mk ((gs_ hg (bl_ HB.out):w.heap.size≤gb260));have GE260:=Aside0.mk ((gs_ hg (bl_ HB.out):w.heap.size≤gb260));replace HB:=Aside0.mk (below_step (bl_ HB.out) hb);clear hb hbox hg;obtain ⟨hcz14_0,hcz14_1,hcz14_2,hcz14_3,hcz14_4,hcz14_5,hfz14_0,hfz14_1,hfz14_2,hfz14_3,hfz14_4,hfz14_5⟩:=zf6_ BK260.out))
     have n0_:Aside0 (((((((w13.setCell ⟨gb260,0,none⟩ (.string ((rd_T29 l0 x6_1).f0))).setCell ⟨gb260,1,none⟩ (.string ((rd_T29 l0 x6_1).f1))).setCell ⟨gb260,2,none⟩ (.slice A259_2 ((rd_T29 l0 x6_1).f2).length c259_2)).setCell ⟨gb260,3,none⟩ (.slice A259_3 ((rd_T29 l0 x6_1).f3).length c259_3)).setCell ⟨gb260,4,none⟩ (.slice A259_4 ((rd_T29 l0 x6_1).f4).length c259_4)).setCell ⟨gb260,5,none⟩ (.int .i64 ((rd_T29 l0 x6_1).f5))).heap[gb260]?=some (.cells #[.string ((rd_T29 l0 x6_1).f0),.string ((rd_T29 l0 x6_1).f1),.slice A259_2 ((rd_T29 l0 x6_1).f2).length c259_2,.slice A259_3 ((rd_T29 l0 x6_1).f3).length c259_3,.slice A259_4 ((rd_T29 l0 x6_1).f4).length c259_4,.int .i64 ((rd_T29 l0 x6_1).f5)] 29 (0,0))):=⟨kbc_ BK260.out⟩
     have n1_:Aside0 (Below w.heap.size w ((((((w13.setCell ⟨gb260,0,none⟩ (.string ((rd_T29 l0 x6_1).f0))).setCell ⟨gb260,1,none⟩ (.string ((rd_T29 l0 x6_1).f1))).setCell ⟨gb260,2,none⟩ (.slice A259_2 ((rd_T29 l0 x6_1).f2).length c259_2)).setCell ⟨gb260,3,none⟩ (.slice A259_3 ((rd_T29 l0 x6_1).f3).length c259_3)).setCell ⟨gb260,4,none⟩ (.slice A259_4 ((rd_T29 l0 x6_1).f4).length c259_4)).setCell ⟨gb260,5,none⟩ (.int .i64 ((rd_T29 l0 x6_1).f5)))):=⟨bl_ HB.out⟩
     (try clear BK260)
     (try clear HB)
     generalize ((((((w13.setCell ⟨gb260,0,none⟩ (.string ((rd_T29 l0 x6_1).f0))).setCell ⟨gb260,1,none⟩ (.string ((rd_T29 l0 x6_1).f1))).setCell ⟨gb260,2,none⟩ (.slice A259_2 ((rd_T29 l0 x6_1).f2).length c259_2)).setCell ⟨gb260,3,none⟩ (.slice A259_3 ((rd_T29 l0 x6_1).f3).length c259_3)).setCell ⟨gb260,4,none⟩ (.slice A259_4 ((rd_T29 l0 x6_1).f4).length c259_4)).setCell ⟨gb260,5,none⟩ (.int .i64 ((rd_T29 l0 x6_1).f5)))=w15 at n0_ n1_ ⊢
     have BK260:=n0_
     have HB:=n1_
     clear n0_ n1_
     replace BK260:=Aside0.mk (blk_drew BK260.out)
     replace HB:=Aside0.mk (below_drew1 HB.out)
     have p261:0≤(0:Int):=(by omega)
     have q261:0 < (((rd_T29 l0 x6_1).f2).length:Int):=of_decide_eq_true as_
     obtain ⟨ad261,A261_3,c261_3,e261,hx261_0,hx261_1,hx261_2,hx261_3,hx261_4,hl261_3,hi261_3⟩:=at_T24 HR259_2.out 0 p261 q261
     have hw261_4:=hx261_4
     (try simp only [tn0_,Nat.zero_mul,Addr.add_zero'] at hw261_4)
     have hw261_3:=hx261_3
     (try simp only [tn0_,Nat.zero_mul,Addr.add_zero'] at hw261_3)
     have hw261_2:=hx261_2
     (try simp only [tn0_,Nat.zero_mul,Addr.add_zero'] at hw261_2)
     have hw261_1:=hx261_1
     (try simp only [tn0_,Nat.zero_mul,Addr.add_zero'] at hw261_1)
     have hw261_0:=hx261_0
     (try simp only [tn0_,Nat.zero_mul,Addr.add_zero'] at hw261_0)
     cases e261
     have qi261:(0 < ((rd_T29 l0 x6_1).f2).length)=True:=eq_true (by omega)
     (try simp only [tn0_,Nat.zero_mul,Addr.add_zero'] at hx261_0 hx261_1 hx261_2 hx261_3 hx261_4)
     replace hx261_0:=(cb_ HB.out hx261_0:_)
     replace hx261_1:=(cb_ HB.out hx261_1:_)
     replace hx261_2:=(cb_ HB.out hx261_2:_)
     replace hx261_3:=(cb_ HB.out hx261_3:_)
     replace hx261_4:=(cb_ HB.out hx261_4:_)
     have HR261_3:=Aside0.mk hi261_3
     have HC261_3:=Aside0.mk hl261_3
     clear hi261_3 hl261_3
     replace p261:=eq_true p261
     replace q261:=eq_true q261
     as_aux_lemma=>
      refine start_ (n:=13) (S:=fun w'=>w'.cell? ⟨gb260,0,none⟩=some (.string ((rd_T29 l0 x6_1).f0))∧w'.cell? ⟨gb260,1,none⟩=some (.string ((rd_T29 l0 x6_1).f1))∧w'.cell? ⟨gb260,2,none⟩=some (.slice (some ad261) ((rd_T29 l0 x6_1).f2).length c259_2)∧w'.cell? ⟨gb260,3,none⟩=some (.slice A259_3 ((rd_T29 l0 x6_1).f3).length c259_3)∧w'.cell? ⟨gb260,4,none⟩=some (.slice A259_4 ((rd_T29 l0 x6_1).f4).length c259_4)∧w'.cell? ⟨gb260,5,none⟩=some (.int .i64 ((rd_T29 l0 x6_1).f5))∧w'.cell? ad261=some (.string ((rd_T24 ((rd_T29 l0 x6_1).f2) 0).f0))∧w'.cell? ⟨ad261.block,ad261.off+1,none⟩=some (.string ((rd_T24 ((rd_T29 l0 x6_1).f2) 0).f1))∧w'.cell? ⟨ad261.block,ad261.off+2,none⟩=some (.int .i64 ((rd_T24 ((rd_T29 l0 x6_1).f2) 0).f2))∧w'.cell? ⟨ad261.block,ad261.off+3,none⟩=some (.slice A261_3 ((rd_T24 ((rd_T29 l0 x6_1).f2) 0).f3).length c261_3)∧w'.cell? ⟨ad261.block,ad261.off+4,none⟩=some (.int .i64 ((rd_T24 ((rd_T29 l0 x6_1).f2) 0).f4))) (ds:=[]) (flg 13 0) (by kernel_rfl) rfl (by kernel_rfl) ⟨zc_ BK260.out 0,zc_ BK260.out 1,zc_ BK260.out 2,zc_ BK260.out 3,zc_ BK260.out 4,zc_ BK260.out 5,((cb_ HB.out hw261_0:_)),((cb_ HB.out hw261_1:_)),((cb_ HB.out hw261_2:_)),((cb_ HB.out hw261_3:_)),((cb_ HB.out hw261_4:_))⟩ (fun hHeld=>?_);refine with_tabW helmsmanref12_block.tab9 helmsmanref12_block.bits9 (fun HT_ HW_=>?_)
      generalize w15.drew=w16 at BK260 HB HR261_3 hx261_0 hx261_1 hx261_2 hx261_3 hx261_4 hHeld ⊢
      refine pu_ 0 25 (flg 13 1) ?_
      refine pu_ 1 26 (flg 13 3) ?_
      refine pu_ 5 30 (flg 13 35) ?_
      refine ta_ 2 27 (flg 13 39) hHeld ?_
      refine pu_ 3 28 (flg 13 47) ?_
      refine pu_ 4 29 (flg 13 63) ?_
      refine ta_ 6 31 (flg 13 127) hHeld ?_
      refine pu_ 7 32 (flg 13 255) ?_
      refine ta_ 8 33 (flg 13 511) hHeld ?_
      refine one_ (i:=9) (N:=some 34) (flg 13 1023) rfl rfl (one_of HT_.out (by kernel_rfl)) (by decide) (fun K hK=>?_)
      refine goes_ Tryd.func13 (by kernel_rfl) rfl #[.agg #[.string ((rd_T24 ((rd_T29 l0 x6_1).f2) 0).f0),.string ((rd_T24 ((rd_T29 l0 x6_1).f2) 0).f1),.int .i64 ((rd_T24 ((rd_T29 l0 x6_1).f2) 0).f2),.slice A261_3 ((rd_T24 ((rd_T29 l0 x6_1).f2) 0).f3).length c261_3,.int .i64 ((rd_T24 ((rd_T29 l0 x6_1).f2) 0).f4)]] (by rfl) rfl rfl ar_ ?_
      with_reducible refine (helmsmanref12_Text.calls k1 ((rd_T24 ((rd_T29 l0 x6_1).f2) 0).f0) ((rd_T24 ((rd_T29 l0 x6_1).f2) 0).f1) ((rd_T24 ((rd_T29 l0 x6_1).f2) 0).f2) _ _ ((rd_T24 ((rd_T29 l0 x6_1).f2) 0).f3) ((rd_T24 ((rd_T29 l0 x6_1).f2) 0).f4) t262 _ ?side1 ?side2 A10.out).mono ?_
      (case side1=>exact kc_ HR261_3.out HB.out)
      (case side2=>exact HC261_3.out)
      rintro e w17 ⟨rfl,hb⟩
      refine ⟨_,rfl,?_⟩
      replace BK260:=Aside0.mk (bb_ BK260.out hb)
      replace HB:=Aside0.mk (below_step (bl_ HB.out) hb)
      refine ko_ hK (fun hHeld=>?_)
      clear hK K
      refine nm_ ?_
      refine pu_ 10 35 (flg 13 2047) ?_
      refine pu_ 11 36 (flg 13 4095) ?_
      refine pu_ 12 5 (flg 13 8191) ?_
      refine done_ (done_of HT_.out (by kernel_rfl)) ?_
      try go_wp2
      go_roundg k1
      case measure=>have:=HK1.out;omega
      case rel=>exact ⟨(((((x5_1++a1)++((rd_T29 l0 x6_1).f1))++(⟨#[32,61,32]⟩:ByteArray))++t262)++(⟨#[59,10]⟩:ByteArray)),(wrap64 (x6_1+1)),rf_,rf_,H',⟨by have:=HK1.out;omega⟩,⟨bl_ HB.out⟩⟩
    ·rw [if_neg c6] at H
     have c6b0:=bqf_ c6
     have c6b1:=bnt_ c6
     by_cases c18:((rd_T29 l0 x6_1).f0).toList=([112,117,116]:List UInt8)
     ·rw [if_pos c18] at H
      have c18b0:=bqt_ c18
      have c18b1:=bnf_ c18
      clear c18
      revert H
      refine gd_ fun c19 H=>?_
      have c19b0:=eq_true c19
      have c19b1:=decide_eq_true c19
      have c19b2:=nlt_ c19
      try have c19b3:(9223372036854775807 < x5_1.size+a1.size+((rd_T29 l0 x6_1).f1).size)=False:=by have h_:=c19b2;simp only [ByteArray.size_append] at h_;exact h_
      try have c19b4:(x5_1.size+a1.size+((rd_T29 l0 x6_1).f1).size≤9223372036854775807)=True:=by have h_:=c19b0;simp only [ByteArray.size_append] at h_;exact h_
      revert H
      refine gd_ fun c20 H=>?_
      have c20b0:=eq_true c20
      have c20b1:=decide_eq_true c20
      have c20b2:=nlt_ c20
      try have c20b3:(9223372036854775807 < x5_1.size+a1.size+((rd_T29 l0 x6_1).f1).size+1)=False:=by have h_:=c20b2;simp only [ByteArray.size_append] at h_;exact h_
      try have c20b4:(x5_1.size+a1.size+((rd_T29 l0 x6_1).f1).size+1≤9223372036854775807)=True:=by have h_:=c20b0;simp only [ByteArray.size_append] at h_;exact h_
      revert H
      refine gd_ fun c21 H=>?_
      have c21b0:=decide_eq_true c21
      have c21b1:decide (0 < ((rd_T29 l0 x6_1).f2).length)=true:=decide_eq_true (by omega)
      clear c21
      revert H
      refine bd_ fun t264 A22 H=>?_
      revert H
      refine gd_ fun c23 H=>?_
      have c23b0:=eq_true c23
      have c23b1:=decide_eq_true c23
      have c23b2:=nlt_ c23
      try have c23b3:(9223372036854775807 < x5_1.size+a1.size+((rd_T29 l0 x6_1).f1).size+1+t264.size)=False:=by have h_:=c23b2;simp only [ByteArray.size_append] at h_;exact h_
      try have c23b4:(x5_1.size+a1.size+((rd_T29 l0 x6_1).f1).size+1+t264.size≤9223372036854775807)=True:=by have h_:=c23b0;simp only [ByteArray.size_append] at h_;exact h_
      revert H
      refine gd_ fun c24 H=>?_
      have c24b0:=eq_true c24
      have c24b1:=decide_eq_true c24
      have c24b2:=nlt_ c24
      try have c24b3:(9223372036854775807 < x5_1.size+a1.size+((rd_T29 l0 x6_1).f1).size+1+t264.size+4)=False:=by have h_:=c24b2;simp only [ByteArray.size_append] at h_;exact h_
      try have c24b4:(x5_1.size+a1.size+((rd_T29 l0 x6_1).f1).size+1+t264.size+4≤9223372036854775807)=True:=by have h_:=c24b0;simp only [ByteArray.size_append] at h_;exact h_
      revert H
      refine gd_ fun c25 H=>?_
      have c25b0:=decide_eq_true c25
      have c25b1:decide (1 < ((rd_T29 l0 x6_1).f2).length)=true:=decide_eq_true (by omega)
      clear c25
      revert H
      refine bd_ fun t266 A26 H=>?_
      revert H
      refine gd_ fun c27 H=>?_
      have c27b0:=eq_true c27
      have c27b1:=decide_eq_true c27
      have c27b2:=nlt_ c27
      try have c27b3:(9223372036854775807 < x5_1.size+a1.size+((rd_T29 l0 x6_1).f1).size+1+t264.size+4+t266.size)=False:=by have h_:=c27b2;simp only [ByteArray.size_append] at h_;exact h_
      try have c27b4:(x5_1.size+a1.size+((rd_T29 l0 x6_1).f1).size+1+t264.size+4+t266.size≤9223372036854775807)=True:=by have h_:=c27b0;simp only [ByteArray.size_append] at h_;exact h_
      revert H
      refine gd_ fun c28 H=>?_
      have c28b0:=eq_true c28
      have c28b1:=decide_eq_true c28
      have c28b2:=nlt_ c28
      try have c28b3:(9223372036854775807 < x5_1.size+a1.size+((rd_T29 l0 x6_1).f1).size+1+t264.size+4+t266.size+2)=False:=by have h_:=c28b2;simp only [ByteArray.size_append] at h_;exact h_
      try have c28b4:(x5_1.size+a1.size+((rd_T29 l0 x6_1).f1).size+1+t264.size+4+t266.size+2≤9223372036854775807)=True:=by have h_:=c28b0;simp only [ByteArray.size_append] at h_;exact h_
      have H':=Aside0.mk H
      clear H
      have p259:0≤(x6_1:Int):=of_decide_eq_true as_
      have q259:x6_1 < (l0.length:Int):=of_decide_eq_true as_
      obtain ⟨ad259,A259_2,c259_2,A259_3,c259_3,A259_4,c259_4,e259,hx259_0,hx259_1,hx259_2,hx259_3,hx259_4,hx259_5,hl259_2,hi259_2,hl259_3,hi259_3,hl259_4,hi259_4⟩:=at_T29 HR0.out x6_1 p259 q259
      cases e259
      replace hx259_0:=(cb_ HB.out hx259_0:_)
      replace hx259_1:=(cb_ HB.out hx259_1:_)
      replace hx259_2:=(cb_ HB.out hx259_2:_)
      replace hx259_3:=(cb_ HB.out hx259_3:_)
      replace hx259_4:=(cb_ HB.out hx259_4:_)
      replace hx259_5:=(cb_ HB.out hx259_5:_)
      have HR259_2:=Aside0.mk hi259_2
      have HC259_2:=Aside0.mk hl259_2
      clear hi259_2 hl259_2
      have HR259_3:=Aside0.mk hi259_3
      have HC259_3:=Aside0.mk hl259_3
      clear hi259_3 hl259_3
      have HR259_4:=Aside0.mk hi259_4
      have HC259_4:=Aside0.mk hl259_4
      clear hi259_4 hl259_4
      replace p259:=eq_true p259
      replace q259:=eq_true q259
      try go_wp2_with (first|((with_reducible refine gate_dst (N:=7) rfl ?_);refine bx_ (N:=7) (cs:=#[.string (⟨#[]⟩:ByteArray),.string (⟨#[]⟩:ByteArray),.slice none 0 0,.slice none 0 0,.slice none 0 0,.int .i64 0]) (t:=29) ?_;intro gb260 hg w29 hbox hb;have BK260:=Aside0.mk (hbox);have GW260:=Aside0.mk ((gs_ hg (bl_ HB.out):w.heap.size≤gb260));have GE260:=Aside0.mk ((gs_ hg (bl_ HB.out):w.heap.size≤gb260));replace HB:=Aside0.mk (below_step (bl_ HB.out) hb);clear hb hbox hg;obtain ⟨hcz30_0,hcz30_1,hcz30_2,hcz30_3,hcz30_4,hcz30_5,hfz30_0,hfz30_1,hfz30_2,hfz30_3,hfz30_4,hfz30_5⟩:=zf6_ BK260.out))
      have n0_:Aside0 (((((((w29.setCell ⟨gb260,0,none⟩ (.string ((rd_T29 l0 x6_1).f0))).setCell ⟨gb260,1,none⟩ (.string ((rd_T29 l0 x6_1).f1))).setCell ⟨gb260,2,none⟩ (.slice A259_2 ((rd_T29 l0 x6_1).f2).length c259_2)).setCell ⟨gb260,3,none⟩ (.slice A259_3 ((rd_T29 l0 x6_1).f3).length c259_3)).setCell ⟨gb260,4,none⟩ (.slice A259_4 ((rd_T29 l0 x6_1).f4).length c259_4)).setCell ⟨gb260,5,none⟩ (.int .i64 ((rd_T29 l0 x6_1).f5))).heap[gb260]?=some (.cells #[.string ((rd_T29 l0 x6_1).f0),.string ((rd_T29 l0 x6_1).f1),.slice A259_2 ((rd_T29 l0 x6_1).f2).length c259_2,.slice A259_3 ((rd_T29 l0 x6_1).f3).length c259_3,.slice A259_4 ((rd_T29 l0 x6_1).f4).length c259_4,.int .i64 ((rd_T29 l0 x6_1).f5)] 29 (0,0))):=⟨kbc_ BK260.out⟩
      have n1_:Aside0 (Below w.heap.size w ((((((w29.setCell ⟨gb260,0,none⟩ (.string ((rd_T29 l0 x6_1).f0))).setCell ⟨gb260,1,none⟩ (.string ((rd_T29 l0 x6_1).f1))).setCell ⟨gb260,2,none⟩ (.slice A259_2 ((rd_T29 l0 x6_1).f2).length c259_2)).setCell ⟨gb260,3,none⟩ (.slice A259_3 ((rd_T29 l0 x6_1).f3).length c259_3)).setCell ⟨gb260,4,none⟩ (.slice A259_4 ((rd_T29 l0 x6_1).f4).length c259_4)).setCell ⟨gb260,5,none⟩ (.int .i64 ((rd_T29 l0 x6_1).f5)))):=⟨bl_ HB.out⟩
      (try clear BK260)
      (try clear HB)
      generalize ((((((w29.setCell ⟨gb260,0,none⟩ (.string ((rd_T29 l0 x6_1).f0))).setCell ⟨gb260,1,none⟩ (.string ((rd_T29 l0 x6_1).f1))).setCell ⟨gb260,2,none⟩ (.slice A259_2 ((rd_T29 l0 x6_1).f2).length c259_2)).setCell ⟨gb260,3,none⟩ (.slice A259_3 ((rd_T29 l0 x6_1).f3).length c259_3)).setCell ⟨gb260,4,none⟩ (.slice A259_4 ((rd_T29 l0 x6_1).f4).length c259_4)).setCell ⟨gb260,5,none⟩ (.int .i64 ((rd_T29 l0 x6_1).f5)))=w31 at n0_ n1_ ⊢
      have BK260:=n0_
      have HB:=n1_
      clear n0_ n1_
      replace BK260:=Aside0.mk (blk_drew BK260.out)
      replace HB:=Aside0.mk (below_drew1 HB.out)
      have p263:0≤(0:Int):=(by omega)
      have q263:0 < (((rd_T29 l0 x6_1).f2).length:Int):=of_decide_eq_true as_
      obtain ⟨ad263,A263_3,c263_3,e263,hx263_0,hx263_1,hx263_2,hx263_3,hx263_4,hl263_3,hi263_3⟩:=at_T24 HR259_2.out 0 p263 q263
      have hw263_4:=hx263_4
      (try simp only [tn0_,Nat.zero_mul,Addr.add_zero'] at hw263_4)
      have hw263_3:=hx263_3
      (try simp only [tn0_,Nat.zero_mul,Addr.add_zero'] at hw263_3)
      have hw263_2:=hx263_2
      (try simp only [tn0_,Nat.zero_mul,Addr.add_zero'] at hw263_2)
      have hw263_1:=hx263_1
      (try simp only [tn0_,Nat.zero_mul,Addr.add_zero'] at hw263_1)
      have hw263_0:=hx263_0
      (try simp only [tn0_,Nat.zero_mul,Addr.add_zero'] at hw263_0)
      cases e263
      have qi263:(0 < ((rd_T29 l0 x6_1).f2).length)=True:=eq_true (by omega)
      (try simp only [tn0_,Nat.zero_mul,Addr.add_zero'] at hx263_0 hx263_1 hx263_2 hx263_3 hx263_4)
      replace hx263_0:=(cb_ HB.out hx263_0:_)
      replace hx263_1:=(cb_ HB.out hx263_1:_)
      replace hx263_2:=(cb_ HB.out hx263_2:_)
      replace hx263_3:=(cb_ HB.out hx263_3:_)
      replace hx263_4:=(cb_ HB.out hx263_4:_)
      have HR263_3:=Aside0.mk hi263_3
      have HC263_3:=Aside0.mk hl263_3
      clear hi263_3 hl263_3
      replace p263:=eq_true p263
      replace q263:=eq_true q263
      have p265:0≤(1:Int):=(by omega)
      have q265:1 < (((rd_T29 l0 x6_1).f2).length:Int):=of_decide_eq_true as_
      obtain ⟨ad265,A265_3,c265_3,e265,hx265_0,hx265_1,hx265_2,hx265_3,hx265_4,hl265_3,hi265_3⟩:=at_T24 HR259_2.out 1 p265 q265
      have hw265_4:=hx265_4
      (try rw [show ((1:Int)).toNat=1 from rfl] at hw265_4)
      (try rw [show 1 * 5=5 from rfl] at hw265_4)
      (try simp only [Nat.reduceMul,Nat.reduceEqDiff,Go.Addr.add,↓reduceIte] at hw265_4)
      have hw265_3:=hx265_3
      (try rw [show ((1:Int)).toNat=1 from rfl] at hw265_3)
      (try rw [show 1 * 5=5 from rfl] at hw265_3)
      (try simp only [Nat.reduceMul,Nat.reduceEqDiff,Go.Addr.add,↓reduceIte] at hw265_3)
      have hw265_2:=hx265_2
      (try rw [show ((1:Int)).toNat=1 from rfl] at hw265_2)
      (try rw [show 1 * 5=5 from rfl] at hw265_2)
      (try simp only [Nat.reduceMul,Nat.reduceEqDiff,Go.Addr.add,↓reduceIte] at hw265_2)
      have hw265_1:=hx265_1
      (try rw [show ((1:Int)).toNat=1 from rfl] at hw265_1)
      (try rw [show 1 * 5=5 from rfl] at hw265_1)
      (try simp only [Nat.reduceMul,Nat.reduceEqDiff,Go.Addr.add,↓reduceIte] at hw265_1)
      have hw265_0:=hx265_0
      (try rw [show ((1:Int)).toNat=1 from rfl] at hw265_0)
      (try rw [show 1 * 5=5 from rfl] at hw265_0)
      (try simp only [Nat.reduceMul,Nat.reduceEqDiff,Go.Addr.add,↓reduceIte] at hw265_0)
      obtain rfl:ad263=ad265:=(by injection e265)
      (try simp only [show (1:Int).toNat=1 from rfl,Nat.reduceMul,Nat.reduceEqDiff,Go.Addr.add,↓reduceIte] at hx265_0)
      (try simp only [show (1:Int).toNat=1 from rfl,Nat.reduceMul,Nat.reduceEqDiff,Go.Addr.add,↓reduceIte] at hx265_1)
      (try simp only [show (1:Int).toNat=1 from rfl,Nat.reduceMul,Nat.reduceEqDiff,Go.Addr.add,↓reduceIte] at hx265_2)
      (try simp only [show (1:Int).toNat=1 from rfl,Nat.reduceMul,Nat.reduceEqDiff,Go.Addr.add,↓reduceIte] at hx265_3)
      (try simp only [show (1:Int).toNat=1 from rfl,Nat.reduceMul,Nat.reduceEqDiff,Go.Addr.add,↓reduceIte] at hx265_4)
      have qi265:(1 < ((rd_T29 l0 x6_1).f2).length)=True:=eq_true (by omega)
      (try rw [show ((1:Int)).toNat=1 from rfl] at hx265_0)
      (try rw [show 1 * 5=5 from rfl] at hx265_0)
      (try rw [show ((1:Int)).toNat=1 from rfl] at hx265_1)
      (try rw [show 1 * 5=5 from rfl] at hx265_1)
      (try rw [show ((1:Int)).toNat=1 from rfl] at hx265_2)
      (try rw [show 1 * 5=5 from rfl] at hx265_2)
      (try rw [show ((1:Int)).toNat=1 from rfl] at hx265_3)
      (try rw [show 1 * 5=5 from rfl] at hx265_3)
      (try rw [show ((1:Int)).toNat=1 from rfl] at hx265_4)
      (try rw [show 1 * 5=5 from rfl] at hx265_4)
      replace hx265_0:=(cb_ HB.out hx265_0:_)
      replace hx265_1:=(cb_ HB.out hx265_1:_)
      replace hx265_2:=(cb_ HB.out hx265_2:_)
      replace hx265_3:=(cb_ HB.out hx265_3:_)
      replace hx265_4:=(cb_ HB.out hx265_4:_)
      have HR265_3:=Aside0.mk hi265_3
      have HC265_3:=Aside0.mk hl265_3
      clear hi265_3 hl265_3
      replace p265:=eq_true p265
      replace q265:=eq_true q265
      as_aux_lemma=>
       refine start_ (n:=20) (S:=fun w'=>w'.cell? ⟨gb260,0,none⟩=some (.string ((rd_T29 l0 x6_1).f0))∧w'.cell? ⟨gb260,1,none⟩=some (.string ((rd_T29 l0 x6_1).f1))∧w'.cell? ⟨gb260,2,none⟩=some (.slice (some ad263) ((rd_T29 l0 x6_1).f2).length c259_2)∧w'.cell? ⟨gb260,3,none⟩=some (.slice A259_3 ((rd_T29 l0 x6_1).f3).length c259_3)∧w'.cell? ⟨gb260,4,none⟩=some (.slice A259_4 ((rd_T29 l0 x6_1).f4).length c259_4)∧w'.cell? ⟨gb260,5,none⟩=some (.int .i64 ((rd_T29 l0 x6_1).f5))∧w'.cell? ad263=some (.string ((rd_T24 ((rd_T29 l0 x6_1).f2) 0).f0))∧w'.cell? ⟨ad263.block,ad263.off+1,none⟩=some (.string ((rd_T24 ((rd_T29 l0 x6_1).f2) 0).f1))∧w'.cell? ⟨ad263.block,ad263.off+2,none⟩=some (.int .i64 ((rd_T24 ((rd_T29 l0 x6_1).f2) 0).f2))∧w'.cell? ⟨ad263.block,ad263.off+3,none⟩=some (.slice A263_3 ((rd_T24 ((rd_T29 l0 x6_1).f2) 0).f3).length c263_3)∧w'.cell? ⟨ad263.block,ad263.off+4,none⟩=some (.int .i64 ((rd_T24 ((rd_T29 l0 x6_1).f2) 0).f4))∧w'.cell? ⟨ad263.block,ad263.off+5,none⟩=some (.string ((rd_T24 ((rd_T29 l0 x6_1).f2) 1).f0))∧w'.cell? ⟨ad263.block,ad263.off+5+1,none⟩=some (.string ((rd_T24 ((rd_T29 l0 x6_1).f2) 1).f1))∧w'.cell? ⟨ad263.block,ad263.off+5+2,none⟩=some (.int .i64 ((rd_T24 ((rd_T29 l0 x6_1).f2) 1).f2))∧w'.cell? ⟨ad263.block,ad263.off+5+3,none⟩=some (.slice A265_3 ((rd_T24 ((rd_T29 l0 x6_1).f2) 1).f3).length c265_3)∧w'.cell? ⟨ad263.block,ad263.off+5+4,none⟩=some (.int .i64 ((rd_T24 ((rd_T29 l0 x6_1).f2) 1).f4))) (ds:=[]) (flg 20 0) (by kernel_rfl) rfl (by kernel_rfl) ⟨zc_ BK260.out 0,zc_ BK260.out 1,zc_ BK260.out 2,zc_ BK260.out 3,zc_ BK260.out 4,zc_ BK260.out 5,((cb_ HB.out hw263_0:_)),((cb_ HB.out hw263_1:_)),((cb_ HB.out hw263_2:_)),((cb_ HB.out hw263_3:_)),((cb_ HB.out hw263_4:_)),((cb_ HB.out hw265_0:_)),((cb_ HB.out hw265_1:_)),((cb_ HB.out hw265_2:_)),((cb_ HB.out hw265_3:_)),((cb_ HB.out hw265_4:_))⟩ (fun hHeld=>?_);refine with_tabW helmsmanref12_block.tab11 helmsmanref12_block.bits11 (fun HT_ HW_=>?_)
       generalize w31.drew=w32 at BK260 HB HR263_3 HR265_3 hx263_0 hx263_1 hx263_2 hx263_3 hx263_4 hx265_0 hx265_1 hx265_2 hx265_3 hx265_4 hHeld ⊢
       refine pu_ 0 39 (flg 20 1) ?_
       refine pu_ 1 40 (flg 20 3) ?_
       refine pu_ 5 44 (flg 20 35) ?_
       refine pu_ 12 51 (flg 20 4131) ?_
       refine ta_ 2 41 (flg 20 4135) hHeld ?_
       refine pu_ 3 42 (flg 20 4143) ?_
       refine pu_ 4 43 (flg 20 4159) ?_
       refine ta_ 6 45 (flg 20 4223) hHeld ?_
       refine pu_ 7 46 (flg 20 4351) ?_
       refine ta_ 8 47 (flg 20 4607) hHeld ?_
       refine ta_ 13 52 (flg 20 12799) hHeld ?_
       refine pu_ 14 53 (flg 20 29183) ?_
       refine ta_ 15 54 (flg 20 61951) hHeld ?_
       refine one_ (i:=9) (N:=some 48) (flg 20 62463) rfl rfl (one_of HT_.out (by kernel_rfl)) (by decide) (fun K hK=>?_)
       refine goes_ Tryd.func13 (by kernel_rfl) rfl #[.agg #[.string ((rd_T24 ((rd_T29 l0 x6_1).f2) 0).f0),.string ((rd_T24 ((rd_T29 l0 x6_1).f2) 0).f1),.int .i64 ((rd_T24 ((rd_T29 l0 x6_1).f2) 0).f2),.slice A263_3 ((rd_T24 ((rd_T29 l0 x6_1).f2) 0).f3).length c263_3,.int .i64 ((rd_T24 ((rd_T29 l0 x6_1).f2) 0).f4)]] (by rfl) rfl rfl ar_ ?_
       with_reducible refine (helmsmanref12_Text.calls k1 ((rd_T24 ((rd_T29 l0 x6_1).f2) 0).f0) ((rd_T24 ((rd_T29 l0 x6_1).f2) 0).f1) ((rd_T24 ((rd_T29 l0 x6_1).f2) 0).f2) _ _ ((rd_T24 ((rd_T29 l0 x6_1).f2) 0).f3) ((rd_T24 ((rd_T29 l0 x6_1).f2) 0).f4) t264 _ ?side1 ?side2 A22.out).mono ?_
       (case side1=>exact kc_ HR263_3.out HB.out)
       (case side2=>exact HC263_3.out)
       rintro e w33 ⟨rfl,hb⟩
       refine ⟨_,rfl,?_⟩
       replace BK260:=Aside0.mk (bb_ BK260.out hb)
       replace HB:=Aside0.mk (below_step (bl_ HB.out) hb)
       refine ko_ hK (fun hHeld=>?_)
       clear hK K
       refine nm_ ?_
       refine pu_ 10 49 (flg 20 63487) ?_
       refine pu_ 11 50 (flg 20 65535) ?_
       refine one_ (i:=16) (N:=some 55) (flg 20 131071) rfl rfl (one_of HT_.out (by kernel_rfl)) (by decide) (fun K hK=>?_)
       refine goes_ Tryd.func13 (by kernel_rfl) rfl #[.agg #[.string ((rd_T24 ((rd_T29 l0 x6_1).f2) 1).f0),.string ((rd_T24 ((rd_T29 l0 x6_1).f2) 1).f1),.int .i64 ((rd_T24 ((rd_T29 l0 x6_1).f2) 1).f2),.slice A265_3 ((rd_T24 ((rd_T29 l0 x6_1).f2) 1).f3).length c265_3,.int .i64 ((rd_T24 ((rd_T29 l0 x6_1).f2) 1).f4)]] (by rfl) rfl rfl ar_ ?_
       with_reducible refine (helmsmanref12_Text.calls k1 ((rd_T24 ((rd_T29 l0 x6_1).f2) 1).f0) ((rd_T24 ((rd_T29 l0 x6_1).f2) 1).f1) ((rd_T24 ((rd_T29 l0 x6_1).f2) 1).f2) _ _ ((rd_T24 ((rd_T29 l0 x6_1).f2) 1).f3) ((rd_T24 ((rd_T29 l0 x6_1).f2) 1).f4) t266 _ ?side1 ?side2 A26.out).mono ?_
       (case side1=>exact kc_ HR265_3.out HB.out)
       (case side2=>exact HC265_3.out)
       rintro e w34 ⟨rfl,hb⟩
       refine ⟨_,rfl,?_⟩
       replace BK260:=Aside0.mk (bb_ BK260.out hb)
       replace HB:=Aside0.mk (below_step (bl_ HB.out) hb)
       refine ko_ hK (fun hHeld=>?_)
       clear hK K
       refine nm_ ?_
       refine pu_ 17 56 (flg 20 262143) ?_
       refine pu_ 18 57 (flg 20 524287) ?_
       refine pu_ 19 5 (flg 20 1048575) ?_
       refine done_ (done_of HT_.out (by kernel_rfl)) ?_
       try go_wp2
       go_roundg k1
       case measure=>have:=HK1.out;omega
       case rel=>exact ⟨(((((((x5_1++a1)++((rd_T29 l0 x6_1).f1))++(⟨#[91]⟩:ByteArray))++t264)++(⟨#[93,32,61,32]⟩:ByteArray))++t266)++(⟨#[59,10]⟩:ByteArray)),(wrap64 (x6_1+1)),rf_,rf_,H',⟨by have:=HK1.out;omega⟩,⟨bl_ HB.out⟩⟩
     ·rw [if_neg c18] at H
      have c18b0:=bqf_ c18
      have c18b1:=bnt_ c18
      by_cases c35:((rd_T29 l0 x6_1).f0).toList=([105,110,112,117,116]:List UInt8)
      ·rw [if_pos c35] at H
       have c35b0:=bqt_ c35
       have c35b1:=bnf_ c35
       clear c35
       revert H
       refine gd_ fun c36 H=>?_
       have c36b0:=eq_true c36
       have c36b1:=decide_eq_true c36
       have c36b2:=nlt_ c36
       try have c36b3:(9223372036854775807 < x5_1.size+a1.size+((rd_T29 l0 x6_1).f1).size)=False:=by have h_:=c36b2;simp only [ByteArray.size_append] at h_;exact h_
       try have c36b4:(x5_1.size+a1.size+((rd_T29 l0 x6_1).f1).size≤9223372036854775807)=True:=by have h_:=c36b0;simp only [ByteArray.size_append] at h_;exact h_
       revert H
       refine gd_ fun c37 H=>?_
       have c37b0:=eq_true c37
       have c37b1:=decide_eq_true c37
       have c37b2:=nlt_ c37
       try have c37b3:(9223372036854775807 < x5_1.size+a1.size+((rd_T29 l0 x6_1).f1).size+8)=False:=by have h_:=c37b2;simp only [ByteArray.size_append] at h_;exact h_
       try have c37b4:(x5_1.size+a1.size+((rd_T29 l0 x6_1).f1).size+8≤9223372036854775807)=True:=by have h_:=c37b0;simp only [ByteArray.size_append] at h_;exact h_
       by_cases c38:(((rd_T29 l0 x6_1).f2).length:Int) > 0
       ·rw [if_pos c38] at H
        have c38b0:=decide_eq_true (show _ < _ from c38)
        have c38b1:decide (0 < ((rd_T29 l0 x6_1).f2).length)=true:=decide_eq_true (by omega)
        clear c38
        revert H
        refine gd_ fun c39 H=>?_
        have c39b0:=eq_true c39
        have c39b1:=decide_eq_true c39
        have c39b2:=nlt_ c39
        try have c39b3:(9223372036854775807 < x5_1.size+a1.size+((rd_T29 l0 x6_1).f1).size+8+1)=False:=by have h_:=c39b2;simp only [ByteArray.size_append] at h_;exact h_
        try have c39b4:(x5_1.size+a1.size+((rd_T29 l0 x6_1).f1).size+8+1≤9223372036854775807)=True:=by have h_:=c39b0;simp only [ByteArray.size_append] at h_;exact h_
        revert H
        refine gd_ fun c40 H=>?_
        have c40b0:=decide_eq_true c40
        have c40b1:decide (0 < ((rd_T29 l0 x6_1).f2).length)=true:=decide_eq_true (by omega)
        clear c40
        revert H
        refine bd_ fun t268 A41 H=>?_
        revert H
        refine gd_ fun c42 H=>?_
        have c42b0:=eq_true c42
        have c42b1:=decide_eq_true c42
        have c42b2:=nlt_ c42
        try have c42b3:(9223372036854775807 < x5_1.size+a1.size+((rd_T29 l0 x6_1).f1).size+8+1+t268.size)=False:=by have h_:=c42b2;simp only [ByteArray.size_append] at h_;exact h_
        try have c42b4:(x5_1.size+a1.size+((rd_T29 l0 x6_1).f1).size+8+1+t268.size≤9223372036854775807)=True:=by have h_:=c42b0;simp only [ByteArray.size_append] at h_;exact h_
        revert H
        refine gd_ fun c43 H=>?_
        have c43b0:=eq_true c43
        have c43b1:=decide_eq_true c43
        have c43b2:=nlt_ c43
        try have c43b3:(9223372036854775807 < x5_1.size+a1.size+((rd_T29 l0 x6_1).f1).size+8+1+t268.size+2)=False:=by have h_:=c43b2;simp only [ByteArray.size_append] at h_;exact h_
        try have c43b4:(x5_1.size+a1.size+((rd_T29 l0 x6_1).f1).size+8+1+t268.size+2≤9223372036854775807)=True:=by have h_:=c43b0;simp only [ByteArray.size_append] at h_;exact h_
        revert H
        refine gd_ fun c44 H=>?_
        have c44b0:=decide_eq_true c44
        have c44b1:decide (1 < ((rd_T29 l0 x6_1).f2).length)=true:=decide_eq_true (by omega)
        clear c44
        revert H
        refine bd_ fun t270 A45 H=>?_
        revert H
        refine gd_ fun c46 H=>?_
        have c46b0:=eq_true c46
        have c46b1:=decide_eq_true c46
        have c46b2:=nlt_ c46
        try have c46b3:(9223372036854775807 < x5_1.size+a1.size+((rd_T29 l0 x6_1).f1).size+8+1+t268.size+2+t270.size)=False:=by have h_:=c46b2;simp only [ByteArray.size_append] at h_;exact h_
        try have c46b4:(x5_1.size+a1.size+((rd_T29 l0 x6_1).f1).size+8+1+t268.size+2+t270.size≤9223372036854775807)=True:=by have h_:=c46b0;simp only [ByteArray.size_append] at h_;exact h_
        revert H
        refine gd_ fun c47 H=>?_
        have c47b0:=eq_true c47
        have c47b1:=decide_eq_true c47
        have c47b2:=nlt_ c47
        try have c47b3:(9223372036854775807 < x5_1.size+a1.size+((rd_T29 l0 x6_1).f1).size+8+1+t268.size+2+t270.size+1)=False:=by have h_:=c47b2;simp only [ByteArray.size_append] at h_;exact h_
        try have c47b4:(x5_1.size+a1.size+((rd_T29 l0 x6_1).f1).size+8+1+t268.size+2+t270.size+1≤9223372036854775807)=True:=by have h_:=c47b0;simp only [ByteArray.size_append] at h_;exact h_
        revert H
        refine gd_ fun c48 H=>?_
        have c48b0:=eq_true c48
        have c48b1:=decide_eq_true c48
        have c48b2:=nlt_ c48
        try have c48b3:(9223372036854775807 < x5_1.size+a1.size+((rd_T29 l0 x6_1).f1).size+8+1+t268.size+2+t270.size+1+2)=False:=by have h_:=c48b2;simp only [ByteArray.size_append] at h_;exact h_
        try have c48b4:(x5_1.size+a1.size+((rd_T29 l0 x6_1).f1).size+8+1+t268.size+2+t270.size+1+2≤9223372036854775807)=True:=by have h_:=c48b0;simp only [ByteArray.size_append] at h_;exact h_
        have H':=Aside0.mk H
        clear H
        have p259:0≤(x6_1:Int):=of_decide_eq_true as_
        have q259:x6_1 < (l0.length:Int):=of_decide_eq_true as_
        obtain ⟨ad259,A259_2,c259_2,A259_3,c259_3,A259_4,c259_4,e259,hx259_0,hx259_1,hx259_2,hx259_3,hx259_4,hx259_5,hl259_2,hi259_2,hl259_3,hi259_3,hl259_4,hi259_4⟩:=at_T29 HR0.out x6_1 p259 q259
        cases e259
        replace hx259_0:=(cb_ HB.out hx259_0:_)
        replace hx259_1:=(cb_ HB.out hx259_1:_)
        replace hx259_2:=(cb_ HB.out hx259_2:_)
        replace hx259_3:=(cb_ HB.out hx259_3:_)
        replace hx259_4:=(cb_ HB.out hx259_4:_)
        replace hx259_5:=(cb_ HB.out hx259_5:_)
        have HR259_2:=Aside0.mk hi259_2
        have HC259_2:=Aside0.mk hl259_2
        clear hi259_2 hl259_2
        have HR259_3:=Aside0.mk hi259_3
        have HC259_3:=Aside0.mk hl259_3
        clear hi259_3 hl259_3
        have HR259_4:=Aside0.mk hi259_4
        have HC259_4:=Aside0.mk hl259_4
        clear hi259_4 hl259_4
        replace p259:=eq_true p259
        replace q259:=eq_true q259
        try go_wp2_with (first|((with_reducible refine gate_dst (N:=7) rfl ?_);refine bx_ (N:=7) (cs:=#[.string (⟨#[]⟩:ByteArray),.string (⟨#[]⟩:ByteArray),.slice none 0 0,.slice none 0 0,.slice none 0 0,.int .i64 0]) (t:=29) ?_;intro gb260 hg w49 hbox hb;have BK260:=Aside0.mk (hbox);have GW260:=Aside0.mk ((gs_ hg (bl_ HB.out):w.heap.size≤gb260));have GE260:=Aside0.mk ((gs_ hg (bl_ HB.out):w.heap.size≤gb260));replace HB:=Aside0.mk (below_step (bl_ HB.out) hb);clear hb hbox hg;obtain ⟨hcz50_0,hcz50_1,hcz50_2,hcz50_3,hcz50_4,hcz50_5,hfz50_0,hfz50_1,hfz50_2,hfz50_3,hfz50_4,hfz50_5⟩:=zf6_ BK260.out))
        have n0_:Aside0 (((((((w49.setCell ⟨gb260,0,none⟩ (.string ((rd_T29 l0 x6_1).f0))).setCell ⟨gb260,1,none⟩ (.string ((rd_T29 l0 x6_1).f1))).setCell ⟨gb260,2,none⟩ (.slice A259_2 ((rd_T29 l0 x6_1).f2).length c259_2)).setCell ⟨gb260,3,none⟩ (.slice A259_3 ((rd_T29 l0 x6_1).f3).length c259_3)).setCell ⟨gb260,4,none⟩ (.slice A259_4 ((rd_T29 l0 x6_1).f4).length c259_4)).setCell ⟨gb260,5,none⟩ (.int .i64 ((rd_T29 l0 x6_1).f5))).heap[gb260]?=some (.cells #[.string ((rd_T29 l0 x6_1).f0),.string ((rd_T29 l0 x6_1).f1),.slice A259_2 ((rd_T29 l0 x6_1).f2).length c259_2,.slice A259_3 ((rd_T29 l0 x6_1).f3).length c259_3,.slice A259_4 ((rd_T29 l0 x6_1).f4).length c259_4,.int .i64 ((rd_T29 l0 x6_1).f5)] 29 (0,0))):=⟨kbc_ BK260.out⟩
        have n1_:Aside0 (Below w.heap.size w ((((((w49.setCell ⟨gb260,0,none⟩ (.string ((rd_T29 l0 x6_1).f0))).setCell ⟨gb260,1,none⟩ (.string ((rd_T29 l0 x6_1).f1))).setCell ⟨gb260,2,none⟩ (.slice A259_2 ((rd_T29 l0 x6_1).f2).length c259_2)).setCell ⟨gb260,3,none⟩ (.slice A259_3 ((rd_T29 l0 x6_1).f3).length c259_3)).setCell ⟨gb260,4,none⟩ (.slice A259_4 ((rd_T29 l0 x6_1).f4).length c259_4)).setCell ⟨gb260,5,none⟩ (.int .i64 ((rd_T29 l0 x6_1).f5)))):=⟨bl_ HB.out⟩
        (try clear BK260)
        (try clear HB)
        generalize ((((((w49.setCell ⟨gb260,0,none⟩ (.string ((rd_T29 l0 x6_1).f0))).setCell ⟨gb260,1,none⟩ (.string ((rd_T29 l0 x6_1).f1))).setCell ⟨gb260,2,none⟩ (.slice A259_2 ((rd_T29 l0 x6_1).f2).length c259_2)).setCell ⟨gb260,3,none⟩ (.slice A259_3 ((rd_T29 l0 x6_1).f3).length c259_3)).setCell ⟨gb260,4,none⟩ (.slice A259_4 ((rd_T29 l0 x6_1).f4).length c259_4)).setCell ⟨gb260,5,none⟩ (.int .i64 ((rd_T29 l0 x6_1).f5)))=w51 at n0_ n1_ ⊢
        have BK260:=n0_
        have HB:=n1_
        clear n0_ n1_
        replace BK260:=Aside0.mk (blk_drew BK260.out)
        replace HB:=Aside0.mk (below_drew1 HB.out)
        have p267:0≤(0:Int):=(by omega)
        have q267:0 < (((rd_T29 l0 x6_1).f2).length:Int):=of_decide_eq_true as_
        obtain ⟨ad267,A267_3,c267_3,e267,hx267_0,hx267_1,hx267_2,hx267_3,hx267_4,hl267_3,hi267_3⟩:=at_T24 HR259_2.out 0 p267 q267
        have hw267_4:=hx267_4
        (try simp only [tn0_,Nat.zero_mul,Addr.add_zero'] at hw267_4)
        have hw267_3:=hx267_3
        (try simp only [tn0_,Nat.zero_mul,Addr.add_zero'] at hw267_3)
        have hw267_2:=hx267_2
        (try simp only [tn0_,Nat.zero_mul,Addr.add_zero'] at hw267_2)
        have hw267_1:=hx267_1
        (try simp only [tn0_,Nat.zero_mul,Addr.add_zero'] at hw267_1)
        have hw267_0:=hx267_0
        (try simp only [tn0_,Nat.zero_mul,Addr.add_zero'] at hw267_0)
        cases e267
        have qi267:(0 < ((rd_T29 l0 x6_1).f2).length)=True:=eq_true (by omega)
        (try simp only [tn0_,Nat.zero_mul,Addr.add_zero'] at hx267_0 hx267_1 hx267_2 hx267_3 hx267_4)
        replace hx267_0:=(cb_ HB.out hx267_0:_)
        replace hx267_1:=(cb_ HB.out hx267_1:_)
        replace hx267_2:=(cb_ HB.out hx267_2:_)
        replace hx267_3:=(cb_ HB.out hx267_3:_)
        replace hx267_4:=(cb_ HB.out hx267_4:_)
        have HR267_3:=Aside0.mk hi267_3
        have HC267_3:=Aside0.mk hl267_3
        clear hi267_3 hl267_3
        replace p267:=eq_true p267
        replace q267:=eq_true q267
        have p269:0≤(1:Int):=(by omega)
        have q269:1 < (((rd_T29 l0 x6_1).f2).length:Int):=of_decide_eq_true as_
        obtain ⟨ad269,A269_3,c269_3,e269,hx269_0,hx269_1,hx269_2,hx269_3,hx269_4,hl269_3,hi269_3⟩:=at_T24 HR259_2.out 1 p269 q269
        have hw269_4:=hx269_4
        (try rw [show ((1:Int)).toNat=1 from rfl] at hw269_4)
        (try rw [show 1 * 5=5 from rfl] at hw269_4)
        (try simp only [Nat.reduceMul,Nat.reduceEqDiff,Go.Addr.add,↓reduceIte] at hw269_4)
        have hw269_3:=hx269_3
        (try rw [show ((1:Int)).toNat=1 from rfl] at hw269_3)
        (try rw [show 1 * 5=5 from rfl] at hw269_3)
        (try simp only [Nat.reduceMul,Nat.reduceEqDiff,Go.Addr.add,↓reduceIte] at hw269_3)
        have hw269_2:=hx269_2
        (try rw [show ((1:Int)).toNat=1 from rfl] at hw269_2)
        (try rw [show 1 * 5=5 from rfl] at hw269_2)
        (try simp only [Nat.reduceMul,Nat.reduceEqDiff,Go.Addr.add,↓reduceIte] at hw269_2)
        have hw269_1:=hx269_1
        (try rw [show ((1:Int)).toNat=1 from rfl] at hw269_1)
        (try rw [show 1 * 5=5 from rfl] at hw269_1)
        (try simp only [Nat.reduceMul,Nat.reduceEqDiff,Go.Addr.add,↓reduceIte] at hw269_1)
        have hw269_0:=hx269_0
        (try rw [show ((1:Int)).toNat=1 from rfl] at hw269_0)
        (try rw [show 1 * 5=5 from rfl] at hw269_0)
        (try simp only [Nat.reduceMul,Nat.reduceEqDiff,Go.Addr.add,↓reduceIte] at hw269_0)
        obtain rfl:ad267=ad269:=(by injection e269)
        (try simp only [show (1:Int).toNat=1 from rfl,Nat.reduceMul,Nat.reduceEqDiff,Go.Addr.add,↓reduceIte] at hx269_0)
        (try simp only [show (1:Int).toNat=1 from rfl,Nat.reduceMul,Nat.reduceEqDiff,Go.Addr.add,↓reduceIte] at hx269_1)
        (try simp only [show (1:Int).toNat=1 from rfl,Nat.reduceMul,Nat.reduceEqDiff,Go.Addr.add,↓reduceIte] at hx269_2)
        (try simp only [show (1:Int).toNat=1 from rfl,Nat.reduceMul,Nat.reduceEqDiff,Go.Addr.add,↓reduceIte] at hx269_3)
        (try simp only [show (1:Int).toNat=1 from rfl,Nat.reduceMul,Nat.reduceEqDiff,Go.Addr.add,↓reduceIte] at hx269_4)
        have qi269:(1 < ((rd_T29 l0 x6_1).f2).length)=True:=eq_true (by omega)
        (try rw [show ((1:Int)).toNat=1 from rfl] at hx269_0)
        (try rw [show 1 * 5=5 from rfl] at hx269_0)
        (try rw [show ((1:Int)).toNat=1 from rfl] at hx269_1)
        (try rw [show 1 * 5=5 from rfl] at hx269_1)
        (try rw [show ((1:Int)).toNat=1 from rfl] at hx269_2)
        (try rw [show 1 * 5=5 from rfl] at hx269_2)
        (try rw [show ((1:Int)).toNat=1 from rfl] at hx269_3)
        (try rw [show 1 * 5=5 from rfl] at hx269_3)
        (try rw [show ((1:Int)).toNat=1 from rfl] at hx269_4)
        (try rw [show 1 * 5=5 from rfl] at hx269_4)
        replace hx269_0:=(cb_ HB.out hx269_0:_)
        replace hx269_1:=(cb_ HB.out hx269_1:_)
        replace hx269_2:=(cb_ HB.out hx269_2:_)
        replace hx269_3:=(cb_ HB.out hx269_3:_)
        replace hx269_4:=(cb_ HB.out hx269_4:_)
        have HR269_3:=Aside0.mk hi269_3
        have HC269_3:=Aside0.mk hl269_3
        clear hi269_3 hl269_3
        replace p269:=eq_true p269
        replace q269:=eq_true q269
        as_aux_lemma=>
         refine start_ (n:=17) (S:=fun w'=>w'.cell? ⟨gb260,0,none⟩=some (.string ((rd_T29 l0 x6_1).f0))∧w'.cell? ⟨gb260,1,none⟩=some (.string ((rd_T29 l0 x6_1).f1))∧w'.cell? ⟨gb260,2,none⟩=some (.slice (some ad267) ((rd_T29 l0 x6_1).f2).length c259_2)∧w'.cell? ⟨gb260,3,none⟩=some (.slice A259_3 ((rd_T29 l0 x6_1).f3).length c259_3)∧w'.cell? ⟨gb260,4,none⟩=some (.slice A259_4 ((rd_T29 l0 x6_1).f4).length c259_4)∧w'.cell? ⟨gb260,5,none⟩=some (.int .i64 ((rd_T29 l0 x6_1).f5))∧w'.cell? ad267=some (.string ((rd_T24 ((rd_T29 l0 x6_1).f2) 0).f0))∧w'.cell? ⟨ad267.block,ad267.off+1,none⟩=some (.string ((rd_T24 ((rd_T29 l0 x6_1).f2) 0).f1))∧w'.cell? ⟨ad267.block,ad267.off+2,none⟩=some (.int .i64 ((rd_T24 ((rd_T29 l0 x6_1).f2) 0).f2))∧w'.cell? ⟨ad267.block,ad267.off+3,none⟩=some (.slice A267_3 ((rd_T24 ((rd_T29 l0 x6_1).f2) 0).f3).length c267_3)∧w'.cell? ⟨ad267.block,ad267.off+4,none⟩=some (.int .i64 ((rd_T24 ((rd_T29 l0 x6_1).f2) 0).f4))∧w'.cell? ⟨ad267.block,ad267.off+5,none⟩=some (.string ((rd_T24 ((rd_T29 l0 x6_1).f2) 1).f0))∧w'.cell? ⟨ad267.block,ad267.off+5+1,none⟩=some (.string ((rd_T24 ((rd_T29 l0 x6_1).f2) 1).f1))∧w'.cell? ⟨ad267.block,ad267.off+5+2,none⟩=some (.int .i64 ((rd_T24 ((rd_T29 l0 x6_1).f2) 1).f2))∧w'.cell? ⟨ad267.block,ad267.off+5+3,none⟩=some (.slice A269_3 ((rd_T24 ((rd_T29 l0 x6_1).f2) 1).f3).length c269_3)∧w'.cell? ⟨ad267.block,ad267.off+5+4,none⟩=some (.int .i64 ((rd_T24 ((rd_T29 l0 x6_1).f2) 1).f4))) (ds:=[]) (flg 17 0) (by kernel_rfl) rfl (by kernel_rfl) ⟨zc_ BK260.out 0,zc_ BK260.out 1,zc_ BK260.out 2,zc_ BK260.out 3,zc_ BK260.out 4,zc_ BK260.out 5,((cb_ HB.out hw267_0:_)),((cb_ HB.out hw267_1:_)),((cb_ HB.out hw267_2:_)),((cb_ HB.out hw267_3:_)),((cb_ HB.out hw267_4:_)),((cb_ HB.out hw269_0:_)),((cb_ HB.out hw269_1:_)),((cb_ HB.out hw269_2:_)),((cb_ HB.out hw269_3:_)),((cb_ HB.out hw269_4:_))⟩ (fun hHeld=>?_);refine with_tabW helmsmanref12_block.tab15 helmsmanref12_block.bits15 (fun HT_ HW_=>?_)
         generalize w51.drew=w52 at BK260 HB HR267_3 HR269_3 hx267_0 hx267_1 hx267_2 hx267_3 hx267_4 hx269_0 hx269_1 hx269_2 hx269_3 hx269_4 hHeld ⊢
         refine pu_ 0 69 (flg 17 1) ?_
         refine pu_ 1 70 (flg 17 3) ?_
         refine pu_ 2 71 (flg 17 7) ?_
         refine pu_ 9 78 (flg 17 519) ?_
         refine ta_ 3 72 (flg 17 527) hHeld ?_
         refine pu_ 4 73 (flg 17 543) ?_
         refine ta_ 5 74 (flg 17 575) hHeld ?_
         refine ta_ 10 79 (flg 17 1599) hHeld ?_
         refine pu_ 11 80 (flg 17 3647) ?_
         refine ta_ 12 81 (flg 17 7743) hHeld ?_
         refine one_ (i:=6) (N:=some 75) (flg 17 7807) rfl rfl (one_of HT_.out (by kernel_rfl)) (by decide) (fun K hK=>?_)
         refine goes_ Tryd.func13 (by kernel_rfl) rfl #[.agg #[.string ((rd_T24 ((rd_T29 l0 x6_1).f2) 0).f0),.string ((rd_T24 ((rd_T29 l0 x6_1).f2) 0).f1),.int .i64 ((rd_T24 ((rd_T29 l0 x6_1).f2) 0).f2),.slice A267_3 ((rd_T24 ((rd_T29 l0 x6_1).f2) 0).f3).length c267_3,.int .i64 ((rd_T24 ((rd_T29 l0 x6_1).f2) 0).f4)]] (by rfl) rfl rfl ar_ ?_
         with_reducible refine (helmsmanref12_Text.calls k1 ((rd_T24 ((rd_T29 l0 x6_1).f2) 0).f0) ((rd_T24 ((rd_T29 l0 x6_1).f2) 0).f1) ((rd_T24 ((rd_T29 l0 x6_1).f2) 0).f2) _ _ ((rd_T24 ((rd_T29 l0 x6_1).f2) 0).f3) ((rd_T24 ((rd_T29 l0 x6_1).f2) 0).f4) t268 _ ?side1 ?side2 A41.out).mono ?_
         (case side1=>exact kc_ HR267_3.out HB.out)
         (case side2=>exact HC267_3.out)
         rintro e w53 ⟨rfl,hb⟩
         refine ⟨_,rfl,?_⟩
         replace BK260:=Aside0.mk (bb_ BK260.out hb)
         replace HB:=Aside0.mk (below_step (bl_ HB.out) hb)
         refine ko_ hK (fun hHeld=>?_)
         clear hK K
         refine nm_ ?_
         refine pu_ 7 76 (flg 17 7935) ?_
         refine pu_ 8 77 (flg 17 8191) ?_
         refine one_ (i:=13) (N:=some 82) (flg 17 16383) rfl rfl (one_of HT_.out (by kernel_rfl)) (by decide) (fun K hK=>?_)
         refine goes_ Tryd.func13 (by kernel_rfl) rfl #[.agg #[.string ((rd_T24 ((rd_T29 l0 x6_1).f2) 1).f0),.string ((rd_T24 ((rd_T29 l0 x6_1).f2) 1).f1),.int .i64 ((rd_T24 ((rd_T29 l0 x6_1).f2) 1).f2),.slice A269_3 ((rd_T24 ((rd_T29 l0 x6_1).f2) 1).f3).length c269_3,.int .i64 ((rd_T24 ((rd_T29 l0 x6_1).f2) 1).f4)]] (by rfl) rfl rfl ar_ ?_
         with_reducible refine (helmsmanref12_Text.calls k1 ((rd_T24 ((rd_T29 l0 x6_1).f2) 1).f0) ((rd_T24 ((rd_T29 l0 x6_1).f2) 1).f1) ((rd_T24 ((rd_T29 l0 x6_1).f2) 1).f2) _ _ ((rd_T24 ((rd_T29 l0 x6_1).f2) 1).f3) ((rd_T24 ((rd_T29 l0 x6_1).f2) 1).f4) t270 _ ?side1 ?side2 A45.out).mono ?_
         (case side1=>exact kc_ HR269_3.out HB.out)
         (case side2=>exact HC269_3.out)
         rintro e w54 ⟨rfl,hb⟩
         refine ⟨_,rfl,?_⟩
         replace BK260:=Aside0.mk (bb_ BK260.out hb)
         replace HB:=Aside0.mk (below_step (bl_ HB.out) hb)
         refine ko_ hK (fun hHeld=>?_)
         clear hK K
         refine nm_ ?_
         refine pu_ 14 83 (flg 17 32767) ?_
         refine pu_ 15 84 (flg 17 65535) ?_
         refine pu_ 16 5 (flg 17 131071) ?_
         refine done_ (done_of HT_.out (by kernel_rfl)) ?_
         try go_wp2
         go_roundg k1
         case measure=>have:=HK1.out;omega
         case rel=>exact ⟨(((((((((x5_1++a1)++((rd_T29 l0 x6_1).f1))++(⟨#[32,61,32,105,110,112,117,116]⟩:ByteArray))++(⟨#[40]⟩:ByteArray))++t268)++(⟨#[44,32]⟩:ByteArray))++t270)++(⟨#[41]⟩:ByteArray))++(⟨#[59,10]⟩:ByteArray)),(wrap64 (x6_1+1)),rf_,rf_,H',⟨by have:=HK1.out;omega⟩,⟨bl_ HB.out⟩⟩
       ·rw [if_neg c38] at H
        have c38b0:=decide_eq_false (show ¬ _ < _ from c38)
        have c38b1:decide (0 < ((rd_T29 l0 x6_1).f2).length)=false:=decide_eq_false (by omega)
        clear c38
        revert H
        refine gd_ fun c55 H=>?_
        have c55b0:=eq_true c55
        have c55b1:=decide_eq_true c55
        have c55b2:=nlt_ c55
        try have c55b3:(9223372036854775807 < x5_1.size+a1.size+((rd_T29 l0 x6_1).f1).size+8+2)=False:=by have h_:=c55b2;simp only [ByteArray.size_append] at h_;exact h_
        try have c55b4:(x5_1.size+a1.size+((rd_T29 l0 x6_1).f1).size+8+2≤9223372036854775807)=True:=by have h_:=c55b0;simp only [ByteArray.size_append] at h_;exact h_
        have H':=Aside0.mk H
        clear H
        have p259:0≤(x6_1:Int):=of_decide_eq_true as_
        have q259:x6_1 < (l0.length:Int):=of_decide_eq_true as_
        obtain ⟨ad259,A259_2,c259_2,A259_3,c259_3,A259_4,c259_4,e259,hx259_0,hx259_1,hx259_2,hx259_3,hx259_4,hx259_5,hl259_2,hi259_2,hl259_3,hi259_3,hl259_4,hi259_4⟩:=at_T29 HR0.out x6_1 p259 q259
        cases e259
        replace hx259_0:=(cb_ HB.out hx259_0:_)
        replace hx259_1:=(cb_ HB.out hx259_1:_)
        replace hx259_2:=(cb_ HB.out hx259_2:_)
        replace hx259_3:=(cb_ HB.out hx259_3:_)
        replace hx259_4:=(cb_ HB.out hx259_4:_)
        replace hx259_5:=(cb_ HB.out hx259_5:_)
        have HR259_2:=Aside0.mk hi259_2
        have HC259_2:=Aside0.mk hl259_2
        clear hi259_2 hl259_2
        have HR259_3:=Aside0.mk hi259_3
        have HC259_3:=Aside0.mk hl259_3
        clear hi259_3 hl259_3
        have HR259_4:=Aside0.mk hi259_4
        have HC259_4:=Aside0.mk hl259_4
        clear hi259_4 hl259_4
        replace p259:=eq_true p259
        replace q259:=eq_true q259
        go_wp2_with (first|((with_reducible refine gate_dst (N:=7) rfl ?_);refine bx_ (N:=7) (cs:=#[.string (⟨#[]⟩:ByteArray),.string (⟨#[]⟩:ByteArray),.slice none 0 0,.slice none 0 0,.slice none 0 0,.int .i64 0]) (t:=29) ?_;intro gb260 hg w56 hbox hb;have BK260:=Aside0.mk (hbox);have GW260:=Aside0.mk ((gs_ hg (bl_ HB.out):w.heap.size≤gb260));have GE260:=Aside0.mk ((gs_ hg (bl_ HB.out):w.heap.size≤gb260));replace HB:=Aside0.mk (below_step (bl_ HB.out) hb);clear hb hbox hg;obtain ⟨hcz57_0,hcz57_1,hcz57_2,hcz57_3,hcz57_4,hcz57_5,hfz57_0,hfz57_1,hfz57_2,hfz57_3,hfz57_4,hfz57_5⟩:=zf6_ BK260.out))
        go_roundg k1
        case measure=>have:=HK1.out;omega
        case rel=>exact ⟨((((x5_1++a1)++((rd_T29 l0 x6_1).f1))++(⟨#[32,61,32,105,110,112,117,116]⟩:ByteArray))++(⟨#[59,10]⟩:ByteArray)),(wrap64 (x6_1+1)),rf_,rf_,H',⟨by have:=HK1.out;omega⟩,⟨bl_ HB.out⟩⟩
      ·rw [if_neg c35] at H
       have c35b0:=bqf_ c35
       have c35b1:=bnt_ c35
       have HC58:=Aside0.mk H
       clear H
       have p259:0≤(x6_1:Int):=of_decide_eq_true as_
       have q259:x6_1 < (l0.length:Int):=of_decide_eq_true as_
       obtain ⟨ad259,A259_2,c259_2,A259_3,c259_3,A259_4,c259_4,e259,hx259_0,hx259_1,hx259_2,hx259_3,hx259_4,hx259_5,hl259_2,hi259_2,hl259_3,hi259_3,hl259_4,hi259_4⟩:=at_T29 HR0.out x6_1 p259 q259
       cases e259
       replace hx259_0:=(cb_ HB.out hx259_0:_)
       replace hx259_1:=(cb_ HB.out hx259_1:_)
       replace hx259_2:=(cb_ HB.out hx259_2:_)
       replace hx259_3:=(cb_ HB.out hx259_3:_)
       replace hx259_4:=(cb_ HB.out hx259_4:_)
       replace hx259_5:=(cb_ HB.out hx259_5:_)
       have HR259_2:=Aside0.mk hi259_2
       have HC259_2:=Aside0.mk hl259_2
       clear hi259_2 hl259_2
       have HR259_3:=Aside0.mk hi259_3
       have HC259_3:=Aside0.mk hl259_3
       clear hi259_3 hl259_3
       have HR259_4:=Aside0.mk hi259_4
       have HC259_4:=Aside0.mk hl259_4
       clear hi259_4 hl259_4
       replace p259:=eq_true p259
       replace q259:=eq_true q259
       go_upto_if 87 with (first|((with_reducible refine gate_dst (N:=7) rfl ?_);refine bx_ (N:=7) (cs:=#[.string (⟨#[]⟩:ByteArray),.string (⟨#[]⟩:ByteArray),.slice none 0 0,.slice none 0 0,.slice none 0 0,.int .i64 0]) (t:=29) ?_;intro gb260 hg w59 hbox hb;have BK260:=Aside0.mk (hbox);have GW260:=Aside0.mk ((gs_ hg (bl_ HB.out):w.heap.size≤gb260));have GE260:=Aside0.mk ((gs_ hg (bl_ HB.out):w.heap.size≤gb260));replace HB:=Aside0.mk (below_step (bl_ HB.out) hb);clear hb hbox hg;obtain ⟨hcz60_0,hcz60_1,hcz60_2,hcz60_3,hcz60_4,hcz60_5,hfz60_0,hfz60_1,hfz60_2,hfz60_3,hfz60_4,hfz60_5⟩:=zf6_ BK260.out))
       (try simp only [Act.put,List.setIfInBounds_toArray,List.set_cons_zero,List.set_cons_succ])
       go_cut [87] (fun v87 wc=>∃ (kq:Nat) (x87_57:Bool),v87=.bool x87_57∧Aside0 (helmsmanref12_block.j1 kq l0 a1 (x5_1++a1) x6_1 ((rd_T29 l0 x6_1).f0) x87_57 ((rd_T29 l0 x6_1).f0) ((rd_T29 l0 x6_1).f1) ((rd_T29 l0 x6_1).f2) ((rd_T29 l0 x6_1).f3) ((rd_T29 l0 x6_1).f4) ((rd_T29 l0 x6_1).f5)=some r)∧Aside0 (kq≤k1)∧Aside0 (wc.heap[gb260]?=some (.cells #[.string ((rd_T29 l0 x6_1).f0),.string ((rd_T29 l0 x6_1).f1),(.slice A259_2 ((rd_T29 l0 x6_1).f2).length c259_2),(.slice A259_3 ((rd_T29 l0 x6_1).f3).length c259_3),(.slice A259_4 ((rd_T29 l0 x6_1).f4).length c259_4),.int .i64 ((rd_T29 l0 x6_1).f5)] 29 (0,0)))∧Aside0 (Below w.heap.size w wc))
       case first=>
        have H:=HC58.out
        clear HC58
        by_cases c61:((rd_T29 l0 x6_1).f0).toList=([97,115,115,101,114,116]:List UInt8)
        ·rw [if_pos c61] at H
         have c61b0:=bqt_ c61
         have c61b1:=bnf_ c61
         clear c61
         (first|rw [c61b0]|(simp only [i64_w,i32_w];rw [c61b0])|skip)
         have H':=Aside0.mk H
         clear H
         go_wp2
         go_meet
         case rel=>exact ⟨_,((((rd_T29 l0 x6_1).f0).toList == ([97,115,115,101,114,116]:List UInt8))),rf_,H',⟨by have:=HK1.out;first|omega|exact Nat.le_refl _⟩,⟨kbc_ BK260.out⟩,⟨bl_ HB.out⟩⟩
        ·rw [if_neg c61] at H
         have c61b0:=bqf_ c61
         have c61b1:=bnt_ c61
         (first|rw [c61b0]|(simp only [i64_w,i32_w];rw [c61b0])|skip)
         have H':=Aside0.mk H
         clear H
         go_wp2
         go_meet
         case rel=>exact ⟨_,((((rd_T29 l0 x6_1).f0).toList == ([97,115,115,117,109,101]:List UInt8))),rf_,H',⟨by have:=HK1.out;first|omega|exact Nat.le_refl _⟩,⟨kbc_ BK260.out⟩,⟨bl_ HB.out⟩⟩
       case rest=>
        clear HC58
        obtain ⟨kq,x87_57,rfl,HA,HJ57,BK260,HB⟩:=hcut
        cases kq with
        | zero=>exact absurd HA.out (by simp [helmsmanref12_block.j1])
        | succ kj57=>
         have H:=HA.out
         clear HA
         simp only [helmsmanref12_block.j1] at H
         by_cases c62:x87_57=true
         ·subst c62
          replace H:=ip_ H
          revert H
          refine gd_ fun c63 H=>?_
          have c63b0:=eq_true c63
          have c63b1:=decide_eq_true c63
          have c63b2:=nlt_ c63
          try have c63b3:(9223372036854775807 < x5_1.size+a1.size+((rd_T29 l0 x6_1).f0).size)=False:=by have h_:=c63b2;simp only [ByteArray.size_append] at h_;exact h_
          try have c63b4:(x5_1.size+a1.size+((rd_T29 l0 x6_1).f0).size≤9223372036854775807)=True:=by have h_:=c63b0;simp only [ByteArray.size_append] at h_;exact h_
          revert H
          refine gd_ fun c64 H=>?_
          have c64b0:=eq_true c64
          have c64b1:=decide_eq_true c64
          have c64b2:=nlt_ c64
          try have c64b3:(9223372036854775807 < x5_1.size+a1.size+((rd_T29 l0 x6_1).f0).size+1)=False:=by have h_:=c64b2;simp only [ByteArray.size_append] at h_;exact h_
          try have c64b4:(x5_1.size+a1.size+((rd_T29 l0 x6_1).f0).size+1≤9223372036854775807)=True:=by have h_:=c64b0;simp only [ByteArray.size_append] at h_;exact h_
          revert H
          refine gd_ fun c65 H=>?_
          have c65b0:=decide_eq_true c65
          have c65b1:decide (0 < ((rd_T29 l0 x6_1).f2).length)=true:=decide_eq_true (by omega)
          clear c65
          revert H
          refine bd_ fun t272 A66 H=>?_
          revert H
          refine gd_ fun c67 H=>?_
          have c67b0:=eq_true c67
          have c67b1:=decide_eq_true c67
          have c67b2:=nlt_ c67
          try have c67b3:(9223372036854775807 < x5_1.size+a1.size+((rd_T29 l0 x6_1).f0).size+1+t272.size)=False:=by have h_:=c67b2;simp only [ByteArray.size_append] at h_;exact h_
          try have c67b4:(x5_1.size+a1.size+((rd_T29 l0 x6_1).f0).size+1+t272.size≤9223372036854775807)=True:=by have h_:=c67b0;simp only [ByteArray.size_append] at h_;exact h_
          revert H
          refine gd_ fun c68 H=>?_
          have c68b0:=eq_true c68
          have c68b1:=decide_eq_true c68
          have c68b2:=nlt_ c68
          try have c68b3:(9223372036854775807 < x5_1.size+a1.size+((rd_T29 l0 x6_1).f0).size+1+t272.size+2)=False:=by have h_:=c68b2;simp only [ByteArray.size_append] at h_;exact h_
          try have c68b4:(x5_1.size+a1.size+((rd_T29 l0 x6_1).f0).size+1+t272.size+2≤9223372036854775807)=True:=by have h_:=c68b0;simp only [ByteArray.size_append] at h_;exact h_
          have H':=Aside0.mk H
          clear H
          try go_wp2
          replace BK260:=Aside0.mk (blk_drew BK260.out)
          replace HB:=Aside0.mk (below_drew1 HB.out)
          have p271:0≤(0:Int):=(by omega)
          have q271:0 < (((rd_T29 l0 x6_1).f2).length:Int):=of_decide_eq_true as_
          obtain ⟨ad271,A271_3,c271_3,e271,hx271_0,hx271_1,hx271_2,hx271_3,hx271_4,hl271_3,hi271_3⟩:=at_T24 HR259_2.out 0 p271 q271
          have hw271_4:=hx271_4
          (try simp only [tn0_,Nat.zero_mul,Addr.add_zero'] at hw271_4)
          have hw271_3:=hx271_3
          (try simp only [tn0_,Nat.zero_mul,Addr.add_zero'] at hw271_3)
          have hw271_2:=hx271_2
          (try simp only [tn0_,Nat.zero_mul,Addr.add_zero'] at hw271_2)
          have hw271_1:=hx271_1
          (try simp only [tn0_,Nat.zero_mul,Addr.add_zero'] at hw271_1)
          have hw271_0:=hx271_0
          (try simp only [tn0_,Nat.zero_mul,Addr.add_zero'] at hw271_0)
          cases e271
          have qi271:(0 < ((rd_T29 l0 x6_1).f2).length)=True:=eq_true (by omega)
          (try simp only [tn0_,Nat.zero_mul,Addr.add_zero'] at hx271_0 hx271_1 hx271_2 hx271_3 hx271_4)
          replace hx271_0:=(cb_ HB.out hx271_0:_)
          replace hx271_1:=(cb_ HB.out hx271_1:_)
          replace hx271_2:=(cb_ HB.out hx271_2:_)
          replace hx271_3:=(cb_ HB.out hx271_3:_)
          replace hx271_4:=(cb_ HB.out hx271_4:_)
          have HR271_3:=Aside0.mk hi271_3
          have HC271_3:=Aside0.mk hl271_3
          clear hi271_3 hl271_3
          replace p271:=eq_true p271
          replace q271:=eq_true q271
          as_aux_lemma=>
           refine start_ (n:=13) (S:=fun w'=>w'.cell? ⟨gb260,0,none⟩=some (.string ((rd_T29 l0 x6_1).f0))∧w'.cell? ⟨gb260,1,none⟩=some (.string ((rd_T29 l0 x6_1).f1))∧w'.cell? ⟨gb260,2,none⟩=some (.slice (some ad271) ((rd_T29 l0 x6_1).f2).length c259_2)∧w'.cell? ⟨gb260,3,none⟩=some (.slice A259_3 ((rd_T29 l0 x6_1).f3).length c259_3)∧w'.cell? ⟨gb260,4,none⟩=some (.slice A259_4 ((rd_T29 l0 x6_1).f4).length c259_4)∧w'.cell? ⟨gb260,5,none⟩=some (.int .i64 ((rd_T29 l0 x6_1).f5))∧w'.cell? ad271=some (.string ((rd_T24 ((rd_T29 l0 x6_1).f2) 0).f0))∧w'.cell? ⟨ad271.block,ad271.off+1,none⟩=some (.string ((rd_T24 ((rd_T29 l0 x6_1).f2) 0).f1))∧w'.cell? ⟨ad271.block,ad271.off+2,none⟩=some (.int .i64 ((rd_T24 ((rd_T29 l0 x6_1).f2) 0).f2))∧w'.cell? ⟨ad271.block,ad271.off+3,none⟩=some (.slice A271_3 ((rd_T24 ((rd_T29 l0 x6_1).f2) 0).f3).length c271_3)∧w'.cell? ⟨ad271.block,ad271.off+4,none⟩=some (.int .i64 ((rd_T24 ((rd_T29 l0 x6_1).f2) 0).f4))) (ds:=[]) (flg 13 0) (by kernel_rfl) rfl (by kernel_rfl) ⟨zc_ BK260.out 0,zc_ BK260.out 1,zc_ BK260.out 2,zc_ BK260.out 3,zc_ BK260.out 4,zc_ BK260.out 5,((cb_ HB.out hw271_0:_)),((cb_ HB.out hw271_1:_)),((cb_ HB.out hw271_2:_)),((cb_ HB.out hw271_3:_)),((cb_ HB.out hw271_4:_))⟩ (fun hHeld=>?_);refine with_tabW helmsmanref12_block.tab19 helmsmanref12_block.bits19 (fun HT_ HW_=>?_)
           generalize wc.drew=w69 at BK260 HB HR271_3 hx271_0 hx271_1 hx271_2 hx271_3 hx271_4 hHeld ⊢
           refine pu_ 0 90 (flg 13 1) ?_
           refine pu_ 1 91 (flg 13 3) ?_
           refine pu_ 5 95 (flg 13 35) ?_
           refine ta_ 2 92 (flg 13 39) hHeld ?_
           refine pu_ 3 93 (flg 13 47) ?_
           refine pu_ 4 94 (flg 13 63) ?_
           refine ta_ 6 96 (flg 13 127) hHeld ?_
           refine pu_ 7 97 (flg 13 255) ?_
           refine ta_ 8 98 (flg 13 511) hHeld ?_
           refine one_ (i:=9) (N:=some 99) (flg 13 1023) rfl rfl (one_of HT_.out (by kernel_rfl)) (by decide) (fun K hK=>?_)
           refine goes_ Tryd.func13 (by kernel_rfl) rfl #[.agg #[.string ((rd_T24 ((rd_T29 l0 x6_1).f2) 0).f0),.string ((rd_T24 ((rd_T29 l0 x6_1).f2) 0).f1),.int .i64 ((rd_T24 ((rd_T29 l0 x6_1).f2) 0).f2),.slice A271_3 ((rd_T24 ((rd_T29 l0 x6_1).f2) 0).f3).length c271_3,.int .i64 ((rd_T24 ((rd_T29 l0 x6_1).f2) 0).f4)]] (by rfl) rfl rfl ar_ ?_
           with_reducible refine (helmsmanref12_Text.calls kj57 ((rd_T24 ((rd_T29 l0 x6_1).f2) 0).f0) ((rd_T24 ((rd_T29 l0 x6_1).f2) 0).f1) ((rd_T24 ((rd_T29 l0 x6_1).f2) 0).f2) _ _ ((rd_T24 ((rd_T29 l0 x6_1).f2) 0).f3) ((rd_T24 ((rd_T29 l0 x6_1).f2) 0).f4) t272 _ ?side1 ?side2 A66.out).mono ?_
           (case side1=>exact kc_ HR271_3.out HB.out)
           (case side2=>exact HC271_3.out)
           rintro e w70 ⟨rfl,hb⟩
           refine ⟨_,rfl,?_⟩
           replace BK260:=Aside0.mk (bb_ BK260.out hb)
           replace HB:=Aside0.mk (below_step (bl_ HB.out) hb)
           refine ko_ hK (fun hHeld=>?_)
           clear hK K
           refine nm_ ?_
           refine pu_ 10 100 (flg 13 2047) ?_
           refine pu_ 11 101 (flg 13 4095) ?_
           refine pu_ 12 5 (flg 13 8191) ?_
           refine done_ (done_of HT_.out (by kernel_rfl)) ?_
           try go_wp2
           go_roundg kj57
           case measure=>have:=HK1.out;have:=HJ57.out;omega
           case rel=>exact ⟨(((((x5_1++a1)++((rd_T29 l0 x6_1).f0))++(⟨#[32]⟩:ByteArray))++t272)++(⟨#[59,10]⟩:ByteArray)),(wrap64 (x6_1+1)),rf_,rf_,H',⟨by have:=HK1.out;have:=HJ57.out;omega⟩,⟨bl_ HB.out⟩⟩
         ·replace c62:=Bool.eq_false_iff.mpr c62
          subst c62
          replace H:=in_ H
          by_cases c71:((rd_T29 l0 x6_1).f0).toList=([99,97,108,108]:List UInt8)
          ·rw [if_pos c71] at H
           have c71b0:=bqt_ c71
           have c71b1:=bnf_ c71
           clear c71
           revert H
           refine gd_ fun c72 H=>?_
           have c72b0:=eq_true c72
           have c72b1:=decide_eq_true c72
           have c72b2:=nlt_ c72
           try have c72b3:(9223372036854775807 < x5_1.size+a1.size+5)=False:=by have h_:=c72b2;simp only [ByteArray.size_append] at h_;exact h_
           try have c72b4:(x5_1.size+a1.size+5≤9223372036854775807)=True:=by have h_:=c72b0;simp only [ByteArray.size_append] at h_;exact h_
           revert H
           refine gd_ fun c73 H=>?_
           have c73b0:=eq_true c73
           have c73b1:=decide_eq_true c73
           have c73b2:=nlt_ c73
           try have c73b3:(9223372036854775807 < x5_1.size+a1.size+5+((rd_T29 l0 x6_1).f1).size)=False:=by have h_:=c73b2;simp only [ByteArray.size_append] at h_;exact h_
           try have c73b4:(x5_1.size+a1.size+5+((rd_T29 l0 x6_1).f1).size≤9223372036854775807)=True:=by have h_:=c73b0;simp only [ByteArray.size_append] at h_;exact h_
           revert H
           refine gd_ fun c74 H=>?_
           have c74b0:=eq_true c74
           have c74b1:=decide_eq_true c74
           have c74b2:=nlt_ c74
           try have c74b3:(9223372036854775807 < x5_1.size+a1.size+5+((rd_T29 l0 x6_1).f1).size+2)=False:=by have h_:=c74b2;simp only [ByteArray.size_append] at h_;exact h_
           try have c74b4:(x5_1.size+a1.size+5+((rd_T29 l0 x6_1).f1).size+2≤9223372036854775807)=True:=by have h_:=c74b0;simp only [ByteArray.size_append] at h_;exact h_
           have H':=Aside0.mk H
           clear H
           obtain ⟨hcz75_0,hcz75_1,hcz75_2,hcz75_3,hcz75_4,hcz75_5,hfz75_0,hfz75_1,hfz75_2,hfz75_3,hfz75_4,hfz75_5⟩:=zf6_ BK260.out
           go_wp2
           go_roundg kj57
           case measure=>have:=HK1.out;have:=HJ57.out;omega
           case rel=>exact ⟨((((x5_1++a1)++(⟨#[99,97,108,108,32]⟩:ByteArray))++((rd_T29 l0 x6_1).f1))++(⟨#[59,10]⟩:ByteArray)),(wrap64 (x6_1+1)),rf_,rf_,H',⟨by have:=HK1.out;have:=HJ57.out;omega⟩,⟨bl_ HB.out⟩⟩
          ·rw [if_neg c71] at H
           have c71b0:=bqf_ c71
           have c71b1:=bnt_ c71
           by_cases c76:((rd_T29 l0 x6_1).f0).toList=([115,107,105,112]:List UInt8)
           ·rw [if_pos c76] at H
            have c76b0:=bqt_ c76
            have c76b1:=bnf_ c76
            clear c76
            revert H
            refine gd_ fun c77 H=>?_
            have c77b0:=eq_true c77
            have c77b1:=decide_eq_true c77
            have c77b2:=nlt_ c77
            try have c77b3:(9223372036854775807 < x5_1.size+a1.size+6)=False:=by have h_:=c77b2;simp only [ByteArray.size_append] at h_;exact h_
            try have c77b4:(x5_1.size+a1.size+6≤9223372036854775807)=True:=by have h_:=c77b0;simp only [ByteArray.size_append] at h_;exact h_
            have H':=Aside0.mk H
            clear H
            go_wp2
            go_roundg kj57
            case measure=>have:=HK1.out;have:=HJ57.out;omega
            case rel=>exact ⟨((x5_1++a1)++(⟨#[115,107,105,112,59,10]⟩:ByteArray)),(wrap64 (x6_1+1)),rf_,rf_,H',⟨by have:=HK1.out;have:=HJ57.out;omega⟩,⟨bl_ HB.out⟩⟩
           ·rw [if_neg c76] at H
            have c76b0:=bqf_ c76
            have c76b1:=bnt_ c76
            by_cases c78:((rd_T29 l0 x6_1).f0).toList=([119,104,105,108,101]:List UInt8)
            ·rw [if_pos c78] at H
             have c78b0:=bqt_ c78
             have c78b1:=bnf_ c78
             clear c78
             revert H
             refine gd_ fun c79 H=>?_
             have c79b0:=eq_true c79
             have c79b1:=decide_eq_true c79
             have c79b2:=nlt_ c79
             try have c79b3:(9223372036854775807 < x5_1.size+a1.size+6)=False:=by have h_:=c79b2;simp only [ByteArray.size_append] at h_;exact h_
             try have c79b4:(x5_1.size+a1.size+6≤9223372036854775807)=True:=by have h_:=c79b0;simp only [ByteArray.size_append] at h_;exact h_
             revert H
             refine gd_ fun c80 H=>?_
             have c80b0:=decide_eq_true c80
             have c80b1:decide (0 < ((rd_T29 l0 x6_1).f2).length)=true:=decide_eq_true (by omega)
             clear c80
             revert H
             refine bd_ fun t274 A81 H=>?_
             revert H
             refine gd_ fun c82 H=>?_
             have c82b0:=eq_true c82
             have c82b1:=decide_eq_true c82
             have c82b2:=nlt_ c82
             try have c82b3:(9223372036854775807 < x5_1.size+a1.size+6+t274.size)=False:=by have h_:=c82b2;simp only [ByteArray.size_append] at h_;exact h_
             try have c82b4:(x5_1.size+a1.size+6+t274.size≤9223372036854775807)=True:=by have h_:=c82b0;simp only [ByteArray.size_append] at h_;exact h_
             revert H
             refine gd_ fun c83 H=>?_
             have c83b0:=eq_true c83
             have c83b1:=decide_eq_true c83
             have c83b2:=nlt_ c83
             try have c83b3:(9223372036854775807 < x5_1.size+a1.size+6+t274.size+3)=False:=by have h_:=c83b2;simp only [ByteArray.size_append] at h_;exact h_
             try have c83b4:(x5_1.size+a1.size+6+t274.size+3≤9223372036854775807)=True:=by have h_:=c83b0;simp only [ByteArray.size_append] at h_;exact h_
             revert H
             refine gd_ fun c84 H=>?_
             have c84b0:=eq_true c84
             have c84b1:=decide_eq_true c84
             have c84b2:=nlt_ c84
             revert H
             refine bd_ fun t275 A85 H=>?_
             revert H
             refine gd_ fun c86 H=>?_
             have c86b0:=eq_true c86
             have c86b1:=decide_eq_true c86
             have c86b2:=nlt_ c86
             try have c86b3:(9223372036854775807 < x5_1.size+a1.size+6+t274.size+3+t275.size)=False:=by have h_:=c86b2;simp only [ByteArray.size_append] at h_;exact h_
             try have c86b4:(x5_1.size+a1.size+6+t274.size+3+t275.size≤9223372036854775807)=True:=by have h_:=c86b0;simp only [ByteArray.size_append] at h_;exact h_
             revert H
             refine gd_ fun c87 H=>?_
             have c87b0:=eq_true c87
             have c87b1:=decide_eq_true c87
             have c87b2:=nlt_ c87
             try have c87b3:(9223372036854775807 < x5_1.size+a1.size+6+t274.size+3+t275.size+a1.size)=False:=by have h_:=c87b2;simp only [ByteArray.size_append] at h_;exact h_
             try have c87b4:(x5_1.size+a1.size+6+t274.size+3+t275.size+a1.size≤9223372036854775807)=True:=by have h_:=c87b0;simp only [ByteArray.size_append] at h_;exact h_
             revert H
             refine gd_ fun c88 H=>?_
             have c88b0:=eq_true c88
             have c88b1:=decide_eq_true c88
             have c88b2:=nlt_ c88
             try have c88b3:(9223372036854775807 < x5_1.size+a1.size+6+t274.size+3+t275.size+a1.size+2)=False:=by have h_:=c88b2;simp only [ByteArray.size_append] at h_;exact h_
             try have c88b4:(x5_1.size+a1.size+6+t274.size+3+t275.size+a1.size+2≤9223372036854775807)=True:=by have h_:=c88b0;simp only [ByteArray.size_append] at h_;exact h_
             have H':=Aside0.mk H
             clear H
             try go_wp2
             replace BK260:=Aside0.mk (blk_drew BK260.out)
             replace HB:=Aside0.mk (below_drew1 HB.out)
             have p273:0≤(0:Int):=(by omega)
             have q273:0 < (((rd_T29 l0 x6_1).f2).length:Int):=of_decide_eq_true as_
             obtain ⟨ad273,A273_3,c273_3,e273,hx273_0,hx273_1,hx273_2,hx273_3,hx273_4,hl273_3,hi273_3⟩:=at_T24 HR259_2.out 0 p273 q273
             have hw273_4:=hx273_4
             (try simp only [tn0_,Nat.zero_mul,Addr.add_zero'] at hw273_4)
             have hw273_3:=hx273_3
             (try simp only [tn0_,Nat.zero_mul,Addr.add_zero'] at hw273_3)
             have hw273_2:=hx273_2
             (try simp only [tn0_,Nat.zero_mul,Addr.add_zero'] at hw273_2)
             have hw273_1:=hx273_1
             (try simp only [tn0_,Nat.zero_mul,Addr.add_zero'] at hw273_1)
             have hw273_0:=hx273_0
             (try simp only [tn0_,Nat.zero_mul,Addr.add_zero'] at hw273_0)
             cases e273
             have qi273:(0 < ((rd_T29 l0 x6_1).f2).length)=True:=eq_true (by omega)
             (try simp only [tn0_,Nat.zero_mul,Addr.add_zero'] at hx273_0 hx273_1 hx273_2 hx273_3 hx273_4)
             replace hx273_0:=(cb_ HB.out hx273_0:_)
             replace hx273_1:=(cb_ HB.out hx273_1:_)
             replace hx273_2:=(cb_ HB.out hx273_2:_)
             replace hx273_3:=(cb_ HB.out hx273_3:_)
             replace hx273_4:=(cb_ HB.out hx273_4:_)
             have HR273_3:=Aside0.mk hi273_3
             have HC273_3:=Aside0.mk hl273_3
             clear hi273_3 hl273_3
             replace p273:=eq_true p273
             replace q273:=eq_true q273
             as_aux_lemma=>
              refine start_ (n:=19) (S:=fun w'=>w'.cell? ⟨gb260,0,none⟩=some (.string ((rd_T29 l0 x6_1).f0))∧w'.cell? ⟨gb260,1,none⟩=some (.string ((rd_T29 l0 x6_1).f1))∧w'.cell? ⟨gb260,2,none⟩=some (.slice (some ad273) ((rd_T29 l0 x6_1).f2).length c259_2)∧w'.cell? ⟨gb260,3,none⟩=some (.slice A259_3 ((rd_T29 l0 x6_1).f3).length c259_3)∧w'.cell? ⟨gb260,4,none⟩=some (.slice A259_4 ((rd_T29 l0 x6_1).f4).length c259_4)∧w'.cell? ⟨gb260,5,none⟩=some (.int .i64 ((rd_T29 l0 x6_1).f5))∧w'.cell? ad273=some (.string ((rd_T24 ((rd_T29 l0 x6_1).f2) 0).f0))∧w'.cell? ⟨ad273.block,ad273.off+1,none⟩=some (.string ((rd_T24 ((rd_T29 l0 x6_1).f2) 0).f1))∧w'.cell? ⟨ad273.block,ad273.off+2,none⟩=some (.int .i64 ((rd_T24 ((rd_T29 l0 x6_1).f2) 0).f2))∧w'.cell? ⟨ad273.block,ad273.off+3,none⟩=some (.slice A273_3 ((rd_T24 ((rd_T29 l0 x6_1).f2) 0).f3).length c273_3)∧w'.cell? ⟨ad273.block,ad273.off+4,none⟩=some (.int .i64 ((rd_T24 ((rd_T29 l0 x6_1).f2) 0).f4))) (ds:=[]) (flg 19 0) (by kernel_rfl) rfl (by kernel_rfl) ⟨zc_ BK260.out 0,zc_ BK260.out 1,zc_ BK260.out 2,zc_ BK260.out 3,zc_ BK260.out 4,zc_ BK260.out 5,((cb_ HB.out hw273_0:_)),((cb_ HB.out hw273_1:_)),((cb_ HB.out hw273_2:_)),((cb_ HB.out hw273_3:_)),((cb_ HB.out hw273_4:_))⟩ (fun hHeld=>?_);refine with_tabW helmsmanref12_block.tab25 helmsmanref12_block.bits25 (fun HT_ HW_=>?_)
              generalize wc.drew=w89 at BK260 HB HR273_3 hx273_0 hx273_1 hx273_2 hx273_3 hx273_4 hHeld ⊢
              refine pu_ 0 116 (flg 19 1) ?_
              refine pu_ 1 117 (flg 19 3) ?_
              refine pu_ 2 118 (flg 19 7) ?_
              refine pu_ 9 125 (flg 19 519) ?_
              refine pu_ 11 127 (flg 19 2567) ?_
              refine pu_ 12 128 (flg 19 6663) ?_
              refine pu_ 15 131 (flg 19 39431) ?_
              refine ta_ 3 119 (flg 19 39439) hHeld ?_
              refine pu_ 4 120 (flg 19 39455) ?_
              refine ta_ 5 121 (flg 19 39487) hHeld ?_
              refine ta_ 10 126 (flg 19 40511) hHeld ?_
              refine one_ (i:=6) (N:=some 122) (flg 19 40575) rfl rfl (one_of HT_.out (by kernel_rfl)) (by decide) (fun K hK=>?_)
              refine goes_ Tryd.func13 (by kernel_rfl) rfl #[.agg #[.string ((rd_T24 ((rd_T29 l0 x6_1).f2) 0).f0),.string ((rd_T24 ((rd_T29 l0 x6_1).f2) 0).f1),.int .i64 ((rd_T24 ((rd_T29 l0 x6_1).f2) 0).f2),.slice A273_3 ((rd_T24 ((rd_T29 l0 x6_1).f2) 0).f3).length c273_3,.int .i64 ((rd_T24 ((rd_T29 l0 x6_1).f2) 0).f4)]] (by rfl) rfl rfl ar_ ?_
              with_reducible refine (helmsmanref12_Text.calls kj57 ((rd_T24 ((rd_T29 l0 x6_1).f2) 0).f0) ((rd_T24 ((rd_T29 l0 x6_1).f2) 0).f1) ((rd_T24 ((rd_T29 l0 x6_1).f2) 0).f2) _ _ ((rd_T24 ((rd_T29 l0 x6_1).f2) 0).f3) ((rd_T24 ((rd_T29 l0 x6_1).f2) 0).f4) t274 _ ?side1 ?side2 A81.out).mono ?_
              (case side1=>exact kc_ HR273_3.out HB.out)
              (case side2=>exact HC273_3.out)
              rintro e w90 ⟨rfl,hb⟩
              refine ⟨_,rfl,?_⟩
              replace BK260:=Aside0.mk (bb_ BK260.out hb)
              replace HB:=Aside0.mk (below_step (bl_ HB.out) hb)
              refine ko_ hK (fun hHeld=>?_)
              clear hK K
              refine nm_ ?_
              refine pu_ 7 123 (flg 19 40703) ?_
              refine pu_ 8 124 (flg 19 40959) ?_
              refine one_ (i:=13) (N:=some 129) (flg 19 49151) rfl rfl (one_of HT_.out (by kernel_rfl)) (by decide) (fun K hK=>?_)
              refine goes_ Tryd.func42 (by kernel_rfl) rfl #[.slice A259_3 ((rd_T29 l0 x6_1).f3).length c259_3,.string (a1++(⟨#[32,32]⟩:ByteArray))] (by rfl) rfl rfl ar_ ?_
              with_reducible refine (ih kj57 (by have:=HK1.out;have:=HJ57.out;omega) _ _ ((rd_T29 l0 x6_1).f3) (a1++(⟨#[32,32]⟩:ByteArray)) t275 _ ?side1 ?side2 A85.out).mono ?_
              (case side1=>exact kc_ HR259_3.out HB.out)
              (case side2=>exact HC259_3.out)
              rintro e w91 ⟨rfl,hb⟩
              refine ⟨_,rfl,?_⟩
              replace BK260:=Aside0.mk (bb_ BK260.out hb)
              replace HB:=Aside0.mk (below_step (bl_ HB.out) hb)
              refine ko_ hK (fun hHeld=>?_)
              clear hK K
              refine nm_ ?_
              refine pu_ 14 130 (flg 19 65535) ?_
              refine pu_ 16 132 (flg 19 131071) ?_
              refine pu_ 17 133 (flg 19 262143) ?_
              refine pu_ 18 5 (flg 19 524287) ?_
              refine done_ (done_of HT_.out (by kernel_rfl)) ?_
              try go_wp2
              go_roundg kj57
              case measure=>have:=HK1.out;have:=HJ57.out;omega
              case rel=>exact ⟨(((((((x5_1++a1)++(⟨#[119,104,105,108,101,32]⟩:ByteArray))++t274)++(⟨#[32,123,10]⟩:ByteArray))++t275)++a1)++(⟨#[125,10]⟩:ByteArray)),(wrap64 (x6_1+1)),rf_,rf_,H',⟨by have:=HK1.out;have:=HJ57.out;omega⟩,⟨bl_ HB.out⟩⟩
            ·rw [if_neg c78] at H
             have c78b0:=bqf_ c78
             have c78b1:=bnt_ c78
             by_cases c92:((rd_T29 l0 x6_1).f0).toList=([105,102]:List UInt8)
             ·rw [if_pos c92] at H
              have c92b0:=bqt_ c92
              have c92b1:=bnf_ c92
              clear c92
              revert H
              refine gd_ fun c93 H=>?_
              have c93b0:=eq_true c93
              have c93b1:=decide_eq_true c93
              have c93b2:=nlt_ c93
              try have c93b3:(9223372036854775807 < x5_1.size+a1.size+3)=False:=by have h_:=c93b2;simp only [ByteArray.size_append] at h_;exact h_
              try have c93b4:(x5_1.size+a1.size+3≤9223372036854775807)=True:=by have h_:=c93b0;simp only [ByteArray.size_append] at h_;exact h_
              revert H
              refine gd_ fun c94 H=>?_
              have c94b0:=decide_eq_true c94
              have c94b1:decide (0 < ((rd_T29 l0 x6_1).f2).length)=true:=decide_eq_true (by omega)
              clear c94
              revert H
              refine bd_ fun t277 A95 H=>?_
              revert H
              refine gd_ fun c96 H=>?_
              have c96b0:=eq_true c96
              have c96b1:=decide_eq_true c96
              have c96b2:=nlt_ c96
              try have c96b3:(9223372036854775807 < x5_1.size+a1.size+3+t277.size)=False:=by have h_:=c96b2;simp only [ByteArray.size_append] at h_;exact h_
              try have c96b4:(x5_1.size+a1.size+3+t277.size≤9223372036854775807)=True:=by have h_:=c96b0;simp only [ByteArray.size_append] at h_;exact h_
              revert H
              refine gd_ fun c97 H=>?_
              have c97b0:=eq_true c97
              have c97b1:=decide_eq_true c97
              have c97b2:=nlt_ c97
              try have c97b3:(9223372036854775807 < x5_1.size+a1.size+3+t277.size+3)=False:=by have h_:=c97b2;simp only [ByteArray.size_append] at h_;exact h_
              try have c97b4:(x5_1.size+a1.size+3+t277.size+3≤9223372036854775807)=True:=by have h_:=c97b0;simp only [ByteArray.size_append] at h_;exact h_
              revert H
              refine gd_ fun c98 H=>?_
              have c98b0:=eq_true c98
              have c98b1:=decide_eq_true c98
              have c98b2:=nlt_ c98
              revert H
              refine bd_ fun t278 A99 H=>?_
              revert H
              refine gd_ fun c100 H=>?_
              have c100b0:=eq_true c100
              have c100b1:=decide_eq_true c100
              have c100b2:=nlt_ c100
              try have c100b3:(9223372036854775807 < x5_1.size+a1.size+3+t277.size+3+t278.size)=False:=by have h_:=c100b2;simp only [ByteArray.size_append] at h_;exact h_
              try have c100b4:(x5_1.size+a1.size+3+t277.size+3+t278.size≤9223372036854775807)=True:=by have h_:=c100b0;simp only [ByteArray.size_append] at h_;exact h_
              by_cases c101:(((rd_T29 l0 x6_1).f4).length:Int) > 0
              ·rw [if_pos c101] at H
               have c101b0:=decide_eq_true (show _ < _ from c101)
               have c101b1:decide (0 < ((rd_T29 l0 x6_1).f4).length)=true:=decide_eq_true (by omega)
               clear c101
               revert H
               refine gd_ fun c102 H=>?_
               have c102b0:=eq_true c102
               have c102b1:=decide_eq_true c102
               have c102b2:=nlt_ c102
               try have c102b3:(9223372036854775807 < x5_1.size+a1.size+3+t277.size+3+t278.size+a1.size)=False:=by have h_:=c102b2;simp only [ByteArray.size_append] at h_;exact h_
               try have c102b4:(x5_1.size+a1.size+3+t277.size+3+t278.size+a1.size≤9223372036854775807)=True:=by have h_:=c102b0;simp only [ByteArray.size_append] at h_;exact h_
               revert H
               refine gd_ fun c103 H=>?_
               have c103b0:=eq_true c103
               have c103b1:=decide_eq_true c103
               have c103b2:=nlt_ c103
               try have c103b3:(9223372036854775807 < x5_1.size+a1.size+3+t277.size+3+t278.size+a1.size+9)=False:=by have h_:=c103b2;simp only [ByteArray.size_append] at h_;exact h_
               try have c103b4:(x5_1.size+a1.size+3+t277.size+3+t278.size+a1.size+9≤9223372036854775807)=True:=by have h_:=c103b0;simp only [ByteArray.size_append] at h_;exact h_
               revert H
               refine bd_ fun t279 A104 H=>?_
               revert H
               refine gd_ fun c105 H=>?_
               have c105b0:=eq_true c105
               have c105b1:=decide_eq_true c105
               have c105b2:=nlt_ c105
               try have c105b3:(9223372036854775807 < x5_1.size+a1.size+3+t277.size+3+t278.size+a1.size+9+t279.size)=False:=by have h_:=c105b2;simp only [ByteArray.size_append] at h_;exact h_
               try have c105b4:(x5_1.size+a1.size+3+t277.size+3+t278.size+a1.size+9+t279.size≤9223372036854775807)=True:=by have h_:=c105b0;simp only [ByteArray.size_append] at h_;exact h_
               revert H
               refine gd_ fun c106 H=>?_
               have c106b0:=eq_true c106
               have c106b1:=decide_eq_true c106
               have c106b2:=nlt_ c106
               try have c106b3:(9223372036854775807 < x5_1.size+a1.size+3+t277.size+3+t278.size+a1.size+9+t279.size+a1.size)=False:=by have h_:=c106b2;simp only [ByteArray.size_append] at h_;exact h_
               try have c106b4:(x5_1.size+a1.size+3+t277.size+3+t278.size+a1.size+9+t279.size+a1.size≤9223372036854775807)=True:=by have h_:=c106b0;simp only [ByteArray.size_append] at h_;exact h_
               revert H
               refine gd_ fun c107 H=>?_
               have c107b0:=eq_true c107
               have c107b1:=decide_eq_true c107
               have c107b2:=nlt_ c107
               try have c107b3:(9223372036854775807 < x5_1.size+a1.size+3+t277.size+3+t278.size+a1.size+9+t279.size+a1.size+2)=False:=by have h_:=c107b2;simp only [ByteArray.size_append] at h_;exact h_
               try have c107b4:(x5_1.size+a1.size+3+t277.size+3+t278.size+a1.size+9+t279.size+a1.size+2≤9223372036854775807)=True:=by have h_:=c107b0;simp only [ByteArray.size_append] at h_;exact h_
               have H':=Aside0.mk H
               clear H
               try go_wp2
               replace BK260:=Aside0.mk (blk_drew BK260.out)
               replace HB:=Aside0.mk (below_drew1 HB.out)
               have p276:0≤(0:Int):=(by omega)
               have q276:0 < (((rd_T29 l0 x6_1).f2).length:Int):=of_decide_eq_true as_
               obtain ⟨ad276,A276_3,c276_3,e276,hx276_0,hx276_1,hx276_2,hx276_3,hx276_4,hl276_3,hi276_3⟩:=at_T24 HR259_2.out 0 p276 q276
               have hw276_4:=hx276_4
               (try simp only [tn0_,Nat.zero_mul,Addr.add_zero'] at hw276_4)
               have hw276_3:=hx276_3
               (try simp only [tn0_,Nat.zero_mul,Addr.add_zero'] at hw276_3)
               have hw276_2:=hx276_2
               (try simp only [tn0_,Nat.zero_mul,Addr.add_zero'] at hw276_2)
               have hw276_1:=hx276_1
               (try simp only [tn0_,Nat.zero_mul,Addr.add_zero'] at hw276_1)
               have hw276_0:=hx276_0
               (try simp only [tn0_,Nat.zero_mul,Addr.add_zero'] at hw276_0)
               cases e276
               have qi276:(0 < ((rd_T29 l0 x6_1).f2).length)=True:=eq_true (by omega)
               (try simp only [tn0_,Nat.zero_mul,Addr.add_zero'] at hx276_0 hx276_1 hx276_2 hx276_3 hx276_4)
               replace hx276_0:=(cb_ HB.out hx276_0:_)
               replace hx276_1:=(cb_ HB.out hx276_1:_)
               replace hx276_2:=(cb_ HB.out hx276_2:_)
               replace hx276_3:=(cb_ HB.out hx276_3:_)
               replace hx276_4:=(cb_ HB.out hx276_4:_)
               have HR276_3:=Aside0.mk hi276_3
               have HC276_3:=Aside0.mk hl276_3
               clear hi276_3 hl276_3
               replace p276:=eq_true p276
               replace q276:=eq_true q276
               as_aux_lemma=>
                refine start_ (n:=16) (S:=fun w'=>w'.cell? ⟨gb260,0,none⟩=some (.string ((rd_T29 l0 x6_1).f0))∧w'.cell? ⟨gb260,1,none⟩=some (.string ((rd_T29 l0 x6_1).f1))∧w'.cell? ⟨gb260,2,none⟩=some (.slice (some ad276) ((rd_T29 l0 x6_1).f2).length c259_2)∧w'.cell? ⟨gb260,3,none⟩=some (.slice A259_3 ((rd_T29 l0 x6_1).f3).length c259_3)∧w'.cell? ⟨gb260,4,none⟩=some (.slice A259_4 ((rd_T29 l0 x6_1).f4).length c259_4)∧w'.cell? ⟨gb260,5,none⟩=some (.int .i64 ((rd_T29 l0 x6_1).f5))∧w'.cell? ad276=some (.string ((rd_T24 ((rd_T29 l0 x6_1).f2) 0).f0))∧w'.cell? ⟨ad276.block,ad276.off+1,none⟩=some (.string ((rd_T24 ((rd_T29 l0 x6_1).f2) 0).f1))∧w'.cell? ⟨ad276.block,ad276.off+2,none⟩=some (.int .i64 ((rd_T24 ((rd_T29 l0 x6_1).f2) 0).f2))∧w'.cell? ⟨ad276.block,ad276.off+3,none⟩=some (.slice A276_3 ((rd_T24 ((rd_T29 l0 x6_1).f2) 0).f3).length c276_3)∧w'.cell? ⟨ad276.block,ad276.off+4,none⟩=some (.int .i64 ((rd_T24 ((rd_T29 l0 x6_1).f2) 0).f4))) (ds:=[]) (flg 16 0) (by kernel_rfl) rfl (by kernel_rfl) ⟨zc_ BK260.out 0,zc_ BK260.out 1,zc_ BK260.out 2,zc_ BK260.out 3,zc_ BK260.out 4,zc_ BK260.out 5,((cb_ HB.out hw276_0:_)),((cb_ HB.out hw276_1:_)),((cb_ HB.out hw276_2:_)),((cb_ HB.out hw276_3:_)),((cb_ HB.out hw276_4:_))⟩ (fun hHeld=>?_);refine with_tabW helmsmanref12_block.tab27 helmsmanref12_block.bits27 (fun HT_ HW_=>?_)
                generalize wc.drew=w108 at BK260 HB HR276_3 hx276_0 hx276_1 hx276_2 hx276_3 hx276_4 hHeld ⊢
                refine pu_ 0 136 (flg 16 1) ?_
                refine pu_ 1 137 (flg 16 3) ?_
                refine pu_ 2 138 (flg 16 7) ?_
                refine pu_ 9 145 (flg 16 519) ?_
                refine pu_ 11 147 (flg 16 2567) ?_
                refine pu_ 12 148 (flg 16 6663) ?_
                refine ta_ 3 139 (flg 16 6671) hHeld ?_
                refine pu_ 4 140 (flg 16 6687) ?_
                refine ta_ 5 141 (flg 16 6719) hHeld ?_
                refine ta_ 10 146 (flg 16 7743) hHeld ?_
                refine one_ (i:=6) (N:=some 142) (flg 16 7807) rfl rfl (one_of HT_.out (by kernel_rfl)) (by decide) (fun K hK=>?_)
                refine goes_ Tryd.func13 (by kernel_rfl) rfl #[.agg #[.string ((rd_T24 ((rd_T29 l0 x6_1).f2) 0).f0),.string ((rd_T24 ((rd_T29 l0 x6_1).f2) 0).f1),.int .i64 ((rd_T24 ((rd_T29 l0 x6_1).f2) 0).f2),.slice A276_3 ((rd_T24 ((rd_T29 l0 x6_1).f2) 0).f3).length c276_3,.int .i64 ((rd_T24 ((rd_T29 l0 x6_1).f2) 0).f4)]] (by rfl) rfl rfl ar_ ?_
                with_reducible refine (helmsmanref12_Text.calls kj57 ((rd_T24 ((rd_T29 l0 x6_1).f2) 0).f0) ((rd_T24 ((rd_T29 l0 x6_1).f2) 0).f1) ((rd_T24 ((rd_T29 l0 x6_1).f2) 0).f2) _ _ ((rd_T24 ((rd_T29 l0 x6_1).f2) 0).f3) ((rd_T24 ((rd_T29 l0 x6_1).f2) 0).f4) t277 _ ?side1 ?side2 A95.out).mono ?_
                (case side1=>exact kc_ HR276_3.out HB.out)
                (case side2=>exact HC276_3.out)
                rintro e w109 ⟨rfl,hb⟩
                refine ⟨_,rfl,?_⟩
                replace BK260:=Aside0.mk (bb_ BK260.out hb)
                replace HB:=Aside0.mk (below_step (bl_ HB.out) hb)
                refine ko_ hK (fun hHeld=>?_)
                clear hK K
                refine nm_ ?_
                refine pu_ 7 143 (flg 16 7935) ?_
                refine pu_ 8 144 (flg 16 8191) ?_
                refine one_ (i:=13) (N:=some 149) (flg 16 16383) rfl rfl (one_of HT_.out (by kernel_rfl)) (by decide) (fun K hK=>?_)
                refine goes_ Tryd.func42 (by kernel_rfl) rfl #[.slice A259_3 ((rd_T29 l0 x6_1).f3).length c259_3,.string (a1++(⟨#[32,32]⟩:ByteArray))] (by rfl) rfl rfl ar_ ?_
                with_reducible refine (ih kj57 (by have:=HK1.out;have:=HJ57.out;omega) _ _ ((rd_T29 l0 x6_1).f3) (a1++(⟨#[32,32]⟩:ByteArray)) t278 _ ?side1 ?side2 A99.out).mono ?_
                (case side1=>exact kc_ HR259_3.out HB.out)
                (case side2=>exact HC259_3.out)
                rintro e w110 ⟨rfl,hb⟩
                refine ⟨_,rfl,?_⟩
                replace BK260:=Aside0.mk (bb_ BK260.out hb)
                replace HB:=Aside0.mk (below_step (bl_ HB.out) hb)
                refine ko_ hK (fun hHeld=>?_)
                clear hK K
                refine nm_ ?_
                refine pu_ 14 150 (flg 16 32767) ?_
                refine pu_ 15 5 (flg 16 65535) ?_
                refine done_ (done_of HT_.out (by kernel_rfl)) ?_
                obtain ⟨hcz111_0,hcz111_1,hcz111_2,hcz111_3,hcz111_4,hcz111_5,hfz111_0,hfz111_1,hfz111_2,hfz111_3,hfz111_4,hfz111_5⟩:=zf6_ BK260.out
                try go_wp2_with (first|((with_reducible refine gate_callee (f:=42) rfl ?_);refine goesL_ (some 163) rfl rfl Tryd.func42 (by kernel_rfl) rfl #[.slice A259_4 ((rd_T29 l0 x6_1).f4).length c259_4,.string (a1++(⟨#[32,32]⟩:ByteArray))] rfl ar_ ?_;(with_reducible refine (ih kj57 (by have:=HK1.out;have:=HJ57.out;omega) _ _ ((rd_T29 l0 x6_1).f4) (a1++(⟨#[32,32]⟩:ByteArray)) t279 _ ?side1 ?side2 A104.out).mono ?_);(case side1=>exact kc_ HR259_4.out HB.out);(case side2=>exact HC259_4.out);rintro e w112 ⟨rfl,hb⟩;refine ⟨_,rfl,?_⟩;replace BK260:=Aside0.mk (bb_ BK260.out hb);replace HB:=Aside0.mk (below_step (bl_ HB.out) hb)))
                go_roundg kj57
                case measure=>have:=HK1.out;have:=HJ57.out;omega
                case rel=>exact ⟨((((((((((x5_1++a1)++(⟨#[105,102,32]⟩:ByteArray))++t277)++(⟨#[32,123,10]⟩:ByteArray))++t278)++a1)++(⟨#[125,32,101,108,115,101,32,123,10]⟩:ByteArray))++t279)++a1)++(⟨#[125,10]⟩:ByteArray)),(wrap64 (x6_1+1)),rf_,rf_,H',⟨by have:=HK1.out;have:=HJ57.out;omega⟩,⟨bl_ HB.out⟩⟩
              ·rw [if_neg c101] at H
               have c101b0:=decide_eq_false (show ¬ _ < _ from c101)
               have c101b1:decide (0 < ((rd_T29 l0 x6_1).f4).length)=false:=decide_eq_false (by omega)
               clear c101
               revert H
               refine gd_ fun c113 H=>?_
               have c113b0:=eq_true c113
               have c113b1:=decide_eq_true c113
               have c113b2:=nlt_ c113
               try have c113b3:(9223372036854775807 < x5_1.size+a1.size+3+t277.size+3+t278.size+a1.size)=False:=by have h_:=c113b2;simp only [ByteArray.size_append] at h_;exact h_
               try have c113b4:(x5_1.size+a1.size+3+t277.size+3+t278.size+a1.size≤9223372036854775807)=True:=by have h_:=c113b0;simp only [ByteArray.size_append] at h_;exact h_
               revert H
               refine gd_ fun c114 H=>?_
               have c114b0:=eq_true c114
               have c114b1:=decide_eq_true c114
               have c114b2:=nlt_ c114
               try have c114b3:(9223372036854775807 < x5_1.size+a1.size+3+t277.size+3+t278.size+a1.size+2)=False:=by have h_:=c114b2;simp only [ByteArray.size_append] at h_;exact h_
               try have c114b4:(x5_1.size+a1.size+3+t277.size+3+t278.size+a1.size+2≤9223372036854775807)=True:=by have h_:=c114b0;simp only [ByteArray.size_append] at h_;exact h_
               have H':=Aside0.mk H
               clear H
               try go_wp2
               replace BK260:=Aside0.mk (blk_drew BK260.out)
               replace HB:=Aside0.mk (below_drew1 HB.out)
               have p276:0≤(0:Int):=(by omega)
               have q276:0 < (((rd_T29 l0 x6_1).f2).length:Int):=of_decide_eq_true as_
               obtain ⟨ad276,A276_3,c276_3,e276,hx276_0,hx276_1,hx276_2,hx276_3,hx276_4,hl276_3,hi276_3⟩:=at_T24 HR259_2.out 0 p276 q276
               have hw276_4:=hx276_4
               (try simp only [tn0_,Nat.zero_mul,Addr.add_zero'] at hw276_4)
               have hw276_3:=hx276_3
               (try simp only [tn0_,Nat.zero_mul,Addr.add_zero'] at hw276_3)
               have hw276_2:=hx276_2
               (try simp only [tn0_,Nat.zero_mul,Addr.add_zero'] at hw276_2)
               have hw276_1:=hx276_1
               (try simp only [tn0_,Nat.zero_mul,Addr.add_zero'] at hw276_1)
               have hw276_0:=hx276_0
               (try simp only [tn0_,Nat.zero_mul,Addr.add_zero'] at hw276_0)
               cases e276
               have qi276:(0 < ((rd_T29 l0 x6_1).f2).length)=True:=eq_true (by omega)
               (try simp only [tn0_,Nat.zero_mul,Addr.add_zero'] at hx276_0 hx276_1 hx276_2 hx276_3 hx276_4)
               replace hx276_0:=(cb_ HB.out hx276_0:_)
               replace hx276_1:=(cb_ HB.out hx276_1:_)
               replace hx276_2:=(cb_ HB.out hx276_2:_)
               replace hx276_3:=(cb_ HB.out hx276_3:_)
               replace hx276_4:=(cb_ HB.out hx276_4:_)
               have HR276_3:=Aside0.mk hi276_3
               have HC276_3:=Aside0.mk hl276_3
               clear hi276_3 hl276_3
               replace p276:=eq_true p276
               replace q276:=eq_true q276
               as_aux_lemma=>
                refine start_ (n:=16) (S:=fun w'=>w'.cell? ⟨gb260,0,none⟩=some (.string ((rd_T29 l0 x6_1).f0))∧w'.cell? ⟨gb260,1,none⟩=some (.string ((rd_T29 l0 x6_1).f1))∧w'.cell? ⟨gb260,2,none⟩=some (.slice (some ad276) ((rd_T29 l0 x6_1).f2).length c259_2)∧w'.cell? ⟨gb260,3,none⟩=some (.slice A259_3 ((rd_T29 l0 x6_1).f3).length c259_3)∧w'.cell? ⟨gb260,4,none⟩=some (.slice A259_4 ((rd_T29 l0 x6_1).f4).length c259_4)∧w'.cell? ⟨gb260,5,none⟩=some (.int .i64 ((rd_T29 l0 x6_1).f5))∧w'.cell? ad276=some (.string ((rd_T24 ((rd_T29 l0 x6_1).f2) 0).f0))∧w'.cell? ⟨ad276.block,ad276.off+1,none⟩=some (.string ((rd_T24 ((rd_T29 l0 x6_1).f2) 0).f1))∧w'.cell? ⟨ad276.block,ad276.off+2,none⟩=some (.int .i64 ((rd_T24 ((rd_T29 l0 x6_1).f2) 0).f2))∧w'.cell? ⟨ad276.block,ad276.off+3,none⟩=some (.slice A276_3 ((rd_T24 ((rd_T29 l0 x6_1).f2) 0).f3).length c276_3)∧w'.cell? ⟨ad276.block,ad276.off+4,none⟩=some (.int .i64 ((rd_T24 ((rd_T29 l0 x6_1).f2) 0).f4))) (ds:=[]) (flg 16 0) (by kernel_rfl) rfl (by kernel_rfl) ⟨zc_ BK260.out 0,zc_ BK260.out 1,zc_ BK260.out 2,zc_ BK260.out 3,zc_ BK260.out 4,zc_ BK260.out 5,((cb_ HB.out hw276_0:_)),((cb_ HB.out hw276_1:_)),((cb_ HB.out hw276_2:_)),((cb_ HB.out hw276_3:_)),((cb_ HB.out hw276_4:_))⟩ (fun hHeld=>?_);refine with_tabW helmsmanref12_block.tab27 helmsmanref12_block.bits27 (fun HT_ HW_=>?_)
                generalize wc.drew=w115 at BK260 HB HR276_3 hx276_0 hx276_1 hx276_2 hx276_3 hx276_4 hHeld ⊢
                refine pu_ 0 136 (flg 16 1) ?_
                refine pu_ 1 137 (flg 16 3) ?_
                refine pu_ 2 138 (flg 16 7) ?_
                refine pu_ 9 145 (flg 16 519) ?_
                refine pu_ 11 147 (flg 16 2567) ?_
                refine pu_ 12 148 (flg 16 6663) ?_
                refine ta_ 3 139 (flg 16 6671) hHeld ?_
                refine pu_ 4 140 (flg 16 6687) ?_
                refine ta_ 5 141 (flg 16 6719) hHeld ?_
                refine ta_ 10 146 (flg 16 7743) hHeld ?_
                refine one_ (i:=6) (N:=some 142) (flg 16 7807) rfl rfl (one_of HT_.out (by kernel_rfl)) (by decide) (fun K hK=>?_)
                refine goes_ Tryd.func13 (by kernel_rfl) rfl #[.agg #[.string ((rd_T24 ((rd_T29 l0 x6_1).f2) 0).f0),.string ((rd_T24 ((rd_T29 l0 x6_1).f2) 0).f1),.int .i64 ((rd_T24 ((rd_T29 l0 x6_1).f2) 0).f2),.slice A276_3 ((rd_T24 ((rd_T29 l0 x6_1).f2) 0).f3).length c276_3,.int .i64 ((rd_T24 ((rd_T29 l0 x6_1).f2) 0).f4)]] (by rfl) rfl rfl ar_ ?_
                with_reducible refine (helmsmanref12_Text.calls kj57 ((rd_T24 ((rd_T29 l0 x6_1).f2) 0).f0) ((rd_T24 ((rd_T29 l0 x6_1).f2) 0).f1) ((rd_T24 ((rd_T29 l0 x6_1).f2) 0).f2) _ _ ((rd_T24 ((rd_T29 l0 x6_1).f2) 0).f3) ((rd_T24 ((rd_T29 l0 x6_1).f2) 0).f4) t277 _ ?side1 ?side2 A95.out).mono ?_
                (case side1=>exact kc_ HR276_3.out HB.out)
                (case side2=>exact HC276_3.out)
                rintro e w116 ⟨rfl,hb⟩
                refine ⟨_,rfl,?_⟩
                replace BK260:=Aside0.mk (bb_ BK260.out hb)
                replace HB:=Aside0.mk (below_step (bl_ HB.out) hb)
                refine ko_ hK (fun hHeld=>?_)
                clear hK K
                refine nm_ ?_
                refine pu_ 7 143 (flg 16 7935) ?_
                refine pu_ 8 144 (flg 16 8191) ?_
                refine one_ (i:=13) (N:=some 149) (flg 16 16383) rfl rfl (one_of HT_.out (by kernel_rfl)) (by decide) (fun K hK=>?_)
                refine goes_ Tryd.func42 (by kernel_rfl) rfl #[.slice A259_3 ((rd_T29 l0 x6_1).f3).length c259_3,.string (a1++(⟨#[32,32]⟩:ByteArray))] (by rfl) rfl rfl ar_ ?_
                with_reducible refine (ih kj57 (by have:=HK1.out;have:=HJ57.out;omega) _ _ ((rd_T29 l0 x6_1).f3) (a1++(⟨#[32,32]⟩:ByteArray)) t278 _ ?side1 ?side2 A99.out).mono ?_
                (case side1=>exact kc_ HR259_3.out HB.out)
                (case side2=>exact HC259_3.out)
                rintro e w117 ⟨rfl,hb⟩
                refine ⟨_,rfl,?_⟩
                replace BK260:=Aside0.mk (bb_ BK260.out hb)
                replace HB:=Aside0.mk (below_step (bl_ HB.out) hb)
                refine ko_ hK (fun hHeld=>?_)
                clear hK K
                refine nm_ ?_
                refine pu_ 14 150 (flg 16 32767) ?_
                refine pu_ 15 5 (flg 16 65535) ?_
                refine done_ (done_of HT_.out (by kernel_rfl)) ?_
                obtain ⟨hcz118_0,hcz118_1,hcz118_2,hcz118_3,hcz118_4,hcz118_5,hfz118_0,hfz118_1,hfz118_2,hfz118_3,hfz118_4,hfz118_5⟩:=zf6_ BK260.out
                try go_wp2
                go_roundg kj57
                case measure=>have:=HK1.out;have:=HJ57.out;omega
                case rel=>exact ⟨(((((((x5_1++a1)++(⟨#[105,102,32]⟩:ByteArray))++t277)++(⟨#[32,123,10]⟩:ByteArray))++t278)++a1)++(⟨#[125,10]⟩:ByteArray)),(wrap64 (x6_1+1)),rf_,rf_,H',⟨by have:=HK1.out;have:=HJ57.out;omega⟩,⟨bl_ HB.out⟩⟩
             ·rw [if_neg c92] at H
              have c92b0:=bqf_ c92
              have c92b1:=bnt_ c92
              have H':=Aside0.mk H
              clear H
              go_wp2
              go_roundg kj57
              case measure=>have:=HK1.out;have:=HJ57.out;omega
              case rel=>exact ⟨((x5_1++a1)),(wrap64 (x6_1+1)),rf_,rf_,H',⟨by have:=HK1.out;have:=HJ57.out;omega⟩,⟨bl_ HB.out⟩⟩
   ·rw [if_neg c3] at H
    have c3b0:=decide_eq_false c3
    clear c3
    obtain rfl:=Option.some.inj H
    go_wp2
    go_ret
    exact ⟨rt_,bl_ HB.out⟩
end Go.Proofs.YtnnbbeloifhofaaDoor.P
end
section
namespace Go.Proofs.YtnnbbeloifhofaaDoor.P
open Go Go.RowKit Go.Proofs
open Go.Proofs.YtnnbbeloifhofaaDoorW.PrintWords Go.Proofs.YtnnbbeloifhofaaDoorW.PrintLast Go.Proofs.YtnnbbeloifhofaaDoorW.PrintMore
set_option linter.unusedVariables false
set_option linter.unusedSimpArgs false
theorem bytes_ext {a b:ByteArray} (h:a.data.toList=b.data.toList):a=b:=by
  cases a;cases b;exact congrArg ByteArray.mk (Array.toList_inj.mp h)
theorem app_list (a b:ByteArray):(a++b).data.toList=a.data.toList++b.data.toList:=by
  rw [ByteArray.data_append,Array.toList_append]
theorem joinE_nil:joinF [] ⟨#[]⟩=[]:=rfl
def indB (d:Nat):ByteArray:=strOf (Lib.repeatL [32,32] d)
theorem indB_size (d:Nat):(indB d).size=2 * d:=by unfold indB;rw [strOf_size,Lib.repeatL_length];show d * 2=_;omega
theorem indB_next (d:Nat):indB d++(⟨#[32,32]⟩:ByteArray)=indB (d+1):=by
  apply bytes_ext
  rw [app_list]
  show Lib.repeatL [32,32] d++[32,32]=Lib.repeatL [32,32] (d+1)
  rw [Lib.repeatL_add,Lib.repeatL_one]
theorem ind_list (d:Nat):(indB d).data.toList=Lib.repeatL [32,32] d:=rfl
theorem lit_data (l:List UInt8):(lit l).data.toList=l:=rfl
theorem op_data {op:ByteArray} {l:List UInt8} (h:op.toList=l):op.data.toList=l:=by rw [← toList_data];exact h
section
variable (d:Nat) (op name:ByteArray) (e:List RE) (a m:List UInt8) (els:Bool)
theorem arm_set (h:op.toList=oSet):strOf (stmtF (d:Int) op name e a m els)=indB d++name++(⟨#[32,61,32]⟩:ByteArray)++nth (textEs e) 0++(⟨#[59,10]⟩:ByteArray):=by
  unfold stmtF
  rw [if_pos h]
  apply bytes_ext
  simp [app_list,strOf_list,lineB,joinE_cons,joinE_nil,lit_data,ind_list]
theorem arm_put (h:op.toList=oPut):strOf (stmtF (d:Int) op name e a m els)=indB d++name++(⟨#[91]⟩:ByteArray)++nth (textEs e) 0++(⟨#[93,32,61,32]⟩:ByteArray)++nth (textEs e) 1++(⟨#[59,10]⟩:ByteArray):=by
  unfold stmtF
  rw [if_neg (by rw [h];decide),if_pos h]
  apply bytes_ext
  simp [app_list,strOf_list,lineB,joinE_cons,joinE_nil,lit_data,ind_list]
theorem arm_input (h:op.toList=oInput) (h2 : ¬ e.length=0):strOf (stmtF (d:Int) op name e a m els)=indB d++name++(⟨#[32,61,32,105,110,112,117,116]⟩:ByteArray)++(⟨#[40]⟩:ByteArray)++nth (textEs e) 0++(⟨#[44,32]⟩:ByteArray)++nth (textEs e) 1++(⟨#[41]⟩:ByteArray)++(⟨#[59,10]⟩:ByteArray):=by
  unfold stmtF
  rw [if_neg (by rw [h];decide),if_neg (by rw [h];decide),if_pos h,if_neg h2]
  apply bytes_ext
  simp [app_list,strOf_list,lineB,joinE_cons,joinE_nil,lit_data,ind_list]
theorem arm_input0 (h:op.toList=oInput) (h2:e.length=0):strOf (stmtF (d:Int) op name e a m els)=indB d++name++(⟨#[32,61,32,105,110,112,117,116]⟩:ByteArray)++(⟨#[59,10]⟩:ByteArray):=by
  unfold stmtF
  rw [if_neg (by rw [h];decide),if_neg (by rw [h];decide),if_pos h,if_pos h2]
  apply bytes_ext
  simp [app_list,strOf_list,lineB,joinE_cons,joinE_nil,lit_data,ind_list]
theorem arm_one (h:op.toList=oAssert∨op.toList=oAssume):strOf (stmtF (d:Int) op name e a m els)=indB d++op++(⟨#[32]⟩:ByteArray)++nth (textEs e) 0++(⟨#[59,10]⟩:ByteArray):=by
  unfold stmtF
  rw [if_neg (by rcases h with h|h <;> rw [h] <;> decide),if_neg (by rcases h with h|h <;> rw [h] <;> decide),if_neg (by rcases h with h|h <;> rw [h] <;> decide),if_neg (by rcases h with h|h <;> rw [h] <;> decide),if_pos h]
  apply bytes_ext
  simp [app_list,strOf_list,lineB,joinE_cons,joinE_nil,lit_data,ind_list]
theorem arm_call (h:op.toList=oCall):strOf (stmtF (d:Int) op name e a m els)=indB d++(⟨#[99,97,108,108,32]⟩:ByteArray)++name++(⟨#[59,10]⟩:ByteArray):=by
  unfold stmtF
  rw [if_neg (by rw [h];decide),if_neg (by rw [h];decide),if_neg (by rw [h];decide),if_neg (by rw [h];decide),if_neg (by rw [h];decide),if_pos h]
  apply bytes_ext
  simp [app_list,strOf_list,lineB,joinE_cons,joinE_nil,lit_data,ind_list]
theorem arm_skip (h:op.toList=oSkip):strOf (stmtF (d:Int) op name e a m els)=indB d++(⟨#[115,107,105,112,59,10]⟩:ByteArray):=by
  unfold stmtF
  rw [if_neg (by rw [h];decide),if_neg (by rw [h];decide),if_neg (by rw [h];decide),if_neg (by rw [h];decide),if_neg (by rw [h];decide),if_neg (by rw [h];decide)]
  apply bytes_ext
  simp [app_list,strOf_list,lineB,joinE_cons,joinE_nil,lit_data,ind_list,op_data h]
theorem arm_while (h:op.toList=oWhile):strOf (stmtF (d:Int) op name e a m els)=indB d++(⟨#[119,104,105,108,101,32]⟩:ByteArray)++nth (textEs e) 0++(⟨#[32,123,10]⟩:ByteArray)++strOf a++indB d++(⟨#[125,10]⟩:ByteArray):=by
  unfold stmtF
  rw [if_neg (by rw [h];decide),if_neg (by rw [h];decide),if_neg (by rw [h];decide),if_pos (Or.inr h),if_neg (by rw [h];simp)]
  apply bytes_ext
  simp [app_list,strOf_list,lineB,joinE_cons,joinE_nil,lit_data,ind_list,op_data h]
theorem arm_if0 (h:op.toList=oIf) (h2:els=false):strOf (stmtF (d:Int) op name e a m els)=indB d++(⟨#[105,102,32]⟩:ByteArray)++nth (textEs e) 0++(⟨#[32,123,10]⟩:ByteArray)++strOf a++indB d++(⟨#[125,10]⟩:ByteArray):=by
  unfold stmtF
  rw [if_neg (by rw [h];decide),if_neg (by rw [h];decide),if_neg (by rw [h];decide),if_pos (Or.inl h),if_neg (by rw [h2];simp)]
  apply bytes_ext
  simp [app_list,strOf_list,lineB,joinE_cons,joinE_nil,lit_data,ind_list,op_data h]
theorem arm_if1 (h:op.toList=oIf) (h2:els=true):strOf (stmtF (d:Int) op name e a m els)=indB d++(⟨#[105,102,32]⟩:ByteArray)++nth (textEs e) 0++(⟨#[32,123,10]⟩:ByteArray)++strOf a++indB d++(⟨#[125,32,101,108,115,101,32,123,10]⟩:ByteArray)++strOf m++indB d++(⟨#[125,10]⟩:ByteArray):=by
  unfold stmtF
  rw [if_neg (by rw [h];decide),if_neg (by rw [h];decide),if_neg (by rw [h];decide),if_pos (Or.inl h),if_pos ⟨h,h2⟩]
  apply bytes_ext
  simp [app_list,strOf_list,lineB,joinE_cons,joinE_nil,lit_data,ind_list,op_data h]
end
section
variable (L:List RS) (d:Nat) (acc:ByteArray) (i:Int) (s:RS) (r:ByteArray)
structure BAt:Prop where
  hw:wholeS s=true
  hz:acc.size+(stmtB s (d:Int)).length≤140737488355328
  hd:d≤1099511627776
  hT : ∀ y ∈ s.f2,Ev (fun k=>helmsmanref12_Text.f k y.f0 y.f1 y.f2 y.f3 y.f4) (textE y)
  hA:Ev (fun k=>helmsmanref12_block.f k s.f3 (indB (d+1))) (strOf (stmtsB s.f3 ((d:Int)+1)))
  hB:Ev (fun k=>helmsmanref12_block.f k s.f4 (indB (d+1))) (strOf (stmtsB s.f4 ((d:Int)+1)))
  hr:Ev (fun k=>helmsmanref12_block.l0 k L (indB d) (acc++strOf (stmtB s (d:Int))) (wrap64 (i+1))) r
variable {L d acc i s r}
theorem manyOf {op:ByteArray} {n a m:Nat} (h:headS op n a m=true):manyS op.toList n=some n:=by
  unfold headS at h
  rw [Bool.and_eq_true,decide_eq_true_eq] at h;exact h.1
theorem BAt.many (h:BAt L d acc i s r):manyS s.f0.toList s.f2.length=some s.f2.length:=by
  have:=h.hw
  rw [wholeS_eq,Bool.and_eq_true] at this
  exact manyOf this.1
theorem one_of_len {l:List RE} (h:l.length=1) : ∃ u,l=[u]:=by
  match l,h with
  | [u],_=>exact ⟨u,rfl⟩
theorem two_of_len {l:List RE} (h:l.length=2) : ∃ u v,l=[u,v]:=by
  match l,h with
  | [u,v],_=>exact ⟨u,v,rfl⟩
theorem BAt.one (h:BAt L d acc i s r) (c:onePart s.f0.toList=true) : ∃ u,s.f2=[u]:=by
  have:=h.many
  unfold manyS at this
  rw [if_pos c] at this
  exact one_of_len (Option.some.inj this).symm
theorem BAt.twoArgs (h:BAt L d acc i s r) (c:s.f0.toList=oPut) : ∃ u v,s.f2=[u,v]:=by
  have:=h.many
  rw [c] at this
  exact two_of_len (Option.some.inj this).symm
theorem BAt.inputArgs (h:BAt L d acc i s r) (c:s.f0.toList=oInput) (c2 : ¬ s.f2.length=0) : ∃ u v,s.f2=[u,v]:=by
  have:=h.many
  rw [c] at this
  unfold manyS at this
  rw [if_neg (by decide),if_neg (by decide),if_pos rfl,if_pos (by omega)] at this
  exact two_of_len (Option.some.inj this).symm
def oneB (op:List UInt8):Bool:=decide (op=oAssert∨op=oAssume)
theorem B_j1 (hrd:rd_T29 L i=s) (h0:0≤i) (hi:i < (L.length:Int)) (h:BAt L d acc i s r) (hz:acc.size+(indB d).size≤9223372036854775807) (n : ¬ s.f0.toList=oSet∧¬ s.f0.toList=oPut∧¬ s.f0.toList=oInput)
    (g:Ev (fun k=>helmsmanref12_block.j1 k L (indB d) (acc++indB d) i s.f0 (oneB s.f0.toList) s.f0 s.f1 s.f2 s.f3 s.f4 s.f5) r):Ev (fun k=>helmsmanref12_block.l0 k L (indB d) acc i) r:=by
  refine Ev.step (fun k=>helmsmanref12_block.l0.eq_2 _ _ _ _ k) (Ev.yes hi (Ev.yes h0 ?_))
  rw [hrd]
  refine Ev.yes hz (Ev.no n.1 (Ev.no n.2.1 (Ev.no n.2.2 ?_)))
  by_cases c:s.f0.toList=oAssert
  · refine Ev.yes c ?_
    rw [show (s.f0.toList == oAssert)=oneB s.f0.toList by rw [c];rfl]
    exact g
  · refine Ev.no c ?_
    rw [show (s.f0.toList == oAssume)=oneB s.f0.toList by
      unfold oneB
      by_cases c1:s.f0.toList=oAssume
      · rw [c1];rfl
      · rw [show (s.f0.toList == oAssume)=false from beq_eq_false_iff_ne.mpr c1];simp [c,c1]]
    exact g
theorem B_set (h:BAt L d acc i s r) (hrd:rd_T29 L i=s) (h0:0≤i) (hi:i < (L.length:Int)) (c:s.f0.toList=oSet):Ev (fun k=>helmsmanref12_block.l0 k L (indB d) acc i) r:=by
  obtain ⟨u,hu⟩:=h.one (by rw [c];rfl)
  have hr:=h.hr
  have hs:=h.hz
  rw [← strOf_size,stmtB_eq,arm_set _ _ _ _ _ _ _ c] at hs
  rw [stmtB_eq,arm_set _ _ _ _ _ _ _ c] at hr
  have ht:=h.hT u (by rw [hu];simp)
  rw [hu] at hs hr
  rw [show nth (textEs [u]) 0=textE u from rfl] at hs hr
  simp only [ByteArray.size_append,indB_size,size_lit,List.length_cons,List.length_nil,Nat.zero_add,Nat.reduceAdd] at hs
  simp only [← ByteArray.append_assoc] at hr
  refine Ev.step (fun k=>helmsmanref12_block.l0.eq_2 _ _ _ _ k) (Ev.yes hi (Ev.yes h0 ?_))
  rw [hrd,hu]
  refine Ev.yes (by simp only [ByteArray.size_append,indB_size,size_lit,List.length_cons,List.length_nil,Nat.zero_add,Nat.reduceAdd];omega) ?_
  exact Ev.yes c (Ev.yes (by simp only [ByteArray.size_append,indB_size,size_lit,List.length_cons,List.length_nil,Nat.zero_add,Nat.reduceAdd];omega) (Ev.yes (by simp only [ByteArray.size_append,indB_size,size_lit,List.length_cons,List.length_nil,Nat.zero_add,Nat.reduceAdd];omega) (Ev.yes (by simp) (Ev.bind ht (Ev.yes (by simp only [ByteArray.size_append,indB_size,size_lit,List.length_cons,List.length_nil,Nat.zero_add,Nat.reduceAdd];omega) (Ev.yes (by simp only [ByteArray.size_append,indB_size,size_lit,List.length_cons,List.length_nil,Nat.zero_add,Nat.reduceAdd];omega) hr))))))
theorem B_put (h:BAt L d acc i s r) (hrd:rd_T29 L i=s) (h0:0≤i) (hi:i < (L.length:Int)) (c:s.f0.toList=oPut):Ev (fun k=>helmsmanref12_block.l0 k L (indB d) acc i) r:=by
  obtain ⟨u,v,hu⟩:=h.twoArgs c
  have hr:=h.hr
  have hs:=h.hz
  rw [← strOf_size,stmtB_eq,arm_put _ _ _ _ _ _ _ c] at hs
  rw [stmtB_eq,arm_put _ _ _ _ _ _ _ c] at hr
  have ht:=h.hT u (by rw [hu];simp)
  have ht':=h.hT v (by rw [hu];simp)
  rw [hu] at hs hr
  rw [show nth (textEs [u,v]) 0=textE u from rfl] at hs hr
  rw [show nth (textEs [u,v]) 1=textE v from rfl] at hs hr
  simp only [ByteArray.size_append,indB_size,size_lit,List.length_cons,List.length_nil,Nat.zero_add,Nat.reduceAdd] at hs
  simp only [← ByteArray.append_assoc] at hr
  refine Ev.step (fun k=>helmsmanref12_block.l0.eq_2 _ _ _ _ k) (Ev.yes hi (Ev.yes h0 ?_))
  rw [hrd,hu]
  refine Ev.yes (by simp only [ByteArray.size_append,indB_size,size_lit,List.length_cons,List.length_nil,Nat.zero_add,Nat.reduceAdd];omega) ?_
  exact Ev.no (by rw [c];decide) (Ev.yes c (Ev.yes (by simp only [ByteArray.size_append,indB_size,size_lit,List.length_cons,List.length_nil,Nat.zero_add,Nat.reduceAdd];omega) (Ev.yes (by simp only [ByteArray.size_append,indB_size,size_lit,List.length_cons,List.length_nil,Nat.zero_add,Nat.reduceAdd];omega) (Ev.yes (by simp) (Ev.bind ht (Ev.yes (by simp only [ByteArray.size_append,indB_size,size_lit,List.length_cons,List.length_nil,Nat.zero_add,Nat.reduceAdd];omega) (Ev.yes (by simp only [ByteArray.size_append,indB_size,size_lit,List.length_cons,List.length_nil,Nat.zero_add,Nat.reduceAdd];omega) (Ev.yes (by simp) (Ev.bind ht' (Ev.yes (by simp only [ByteArray.size_append,indB_size,size_lit,List.length_cons,List.length_nil,Nat.zero_add,Nat.reduceAdd];omega) (Ev.yes (by simp only [ByteArray.size_append,indB_size,size_lit,List.length_cons,List.length_nil,Nat.zero_add,Nat.reduceAdd];omega) hr)))))))))))
theorem B_input (h:BAt L d acc i s r) (hrd:rd_T29 L i=s) (h0:0≤i) (hi:i < (L.length:Int)) (c:s.f0.toList=oInput) (c2 : ¬ s.f2.length=0):Ev (fun k=>helmsmanref12_block.l0 k L (indB d) acc i) r:=by
  obtain ⟨u,v,hu⟩:=h.inputArgs c c2
  have hr:=h.hr
  have hs:=h.hz
  rw [← strOf_size,stmtB_eq,arm_input _ _ _ _ _ _ _ c c2] at hs
  rw [stmtB_eq,arm_input _ _ _ _ _ _ _ c c2] at hr
  have ht:=h.hT u (by rw [hu];simp)
  have ht':=h.hT v (by rw [hu];simp)
  rw [hu] at hs hr
  rw [show nth (textEs [u,v]) 0=textE u from rfl] at hs hr
  rw [show nth (textEs [u,v]) 1=textE v from rfl] at hs hr
  simp only [ByteArray.size_append,indB_size,size_lit,List.length_cons,List.length_nil,Nat.zero_add,Nat.reduceAdd] at hs
  simp only [← ByteArray.append_assoc] at hr
  refine Ev.step (fun k=>helmsmanref12_block.l0.eq_2 _ _ _ _ k) (Ev.yes hi (Ev.yes h0 ?_))
  rw [hrd,hu]
  refine Ev.yes (by simp only [ByteArray.size_append,indB_size,size_lit,List.length_cons,List.length_nil,Nat.zero_add,Nat.reduceAdd];omega) ?_
  exact Ev.no (by rw [c];decide) (Ev.no (by rw [c];decide) (Ev.yes c (Ev.yes (by simp only [ByteArray.size_append,indB_size,size_lit,List.length_cons,List.length_nil,Nat.zero_add,Nat.reduceAdd];omega) (Ev.yes (by simp only [ByteArray.size_append,indB_size,size_lit,List.length_cons,List.length_nil,Nat.zero_add,Nat.reduceAdd];omega) (Ev.yes (by simp) (Ev.yes (by simp only [ByteArray.size_append,indB_size,size_lit,List.length_cons,List.length_nil,Nat.zero_add,Nat.reduceAdd];omega) (Ev.yes (by simp) (Ev.bind ht (Ev.yes (by simp only [ByteArray.size_append,indB_size,size_lit,List.length_cons,List.length_nil,Nat.zero_add,Nat.reduceAdd];omega) (Ev.yes (by simp only [ByteArray.size_append,indB_size,size_lit,List.length_cons,List.length_nil,Nat.zero_add,Nat.reduceAdd];omega) (Ev.yes (by simp) (Ev.bind ht' (Ev.yes (by simp only [ByteArray.size_append,indB_size,size_lit,List.length_cons,List.length_nil,Nat.zero_add,Nat.reduceAdd];omega) (Ev.yes (by simp only [ByteArray.size_append,indB_size,size_lit,List.length_cons,List.length_nil,Nat.zero_add,Nat.reduceAdd];omega) (Ev.yes (by simp only [ByteArray.size_append,indB_size,size_lit,List.length_cons,List.length_nil,Nat.zero_add,Nat.reduceAdd];omega) hr)))))))))))))))
theorem B_input0 (h:BAt L d acc i s r) (hrd:rd_T29 L i=s) (h0:0≤i) (hi:i < (L.length:Int)) (c:s.f0.toList=oInput) (c2:s.f2.length=0):Ev (fun k=>helmsmanref12_block.l0 k L (indB d) acc i) r:=by
  have hr:=h.hr
  have hs:=h.hz
  rw [← strOf_size,stmtB_eq,arm_input0 _ _ _ _ _ _ _ c c2] at hs
  rw [stmtB_eq,arm_input0 _ _ _ _ _ _ _ c c2] at hr
  simp only [ByteArray.size_append,indB_size,size_lit,List.length_cons,List.length_nil,Nat.zero_add,Nat.reduceAdd] at hs
  simp only [← ByteArray.append_assoc] at hr
  refine Ev.step (fun k=>helmsmanref12_block.l0.eq_2 _ _ _ _ k) (Ev.yes hi (Ev.yes h0 ?_))
  rw [hrd]
  refine Ev.yes (by simp only [ByteArray.size_append,indB_size,size_lit,List.length_cons,List.length_nil,Nat.zero_add,Nat.reduceAdd];omega) ?_
  exact Ev.no (by rw [c];decide) (Ev.no (by rw [c];decide) (Ev.yes c (Ev.yes (by simp only [ByteArray.size_append,indB_size,size_lit,List.length_cons,List.length_nil,Nat.zero_add,Nat.reduceAdd];omega) (Ev.yes (by simp only [ByteArray.size_append,indB_size,size_lit,List.length_cons,List.length_nil,Nat.zero_add,Nat.reduceAdd];omega) (Ev.no (by omega) (Ev.yes (by simp only [ByteArray.size_append,indB_size,size_lit,List.length_cons,List.length_nil,Nat.zero_add,Nat.reduceAdd];omega) hr))))))
theorem B_one (h:BAt L d acc i s r) (hrd:rd_T29 L i=s) (h0:0≤i) (hi:i < (L.length:Int)) (c:s.f0.toList=oAssert∨s.f0.toList=oAssume):Ev (fun k=>helmsmanref12_block.l0 k L (indB d) acc i) r:=by
  obtain ⟨u,hu⟩:=h.one (by rcases c with c|c <;> rw [c] <;> rfl)
  have hr:=h.hr
  have hs:=h.hz
  rw [← strOf_size,stmtB_eq,arm_one _ _ _ _ _ _ _ c] at hs
  rw [stmtB_eq,arm_one _ _ _ _ _ _ _ c] at hr
  have ht:=h.hT u (by rw [hu];simp)
  rw [hu] at hs hr
  rw [show nth (textEs [u]) 0=textE u from rfl] at hs hr
  simp only [ByteArray.size_append,indB_size,size_lit,List.length_cons,List.length_nil,Nat.zero_add,Nat.reduceAdd] at hs
  simp only [← ByteArray.append_assoc] at hr
  have hA:=h.hA
  have hB:=h.hB
  refine B_j1 hrd h0 hi h (by simp only [ByteArray.size_append,indB_size,size_lit,List.length_cons,List.length_nil,Nat.zero_add,Nat.reduceAdd];omega) ⟨by rcases c with c|c <;> rw [c] <;> decide,by rcases c with c|c <;> rw [c] <;> decide,by rcases c with c|c <;> rw [c] <;> decide⟩ ?_
  refine Ev.step (fun k=>helmsmanref12_block.j1.eq_2 _ _ _ _ _ _ _ _ _ _ _ _ k) ?_
  rw [hu]
  exact Ev.yes (decide_eq_true c) (Ev.yes (by simp only [ByteArray.size_append,indB_size,size_lit,List.length_cons,List.length_nil,Nat.zero_add,Nat.reduceAdd];omega) (Ev.yes (by simp only [ByteArray.size_append,indB_size,size_lit,List.length_cons,List.length_nil,Nat.zero_add,Nat.reduceAdd];omega) (Ev.yes (by simp) (Ev.bind ht (Ev.yes (by simp only [ByteArray.size_append,indB_size,size_lit,List.length_cons,List.length_nil,Nat.zero_add,Nat.reduceAdd];omega) (Ev.yes (by simp only [ByteArray.size_append,indB_size,size_lit,List.length_cons,List.length_nil,Nat.zero_add,Nat.reduceAdd];omega) hr))))))
theorem B_call (h:BAt L d acc i s r) (hrd:rd_T29 L i=s) (h0:0≤i) (hi:i < (L.length:Int)) (c:s.f0.toList=oCall):Ev (fun k=>helmsmanref12_block.l0 k L (indB d) acc i) r:=by
  have hr:=h.hr
  have hs:=h.hz
  rw [← strOf_size,stmtB_eq,arm_call _ _ _ _ _ _ _ c] at hs
  rw [stmtB_eq,arm_call _ _ _ _ _ _ _ c] at hr
  simp only [ByteArray.size_append,indB_size,size_lit,List.length_cons,List.length_nil,Nat.zero_add,Nat.reduceAdd] at hs
  simp only [← ByteArray.append_assoc] at hr
  have hA:=h.hA
  have hB:=h.hB
  refine B_j1 hrd h0 hi h (by simp only [ByteArray.size_append,indB_size,size_lit,List.length_cons,List.length_nil,Nat.zero_add,Nat.reduceAdd];omega) ⟨by rw [c];decide,by rw [c];decide,by rw [c];decide⟩ ?_
  refine Ev.step (fun k=>helmsmanref12_block.j1.eq_2 _ _ _ _ _ _ _ _ _ _ _ _ k) ?_
  exact Ev.no (by rw [c];decide) (Ev.yes c (Ev.yes (by simp only [ByteArray.size_append,indB_size,size_lit,List.length_cons,List.length_nil,Nat.zero_add,Nat.reduceAdd];omega) (Ev.yes (by simp only [ByteArray.size_append,indB_size,size_lit,List.length_cons,List.length_nil,Nat.zero_add,Nat.reduceAdd];omega) (Ev.yes (by simp only [ByteArray.size_append,indB_size,size_lit,List.length_cons,List.length_nil,Nat.zero_add,Nat.reduceAdd];omega) hr))))
theorem B_skip (h:BAt L d acc i s r) (hrd:rd_T29 L i=s) (h0:0≤i) (hi:i < (L.length:Int)) (c:s.f0.toList=oSkip):Ev (fun k=>helmsmanref12_block.l0 k L (indB d) acc i) r:=by
  have hr:=h.hr
  have hs:=h.hz
  rw [← strOf_size,stmtB_eq,arm_skip _ _ _ _ _ _ _ c] at hs
  rw [stmtB_eq,arm_skip _ _ _ _ _ _ _ c] at hr
  simp only [ByteArray.size_append,indB_size,size_lit,List.length_cons,List.length_nil,Nat.zero_add,Nat.reduceAdd] at hs
  simp only [← ByteArray.append_assoc] at hr
  have hA:=h.hA
  have hB:=h.hB
  refine B_j1 hrd h0 hi h (by simp only [ByteArray.size_append,indB_size,size_lit,List.length_cons,List.length_nil,Nat.zero_add,Nat.reduceAdd];omega) ⟨by rw [c];decide,by rw [c];decide,by rw [c];decide⟩ ?_
  refine Ev.step (fun k=>helmsmanref12_block.j1.eq_2 _ _ _ _ _ _ _ _ _ _ _ _ k) ?_
  exact Ev.no (by rw [c];decide) (Ev.no (by rw [c];decide) (Ev.yes c (Ev.yes (by simp only [ByteArray.size_append,indB_size,size_lit,List.length_cons,List.length_nil,Nat.zero_add,Nat.reduceAdd];omega) hr)))
theorem B_while (h:BAt L d acc i s r) (hrd:rd_T29 L i=s) (h0:0≤i) (hi:i < (L.length:Int)) (c:s.f0.toList=oWhile):Ev (fun k=>helmsmanref12_block.l0 k L (indB d) acc i) r:=by
  obtain ⟨u,hu⟩:=h.one (by rw [c];rfl)
  have hr:=h.hr
  have hs:=h.hz
  rw [← strOf_size,stmtB_eq,arm_while _ _ _ _ _ _ _ c] at hs
  rw [stmtB_eq,arm_while _ _ _ _ _ _ _ c] at hr
  have ht:=h.hT u (by rw [hu];simp)
  rw [hu] at hs hr
  rw [show nth (textEs [u]) 0=textE u from rfl] at hs hr
  simp only [ByteArray.size_append,indB_size,size_lit,List.length_cons,List.length_nil,Nat.zero_add,Nat.reduceAdd] at hs
  simp only [← ByteArray.append_assoc] at hr
  have hA:=h.hA
  have hB:=h.hB
  refine B_j1 hrd h0 hi h (by simp only [ByteArray.size_append,indB_size,size_lit,List.length_cons,List.length_nil,Nat.zero_add,Nat.reduceAdd];omega) ⟨by rw [c];decide,by rw [c];decide,by rw [c];decide⟩ ?_
  refine Ev.step (fun k=>helmsmanref12_block.j1.eq_2 _ _ _ _ _ _ _ _ _ _ _ _ k) ?_
  rw [hu]
  exact Ev.no (by rw [c];decide) (Ev.no (by rw [c];decide) (Ev.no (by rw [c];decide) (Ev.yes c (Ev.yes (by simp only [ByteArray.size_append,indB_size,size_lit,List.length_cons,List.length_nil,Nat.zero_add,Nat.reduceAdd];omega) (Ev.yes (by simp) (Ev.bind ht (Ev.yes (by simp only [ByteArray.size_append,indB_size,size_lit,List.length_cons,List.length_nil,Nat.zero_add,Nat.reduceAdd];omega) (Ev.yes (by simp only [ByteArray.size_append,indB_size,size_lit,List.length_cons,List.length_nil,Nat.zero_add,Nat.reduceAdd];omega) (Ev.yes (by rw [indB_size];have:=h.hd;omega) (by rw [indB_next];exact Ev.bind hA (Ev.yes (by simp only [ByteArray.size_append,indB_size,size_lit,List.length_cons,List.length_nil,Nat.zero_add,Nat.reduceAdd];omega) (Ev.yes (by simp only [ByteArray.size_append,indB_size,size_lit,List.length_cons,List.length_nil,Nat.zero_add,Nat.reduceAdd];omega) (Ev.yes (by simp only [ByteArray.size_append,indB_size,size_lit,List.length_cons,List.length_nil,Nat.zero_add,Nat.reduceAdd];omega) hr)))))))))))))
theorem B_if0 (h:BAt L d acc i s r) (hrd:rd_T29 L i=s) (h0:0≤i) (hi:i < (L.length:Int)) (c:s.f0.toList=oIf) (c2 : ¬ s.f4.length > 0):Ev (fun k=>helmsmanref12_block.l0 k L (indB d) acc i) r:=by
  obtain ⟨u,hu⟩:=h.one (by rw [c];rfl)
  have hr:=h.hr
  have hs:=h.hz
  rw [← strOf_size,stmtB_eq,arm_if0 _ _ _ _ _ _ _ c (decide_eq_false c2)] at hs
  rw [stmtB_eq,arm_if0 _ _ _ _ _ _ _ c (decide_eq_false c2)] at hr
  have ht:=h.hT u (by rw [hu];simp)
  rw [hu] at hs hr
  rw [show nth (textEs [u]) 0=textE u from rfl] at hs hr
  simp only [ByteArray.size_append,indB_size,size_lit,List.length_cons,List.length_nil,Nat.zero_add,Nat.reduceAdd] at hs
  simp only [← ByteArray.append_assoc] at hr
  have hA:=h.hA
  have hB:=h.hB
  refine B_j1 hrd h0 hi h (by simp only [ByteArray.size_append,indB_size,size_lit,List.length_cons,List.length_nil,Nat.zero_add,Nat.reduceAdd];omega) ⟨by rw [c];decide,by rw [c];decide,by rw [c];decide⟩ ?_
  refine Ev.step (fun k=>helmsmanref12_block.j1.eq_2 _ _ _ _ _ _ _ _ _ _ _ _ k) ?_
  rw [hu]
  exact Ev.no (by rw [c];decide) (Ev.no (by rw [c];decide) (Ev.no (by rw [c];decide) (Ev.no (by rw [c];decide) (Ev.yes c (Ev.yes (by simp only [ByteArray.size_append,indB_size,size_lit,List.length_cons,List.length_nil,Nat.zero_add,Nat.reduceAdd];omega) (Ev.yes (by simp) (Ev.bind ht (Ev.yes (by simp only [ByteArray.size_append,indB_size,size_lit,List.length_cons,List.length_nil,Nat.zero_add,Nat.reduceAdd];omega) (Ev.yes (by simp only [ByteArray.size_append,indB_size,size_lit,List.length_cons,List.length_nil,Nat.zero_add,Nat.reduceAdd];omega) (Ev.yes (by rw [indB_size];have:=h.hd;omega) (by rw [indB_next];exact Ev.bind hA (Ev.yes (by simp only [ByteArray.size_append,indB_size,size_lit,List.length_cons,List.length_nil,Nat.zero_add,Nat.reduceAdd];omega) (Ev.no (by omega) (Ev.yes (by simp only [ByteArray.size_append,indB_size,size_lit,List.length_cons,List.length_nil,Nat.zero_add,Nat.reduceAdd];omega) (Ev.yes (by simp only [ByteArray.size_append,indB_size,size_lit,List.length_cons,List.length_nil,Nat.zero_add,Nat.reduceAdd];omega) hr)))))))))))))))
theorem B_if1 (h:BAt L d acc i s r) (hrd:rd_T29 L i=s) (h0:0≤i) (hi:i < (L.length:Int)) (c:s.f0.toList=oIf) (c2:s.f4.length > 0):Ev (fun k=>helmsmanref12_block.l0 k L (indB d) acc i) r:=by
  obtain ⟨u,hu⟩:=h.one (by rw [c];rfl)
  have hr:=h.hr
  have hs:=h.hz
  rw [← strOf_size,stmtB_eq,arm_if1 _ _ _ _ _ _ _ c (decide_eq_true c2)] at hs
  rw [stmtB_eq,arm_if1 _ _ _ _ _ _ _ c (decide_eq_true c2)] at hr
  have ht:=h.hT u (by rw [hu];simp)
  rw [hu] at hs hr
  rw [show nth (textEs [u]) 0=textE u from rfl] at hs hr
  simp only [ByteArray.size_append,indB_size,size_lit,List.length_cons,List.length_nil,Nat.zero_add,Nat.reduceAdd] at hs
  simp only [← ByteArray.append_assoc] at hr
  have hA:=h.hA
  have hB:=h.hB
  refine B_j1 hrd h0 hi h (by simp only [ByteArray.size_append,indB_size,size_lit,List.length_cons,List.length_nil,Nat.zero_add,Nat.reduceAdd];omega) ⟨by rw [c];decide,by rw [c];decide,by rw [c];decide⟩ ?_
  refine Ev.step (fun k=>helmsmanref12_block.j1.eq_2 _ _ _ _ _ _ _ _ _ _ _ _ k) ?_
  rw [hu]
  exact Ev.no (by rw [c];decide) (Ev.no (by rw [c];decide) (Ev.no (by rw [c];decide) (Ev.no (by rw [c];decide) (Ev.yes c (Ev.yes (by simp only [ByteArray.size_append,indB_size,size_lit,List.length_cons,List.length_nil,Nat.zero_add,Nat.reduceAdd];omega) (Ev.yes (by simp) (Ev.bind ht (Ev.yes (by simp only [ByteArray.size_append,indB_size,size_lit,List.length_cons,List.length_nil,Nat.zero_add,Nat.reduceAdd];omega) (Ev.yes (by simp only [ByteArray.size_append,indB_size,size_lit,List.length_cons,List.length_nil,Nat.zero_add,Nat.reduceAdd];omega) (Ev.yes (by rw [indB_size];have:=h.hd;omega) (by rw [indB_next];exact Ev.bind hA (Ev.yes (by simp only [ByteArray.size_append,indB_size,size_lit,List.length_cons,List.length_nil,Nat.zero_add,Nat.reduceAdd];omega) (Ev.yes (by omega) (Ev.yes (by simp only [ByteArray.size_append,indB_size,size_lit,List.length_cons,List.length_nil,Nat.zero_add,Nat.reduceAdd];omega) (Ev.yes (by simp only [ByteArray.size_append,indB_size,size_lit,List.length_cons,List.length_nil,Nat.zero_add,Nat.reduceAdd];omega) (Ev.bind hB (Ev.yes (by simp only [ByteArray.size_append,indB_size,size_lit,List.length_cons,List.length_nil,Nat.zero_add,Nat.reduceAdd];omega) (Ev.yes (by simp only [ByteArray.size_append,indB_size,size_lit,List.length_cons,List.length_nil,Nat.zero_add,Nat.reduceAdd];omega) (Ev.yes (by simp only [ByteArray.size_append,indB_size,size_lit,List.length_cons,List.length_nil,Nat.zero_add,Nat.reduceAdd];omega) hr)))))))))))))))))))
theorem B_any (h:BAt L d acc i s r) (hrd:rd_T29 L i=s) (h0:0≤i) (hi:i < (L.length:Int)):Ev (fun k=>helmsmanref12_block.l0 k L (indB d) acc i) r:=by
  have hm:=h.many
  by_cases c0:s.f0.toList=oSet
  · exact B_set h hrd h0 hi c0
  by_cases c1:s.f0.toList=oPut
  · exact B_put h hrd h0 hi c1
  by_cases c2:s.f0.toList=oInput
  · by_cases c:s.f2.length=0
    · exact B_input0 h hrd h0 hi c2 c
    · exact B_input h hrd h0 hi c2 c
  by_cases c3:s.f0.toList=oAssert∨s.f0.toList=oAssume
  · exact B_one h hrd h0 hi c3
  by_cases c4:s.f0.toList=oCall
  · exact B_call h hrd h0 hi c4
  by_cases c5:s.f0.toList=oSkip
  · exact B_skip h hrd h0 hi c5
  by_cases c6:s.f0.toList=oWhile
  · exact B_while h hrd h0 hi c6
  by_cases c7:s.f0.toList=oIf
  · by_cases c:s.f4.length > 0
    · exact B_if1 h hrd h0 hi c7 c
    · exact B_if0 h hrd h0 hi c7 c
  exfalso
  unfold manyS at hm
  rw [if_neg (by unfold onePart;rw [decide_eq_true_eq];simp only [not_or] at c3 ⊢;exact ⟨c0,c3.1,c3.2,c7,c6⟩),if_neg c1,if_neg c2,if_neg c4,if_neg c5] at hm
  cases hm
end
theorem wholeEs_mem {x:RE} : ∀ {l:List RE},wholeEs l=true→x ∈ l→wholeE x=true
  | [],_,h=>by cases h
  | y :: ys,h,hx=>by
    rw [wholeEs,Bool.and_eq_true] at h
    rcases List.mem_cons.1 hx with e|hx
    · exact e ▸ h.1
    · exact wholeEs_mem h.2 hx
theorem wholeSs_mem {x:RS} : ∀ {l:List RS},wholeSs l=true→x ∈ l→wholeS x=true
  | [],_,h=>by cases h
  | y :: ys,h,hx=>by
    rw [wholeSs,Bool.and_eq_true] at h
    rcases List.mem_cons.1 hx with e|hx
    · exact e ▸ h.1
    · exact wholeSs_mem h.2 hx
theorem block_loop (d:Nat) (hd:d≤1099511627776) : ∀ (xs pre:List RS) (acc:ByteArray),(∀ y ∈ xs,wholeS y=true∧(∀ z ∈ y.f2,Ev (fun k=>helmsmanref12_Text.f k z.f0 z.f1 z.f2 z.f3 z.f4) (textE z))∧Ev (fun k=>helmsmanref12_block.f k y.f3 (indB (d+1))) (strOf (stmtsB y.f3 ((d:Int)+1)))∧Ev (fun k=>helmsmanref12_block.f k y.f4 (indB (d+1))) (strOf (stmtsB y.f4 ((d:Int)+1))))→
    (pre++xs).length < 1099511627776→acc.size+(stmtsB xs (d:Int)).length≤140737488355328→Ev (fun k=>helmsmanref12_block.l0 k (pre++xs) (indB d) acc pre.length) (acc++strOf (stmtsB xs (d:Int))):=by
  intro xs
  induction xs with
  | nil=>
    intro pre acc _ _ _
    refine Ev.step (fun k=>helmsmanref12_block.l0.eq_2 _ _ _ _ k) (Ev.no (end_not pre) ?_)
    rw [stmtsB,show acc++strOf []=acc from bytes_ext (by rw [app_list];exact List.append_nil _)]
    exact Ev.now _
  | cons x xs ih=>
    intro pre acc h hl hz
    rw [stmtsB,List.length_append] at hz
    have hr:=ih (pre++[x]) (acc++strOf (stmtB x (d:Int))) (fun y hy=>h y (List.mem_cons_of_mem _ hy)) (by rw [← snoc];exact hl) (by rw [ByteArray.size_append,strOf_size];omega)
    rw [← snoc,← next_len pre x xs (by omega),ByteArray.append_assoc,← strOf_append,← stmtsB] at hr
    obtain ⟨h1,h2,h3,h4⟩:=h x (List.mem_cons_self ..)
    exact B_any ⟨h1,by omega,hd,h2,h3,h4,hr⟩ (rdRS pre x xs) (by omega) (mid_lt pre x xs)
theorem block_of (l:List RS) (d:Nat) (hw:wholeSs l=true) (ho:okSs l) (hb:d+bulkSs l≤4194304) (hb2:bulkSs l≤2097152)
    (h : ∀ y ∈ l,Ev (fun k=>helmsmanref12_block.f k y.f3 (indB (d+1))) (strOf (stmtsB y.f3 ((d:Int)+1)))∧Ev (fun k=>helmsmanref12_block.f k y.f4 (indB (d+1))) (strOf (stmtsB y.f4 ((d:Int)+1)))) :
    Ev (fun k=>helmsmanref12_block.f k l (indB d)) (strOf (stmtsB l (d:Int))):=by
  refine Ev.step (fun k=>helmsmanref12_block.f.eq_2 _ _ k) ?_
  have hz:=stmtsB_len 25165884 l ho d (by omega)
  have g:=block_loop d (by omega) l [] ⟨#[]⟩ (fun y hy=>?_) (by rw [List.nil_append];have:=len_bulkSs l;omega) (by rw [show (⟨#[]⟩:ByteArray).size=0 from rfl];omega)
  · rw [show (⟨#[]⟩:ByteArray)++strOf (stmtsB l (d:Int))=strOf (stmtsB l (d:Int)) from bytes_ext (by rw [app_list];rfl)] at g
    exact g
  · have hy1:=wholeSs_mem hw hy
    have hy2:=hy1
    rw [wholeS_eq,Bool.and_eq_true,Bool.and_eq_true] at hy2
    have hy3:=okSs_mem ho hy
    rw [okS_eq] at hy3
    have h1:=mem_bulkSs hy
    rw [bulkS_eq] at h1
    exact ⟨hy1,fun z hz=>rtext_ev z (okEs_mem hy3.1 hz) (wholeEs_mem hy2.2.1 hz) (by have:=mem_bulkEs hz;omega),h y hy⟩
theorem block_ev' : ∀ (x:RS) (d:Nat),wholeS x=true→okS x→d+bulkS x≤4194304→bulkS x≤2097152→Ev (fun k=>helmsmanref12_block.f k x.f3 (indB (d+1))) (strOf (stmtsB x.f3 ((d:Int)+1)))∧Ev (fun k=>helmsmanref12_block.f k x.f4 (indB (d+1))) (strOf (stmtsB x.f4 ((d:Int)+1))):=RS.all fun x iha ihb d hw ho hb hb2=>by
  rw [wholeS_eq,Bool.and_eq_true,Bool.and_eq_true,Bool.and_eq_true] at hw
  rw [okS_eq] at ho
  rw [bulkS_eq] at hb hb2
  exact ⟨block_of _ (d+1) hw.2.2.1 ho.2.1 (by omega) (by omega) fun y hy=>iha y hy (d+1) (wholeSs_mem hw.2.2.1 hy) (okSs_mem ho.2.1 hy) (by have:=mem_bulkSs hy;omega) (by have:=mem_bulkSs hy;omega),
    block_of _ (d+1) hw.2.2.2 ho.2.2 (by omega) (by omega) fun y hy=>ihb y hy (d+1) (wholeSs_mem hw.2.2.2 hy) (okSs_mem ho.2.2 hy) (by have:=mem_bulkSs hy;omega) (by have:=mem_bulkSs hy;omega)⟩
theorem block_ev (l:List RS) (d:Nat) (hw:wholeSs l=true) (ho:okSs l) (hb:d+bulkSs l≤4194304) (hb2:bulkSs l≤2097152):Ev (fun k=>helmsmanref12_block.f k l (indB d)) (strOf (stmtsB l (d:Int))):=
  block_of l d hw ho hb hb2 fun y hy=>block_ev' y d (wholeSs_mem hw hy) (okSs_mem ho hy) (by have:=mem_bulkSs hy;omega) (by have:=mem_bulkSs hy;omega)
end Go.Proofs.YtnnbbeloifhofaaDoor.P
end
section
namespace Go.Proofs.YtnnbbeloifhofaaDoor.P
open Go Go.RowKit Go.Proofs
open Go.Proofs.YtnnbbeloifhofaaDoorW.PrintWords Go.Proofs.YtnnbbeloifhofaaDoorW.PrintLast Go.Proofs.YtnnbbeloifhofaaDoorW.PrintMore
set_option linter.unusedVariables false
theorem C_one {α:Type} {d:Kd α} {w:World} {b:Nat} {c:List Value} {t:TypeId} {x:α} (hb:w.heap[b]?=some (.cells c.toArray t (0,0))) (hK:d.K w x c):d.C w (some ⟨b,0,none⟩) [x].length [x]:=by
  refine ⟨rfl,by simp,fun _=>⟨⟨b,0,none⟩,rfl,fun j p hj=>?_⟩⟩
  match j,hj with
  | 0,hj=>
    obtain rfl:x=p:=by simpa using hj
    refine ⟨c,d.K_len hK,hK,fun i u hu=>?_⟩
    rw [Nat.zero_mul,Nat.zero_add,add_plain,blk_cell hb]
    simpa using hu
  | j+1,hj=>simp at hj
theorem C_two {α:Type} {d:Kd α} {w:World} {b:Nat} {c c':List Value} {t:TypeId} {x y:α} (hb:w.heap[b]?=some (.cells (c++c').toArray t (0,0))) (hK:d.K w x c) (hK':d.K w y c'):d.C w (some ⟨b,0,none⟩) [x,y].length [x,y]:=by
  refine ⟨rfl,by simp,fun _=>⟨⟨b,0,none⟩,rfl,fun j p hj=>?_⟩⟩
  match j,hj with
  | 0,hj=>
    obtain rfl:x=p:=by simpa using hj
    refine ⟨c,d.K_len hK,hK,fun i u hu=>?_⟩
    rw [Nat.zero_mul,Nat.zero_add,add_plain,blk_cell hb]
    have hi:i < c.length:=by
      rcases Nat.lt_or_ge i c.length with h|h
      · exact h
      · rw [List.getElem?_eq_none h] at hu;cases hu
    simpa [List.getElem?_append_left hi] using hu
  | 1,hj=>
    obtain rfl:y=p:=by simpa using hj
    refine ⟨c',d.K_len hK',hK',fun i u hu=>?_⟩
    have hl:=d.K_len hK
    rw [Nat.one_mul,add_plain,blk_cell hb,← hl]
    have h2:(c++c')[c.length+i]?=c'[i]?:=by rw [List.getElem?_append_right (by omega)];congr 1;omega
    simpa [h2] using hu
  | j+2,hj=>simp at hj
theorem blk_at {W:World} {n:Nat} (hn:W.heap.size=n) (o:Obj):(W.alloc o).heap[n]?=some o:=hn ▸ blk_new W o
theorem size_at {W:World} {n:Nat} (hn:W.heap.size=n) (o:Obj):(W.alloc o).heap.size=n+1:=by simp [hn]
def aX:TE:=⟨lit [110,97,109,101],lit [120],0,[],0⟩
def aOne:TE:=⟨lit [110,117,109],lit [],1,[],0⟩
def aAt:TE:=⟨lit [97,116],lit [97],0,[aX],0⟩
def aNeg:TE:=⟨lit [110,101,103],lit [],0,[aX],0⟩
def aPlus:TE:=⟨lit [43],lit [],0,[aOne,aAt],0⟩
def aE:TE:=⟨lit [45],lit [],0,[aNeg,aPlus],0⟩
def aS:TS:=⟨lit [115,101,116],lit [120],[aE],[],[],0⟩
def aliveW (w:World):World:=((((((((((w.alloc (.cells #[.string ⟨#[110,97,109,101]⟩,.string ⟨#[120]⟩,.int .i64 0,.slice none 0 0,.int .i64 0] 33 (0,0))).alloc (.cells #[.string ⟨#[110,117,109]⟩,.string ⟨#[]⟩,.int .i64 1,.slice none 0 0,.int .i64 0] 33 (0,0))).alloc (.cells #[.string ⟨#[110,97,109,101]⟩,.string ⟨#[120]⟩,.int .i64 0,.slice none 0 0,.int .i64 0] 33 (0,0))).alloc (.cells #[.string ⟨#[110,97,109,101]⟩,.string ⟨#[120]⟩,.int .i64 0,.slice none 0 0,.int .i64 0] 33 (0,0))).alloc (.cells #[.string ⟨#[110,117,109]⟩,.string ⟨#[]⟩,.int .i64 1,.slice none 0 0,.int .i64 0,.string ⟨#[97,116]⟩,.string ⟨#[97]⟩,.int .i64 0,.slice (some ⟨(w.heap.size+1+1+1),0,none⟩) 1 1,.int .i64 0] 33 (0,0))).alloc (.cells #[.string ⟨#[110,101,103]⟩,.string ⟨#[]⟩,.int .i64 0,.slice (some ⟨(w.heap.size+1+1),0,none⟩) 1 1,.int .i64 0,.string ⟨#[43]⟩,.string ⟨#[]⟩,.int .i64 0,.slice (some ⟨(w.heap.size+1+1+1+1),0,none⟩) 2 2,.int .i64 0] 33 (0,0))).alloc (.cells #[.string ⟨#[45]⟩,.string ⟨#[]⟩,.int .i64 0,.slice (some ⟨(w.heap.size+1+1+1+1+1),0,none⟩) 2 2,.int .i64 0] 33 (0,0))).alloc (.cells #[.string ⟨#[45]⟩,.string ⟨#[]⟩,.int .i64 0,.slice (some ⟨(w.heap.size+1+1+1+1+1),0,none⟩) 2 2,.int .i64 0] 33 (0,0))).alloc (.cells #[.string ⟨#[115,101,116]⟩,.string ⟨#[120]⟩,.slice (some ⟨(w.heap.size+1+1+1+1+1+1+1),0,none⟩) 1 1,.slice none 0 0,.slice none 0 0,.int .i64 0] 76 (0,0))).alloc (.cells #[.slice none 0 0,.slice none 0 0,.slice none 0 0,.slice (some ⟨(w.heap.size+1+1+1+1+1+1+1+1),0,none⟩) 1 1] 50 (0,0)))
structure AliveAt (w W:World):Prop where
  below:Below w.heap.size w W
  B6:W.heap[(w.heap.size+1+1+1+1+1+1)]?=some (.cells #[.string ⟨#[45]⟩,.string ⟨#[]⟩,.int .i64 0,.slice (some ⟨(w.heap.size+1+1+1+1+1),0,none⟩) 2 2,.int .i64 0] 33 (0,0))
  B9:W.heap[(w.heap.size+1+1+1+1+1+1+1+1+1)]?=some (.cells #[.slice none 0 0,.slice none 0 0,.slice none 0 0,.slice (some ⟨(w.heap.size+1+1+1+1+1+1+1+1),0,none⟩) 1 1] 50 (0,0))
  C5:Kd.C k33 W (some ⟨(w.heap.size+1+1+1+1+1),0,none⟩) [aNeg,aPlus].length [aNeg,aPlus]
  C8:Kd.C k76 W (some ⟨(w.heap.size+1+1+1+1+1+1+1+1),0,none⟩) [aS].length [aS]
theorem AliveAt.later {w W W':World} (h:AliveAt w W) (hb:Below W.heap.size W W'):AliveAt w W':=
  ⟨h.below.trans (hb.mono h.below.size),blk_below h.B6 hb,blk_below h.B9 hb,Kd.C_below h.C5 hb,Kd.C_below h.C8 hb⟩
theorem aliveW_at (w:World):AliveAt w (aliveW w):=by
  have hb:Below w.heap.size w (aliveW w):=below_alloc (below_alloc (below_alloc (below_alloc (below_alloc (below_alloc (below_alloc (below_alloc (below_alloc (below_alloc (Below.refl _ _) _) _) _) _) _) _) _) _) _) _
  have B2:(aliveW w).heap[(w.heap.size+1+1)]?=some (.cells #[.string ⟨#[110,97,109,101]⟩,.string ⟨#[120]⟩,.int .i64 0,.slice none 0 0,.int .i64 0] 33 (0,0)):=by unfold aliveW;exact blk_alloc (blk_alloc (blk_alloc (blk_alloc (blk_alloc (blk_alloc (blk_alloc (blk_at (size_at (size_at (rfl) _) _) _) _) _) _) _) _) _) _
  have B3:(aliveW w).heap[(w.heap.size+1+1+1)]?=some (.cells #[.string ⟨#[110,97,109,101]⟩,.string ⟨#[120]⟩,.int .i64 0,.slice none 0 0,.int .i64 0] 33 (0,0)):=by unfold aliveW;exact blk_alloc (blk_alloc (blk_alloc (blk_alloc (blk_alloc (blk_alloc (blk_at (size_at (size_at (size_at (rfl) _) _) _) _) _) _) _) _) _) _
  have B4:(aliveW w).heap[(w.heap.size+1+1+1+1)]?=some (.cells #[.string ⟨#[110,117,109]⟩,.string ⟨#[]⟩,.int .i64 1,.slice none 0 0,.int .i64 0,.string ⟨#[97,116]⟩,.string ⟨#[97]⟩,.int .i64 0,.slice (some ⟨(w.heap.size+1+1+1),0,none⟩) 1 1,.int .i64 0] 33 (0,0)):=by unfold aliveW;exact blk_alloc (blk_alloc (blk_alloc (blk_alloc (blk_alloc (blk_at (size_at (size_at (size_at (size_at (rfl) _) _) _) _) _) _) _) _) _) _
  have B5:(aliveW w).heap[(w.heap.size+1+1+1+1+1)]?=some (.cells #[.string ⟨#[110,101,103]⟩,.string ⟨#[]⟩,.int .i64 0,.slice (some ⟨(w.heap.size+1+1),0,none⟩) 1 1,.int .i64 0,.string ⟨#[43]⟩,.string ⟨#[]⟩,.int .i64 0,.slice (some ⟨(w.heap.size+1+1+1+1),0,none⟩) 2 2,.int .i64 0] 33 (0,0)):=by unfold aliveW;exact blk_alloc (blk_alloc (blk_alloc (blk_alloc (blk_at (size_at (size_at (size_at (size_at (size_at (rfl) _) _) _) _) _) _) _) _) _) _
  have B6:(aliveW w).heap[(w.heap.size+1+1+1+1+1+1)]?=some (.cells #[.string ⟨#[45]⟩,.string ⟨#[]⟩,.int .i64 0,.slice (some ⟨(w.heap.size+1+1+1+1+1),0,none⟩) 2 2,.int .i64 0] 33 (0,0)):=by unfold aliveW;exact blk_alloc (blk_alloc (blk_alloc (blk_at (size_at (size_at (size_at (size_at (size_at (size_at (rfl) _) _) _) _) _) _) _) _) _) _
  have B7:(aliveW w).heap[(w.heap.size+1+1+1+1+1+1+1)]?=some (.cells #[.string ⟨#[45]⟩,.string ⟨#[]⟩,.int .i64 0,.slice (some ⟨(w.heap.size+1+1+1+1+1),0,none⟩) 2 2,.int .i64 0] 33 (0,0)):=by unfold aliveW;exact blk_alloc (blk_alloc (blk_at (size_at (size_at (size_at (size_at (size_at (size_at (size_at (rfl) _) _) _) _) _) _) _) _) _) _
  have B8:(aliveW w).heap[(w.heap.size+1+1+1+1+1+1+1+1)]?=some (.cells #[.string ⟨#[115,101,116]⟩,.string ⟨#[120]⟩,.slice (some ⟨(w.heap.size+1+1+1+1+1+1+1),0,none⟩) 1 1,.slice none 0 0,.slice none 0 0,.int .i64 0] 76 (0,0)):=by unfold aliveW;exact blk_alloc (blk_at (size_at (size_at (size_at (size_at (size_at (size_at (size_at (size_at (rfl) _) _) _) _) _) _) _) _) _) _
  have B9:(aliveW w).heap[(w.heap.size+1+1+1+1+1+1+1+1+1)]?=some (.cells #[.slice none 0 0,.slice none 0 0,.slice none 0 0,.slice (some ⟨(w.heap.size+1+1+1+1+1+1+1+1),0,none⟩) 1 1] 50 (0,0)):=by unfold aliveW;exact blk_at (size_at (size_at (size_at (size_at (size_at (size_at (size_at (size_at (size_at (rfl) _) _) _) _) _) _) _) _) _) _
  generalize aliveW w=W at hb B2 B3 B4 B5 B6 B7 B8 B9 ⊢
  have C0:Kd.C k33 W none ([]:List TE).length []:=Kd.C_nil _ _
  have Z0:Kd.C k76 W none ([]:List TS).length []:=Kd.C_nil _ _
  have kX:=k33_mk W aX (A3:=none) (c3:=0) (Nat.le_refl _) C0
  have k1:=k33_mk W aOne (A3:=none) (c3:=0) (Nat.le_refl _) C0
  have C2:=C_one (c:=[.string ⟨#[110,97,109,101]⟩,.string ⟨#[120]⟩,.int .i64 0,.slice none 0 0,.int .i64 0]) B2 kX
  have C3:=C_one (c:=[.string ⟨#[110,97,109,101]⟩,.string ⟨#[120]⟩,.int .i64 0,.slice none 0 0,.int .i64 0]) B3 kX
  have kAt:=k33_mk W aAt (A3:=some ⟨(w.heap.size+1+1+1),0,none⟩) (c3:=1) (Nat.le_refl _) C3
  have kNeg:=k33_mk W aNeg (A3:=some ⟨(w.heap.size+1+1),0,none⟩) (c3:=1) (Nat.le_refl _) C2
  have C4:=C_two (c:=[.string ⟨#[110,117,109]⟩,.string ⟨#[]⟩,.int .i64 1,.slice none 0 0,.int .i64 0]) (c':=[.string ⟨#[97,116]⟩,.string ⟨#[97]⟩,.int .i64 0,.slice (some ⟨(w.heap.size+1+1+1),0,none⟩) 1 1,.int .i64 0]) B4 k1 kAt
  have kPlus:=k33_mk W aPlus (A3:=some ⟨(w.heap.size+1+1+1+1),0,none⟩) (c3:=2) (Nat.le_refl _) C4
  have C5:=C_two (c:=[.string ⟨#[110,101,103]⟩,.string ⟨#[]⟩,.int .i64 0,.slice (some ⟨(w.heap.size+1+1),0,none⟩) 1 1,.int .i64 0]) (c':=[.string ⟨#[43]⟩,.string ⟨#[]⟩,.int .i64 0,.slice (some ⟨(w.heap.size+1+1+1+1),0,none⟩) 2 2,.int .i64 0]) B5 kNeg kPlus
  have kE:=k33_mk W aE (A3:=some ⟨(w.heap.size+1+1+1+1+1),0,none⟩) (c3:=2) (Nat.le_refl _) C5
  have C7:=C_one (c:=[.string ⟨#[45]⟩,.string ⟨#[]⟩,.int .i64 0,.slice (some ⟨(w.heap.size+1+1+1+1+1),0,none⟩) 2 2,.int .i64 0]) B7 kE
  have kS:=k76_mk W aS (A2:=some ⟨(w.heap.size+1+1+1+1+1+1+1),0,none⟩) (c2:=1) (Nat.le_refl _) C7 (A3:=none) (c3:=0) (Nat.le_refl _) Z0 (A4:=none) (c4:=0) (Nat.le_refl _) Z0
  exact ⟨hb,B6,B9,C5,C_one (c:=[.string ⟨#[115,101,116]⟩,.string ⟨#[120]⟩,.slice (some ⟨(w.heap.size+1+1+1+1+1+1+1),0,none⟩) 1 1,.slice none 0 0,.slice none 0 0,.int .i64 0]) B8 kS⟩
theorem alive_ok:PrintOk [] [] [] (backSs [aS]) where
  hE:=by decide
  hV:=by decide
  hP:=by decide
  hJ:=fun e h=>by cases h
  hI:=fun e h=>by cases h
  hB:=fun e h=>by cases h
  hM:=by simp [backSs,backS,backEs,backE,aS,aE,aNeg,aPlus,aOne,aAt,aX,okSs,okS,okEs,okE,okI]
  hMb:=by decide +kernel
  hlen:=by decide +kernel
theorem alive_print:tree_Print.f [] [] [] [aS]=some (⟨#[109,97,105,110,32,123,10,32,32,120,32,61,32,40,45,120,41,32,45,32,40,49,32,43,32,97,91,120,93,41,59,10,125,10]⟩:ByteArray):=by
  unfold tree_Print.f
  rw [show backPs []=[] from rfl,if_pos ((printOkB_iff ..).2 alive_ok)]
  exact congrArg some (show strOf (printB [] [] [] (backSs [aS]))=_ by kernel_rfl)
set_option maxHeartbeats 4000000 in
set_option maxRecDepth 100000 in
theorem alive_pr (w:World) (hT:TabT w):Calls Tryd.prog 10 #[] w fun e w'=>e=.returned (.bool true)∧Below w.heap.size w w':=by
  go_enter Tryd.func10,Tryd.ntmps10
  go_wp2_with fail
  show Calls _ _ _ (aliveW w) _
  have HA:=Aside0.mk (aliveW_at w)
  generalize aliveW w=w1 at HA ⊢
  refine (tree_Text.calls 40 (lit [45]) (lit []) 0 (some ⟨(w.heap.size+1+1+1+1+1),0,none⟩) 2 [aNeg,aPlus] 0 (⟨#[40,45,120,41,32,45,32,40,49,32,43,32,97,91,120,93,41]⟩:ByteArray) w1 (hT.later HA.out.below) HA.out.C5 (Nat.le_refl _) (by kernel_rfl)).mono ?_
  rintro e_ w2 ⟨rfl,hb⟩
  have HA:=Aside0.mk (HA.out.later hb)
  clear hb
  have y0:w2.cell? ⟨(w.heap.size+1+1+1+1+1+1),0,none⟩=some (.string ⟨#[45]⟩):=(blk_cell HA.out.B6 0).trans rfl
  have y1:w2.cell? ⟨(w.heap.size+1+1+1+1+1+1),1,none⟩=some (.string ⟨#[]⟩):=(blk_cell HA.out.B6 1).trans rfl
  have y2:w2.cell? ⟨(w.heap.size+1+1+1+1+1+1),2,none⟩=some (.int .i64 0):=(blk_cell HA.out.B6 2).trans rfl
  have y3:w2.cell? ⟨(w.heap.size+1+1+1+1+1+1),3,none⟩=some (.slice (some ⟨(w.heap.size+1+1+1+1+1),0,none⟩) 2 2):=(blk_cell HA.out.B6 3).trans rfl
  have y4:w2.cell? ⟨(w.heap.size+1+1+1+1+1+1),4,none⟩=some (.int .i64 0):=(blk_cell HA.out.B6 4).trans rfl
  have x0:w2.cell? ⟨(w.heap.size+1+1+1+1+1+1+1+1+1),0,none⟩=some (.slice none 0 0):=(blk_cell HA.out.B9 0).trans rfl
  have x1:w2.cell? ⟨(w.heap.size+1+1+1+1+1+1+1+1+1),1,none⟩=some (.slice none 0 0):=(blk_cell HA.out.B9 1).trans rfl
  have x2:w2.cell? ⟨(w.heap.size+1+1+1+1+1+1+1+1+1),2,none⟩=some (.slice none 0 0):=(blk_cell HA.out.B9 2).trans rfl
  have x3:w2.cell? ⟨(w.heap.size+1+1+1+1+1+1+1+1+1),3,none⟩=some (.slice (some ⟨(w.heap.size+1+1+1+1+1+1+1+1),0,none⟩) 1 1):=(blk_cell HA.out.B9 3).trans rfl
  go_wp2_with fail
  refine (tree_Deep.calls 40 (lit [45]) (lit []) 0 (some ⟨(w.heap.size+1+1+1+1+1),0,none⟩) 2 [aNeg,aPlus] 0 4 w2 HA.out.C5 (Nat.le_refl _) (by kernel_rfl)).mono ?_
  rintro e_ w3 ⟨rfl,hb⟩
  have HA:=Aside0.mk (HA.out.later hb)
  clear y0 y1 y2 y3 y4 x0 x1 x2 x3
  clear hb
  have y0:w3.cell? ⟨(w.heap.size+1+1+1+1+1+1),0,none⟩=some (.string ⟨#[45]⟩):=(blk_cell HA.out.B6 0).trans rfl
  have y1:w3.cell? ⟨(w.heap.size+1+1+1+1+1+1),1,none⟩=some (.string ⟨#[]⟩):=(blk_cell HA.out.B6 1).trans rfl
  have y2:w3.cell? ⟨(w.heap.size+1+1+1+1+1+1),2,none⟩=some (.int .i64 0):=(blk_cell HA.out.B6 2).trans rfl
  have y3:w3.cell? ⟨(w.heap.size+1+1+1+1+1+1),3,none⟩=some (.slice (some ⟨(w.heap.size+1+1+1+1+1),0,none⟩) 2 2):=(blk_cell HA.out.B6 3).trans rfl
  have y4:w3.cell? ⟨(w.heap.size+1+1+1+1+1+1),4,none⟩=some (.int .i64 0):=(blk_cell HA.out.B6 4).trans rfl
  have x0:w3.cell? ⟨(w.heap.size+1+1+1+1+1+1+1+1+1),0,none⟩=some (.slice none 0 0):=(blk_cell HA.out.B9 0).trans rfl
  have x1:w3.cell? ⟨(w.heap.size+1+1+1+1+1+1+1+1+1),1,none⟩=some (.slice none 0 0):=(blk_cell HA.out.B9 1).trans rfl
  have x2:w3.cell? ⟨(w.heap.size+1+1+1+1+1+1+1+1+1),2,none⟩=some (.slice none 0 0):=(blk_cell HA.out.B9 2).trans rfl
  have x3:w3.cell? ⟨(w.heap.size+1+1+1+1+1+1+1+1+1),3,none⟩=some (.slice (some ⟨(w.heap.size+1+1+1+1+1+1+1+1),0,none⟩) 1 1):=(blk_cell HA.out.B9 3).trans rfl
  go_wp2_with fail
  refine (tree_Depth.calls 40 (some ⟨(w.heap.size+1+1+1+1+1+1+1+1),0,none⟩) 1 [aS] 1 w3 HA.out.C8 (Nat.le_refl _) (by kernel_rfl)).mono ?_
  rintro e_ w4 ⟨rfl,hb⟩
  have HA:=Aside0.mk (HA.out.later hb)
  clear y0 y1 y2 y3 y4 x0 x1 x2 x3
  clear hb
  have y0:w4.cell? ⟨(w.heap.size+1+1+1+1+1+1),0,none⟩=some (.string ⟨#[45]⟩):=(blk_cell HA.out.B6 0).trans rfl
  have y1:w4.cell? ⟨(w.heap.size+1+1+1+1+1+1),1,none⟩=some (.string ⟨#[]⟩):=(blk_cell HA.out.B6 1).trans rfl
  have y2:w4.cell? ⟨(w.heap.size+1+1+1+1+1+1),2,none⟩=some (.int .i64 0):=(blk_cell HA.out.B6 2).trans rfl
  have y3:w4.cell? ⟨(w.heap.size+1+1+1+1+1+1),3,none⟩=some (.slice (some ⟨(w.heap.size+1+1+1+1+1),0,none⟩) 2 2):=(blk_cell HA.out.B6 3).trans rfl
  have y4:w4.cell? ⟨(w.heap.size+1+1+1+1+1+1),4,none⟩=some (.int .i64 0):=(blk_cell HA.out.B6 4).trans rfl
  have x0:w4.cell? ⟨(w.heap.size+1+1+1+1+1+1+1+1+1),0,none⟩=some (.slice none 0 0):=(blk_cell HA.out.B9 0).trans rfl
  have x1:w4.cell? ⟨(w.heap.size+1+1+1+1+1+1+1+1+1),1,none⟩=some (.slice none 0 0):=(blk_cell HA.out.B9 1).trans rfl
  have x2:w4.cell? ⟨(w.heap.size+1+1+1+1+1+1+1+1+1),2,none⟩=some (.slice none 0 0):=(blk_cell HA.out.B9 2).trans rfl
  have x3:w4.cell? ⟨(w.heap.size+1+1+1+1+1+1+1+1+1),3,none⟩=some (.slice (some ⟨(w.heap.size+1+1+1+1+1+1+1+1),0,none⟩) 1 1):=(blk_cell HA.out.B9 3).trans rfl
  go_wp2_with fail
  refine (tree_Sized.calls 40 none 0 ([]:List S79) none 0 ([]:List S80) none 0 ([]:List S66) (some ⟨(w.heap.size+1+1+1+1+1+1+1+1),0,none⟩) 1 [aS] 8 w4 (Kd.C_nil (α:=S79) k79 _) (Nat.le_refl _) (Kd.C_nil (α:=S80) k80 _) (Nat.le_refl _) (Kd.C_nil (α:=S66) k66 _) (Nat.le_refl _) HA.out.C8 (Nat.le_refl _) (by kernel_rfl)).mono ?_
  rintro e_ w5 ⟨rfl,hb⟩
  have HA:=Aside0.mk (HA.out.later hb)
  clear y0 y1 y2 y3 y4 x0 x1 x2 x3
  clear hb
  have y0:w5.cell? ⟨(w.heap.size+1+1+1+1+1+1),0,none⟩=some (.string ⟨#[45]⟩):=(blk_cell HA.out.B6 0).trans rfl
  have y1:w5.cell? ⟨(w.heap.size+1+1+1+1+1+1),1,none⟩=some (.string ⟨#[]⟩):=(blk_cell HA.out.B6 1).trans rfl
  have y2:w5.cell? ⟨(w.heap.size+1+1+1+1+1+1),2,none⟩=some (.int .i64 0):=(blk_cell HA.out.B6 2).trans rfl
  have y3:w5.cell? ⟨(w.heap.size+1+1+1+1+1+1),3,none⟩=some (.slice (some ⟨(w.heap.size+1+1+1+1+1),0,none⟩) 2 2):=(blk_cell HA.out.B6 3).trans rfl
  have y4:w5.cell? ⟨(w.heap.size+1+1+1+1+1+1),4,none⟩=some (.int .i64 0):=(blk_cell HA.out.B6 4).trans rfl
  have x0:w5.cell? ⟨(w.heap.size+1+1+1+1+1+1+1+1+1),0,none⟩=some (.slice none 0 0):=(blk_cell HA.out.B9 0).trans rfl
  have x1:w5.cell? ⟨(w.heap.size+1+1+1+1+1+1+1+1+1),1,none⟩=some (.slice none 0 0):=(blk_cell HA.out.B9 1).trans rfl
  have x2:w5.cell? ⟨(w.heap.size+1+1+1+1+1+1+1+1+1),2,none⟩=some (.slice none 0 0):=(blk_cell HA.out.B9 2).trans rfl
  have x3:w5.cell? ⟨(w.heap.size+1+1+1+1+1+1+1+1+1),3,none⟩=some (.slice (some ⟨(w.heap.size+1+1+1+1+1+1+1+1),0,none⟩) 1 1):=(blk_cell HA.out.B9 3).trans rfl
  go_wp2_with fail
  refine (tree_Same.calls 40 none 0 ([]:List S79) none 0 ([]:List S80) none 0 ([]:List S66) (some ⟨(w.heap.size+1+1+1+1+1+1+1+1),0,none⟩) 1 [aS] none 0 ([]:List S79) none 0 ([]:List S80) none 0 ([]:List S66) (some ⟨(w.heap.size+1+1+1+1+1+1+1+1),0,none⟩) 1 [aS] true w5 (Kd.C_nil (α:=S79) k79 _) (Nat.le_refl _) (Kd.C_nil (α:=S80) k80 _) (Nat.le_refl _) (Kd.C_nil (α:=S66) k66 _) (Nat.le_refl _) HA.out.C8 (Nat.le_refl _) (Kd.C_nil (α:=S79) k79 _) (Nat.le_refl _) (Kd.C_nil (α:=S80) k80 _) (Nat.le_refl _) (Kd.C_nil (α:=S66) k66 _) (Nat.le_refl _) HA.out.C8 (Nat.le_refl _) (by kernel_rfl)).mono ?_
  rintro e_ w6 ⟨rfl,hb⟩
  have HA:=Aside0.mk (HA.out.later hb)
  clear y0 y1 y2 y3 y4 x0 x1 x2 x3
  clear hb
  have y0:w6.cell? ⟨(w.heap.size+1+1+1+1+1+1),0,none⟩=some (.string ⟨#[45]⟩):=(blk_cell HA.out.B6 0).trans rfl
  have y1:w6.cell? ⟨(w.heap.size+1+1+1+1+1+1),1,none⟩=some (.string ⟨#[]⟩):=(blk_cell HA.out.B6 1).trans rfl
  have y2:w6.cell? ⟨(w.heap.size+1+1+1+1+1+1),2,none⟩=some (.int .i64 0):=(blk_cell HA.out.B6 2).trans rfl
  have y3:w6.cell? ⟨(w.heap.size+1+1+1+1+1+1),3,none⟩=some (.slice (some ⟨(w.heap.size+1+1+1+1+1),0,none⟩) 2 2):=(blk_cell HA.out.B6 3).trans rfl
  have y4:w6.cell? ⟨(w.heap.size+1+1+1+1+1+1),4,none⟩=some (.int .i64 0):=(blk_cell HA.out.B6 4).trans rfl
  have x0:w6.cell? ⟨(w.heap.size+1+1+1+1+1+1+1+1+1),0,none⟩=some (.slice none 0 0):=(blk_cell HA.out.B9 0).trans rfl
  have x1:w6.cell? ⟨(w.heap.size+1+1+1+1+1+1+1+1+1),1,none⟩=some (.slice none 0 0):=(blk_cell HA.out.B9 1).trans rfl
  have x2:w6.cell? ⟨(w.heap.size+1+1+1+1+1+1+1+1+1),2,none⟩=some (.slice none 0 0):=(blk_cell HA.out.B9 2).trans rfl
  have x3:w6.cell? ⟨(w.heap.size+1+1+1+1+1+1+1+1+1),3,none⟩=some (.slice (some ⟨(w.heap.size+1+1+1+1+1+1+1+1),0,none⟩) 1 1):=(blk_cell HA.out.B9 3).trans rfl
  go_wp2_with fail
  refine (tree_SameExpr.calls 40 (lit [45]) (lit []) 0 (some ⟨(w.heap.size+1+1+1+1+1),0,none⟩) 2 [aNeg,aPlus] 0 (lit [45]) (lit []) 0 (some ⟨(w.heap.size+1+1+1+1+1),0,none⟩) 2 [aNeg,aPlus] 0 true w6 HA.out.C5 (Nat.le_refl _) HA.out.C5 (Nat.le_refl _) (by kernel_rfl)).mono ?_
  rintro e_ w7 ⟨rfl,hb⟩
  have HA:=Aside0.mk (HA.out.later hb)
  clear y0 y1 y2 y3 y4 x0 x1 x2 x3
  clear hb
  have y0:w7.cell? ⟨(w.heap.size+1+1+1+1+1+1),0,none⟩=some (.string ⟨#[45]⟩):=(blk_cell HA.out.B6 0).trans rfl
  have y1:w7.cell? ⟨(w.heap.size+1+1+1+1+1+1),1,none⟩=some (.string ⟨#[]⟩):=(blk_cell HA.out.B6 1).trans rfl
  have y2:w7.cell? ⟨(w.heap.size+1+1+1+1+1+1),2,none⟩=some (.int .i64 0):=(blk_cell HA.out.B6 2).trans rfl
  have y3:w7.cell? ⟨(w.heap.size+1+1+1+1+1+1),3,none⟩=some (.slice (some ⟨(w.heap.size+1+1+1+1+1),0,none⟩) 2 2):=(blk_cell HA.out.B6 3).trans rfl
  have y4:w7.cell? ⟨(w.heap.size+1+1+1+1+1+1),4,none⟩=some (.int .i64 0):=(blk_cell HA.out.B6 4).trans rfl
  have x0:w7.cell? ⟨(w.heap.size+1+1+1+1+1+1+1+1+1),0,none⟩=some (.slice none 0 0):=(blk_cell HA.out.B9 0).trans rfl
  have x1:w7.cell? ⟨(w.heap.size+1+1+1+1+1+1+1+1+1),1,none⟩=some (.slice none 0 0):=(blk_cell HA.out.B9 1).trans rfl
  have x2:w7.cell? ⟨(w.heap.size+1+1+1+1+1+1+1+1+1),2,none⟩=some (.slice none 0 0):=(blk_cell HA.out.B9 2).trans rfl
  have x3:w7.cell? ⟨(w.heap.size+1+1+1+1+1+1+1+1+1),3,none⟩=some (.slice (some ⟨(w.heap.size+1+1+1+1+1+1+1+1),0,none⟩) 1 1):=(blk_cell HA.out.B9 3).trans rfl
  go_wp2_with fail
  refine (tree_Print.calls none 0 ([]:List S79) none 0 ([]:List S80) none 0 ([]:List S66) (some ⟨(w.heap.size+1+1+1+1+1+1+1+1),0,none⟩) 1 [aS] (⟨#[109,97,105,110,32,123,10,32,32,120,32,61,32,40,45,120,41,32,45,32,40,49,32,43,32,97,91,120,93,41,59,10,125,10]⟩:ByteArray) w7 (hT.later HA.out.below) (Kd.C_nil (α:=S79) k79 _) (Nat.le_refl _) (Kd.C_nil (α:=S80) k80 _) (Nat.le_refl _) (Kd.C_nil (α:=S66) k66 _) (Nat.le_refl _) HA.out.C8 (Nat.le_refl _) alive_print).mono ?_
  rintro e_ w8 ⟨rfl,hb⟩
  have HA:=Aside0.mk (HA.out.later hb)
  clear y0 y1 y2 y3 y4 x0 x1 x2 x3
  clear hb
  have y0:w8.cell? ⟨(w.heap.size+1+1+1+1+1+1),0,none⟩=some (.string ⟨#[45]⟩):=(blk_cell HA.out.B6 0).trans rfl
  have y1:w8.cell? ⟨(w.heap.size+1+1+1+1+1+1),1,none⟩=some (.string ⟨#[]⟩):=(blk_cell HA.out.B6 1).trans rfl
  have y2:w8.cell? ⟨(w.heap.size+1+1+1+1+1+1),2,none⟩=some (.int .i64 0):=(blk_cell HA.out.B6 2).trans rfl
  have y3:w8.cell? ⟨(w.heap.size+1+1+1+1+1+1),3,none⟩=some (.slice (some ⟨(w.heap.size+1+1+1+1+1),0,none⟩) 2 2):=(blk_cell HA.out.B6 3).trans rfl
  have y4:w8.cell? ⟨(w.heap.size+1+1+1+1+1+1),4,none⟩=some (.int .i64 0):=(blk_cell HA.out.B6 4).trans rfl
  have x0:w8.cell? ⟨(w.heap.size+1+1+1+1+1+1+1+1+1),0,none⟩=some (.slice none 0 0):=(blk_cell HA.out.B9 0).trans rfl
  have x1:w8.cell? ⟨(w.heap.size+1+1+1+1+1+1+1+1+1),1,none⟩=some (.slice none 0 0):=(blk_cell HA.out.B9 1).trans rfl
  have x2:w8.cell? ⟨(w.heap.size+1+1+1+1+1+1+1+1+1),2,none⟩=some (.slice none 0 0):=(blk_cell HA.out.B9 2).trans rfl
  have x3:w8.cell? ⟨(w.heap.size+1+1+1+1+1+1+1+1+1),3,none⟩=some (.slice (some ⟨(w.heap.size+1+1+1+1+1+1+1+1),0,none⟩) 1 1):=(blk_cell HA.out.B9 3).trans rfl
  go_wp2
  go_ret
  exact ⟨rfl,HA.out.below⟩
def helmsmanlaw12_alive.f:Option Bool:=some true
theorem helmsmanlaw12_alive.calls (r:Bool) (w:World) (hT:TabT w) (h:helmsmanlaw12_alive.f=some r):Calls Tryd.prog 10 #[] w fun e w'=>e=.returned (.bool r)∧Below w.heap.size w w':=by
  obtain rfl:=Option.some.inj h
  exact alive_pr w hT
theorem alive_now {f:Nat→Bool→Option Bool} {r:Bool} (h:Ev (fun k=>f k true) r):Ev (fun k=>helmsmanlaw12_alive.f.bind (f k)) r:=h
end Go.Proofs.YtnnbbeloifhofaaDoor.P
end
section
namespace Go.Proofs.YtnnbbeloifhofaaDoor.P
open Go.RowKit Go.Proofs.YtnnbbeloifhofaaDoorW.PrintWords Go.Proofs.YtnnbbeloifhofaaDoorW.PrintLast Go.Proofs.YtnnbbeloifhofaaDoorW.PrintMore
attribute [local go_sem] max2_int min2_int max_two min_two max_three min_three max_four min_four
set_option linter.unusedVariables false
set_option linter.unusedSimpArgs false
mutual
def helmsmanref12_Print.l0:Nat→ByteArray→Int→List (S72)→List (S56)→List (S69)→List (S29)→Option (ByteArray)
 | 0,_,_,_,_,_,_=>none
 | k+1,x3,x4,x281000,x281001,x281002,x281003=>if x4 < (x281000.length:Int) then (if x3.size+5≤9223372036854775807 then (if 0≤x4 then (if (x3++(⟨#[101,110,117,109,32]⟩:ByteArray)).size+((rd_T72 x281000 x4).f0).size≤9223372036854775807 then (if ((x3++(⟨#[101,110,117,109,32]⟩:ByteArray))++((rd_T72 x281000 x4).f0)).size+3≤9223372036854775807 then (helmsmanref12_Print.l1 k (((x3++(⟨#[101,110,117,109,32]⟩:ByteArray))++((rd_T72 x281000 x4).f0))++(⟨#[32,123,32]⟩:ByteArray)) x4 0 x281000 x281001 x281002 x281003) else (none)) else (none)) else (none)) else (none)) else (helmsmanref12_Print.l2 k x3 0 x281000 x281001 x281002 x281003)
def helmsmanref12_Print.l1:Nat→ByteArray→Int→Int→List (S72)→List (S56)→List (S69)→List (S29)→Option (ByteArray)
 | 0,_,_,_,_,_,_,_=>none
 | k+1,x3,x4,x5,x281000,x281001,x281002,x281003=>if 0≤x4 then (if x4 < (x281000.length:Int) then (if x5 < (((rd_T72 x281000 x4).f1).length:Int) then (if x5 > 0 then (if x3.size+2≤9223372036854775807 then (if 0≤x5 then (if (x3++(⟨#[44,32]⟩:ByteArray)).size+(rdOf ByteArray.empty ((rd_T72 x281000 x4).f1) x5).size≤9223372036854775807 then (helmsmanref12_Print.l1 k ((x3++(⟨#[44,32]⟩:ByteArray))++(rdOf ByteArray.empty ((rd_T72 x281000 x4).f1) x5)) x4 (wrap64 (x5+1)) x281000 x281001 x281002 x281003) else (none)) else (none)) else (none)) else (if 0≤x5 then (if x3.size+(rdOf ByteArray.empty ((rd_T72 x281000 x4).f1) x5).size≤9223372036854775807 then (helmsmanref12_Print.l1 k (x3++(rdOf ByteArray.empty ((rd_T72 x281000 x4).f1) x5)) x4 (wrap64 (x5+1)) x281000 x281001 x281002 x281003) else (none)) else (none))) else (if x3.size+3≤9223372036854775807 then (helmsmanref12_Print.l0 k (x3++(⟨#[32,125,10]⟩:ByteArray)) (wrap64 (x4+1)) x281000 x281001 x281002 x281003) else (none))) else (none)) else (none)
def helmsmanref12_Print.l2:Nat→ByteArray→Int→List (S72)→List (S56)→List (S69)→List (S29)→Option (ByteArray)
 | 0,_,_,_,_,_,_=>none
 | k+1,x3,x6,x281000,x281001,x281002,x281003=>if x6 < (x281001.length:Int) then (if x3.size+4≤9223372036854775807 then (if 0≤x6 then (if (x3++(⟨#[118,97,114,32]⟩:ByteArray)).size+((rd_T56 x281001 x6).f0).size≤9223372036854775807 then (if ((x3++(⟨#[118,97,114,32]⟩:ByteArray))++((rd_T56 x281001 x6).f0)).size+2≤9223372036854775807 then (if (((x3++(⟨#[118,97,114,32]⟩:ByteArray))++((rd_T56 x281001 x6).f0))++(⟨#[58,32]⟩:ByteArray)).size+((rd_T56 x281001 x6).f1).size≤9223372036854775807 then (if ((rd_T56 x281001 x6).f2) > 0 then (if ((((x3++(⟨#[118,97,114,32]⟩:ByteArray))++((rd_T56 x281001 x6).f0))++(⟨#[58,32]⟩:ByteArray))++((rd_T56 x281001 x6).f1)).size+1≤9223372036854775807 then ((helmsmanref01_Digits.f k ((rd_T56 x281001 x6).f2)).bind fun t291=>(if (((((x3++(⟨#[118,97,114,32]⟩:ByteArray))++((rd_T56 x281001 x6).f0))++(⟨#[58,32]⟩:ByteArray))++((rd_T56 x281001 x6).f1))++(⟨#[91]⟩:ByteArray)).size+t291.size≤9223372036854775807 then (if ((((((x3++(⟨#[118,97,114,32]⟩:ByteArray))++((rd_T56 x281001 x6).f0))++(⟨#[58,32]⟩:ByteArray))++((rd_T56 x281001 x6).f1))++(⟨#[91]⟩:ByteArray))++t291).size+1≤9223372036854775807 then (if (((((((x3++(⟨#[118,97,114,32]⟩:ByteArray))++((rd_T56 x281001 x6).f0))++(⟨#[58,32]⟩:ByteArray))++((rd_T56 x281001 x6).f1))++(⟨#[91]⟩:ByteArray))++t291)++(⟨#[93]⟩:ByteArray)).size+2≤9223372036854775807 then (helmsmanref12_Print.l2 k ((((((((x3++(⟨#[118,97,114,32]⟩:ByteArray))++((rd_T56 x281001 x6).f0))++(⟨#[58,32]⟩:ByteArray))++((rd_T56 x281001 x6).f1))++(⟨#[91]⟩:ByteArray))++t291)++(⟨#[93]⟩:ByteArray))++(⟨#[59,10]⟩:ByteArray)) (wrap64 (x6+1)) x281000 x281001 x281002 x281003) else (none)) else (none)) else (none))) else (none)) else (if ((((x3++(⟨#[118,97,114,32]⟩:ByteArray))++((rd_T56 x281001 x6).f0))++(⟨#[58,32]⟩:ByteArray))++((rd_T56 x281001 x6).f1)).size+2≤9223372036854775807 then (helmsmanref12_Print.l2 k (((((x3++(⟨#[118,97,114,32]⟩:ByteArray))++((rd_T56 x281001 x6).f0))++(⟨#[58,32]⟩:ByteArray))++((rd_T56 x281001 x6).f1))++(⟨#[59,10]⟩:ByteArray)) (wrap64 (x6+1)) x281000 x281001 x281002 x281003) else (none))) else (none)) else (none)) else (none)) else (none)) else (none)) else (helmsmanref12_Print.l3 k x3 0 x281000 x281001 x281002 x281003)
def helmsmanref12_Print.l3:Nat→ByteArray→Int→List (S72)→List (S56)→List (S69)→List (S29)→Option (ByteArray)
 | 0,_,_,_,_,_,_=>none
 | k+1,x3,x7,x281000,x281001,x281002,x281003=>if x7 < (x281002.length:Int) then (if x3.size+5≤9223372036854775807 then (if 0≤x7 then (if (x3++(⟨#[112,114,111,99,32]⟩:ByteArray)).size+((rd_T69 x281002 x7).f0).size≤9223372036854775807 then (if ((x3++(⟨#[112,114,111,99,32]⟩:ByteArray))++((rd_T69 x281002 x7).f0)).size+3≤9223372036854775807 then ((helmsmanref12_block.f k ((rd_T69 x281002 x7).f1) (⟨#[32,32]⟩:ByteArray)).bind fun t294=>(if (((x3++(⟨#[112,114,111,99,32]⟩:ByteArray))++((rd_T69 x281002 x7).f0))++(⟨#[32,123,10]⟩:ByteArray)).size+t294.size≤9223372036854775807 then (if ((((x3++(⟨#[112,114,111,99,32]⟩:ByteArray))++((rd_T69 x281002 x7).f0))++(⟨#[32,123,10]⟩:ByteArray))++t294).size+2≤9223372036854775807 then (helmsmanref12_Print.l3 k (((((x3++(⟨#[112,114,111,99,32]⟩:ByteArray))++((rd_T69 x281002 x7).f0))++(⟨#[32,123,10]⟩:ByteArray))++t294)++(⟨#[125,10]⟩:ByteArray)) (wrap64 (x7+1)) x281000 x281001 x281002 x281003) else (none)) else (none))) else (none)) else (none)) else (none)) else (none)) else (if x3.size+7≤9223372036854775807 then ((helmsmanref12_block.f k x281003 (⟨#[32,32]⟩:ByteArray)).bind fun t295=>(if (x3++(⟨#[109,97,105,110,32,123,10]⟩:ByteArray)).size+t295.size≤9223372036854775807 then (if ((x3++(⟨#[109,97,105,110,32,123,10]⟩:ByteArray))++t295).size+2≤9223372036854775807 then (some (((x3++(⟨#[109,97,105,110,32,123,10]⟩:ByteArray))++t295)++(⟨#[125,10]⟩:ByteArray))) else (none)) else (none))) else (none))
end
def helmsmanref12_Print.f (k:Nat) (l0_0:List (S72)) (l0_1:List (S56)) (l0_2:List (S69)) (l0_3:List (S29)):Option (ByteArray):=helmsmanref12_Print.l0 k (⟨#[]⟩:ByteArray) 0 l0_0 l0_1 l0_2 l0_3
def helmsmanref12_Print.T16:Bool × List (List Nat × List Nat):=(true,[([],[]),([0],[0]),([],[]),([2],[2]),([],[]),([3,4],[3,4]),([5],[5]),([6],[6]),([1,7],[1,7]),([8],[8]),([],[]),([10],[10]),([],[]),([11,12],[11,12]),([13],[13]),([14],[14]),([9,15],[9,15]),([16,0,1,2,3,4,5,6,7,8,9,10,11,12,13,14,15,16],[0,16])])
def helmsmanref12_Print.B16:List Nat:=[0,1,0,4,0,28,60,124,255,511,0,1024,0,7168,15360,31744,65535,131071]
theorem helmsmanref12_Print.tab16:rtab .any (opsOf Tryd.f23 16)=helmsmanref12_Print.T16:=by kernel_rfl
theorem helmsmanref12_Print.bits16:waitsOk helmsmanref12_Print.T16.2 helmsmanref12_Print.B16=true:=by kernel_rfl
def helmsmanref12_Print.T23:Bool × List (List Nat × List Nat):=(true,[([],[]),([0],[0]),([],[]),([2],[2]),([],[]),([3,4],[3,4]),([5],[5]),([6],[6]),([1,7],[1,7]),([8],[8]),([],[]),([10],[10]),([],[]),([11,12],[11,12]),([13],[13]),([14],[14]),([15],[15]),([9,16],[9,16]),([17],[17]),([18,16,0,1,2,3,4,5,6,7,8,9,10,11,12,13,14,15,16,17,18],[0,18])])
def helmsmanref12_Print.B23:List Nat:=[0,1,0,4,0,28,60,124,255,511,0,1024,0,7168,15360,31744,64512,131071,262143,524287]
theorem helmsmanref12_Print.tab23:rtab .any (opsOf Tryd.f23 23)=helmsmanref12_Print.T23:=by kernel_rfl
theorem helmsmanref12_Print.bits23:waitsOk helmsmanref12_Print.T23.2 helmsmanref12_Print.B23=true:=by kernel_rfl
set_option maxHeartbeats 8000000 in
set_option maxRecDepth 100000 in
theorem helmsmanref12_Print.calls (k:Nat) (A0_0:Option Addr) (c0_0:Nat) (l0_0:List (S72)) (A0_1:Option Addr) (c0_1:Nat) (l0_1:List (S56)) (A0_2:Option Addr) (c0_2:Nat) (l0_2:List (S69)) (A0_3:Option Addr) (c0_3:Nat) (l0_3:List (S29)) (r:ByteArray) (w:World) (hr0_0:Kd.C k72 w A0_0 l0_0.length l0_0) (hc0_0:l0_0.length≤c0_0) (hr0_1:Kd.C k56 w A0_1 l0_1.length l0_1) (hc0_1:l0_1.length≤c0_1) (hr0_2:Kd.C k69 w A0_2 l0_2.length l0_2) (hc0_2:l0_2.length≤c0_2) (hr0_3:Kd.C k29 w A0_3 l0_3.length l0_3) (hc0_3:l0_3.length≤c0_3) (h:helmsmanref12_Print.f k l0_0 l0_1 l0_2 l0_3=some r) :
  Calls Tryd.prog 23 #[.agg #[.slice A0_0 l0_0.length c0_0,.slice A0_1 l0_1.length c0_1,.slice A0_2 l0_2.length c0_2,.slice A0_3 l0_3.length c0_3]] w fun e w'=>e=.returned (.string r)∧Below w.heap.size w w':=by
 have hu43:=Tryd.underlying43
 have HR0_0:=Aside0.mk hr0_0
 have HC0_0:=Aside0.mk hc0_0
 clear hr0_0 hc0_0
 have HR0_1:=Aside0.mk hr0_1
 have HC0_1:=Aside0.mk hc0_1
 clear hr0_1 hc0_1
 have HR0_2:=Aside0.mk hr0_2
 have HC0_2:=Aside0.mk hc0_2
 clear hr0_2 hc0_2
 have HR0_3:=Aside0.mk hr0_3
 have HC0_3:=Aside0.mk hc0_3
 clear hr0_3 hc0_3
 have HB:=Aside0.mk (Below.refl w.heap.size w)
 have H:(helmsmanref12_Print.l0 k (⟨#[]⟩:ByteArray) 0 l0_0 l0_1 l0_2 l0_3)=some r:=h
 clear h
 have H':=Aside0.mk H
 clear H
 go_enter Tryd.func23,Tryd.ntmps23
 go_wp2_with (first|((with_reducible refine gate_dst (N:=1) rfl ?_);refine bx_ (N:=1) (cs:=#[.slice A0_0 l0_0.length c0_0,.slice A0_1 l0_1.length c0_1,.slice A0_2 l0_2.length c0_2,.slice A0_3 l0_3.length c0_3]) (t:=43) ?_;intro gb280 hg w2 hbox hb;have BK280:=Aside0.mk (hbox);have GW280:=Aside0.mk ((gs_ hg (bl_ HB.out):w.heap.size≤gb280));have GE280:=Aside0.mk ((gs_ hg (bl_ HB.out):w.heap.size≤gb280));replace HB:=Aside0.mk (below_step (bl_ HB.out) hb);clear hb hbox hg))
 (try simp only [Act.put,List.setIfInBounds_toArray,List.set_cons_succ,List.set_cons_zero])
 go_loopg [3,4] k (fun kq v3 v4 w'=>∃ (x3_1:ByteArray) (x4_1:Int),v3=.string x3_1∧v4=.int .i64 x4_1∧Aside0 (helmsmanref12_Print.l0 kq x3_1 x4_1 l0_0 l0_1 l0_2 l0_3=some r)∧Aside0 (kq≤k)∧Aside0 (w'.heap[gb280]?=some (.cells #[(.slice A0_0 l0_0.length c0_0),(.slice A0_1 l0_1.length c0_1),(.slice A0_2 l0_2.length c0_2),(.slice A0_3 l0_3.length c0_3)] 43 (0,0)))∧Aside0 (Below w.heap.size w w'))
 case atStart=>exact ⟨((⟨#[]⟩:ByteArray)),(0),rf_,rf_,H',⟨Nat.le_refl _⟩,⟨kb_ BK280.out⟩,⟨bl_ HB.out⟩⟩
 case round=>
  clear H'
  obtain ⟨x3_1,x4_1,rfl,rfl,HA,HK1,BK280,HB⟩:=hrel
  cases gk with
  | zero=>exact absurd HA.out (by simp [helmsmanref12_Print.l0])
  | succ k1=>
   have H:=HA.out
   clear HA
   simp only [helmsmanref12_Print.l0] at H
   by_cases c3:x4_1 < (l0_0.length:Int)
   ·rw [if_pos c3] at H
    have c3b0:=decide_eq_true c3
    clear c3
    revert H
    refine gd_ fun c4 H=>?_
    have c4b0:=eq_true c4
    have c4b1:=decide_eq_true c4
    have c4b2:=nlt_ c4
    revert H
    refine gd_ fun c5 H=>?_
    have c5b0:=decide_eq_true c5
    clear c5
    revert H
    refine gd_ fun c6 H=>?_
    have c6b0:=eq_true c6
    have c6b1:=decide_eq_true c6
    have c6b2:=nlt_ c6
    try have c6b3:(9223372036854775807 < x3_1.size+5+((rd_T72 l0_0 x4_1).f0).size)=False:=by have h_:=c6b2;simp only [ByteArray.size_append] at h_;exact h_
    try have c6b4:(x3_1.size+5+((rd_T72 l0_0 x4_1).f0).size≤9223372036854775807)=True:=by have h_:=c6b0;simp only [ByteArray.size_append] at h_;exact h_
    revert H
    refine gd_ fun c7 H=>?_
    have c7b0:=eq_true c7
    have c7b1:=decide_eq_true c7
    have c7b2:=nlt_ c7
    try have c7b3:(9223372036854775807 < x3_1.size+5+((rd_T72 l0_0 x4_1).f0).size+3)=False:=by have h_:=c7b2;simp only [ByteArray.size_append] at h_;exact h_
    try have c7b4:(x3_1.size+5+((rd_T72 l0_0 x4_1).f0).size+3≤9223372036854775807)=True:=by have h_:=c7b0;simp only [ByteArray.size_append] at h_;exact h_
    have H':=Aside0.mk H
    clear H
    obtain ⟨hcz8_0,hcz8_1,hcz8_2,hcz8_3,hfz8_0,hfz8_1,hfz8_2,hfz8_3⟩:=zf4_ BK280.out
    have p281:0≤(x4_1:Int):=of_decide_eq_true as_
    have q281:x4_1 < (l0_0.length:Int):=of_decide_eq_true as_
    obtain ⟨ad281,A281_1,c281_1,e281,hx281_0,hx281_1,hl281_1,hi281_1⟩:=at_T72 HR0_0.out x4_1 p281 q281
    cases e281
    replace hx281_0:=(cb_ HB.out hx281_0:_)
    replace hx281_1:=(cb_ HB.out hx281_1:_)
    have HR281_1:=Aside0.mk hi281_1
    have HC281_1:=Aside0.mk hl281_1
    clear hi281_1 hl281_1
    replace p281:=eq_true p281
    replace q281:=eq_true q281
    go_wp2
    (try simp only [Act.put,List.setIfInBounds_toArray,List.set_cons_succ,List.set_cons_zero])
    go_loopg [3,5] k1 (fun kq v3 v5 w'=>∃ (x3_2:ByteArray) (x5_2:Int),v3=.string x3_2∧v5=.int .i64 x5_2∧Aside0 (helmsmanref12_Print.l1 kq x3_2 x4_1 x5_2 l0_0 l0_1 l0_2 l0_3=some r)∧Aside0 (kq≤k1)∧Aside0 (w'.heap[gb280]?=some (.cells #[(.slice (some ad281) l0_0.length c0_0),(.slice A0_1 l0_1.length c0_1),(.slice A0_2 l0_2.length c0_2),(.slice A0_3 l0_3.length c0_3)] 43 (0,0)))∧Aside0 (Below w.heap.size w w'))
    case atStart=>exact ⟨(((x3_1++(⟨#[101,110,117,109,32]⟩:ByteArray))++((rd_T72 l0_0 x4_1).f0))++(⟨#[32,123,32]⟩:ByteArray)),(0),rf_,rf_,H',⟨Nat.le_refl _⟩,⟨kb_ BK280.out⟩,⟨bl_ HB.out⟩⟩
    case round=>
     clear H'
     obtain ⟨x3_2,x5_2,rfl,rfl,HA,HK2,BK280,HB⟩:=hrel
     cases gk with
     | zero=>exact absurd HA.out (by simp [helmsmanref12_Print.l1])
     | succ k2=>
      have H:=HA.out
      clear HA
      simp only [helmsmanref12_Print.l1] at H
      revert H
      refine gd_ fun c9 H=>?_
      have c9b0:=decide_eq_true c9
      clear c9
      revert H
      refine gd_ fun c10 H=>?_
      have c10b0:=decide_eq_true c10
      clear c10
      by_cases c11:x5_2 < (((rd_T72 l0_0 x4_1).f1).length:Int)
      ·rw [if_pos c11] at H
       have c11b0:=decide_eq_true c11
       clear c11
       by_cases c12:x5_2 > 0
       ·rw [if_pos c12] at H
        have c12b0:=decide_eq_true (show _ < _ from c12)
        clear c12
        revert H
        refine gd_ fun c13 H=>?_
        have c13b0:=eq_true c13
        have c13b1:=decide_eq_true c13
        have c13b2:=nlt_ c13
        revert H
        refine gd_ fun c14 H=>?_
        have c14b0:=decide_eq_true c14
        clear c14
        revert H
        refine gd_ fun c15 H=>?_
        have c15b0:=eq_true c15
        have c15b1:=decide_eq_true c15
        have c15b2:=nlt_ c15
        try have c15b3:(9223372036854775807 < x3_2.size+2+(rdOf ByteArray.empty ((rd_T72 l0_0 x4_1).f1) x5_2).size)=False:=by have h_:=c15b2;simp only [ByteArray.size_append] at h_;exact h_
        try have c15b4:(x3_2.size+2+(rdOf ByteArray.empty ((rd_T72 l0_0 x4_1).f1) x5_2).size≤9223372036854775807)=True:=by have h_:=c15b0;simp only [ByteArray.size_append] at h_;exact h_
        have H':=Aside0.mk H
        clear H
        obtain ⟨hcz16_0,hcz16_1,hcz16_2,hcz16_3,hfz16_0,hfz16_1,hfz16_2,hfz16_3⟩:=zf4_ BK280.out
        have p282:0≤(x4_1:Int):=of_decide_eq_true as_
        have q282:x4_1 < (l0_0.length:Int):=of_decide_eq_true as_
        obtain ⟨ad282,A282_1,c282_1,e282,hx282_0,hx282_1,hl282_1,hi282_1⟩:=at_T72 HR0_0.out x4_1 p282 q282
        obtain rfl:ad281=ad282:=(by injection e282)
        replace hx282_0:=(cb_ HB.out hx282_0:_)
        replace hx282_1:=(cb_ HB.out hx282_1:_)
        have HR282_1:=Aside0.mk hi282_1
        have HC282_1:=Aside0.mk hl282_1
        clear hi282_1 hl282_1
        replace p282:=eq_true p282
        replace q282:=eq_true q282
        have p283:0≤(x4_1:Int):=of_decide_eq_true as_
        have q283:x4_1 < (l0_0.length:Int):=of_decide_eq_true as_
        obtain ⟨ad283,A283_1,c283_1,e283,hx283_0,hx283_1,hl283_1,hi283_1⟩:=at_T72 HR0_0.out x4_1 p283 q283
        obtain rfl:ad281=ad283:=(by injection e283)
        replace hx283_0:=(cb_ HB.out hx283_0:_)
        replace hx283_1:=(cb_ HB.out hx283_1:_)
        have HR283_1:=Aside0.mk hi283_1
        have HC283_1:=Aside0.mk hl283_1
        clear hi283_1 hl283_1
        replace p283:=eq_true p283
        replace q283:=eq_true q283
        have ea_:=Option.some.inj (hx282_1.symm.trans hx283_1)
        injection ea_ with ea_ en_ ec_
        subst ea_
        subst ec_
        clear en_
        have p284:0≤(x5_2:Int):=of_decide_eq_true as_
        have q284:x5_2 < (((rd_T72 l0_0 x4_1).f1).length:Int):=of_decide_eq_true as_
        obtain ⟨ad284,e284,hx284_0⟩:=Kd.at_string HR283_1.out x5_2 p284 q284
        cases e284
        replace hx284_0:=(cb_ HB.out hx284_0:_)
        replace p284:=eq_true p284
        replace q284:=eq_true q284
        go_wp2
        go_roundg k2
        case measure=>have:=HK1.out;have:=HK2.out;omega
        case rel=>exact ⟨((x3_2++(⟨#[44,32]⟩:ByteArray))++(rdOf ByteArray.empty ((rd_T72 l0_0 x4_1).f1) x5_2)),(wrap64 (x5_2+1)),rf_,rf_,H',⟨by have:=HK1.out;have:=HK2.out;omega⟩,⟨kb_ BK280.out⟩,⟨bl_ HB.out⟩⟩
       ·rw [if_neg c12] at H
        have c12b0:=decide_eq_false (show ¬ _ < _ from c12)
        clear c12
        revert H
        refine gd_ fun c17 H=>?_
        have c17b0:=decide_eq_true c17
        clear c17
        revert H
        refine gd_ fun c18 H=>?_
        have c18b0:=eq_true c18
        have c18b1:=decide_eq_true c18
        have c18b2:=nlt_ c18
        have H':=Aside0.mk H
        clear H
        obtain ⟨hcz19_0,hcz19_1,hcz19_2,hcz19_3,hfz19_0,hfz19_1,hfz19_2,hfz19_3⟩:=zf4_ BK280.out
        have p282:0≤(x4_1:Int):=of_decide_eq_true as_
        have q282:x4_1 < (l0_0.length:Int):=of_decide_eq_true as_
        obtain ⟨ad282,A282_1,c282_1,e282,hx282_0,hx282_1,hl282_1,hi282_1⟩:=at_T72 HR0_0.out x4_1 p282 q282
        obtain rfl:ad281=ad282:=(by injection e282)
        replace hx282_0:=(cb_ HB.out hx282_0:_)
        replace hx282_1:=(cb_ HB.out hx282_1:_)
        have HR282_1:=Aside0.mk hi282_1
        have HC282_1:=Aside0.mk hl282_1
        clear hi282_1 hl282_1
        replace p282:=eq_true p282
        replace q282:=eq_true q282
        have p285:0≤(x4_1:Int):=of_decide_eq_true as_
        have q285:x4_1 < (l0_0.length:Int):=of_decide_eq_true as_
        obtain ⟨ad285,A285_1,c285_1,e285,hx285_0,hx285_1,hl285_1,hi285_1⟩:=at_T72 HR0_0.out x4_1 p285 q285
        obtain rfl:ad281=ad285:=(by injection e285)
        replace hx285_0:=(cb_ HB.out hx285_0:_)
        replace hx285_1:=(cb_ HB.out hx285_1:_)
        have HR285_1:=Aside0.mk hi285_1
        have HC285_1:=Aside0.mk hl285_1
        clear hi285_1 hl285_1
        replace p285:=eq_true p285
        replace q285:=eq_true q285
        have ea_:=Option.some.inj (hx282_1.symm.trans hx285_1)
        injection ea_ with ea_ en_ ec_
        subst ea_
        subst ec_
        clear en_
        have p286:0≤(x5_2:Int):=of_decide_eq_true as_
        have q286:x5_2 < (((rd_T72 l0_0 x4_1).f1).length:Int):=of_decide_eq_true as_
        obtain ⟨ad286,e286,hx286_0⟩:=Kd.at_string HR285_1.out x5_2 p286 q286
        cases e286
        replace hx286_0:=(cb_ HB.out hx286_0:_)
        replace p286:=eq_true p286
        replace q286:=eq_true q286
        go_wp2
        go_roundg k2
        case measure=>have:=HK1.out;have:=HK2.out;omega
        case rel=>exact ⟨(x3_2++(rdOf ByteArray.empty ((rd_T72 l0_0 x4_1).f1) x5_2)),(wrap64 (x5_2+1)),rf_,rf_,H',⟨by have:=HK1.out;have:=HK2.out;omega⟩,⟨kb_ BK280.out⟩,⟨bl_ HB.out⟩⟩
      ·rw [if_neg c11] at H
       have c11b0:=decide_eq_false c11
       clear c11
       revert H
       refine gd_ fun c20 H=>?_
       have c20b0:=eq_true c20
       have c20b1:=decide_eq_true c20
       have c20b2:=nlt_ c20
       have H':=Aside0.mk H
       clear H
       obtain ⟨hcz21_0,hcz21_1,hcz21_2,hcz21_3,hfz21_0,hfz21_1,hfz21_2,hfz21_3⟩:=zf4_ BK280.out
       have p282:0≤(x4_1:Int):=of_decide_eq_true as_
       have q282:x4_1 < (l0_0.length:Int):=of_decide_eq_true as_
       obtain ⟨ad282,A282_1,c282_1,e282,hx282_0,hx282_1,hl282_1,hi282_1⟩:=at_T72 HR0_0.out x4_1 p282 q282
       obtain rfl:ad281=ad282:=(by injection e282)
       replace hx282_0:=(cb_ HB.out hx282_0:_)
       replace hx282_1:=(cb_ HB.out hx282_1:_)
       have HR282_1:=Aside0.mk hi282_1
       have HC282_1:=Aside0.mk hl282_1
       clear hi282_1 hl282_1
       replace p282:=eq_true p282
       replace q282:=eq_true q282
       go_wp2
       go_roundg k2
       case measure=>have:=HK1.out;have:=HK2.out;omega
       case rel=>exact ⟨(x3_2++(⟨#[32,125,10]⟩:ByteArray)),(wrap64 (x4_1+1)),rf_,rf_,H',⟨by have:=HK1.out;have:=HK2.out;omega⟩,⟨kb_ BK280.out⟩,⟨bl_ HB.out⟩⟩
   ·rw [if_neg c3] at H
    have c3b0:=decide_eq_false c3
    clear c3
    have H':=Aside0.mk H
    clear H
    obtain ⟨hcz22_0,hcz22_1,hcz22_2,hcz22_3,hfz22_0,hfz22_1,hfz22_2,hfz22_3⟩:=zf4_ BK280.out
    go_wp2
    (try simp only [Act.put,List.setIfInBounds_toArray,List.set_cons_succ,List.set_cons_zero])
    go_loopg [3,6] k1 (fun kq v3 v6 w'=>∃ (x3_2:ByteArray) (x6_2:Int),v3=.string x3_2∧v6=.int .i64 x6_2∧Aside0 (helmsmanref12_Print.l2 kq x3_2 x6_2 l0_0 l0_1 l0_2 l0_3=some r)∧Aside0 (kq≤k1)∧Aside0 (w'.heap[gb280]?=some (.cells #[(.slice A0_0 l0_0.length c0_0),(.slice A0_1 l0_1.length c0_1),(.slice A0_2 l0_2.length c0_2),(.slice A0_3 l0_3.length c0_3)] 43 (0,0)))∧Aside0 (Below w.heap.size w w'))
    case atStart=>exact ⟨(x3_1),(0),rf_,rf_,H',⟨Nat.le_refl _⟩,⟨kb_ BK280.out⟩,⟨bl_ HB.out⟩⟩
    case round=>
     clear H'
     obtain ⟨x3_2,x6_2,rfl,rfl,HA,HK2,BK280,HB⟩:=hrel
     cases gk with
     | zero=>exact absurd HA.out (by simp [helmsmanref12_Print.l2])
     | succ k2=>
      have H:=HA.out
      clear HA
      simp only [helmsmanref12_Print.l2] at H
      by_cases c23:x6_2 < (l0_1.length:Int)
      ·rw [if_pos c23] at H
       have c23b0:=decide_eq_true c23
       clear c23
       revert H
       refine gd_ fun c24 H=>?_
       have c24b0:=eq_true c24
       have c24b1:=decide_eq_true c24
       have c24b2:=nlt_ c24
       revert H
       refine gd_ fun c25 H=>?_
       have c25b0:=decide_eq_true c25
       clear c25
       revert H
       refine gd_ fun c26 H=>?_
       have c26b0:=eq_true c26
       have c26b1:=decide_eq_true c26
       have c26b2:=nlt_ c26
       try have c26b3:(9223372036854775807 < x3_2.size+4+((rd_T56 l0_1 x6_2).f0).size)=False:=by have h_:=c26b2;simp only [ByteArray.size_append] at h_;exact h_
       try have c26b4:(x3_2.size+4+((rd_T56 l0_1 x6_2).f0).size≤9223372036854775807)=True:=by have h_:=c26b0;simp only [ByteArray.size_append] at h_;exact h_
       revert H
       refine gd_ fun c27 H=>?_
       have c27b0:=eq_true c27
       have c27b1:=decide_eq_true c27
       have c27b2:=nlt_ c27
       try have c27b3:(9223372036854775807 < x3_2.size+4+((rd_T56 l0_1 x6_2).f0).size+2)=False:=by have h_:=c27b2;simp only [ByteArray.size_append] at h_;exact h_
       try have c27b4:(x3_2.size+4+((rd_T56 l0_1 x6_2).f0).size+2≤9223372036854775807)=True:=by have h_:=c27b0;simp only [ByteArray.size_append] at h_;exact h_
       revert H
       refine gd_ fun c28 H=>?_
       have c28b0:=eq_true c28
       have c28b1:=decide_eq_true c28
       have c28b2:=nlt_ c28
       try have c28b3:(9223372036854775807 < x3_2.size+4+((rd_T56 l0_1 x6_2).f0).size+2+((rd_T56 l0_1 x6_2).f1).size)=False:=by have h_:=c28b2;simp only [ByteArray.size_append] at h_;exact h_
       try have c28b4:(x3_2.size+4+((rd_T56 l0_1 x6_2).f0).size+2+((rd_T56 l0_1 x6_2).f1).size≤9223372036854775807)=True:=by have h_:=c28b0;simp only [ByteArray.size_append] at h_;exact h_
       by_cases c29:((rd_T56 l0_1 x6_2).f2) > 0
       ·rw [if_pos c29] at H
        have c29b0:=decide_eq_true (show _ < _ from c29)
        clear c29
        revert H
        refine gd_ fun c30 H=>?_
        have c30b0:=eq_true c30
        have c30b1:=decide_eq_true c30
        have c30b2:=nlt_ c30
        try have c30b3:(9223372036854775807 < x3_2.size+4+((rd_T56 l0_1 x6_2).f0).size+2+((rd_T56 l0_1 x6_2).f1).size+1)=False:=by have h_:=c30b2;simp only [ByteArray.size_append] at h_;exact h_
        try have c30b4:(x3_2.size+4+((rd_T56 l0_1 x6_2).f0).size+2+((rd_T56 l0_1 x6_2).f1).size+1≤9223372036854775807)=True:=by have h_:=c30b0;simp only [ByteArray.size_append] at h_;exact h_
        revert H
        refine bd_ fun t291 A31 H=>?_
        revert H
        refine gd_ fun c32 H=>?_
        have c32b0:=eq_true c32
        have c32b1:=decide_eq_true c32
        have c32b2:=nlt_ c32
        try have c32b3:(9223372036854775807 < x3_2.size+4+((rd_T56 l0_1 x6_2).f0).size+2+((rd_T56 l0_1 x6_2).f1).size+1+t291.size)=False:=by have h_:=c32b2;simp only [ByteArray.size_append] at h_;exact h_
        try have c32b4:(x3_2.size+4+((rd_T56 l0_1 x6_2).f0).size+2+((rd_T56 l0_1 x6_2).f1).size+1+t291.size≤9223372036854775807)=True:=by have h_:=c32b0;simp only [ByteArray.size_append] at h_;exact h_
        revert H
        refine gd_ fun c33 H=>?_
        have c33b0:=eq_true c33
        have c33b1:=decide_eq_true c33
        have c33b2:=nlt_ c33
        try have c33b3:(9223372036854775807 < x3_2.size+4+((rd_T56 l0_1 x6_2).f0).size+2+((rd_T56 l0_1 x6_2).f1).size+1+t291.size+1)=False:=by have h_:=c33b2;simp only [ByteArray.size_append] at h_;exact h_
        try have c33b4:(x3_2.size+4+((rd_T56 l0_1 x6_2).f0).size+2+((rd_T56 l0_1 x6_2).f1).size+1+t291.size+1≤9223372036854775807)=True:=by have h_:=c33b0;simp only [ByteArray.size_append] at h_;exact h_
        revert H
        refine gd_ fun c34 H=>?_
        have c34b0:=eq_true c34
        have c34b1:=decide_eq_true c34
        have c34b2:=nlt_ c34
        try have c34b3:(9223372036854775807 < x3_2.size+4+((rd_T56 l0_1 x6_2).f0).size+2+((rd_T56 l0_1 x6_2).f1).size+1+t291.size+1+2)=False:=by have h_:=c34b2;simp only [ByteArray.size_append] at h_;exact h_
        try have c34b4:(x3_2.size+4+((rd_T56 l0_1 x6_2).f0).size+2+((rd_T56 l0_1 x6_2).f1).size+1+t291.size+1+2≤9223372036854775807)=True:=by have h_:=c34b0;simp only [ByteArray.size_append] at h_;exact h_
        have H':=Aside0.mk H
        clear H
        obtain ⟨hcz35_0,hcz35_1,hcz35_2,hcz35_3,hfz35_0,hfz35_1,hfz35_2,hfz35_3⟩:=zf4_ BK280.out
        try go_wp2
        replace BK280:=Aside0.mk (blk_drew BK280.out)
        replace HB:=Aside0.mk (below_drew1 HB.out)
        have p287:0≤(x6_2:Int):=of_decide_eq_true as_
        have q287:x6_2 < (l0_1.length:Int):=of_decide_eq_true as_
        obtain ⟨ad287,e287,hx287_0,hx287_1,hx287_2⟩:=at_T56 HR0_1.out x6_2 p287 q287
        have hw287_2:=hx287_2
        have hw287_1:=hx287_1
        have hw287_0:=hx287_0
        cases e287
        replace hx287_0:=(cb_ HB.out hx287_0:_)
        replace hx287_1:=(cb_ HB.out hx287_1:_)
        replace hx287_2:=(cb_ HB.out hx287_2:_)
        replace p287:=eq_true p287
        replace q287:=eq_true q287
        have p288:0≤(x6_2:Int):=of_decide_eq_true as_
        have q288:x6_2 < (l0_1.length:Int):=of_decide_eq_true as_
        obtain ⟨ad288,e288,hx288_0,hx288_1,hx288_2⟩:=at_T56 HR0_1.out x6_2 p288 q288
        have hw288_2:=hx288_2
        have hw288_1:=hx288_1
        have hw288_0:=hx288_0
        obtain rfl:ad287=ad288:=(by injection e288)
        replace hx288_0:=(cb_ HB.out hx288_0:_)
        replace hx288_1:=(cb_ HB.out hx288_1:_)
        replace hx288_2:=(cb_ HB.out hx288_2:_)
        replace p288:=eq_true p288
        replace q288:=eq_true q288
        refine start_ (n:=18) (S:=fun w'=>w'.cell? ⟨gb280,0,none⟩=some (.slice A0_0 l0_0.length c0_0)∧w'.cell? ⟨gb280,1,none⟩=some (.slice (some ad287) l0_1.length c0_1)∧w'.cell? ⟨gb280,2,none⟩=some (.slice A0_2 l0_2.length c0_2)∧w'.cell? ⟨gb280,3,none⟩=some (.slice A0_3 l0_3.length c0_3)∧w'.cell? (ad287.add ((x6_2).toNat * 3))=some (.string ((rd_T56 l0_1 x6_2).f0))∧w'.cell? ⟨(ad287.add ((x6_2).toNat * 3)).block,(ad287.add ((x6_2).toNat * 3)).off+1,none⟩=some (.string ((rd_T56 l0_1 x6_2).f1))∧w'.cell? ⟨(ad287.add ((x6_2).toNat * 3)).block,(ad287.add ((x6_2).toNat * 3)).off+2,none⟩=some (.int .i64 ((rd_T56 l0_1 x6_2).f2))∧w'.cell? (ad287.add ((x6_2).toNat * 3))=some (.string ((rd_T56 l0_1 x6_2).f0))∧w'.cell? ⟨(ad287.add ((x6_2).toNat * 3)).block,(ad287.add ((x6_2).toNat * 3)).off+1,none⟩=some (.string ((rd_T56 l0_1 x6_2).f1))∧w'.cell? ⟨(ad287.add ((x6_2).toNat * 3)).block,(ad287.add ((x6_2).toNat * 3)).off+2,none⟩=some (.int .i64 ((rd_T56 l0_1 x6_2).f2))) (ds:=[]) (flg 18 0) (by kernel_rfl) rfl (by kernel_rfl) ⟨zc_ BK280.out 0,zc_ BK280.out 1,zc_ BK280.out 2,zc_ BK280.out 3,((cb_ HB.out hw287_0:_)),((cb_ HB.out hw287_1:_)),((cb_ HB.out hw287_2:_)),((cb_ HB.out hw288_0:_)),((cb_ HB.out hw288_1:_)),((cb_ HB.out hw288_2:_))⟩ (fun hHeld=>?_);refine with_tabW helmsmanref12_Print.tab16 helmsmanref12_Print.bits16 (fun HT_ HW_=>?_)
        generalize wr.drew=w36 at BK280 HB hx287_0 hx287_1 hx287_2 hx288_0 hx288_1 hx288_2 hHeld ⊢
        refine pu_ 0 60 (flg 18 1) ?_
        refine pu_ 1 61 (flg 18 3) ?_
        refine pu_ 2 62 (flg 18 7) ?_
        refine pu_ 4 64 (flg 18 23) ?_
        refine pu_ 10 70 (flg 18 1047) ?_
        refine pu_ 12 72 (flg 18 5143) ?_
        refine ta_ 3 63 (flg 18 5151) hHeld ?_
        refine pu_ 5 65 (flg 18 5183) ?_
        refine pu_ 6 66 (flg 18 5247) ?_
        refine ta_ 7 67 (flg 18 5375) hHeld ?_
        refine pu_ 8 68 (flg 18 5631) ?_
        refine pu_ 9 69 (flg 18 6143) ?_
        refine ta_ 11 71 (flg 18 8191) hHeld ?_
        refine pu_ 13 73 (flg 18 16383) ?_
        refine pu_ 14 74 (flg 18 32767) ?_
        refine ta_ 15 75 (flg 18 65535) hHeld ?_
        refine pu_ 16 76 (flg 18 131071) ?_
        refine pu_ 17 3 (flg 18 262143) ?_
        refine done_ (done_of HT_.out (by kernel_rfl)) ?_
        obtain ⟨hcz37_0,hcz37_1,hcz37_2,hcz37_3,hfz37_0,hfz37_1,hfz37_2,hfz37_3⟩:=zf4_ BK280.out
        have p289:0≤(x6_2:Int):=of_decide_eq_true as_
        have q289:x6_2 < (l0_1.length:Int):=of_decide_eq_true as_
        obtain ⟨ad289,e289,hx289_0,hx289_1,hx289_2⟩:=at_T56 HR0_1.out x6_2 p289 q289
        obtain rfl:ad287=ad289:=(by injection e289)
        replace hx289_0:=(cb_ HB.out hx289_0:_)
        replace hx289_1:=(cb_ HB.out hx289_1:_)
        replace hx289_2:=(cb_ HB.out hx289_2:_)
        replace p289:=eq_true p289
        replace q289:=eq_true q289
        have p290:0≤(x6_2:Int):=of_decide_eq_true as_
        have q290:x6_2 < (l0_1.length:Int):=of_decide_eq_true as_
        obtain ⟨ad290,e290,hx290_0,hx290_1,hx290_2⟩:=at_T56 HR0_1.out x6_2 p290 q290
        obtain rfl:ad287=ad290:=(by injection e290)
        replace hx290_0:=(cb_ HB.out hx290_0:_)
        replace hx290_1:=(cb_ HB.out hx290_1:_)
        replace hx290_2:=(cb_ HB.out hx290_2:_)
        replace p290:=eq_true p290
        replace q290:=eq_true q290
        try go_wp2_with (first|((with_reducible refine gate_callee (f:=34) rfl ?_);refine goesL_ (some 92) rfl rfl Tryd.func34 (by kernel_rfl) rfl #[.int .i64 ((rd_T56 l0_1 x6_2).f2)] rfl ar_ ?_;(with_reducible refine (helmsmanref01_Digits.calls k2 ((rd_T56 l0_1 x6_2).f2) t291 _ A31.out).mono ?_);rintro e w' ⟨rfl,⟨nd,rfl⟩⟩;refine ⟨_,rfl,?_⟩))
        go_roundg k2
        case measure=>have:=HK1.out;have:=HK2.out;omega
        case rel=>exact ⟨((((((((x3_2++(⟨#[118,97,114,32]⟩:ByteArray))++((rd_T56 l0_1 x6_2).f0))++(⟨#[58,32]⟩:ByteArray))++((rd_T56 l0_1 x6_2).f1))++(⟨#[91]⟩:ByteArray))++t291)++(⟨#[93]⟩:ByteArray))++(⟨#[59,10]⟩:ByteArray)),(wrap64 (x6_2+1)),rf_,rf_,H',⟨by have:=HK1.out;have:=HK2.out;omega⟩,⟨kb_ BK280.out⟩,⟨bl_ HB.out⟩⟩
       ·rw [if_neg c29] at H
        have c29b0:=decide_eq_false (show ¬ _ < _ from c29)
        clear c29
        revert H
        refine gd_ fun c38 H=>?_
        have c38b0:=eq_true c38
        have c38b1:=decide_eq_true c38
        have c38b2:=nlt_ c38
        try have c38b3:(9223372036854775807 < x3_2.size+4+((rd_T56 l0_1 x6_2).f0).size+2+((rd_T56 l0_1 x6_2).f1).size+2)=False:=by have h_:=c38b2;simp only [ByteArray.size_append] at h_;exact h_
        try have c38b4:(x3_2.size+4+((rd_T56 l0_1 x6_2).f0).size+2+((rd_T56 l0_1 x6_2).f1).size+2≤9223372036854775807)=True:=by have h_:=c38b0;simp only [ByteArray.size_append] at h_;exact h_
        have H':=Aside0.mk H
        clear H
        obtain ⟨hcz39_0,hcz39_1,hcz39_2,hcz39_3,hfz39_0,hfz39_1,hfz39_2,hfz39_3⟩:=zf4_ BK280.out
        try go_wp2
        replace BK280:=Aside0.mk (blk_drew BK280.out)
        replace HB:=Aside0.mk (below_drew1 HB.out)
        have p287:0≤(x6_2:Int):=of_decide_eq_true as_
        have q287:x6_2 < (l0_1.length:Int):=of_decide_eq_true as_
        obtain ⟨ad287,e287,hx287_0,hx287_1,hx287_2⟩:=at_T56 HR0_1.out x6_2 p287 q287
        have hw287_2:=hx287_2
        have hw287_1:=hx287_1
        have hw287_0:=hx287_0
        cases e287
        replace hx287_0:=(cb_ HB.out hx287_0:_)
        replace hx287_1:=(cb_ HB.out hx287_1:_)
        replace hx287_2:=(cb_ HB.out hx287_2:_)
        replace p287:=eq_true p287
        replace q287:=eq_true q287
        have p288:0≤(x6_2:Int):=of_decide_eq_true as_
        have q288:x6_2 < (l0_1.length:Int):=of_decide_eq_true as_
        obtain ⟨ad288,e288,hx288_0,hx288_1,hx288_2⟩:=at_T56 HR0_1.out x6_2 p288 q288
        have hw288_2:=hx288_2
        have hw288_1:=hx288_1
        have hw288_0:=hx288_0
        obtain rfl:ad287=ad288:=(by injection e288)
        replace hx288_0:=(cb_ HB.out hx288_0:_)
        replace hx288_1:=(cb_ HB.out hx288_1:_)
        replace hx288_2:=(cb_ HB.out hx288_2:_)
        replace p288:=eq_true p288
        replace q288:=eq_true q288
        refine start_ (n:=18) (S:=fun w'=>w'.cell? ⟨gb280,0,none⟩=some (.slice A0_0 l0_0.length c0_0)∧w'.cell? ⟨gb280,1,none⟩=some (.slice (some ad287) l0_1.length c0_1)∧w'.cell? ⟨gb280,2,none⟩=some (.slice A0_2 l0_2.length c0_2)∧w'.cell? ⟨gb280,3,none⟩=some (.slice A0_3 l0_3.length c0_3)∧w'.cell? (ad287.add ((x6_2).toNat * 3))=some (.string ((rd_T56 l0_1 x6_2).f0))∧w'.cell? ⟨(ad287.add ((x6_2).toNat * 3)).block,(ad287.add ((x6_2).toNat * 3)).off+1,none⟩=some (.string ((rd_T56 l0_1 x6_2).f1))∧w'.cell? ⟨(ad287.add ((x6_2).toNat * 3)).block,(ad287.add ((x6_2).toNat * 3)).off+2,none⟩=some (.int .i64 ((rd_T56 l0_1 x6_2).f2))∧w'.cell? (ad287.add ((x6_2).toNat * 3))=some (.string ((rd_T56 l0_1 x6_2).f0))∧w'.cell? ⟨(ad287.add ((x6_2).toNat * 3)).block,(ad287.add ((x6_2).toNat * 3)).off+1,none⟩=some (.string ((rd_T56 l0_1 x6_2).f1))∧w'.cell? ⟨(ad287.add ((x6_2).toNat * 3)).block,(ad287.add ((x6_2).toNat * 3)).off+2,none⟩=some (.int .i64 ((rd_T56 l0_1 x6_2).f2))) (ds:=[]) (flg 18 0) (by kernel_rfl) rfl (by kernel_rfl) ⟨zc_ BK280.out 0,zc_ BK280.out 1,zc_ BK280.out 2,zc_ BK280.out 3,((cb_ HB.out hw287_0:_)),((cb_ HB.out hw287_1:_)),((cb_ HB.out hw287_2:_)),((cb_ HB.out hw288_0:_)),((cb_ HB.out hw288_1:_)),((cb_ HB.out hw288_2:_))⟩ (fun hHeld=>?_);refine with_tabW helmsmanref12_Print.tab16 helmsmanref12_Print.bits16 (fun HT_ HW_=>?_)
        generalize wr.drew=w40 at BK280 HB hx287_0 hx287_1 hx287_2 hx288_0 hx288_1 hx288_2 hHeld ⊢
        refine pu_ 0 60 (flg 18 1) ?_
        refine pu_ 1 61 (flg 18 3) ?_
        refine pu_ 2 62 (flg 18 7) ?_
        refine pu_ 4 64 (flg 18 23) ?_
        refine pu_ 10 70 (flg 18 1047) ?_
        refine pu_ 12 72 (flg 18 5143) ?_
        refine ta_ 3 63 (flg 18 5151) hHeld ?_
        refine pu_ 5 65 (flg 18 5183) ?_
        refine pu_ 6 66 (flg 18 5247) ?_
        refine ta_ 7 67 (flg 18 5375) hHeld ?_
        refine pu_ 8 68 (flg 18 5631) ?_
        refine pu_ 9 69 (flg 18 6143) ?_
        refine ta_ 11 71 (flg 18 8191) hHeld ?_
        refine pu_ 13 73 (flg 18 16383) ?_
        refine pu_ 14 74 (flg 18 32767) ?_
        refine ta_ 15 75 (flg 18 65535) hHeld ?_
        refine pu_ 16 76 (flg 18 131071) ?_
        refine pu_ 17 3 (flg 18 262143) ?_
        refine done_ (done_of HT_.out (by kernel_rfl)) ?_
        obtain ⟨hcz41_0,hcz41_1,hcz41_2,hcz41_3,hfz41_0,hfz41_1,hfz41_2,hfz41_3⟩:=zf4_ BK280.out
        have p289:0≤(x6_2:Int):=of_decide_eq_true as_
        have q289:x6_2 < (l0_1.length:Int):=of_decide_eq_true as_
        obtain ⟨ad289,e289,hx289_0,hx289_1,hx289_2⟩:=at_T56 HR0_1.out x6_2 p289 q289
        obtain rfl:ad287=ad289:=(by injection e289)
        replace hx289_0:=(cb_ HB.out hx289_0:_)
        replace hx289_1:=(cb_ HB.out hx289_1:_)
        replace hx289_2:=(cb_ HB.out hx289_2:_)
        replace p289:=eq_true p289
        replace q289:=eq_true q289
        try go_wp2
        go_roundg k2
        case measure=>have:=HK1.out;have:=HK2.out;omega
        case rel=>exact ⟨(((((x3_2++(⟨#[118,97,114,32]⟩:ByteArray))++((rd_T56 l0_1 x6_2).f0))++(⟨#[58,32]⟩:ByteArray))++((rd_T56 l0_1 x6_2).f1))++(⟨#[59,10]⟩:ByteArray)),(wrap64 (x6_2+1)),rf_,rf_,H',⟨by have:=HK1.out;have:=HK2.out;omega⟩,⟨kb_ BK280.out⟩,⟨bl_ HB.out⟩⟩
      ·rw [if_neg c23] at H
       have c23b0:=decide_eq_false c23
       clear c23
       have H':=Aside0.mk H
       clear H
       obtain ⟨hcz42_0,hcz42_1,hcz42_2,hcz42_3,hfz42_0,hfz42_1,hfz42_2,hfz42_3⟩:=zf4_ BK280.out
       go_wp2
       (try simp only [Act.put,List.setIfInBounds_toArray,List.set_cons_succ,List.set_cons_zero])
       go_loopg [3,7] k2 (fun kq v3 v7 w'=>∃ (x3_3:ByteArray) (x7_3:Int),v3=.string x3_3∧v7=.int .i64 x7_3∧Aside0 (helmsmanref12_Print.l3 kq x3_3 x7_3 l0_0 l0_1 l0_2 l0_3=some r)∧Aside0 (kq≤k2)∧Aside0 (w'.heap[gb280]?=some (.cells #[(.slice A0_0 l0_0.length c0_0),(.slice A0_1 l0_1.length c0_1),(.slice A0_2 l0_2.length c0_2),(.slice A0_3 l0_3.length c0_3)] 43 (0,0)))∧Aside0 (Below w.heap.size w w'))
       case atStart=>exact ⟨(x3_2),(0),rf_,rf_,H',⟨Nat.le_refl _⟩,⟨kb_ BK280.out⟩,⟨bl_ HB.out⟩⟩
       case round=>
        clear H'
        obtain ⟨x3_3,x7_3,rfl,rfl,HA,HK3,BK280,HB⟩:=hrel
        cases gk with
        | zero=>exact absurd HA.out (by simp [helmsmanref12_Print.l3])
        | succ k3=>
         have H:=HA.out
         clear HA
         simp only [helmsmanref12_Print.l3] at H
         by_cases c43:x7_3 < (l0_2.length:Int)
         ·rw [if_pos c43] at H
          have c43b0:=decide_eq_true c43
          clear c43
          revert H
          refine gd_ fun c44 H=>?_
          have c44b0:=eq_true c44
          have c44b1:=decide_eq_true c44
          have c44b2:=nlt_ c44
          revert H
          refine gd_ fun c45 H=>?_
          have c45b0:=decide_eq_true c45
          clear c45
          revert H
          refine gd_ fun c46 H=>?_
          have c46b0:=eq_true c46
          have c46b1:=decide_eq_true c46
          have c46b2:=nlt_ c46
          try have c46b3:(9223372036854775807 < x3_3.size+5+((rd_T69 l0_2 x7_3).f0).size)=False:=by have h_:=c46b2;simp only [ByteArray.size_append] at h_;exact h_
          try have c46b4:(x3_3.size+5+((rd_T69 l0_2 x7_3).f0).size≤9223372036854775807)=True:=by have h_:=c46b0;simp only [ByteArray.size_append] at h_;exact h_
          revert H
          refine gd_ fun c47 H=>?_
          have c47b0:=eq_true c47
          have c47b1:=decide_eq_true c47
          have c47b2:=nlt_ c47
          try have c47b3:(9223372036854775807 < x3_3.size+5+((rd_T69 l0_2 x7_3).f0).size+3)=False:=by have h_:=c47b2;simp only [ByteArray.size_append] at h_;exact h_
          try have c47b4:(x3_3.size+5+((rd_T69 l0_2 x7_3).f0).size+3≤9223372036854775807)=True:=by have h_:=c47b0;simp only [ByteArray.size_append] at h_;exact h_
          revert H
          refine bd_ fun t294 A48 H=>?_
          revert H
          refine gd_ fun c49 H=>?_
          have c49b0:=eq_true c49
          have c49b1:=decide_eq_true c49
          have c49b2:=nlt_ c49
          try have c49b3:(9223372036854775807 < x3_3.size+5+((rd_T69 l0_2 x7_3).f0).size+3+t294.size)=False:=by have h_:=c49b2;simp only [ByteArray.size_append] at h_;exact h_
          try have c49b4:(x3_3.size+5+((rd_T69 l0_2 x7_3).f0).size+3+t294.size≤9223372036854775807)=True:=by have h_:=c49b0;simp only [ByteArray.size_append] at h_;exact h_
          revert H
          refine gd_ fun c50 H=>?_
          have c50b0:=eq_true c50
          have c50b1:=decide_eq_true c50
          have c50b2:=nlt_ c50
          try have c50b3:(9223372036854775807 < x3_3.size+5+((rd_T69 l0_2 x7_3).f0).size+3+t294.size+2)=False:=by have h_:=c50b2;simp only [ByteArray.size_append] at h_;exact h_
          try have c50b4:(x3_3.size+5+((rd_T69 l0_2 x7_3).f0).size+3+t294.size+2≤9223372036854775807)=True:=by have h_:=c50b0;simp only [ByteArray.size_append] at h_;exact h_
          have H':=Aside0.mk H
          clear H
          obtain ⟨hcz51_0,hcz51_1,hcz51_2,hcz51_3,hfz51_0,hfz51_1,hfz51_2,hfz51_3⟩:=zf4_ BK280.out
          try go_wp2
          replace BK280:=Aside0.mk (blk_drew BK280.out)
          replace HB:=Aside0.mk (below_drew1 HB.out)
          have p292:0≤(x7_3:Int):=of_decide_eq_true as_
          have q292:x7_3 < (l0_2.length:Int):=of_decide_eq_true as_
          obtain ⟨ad292,A292_1,c292_1,e292,hx292_0,hx292_1,hl292_1,hi292_1⟩:=at_T69 HR0_2.out x7_3 p292 q292
          have hw292_1:=hx292_1
          have hw292_0:=hx292_0
          cases e292
          replace hx292_0:=(cb_ HB.out hx292_0:_)
          replace hx292_1:=(cb_ HB.out hx292_1:_)
          have HR292_1:=Aside0.mk hi292_1
          have HC292_1:=Aside0.mk hl292_1
          clear hi292_1 hl292_1
          replace p292:=eq_true p292
          replace q292:=eq_true q292
          have p293:0≤(x7_3:Int):=of_decide_eq_true as_
          have q293:x7_3 < (l0_2.length:Int):=of_decide_eq_true as_
          obtain ⟨ad293,A293_1,c293_1,e293,hx293_0,hx293_1,hl293_1,hi293_1⟩:=at_T69 HR0_2.out x7_3 p293 q293
          have hw293_1:=hx293_1
          have hw293_0:=hx293_0
          obtain rfl:ad292=ad293:=(by injection e293)
          replace hx293_0:=(cb_ HB.out hx293_0:_)
          replace hx293_1:=(cb_ HB.out hx293_1:_)
          have HR293_1:=Aside0.mk hi293_1
          have HC293_1:=Aside0.mk hl293_1
          clear hi293_1 hl293_1
          replace p293:=eq_true p293
          replace q293:=eq_true q293
          have ea_:=Option.some.inj (hx292_1.symm.trans hx293_1)
          injection ea_ with ea_ en_ ec_
          subst ea_
          subst ec_
          clear en_
          refine start_ (n:=20) (S:=fun w'=>w'.cell? ⟨gb280,0,none⟩=some (.slice A0_0 l0_0.length c0_0)∧w'.cell? ⟨gb280,1,none⟩=some (.slice A0_1 l0_1.length c0_1)∧w'.cell? ⟨gb280,2,none⟩=some (.slice (some ad292) l0_2.length c0_2)∧w'.cell? ⟨gb280,3,none⟩=some (.slice A0_3 l0_3.length c0_3)∧w'.cell? (ad292.add ((x7_3).toNat * 2))=some (.string ((rd_T69 l0_2 x7_3).f0))∧w'.cell? ⟨(ad292.add ((x7_3).toNat * 2)).block,(ad292.add ((x7_3).toNat * 2)).off+1,none⟩=some (.slice A292_1 ((rd_T69 l0_2 x7_3).f1).length c292_1)∧w'.cell? (ad292.add ((x7_3).toNat * 2))=some (.string ((rd_T69 l0_2 x7_3).f0))∧w'.cell? ⟨(ad292.add ((x7_3).toNat * 2)).block,(ad292.add ((x7_3).toNat * 2)).off+1,none⟩=some (.slice A292_1 ((rd_T69 l0_2 x7_3).f1).length c292_1)) (ds:=[]) (flg 20 0) (by kernel_rfl) rfl (by kernel_rfl) ⟨zc_ BK280.out 0,zc_ BK280.out 1,zc_ BK280.out 2,zc_ BK280.out 3,((cb_ HB.out hw292_0:_)),((cb_ HB.out hw292_1:_)),((cb_ HB.out hw293_0:_)),((cb_ HB.out hw293_1:_))⟩ (fun hHeld=>?_);refine with_tabW helmsmanref12_Print.tab23 helmsmanref12_Print.bits23 (fun HT_ HW_=>?_)
          generalize wr.drew=w52 at BK280 HB HR292_1 HR293_1 hx292_0 hx292_1 hx293_0 hx293_1 hHeld ⊢
          refine pu_ 0 104 (flg 20 1) ?_
          refine pu_ 1 105 (flg 20 3) ?_
          refine pu_ 2 106 (flg 20 7) ?_
          refine pu_ 4 108 (flg 20 23) ?_
          refine pu_ 10 114 (flg 20 1047) ?_
          refine pu_ 12 116 (flg 20 5143) ?_
          refine ta_ 3 107 (flg 20 5151) hHeld ?_
          refine pu_ 5 109 (flg 20 5183) ?_
          refine pu_ 6 110 (flg 20 5247) ?_
          refine ta_ 7 111 (flg 20 5375) hHeld ?_
          refine pu_ 8 112 (flg 20 5631) ?_
          refine pu_ 9 113 (flg 20 6143) ?_
          refine ta_ 11 115 (flg 20 8191) hHeld ?_
          refine pu_ 13 117 (flg 20 16383) ?_
          refine pu_ 14 118 (flg 20 32767) ?_
          refine ta_ 15 119 (flg 20 65535) hHeld ?_
          refine one_ (i:=16) (N:=some 120) (flg 20 131071) rfl rfl (one_of HT_.out (by kernel_rfl)) (by decide) (fun K hK=>?_)
          refine goes_ Tryd.func42 (by kernel_rfl) rfl #[.slice A292_1 ((rd_T69 l0_2 x7_3).f1).length c292_1,.string (⟨#[32,32]⟩:ByteArray)] (by rfl) rfl rfl ar_ ?_
          with_reducible refine (helmsmanref12_block.calls k3 _ _ ((rd_T69 l0_2 x7_3).f1) (⟨#[32,32]⟩:ByteArray) t294 _ ?side1 ?side2 A48.out).mono ?_
          (case side1=>exact kc_ HR293_1.out HB.out)
          (case side2=>exact HC293_1.out)
          rintro e w53 ⟨rfl,hb⟩
          refine ⟨_,rfl,?_⟩
          replace BK280:=Aside0.mk (bb_ BK280.out hb)
          replace HB:=Aside0.mk (below_step (bl_ HB.out) hb)
          refine ko_ hK (fun hHeld=>?_)
          clear hK K
          refine nm_ ?_
          refine pu_ 17 121 (flg 20 262143) ?_
          refine pu_ 18 122 (flg 20 524287) ?_
          refine pu_ 19 3 (flg 20 1048575) ?_
          refine done_ (done_of HT_.out (by kernel_rfl)) ?_
          try go_wp2
          go_roundg k3
          case measure=>have:=HK1.out;have:=HK2.out;have:=HK3.out;omega
          case rel=>exact ⟨(((((x3_3++(⟨#[112,114,111,99,32]⟩:ByteArray))++((rd_T69 l0_2 x7_3).f0))++(⟨#[32,123,10]⟩:ByteArray))++t294)++(⟨#[125,10]⟩:ByteArray)),(wrap64 (x7_3+1)),rf_,rf_,H',⟨by have:=HK1.out;have:=HK2.out;have:=HK3.out;omega⟩,⟨kb_ BK280.out⟩,⟨bl_ HB.out⟩⟩
         ·rw [if_neg c43] at H
          have c43b0:=decide_eq_false c43
          clear c43
          revert H
          refine gd_ fun c54 H=>?_
          have c54b0:=eq_true c54
          have c54b1:=decide_eq_true c54
          have c54b2:=nlt_ c54
          revert H
          refine bd_ fun t295 A55 H=>?_
          revert H
          refine gd_ fun c56 H=>?_
          have c56b0:=eq_true c56
          have c56b1:=decide_eq_true c56
          have c56b2:=nlt_ c56
          try have c56b3:(9223372036854775807 < x3_3.size+7+t295.size)=False:=by have h_:=c56b2;simp only [ByteArray.size_append] at h_;exact h_
          try have c56b4:(x3_3.size+7+t295.size≤9223372036854775807)=True:=by have h_:=c56b0;simp only [ByteArray.size_append] at h_;exact h_
          revert H
          refine gd_ fun c57 H=>?_
          have c57b0:=eq_true c57
          have c57b1:=decide_eq_true c57
          have c57b2:=nlt_ c57
          try have c57b3:(9223372036854775807 < x3_3.size+7+t295.size+2)=False:=by have h_:=c57b2;simp only [ByteArray.size_append] at h_;exact h_
          try have c57b4:(x3_3.size+7+t295.size+2≤9223372036854775807)=True:=by have h_:=c57b0;simp only [ByteArray.size_append] at h_;exact h_
          obtain rfl:=Option.some.inj H
          obtain ⟨hcz58_0,hcz58_1,hcz58_2,hcz58_3,hfz58_0,hfz58_1,hfz58_2,hfz58_3⟩:=zf4_ BK280.out
          go_wp2_with (first|((with_reducible refine gate_callee (f:=42) rfl ?_);refine goesL_ (some 127) rfl rfl Tryd.func42 (by kernel_rfl) rfl #[.slice A0_3 l0_3.length c0_3,.string (⟨#[32,32]⟩:ByteArray)] rfl ar_ ?_;(with_reducible refine (helmsmanref12_block.calls k3 _ _ l0_3 (⟨#[32,32]⟩:ByteArray) t295 _ ?side1 ?side2 A55.out).mono ?_);(case side1=>exact kc_ HR0_3.out HB.out);(case side2=>exact HC0_3.out);rintro e w59 ⟨rfl,hb⟩;refine ⟨_,rfl,?_⟩;replace BK280:=Aside0.mk (bb_ BK280.out hb);replace HB:=Aside0.mk (below_step (bl_ HB.out) hb)))
          go_ret
          exact ⟨rt_,bl_ HB.out⟩
end Go.Proofs.YtnnbbeloifhofaaDoor.P
end
