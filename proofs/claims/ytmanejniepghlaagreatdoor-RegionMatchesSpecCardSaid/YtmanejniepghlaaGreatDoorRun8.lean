import Derived.Shelf.Strings.LastIndex
import Derived.Shelf.Spec.SlicesInsertGrow
import Derived.Test.YtmanejniepghlaaGreatDoorRun0
namespace Go.Proofs.YtmanejniepghlaaGreatDoor
open _root_.Go.Proofs.Tryz
open Go.Shelf
def OB:Go.Shelf.Ren:=⟨fun|149=>179|222=>207|n=>n,fun|9=>9|5=>5|3=>3|4=>4|n=>n,fun|n=>n⟩
theorem UX:Go.Proofs.Lays.n149 prog OB:={
 mixed:=by kernel_rfl
 f149:=func179.trans (congrArg some (by kernel_rfl))
 f222:=func207.trans (congrArg some (by kernel_rfl))
 t3:=underlying3
 a3:=isAgg3
 z3:=sizeOf3
 v3:=zeroValue3
 t4:=underlying4
 a4:=isAgg4
 z4:=sizeOf4
 v4:=zeroValue4
 t5:=underlying5
 a5:=isAgg5
 z5:=sizeOf5
 v5:=zeroValue5
 t9:=underlying9
 a9:=isAgg9
 z9:=sizeOf9
 v9:=zeroValue9 }
theorem Js (s:ByteArray) (c:Int) (hs:s.size < 4611686018427387904) (w:World) :
 Calls prog 179 #[.string s,.int .u8 c] w fun e a=>e=.returned (.int .i64 (Lib.lastIndexByte s c))/\a=w:=Any.strings_LastIndexByte UX s c hs w
def GI:Go.Shelf.Ren:=⟨fun|21=>258|27=>266|28=>267|35=>269|39=>270|n=>n,fun|22=>81|3=>3|4=>4|0=>0|n=>n,fun|n=>n⟩
theorem ER:Go.Proofs.Lays2.n21 prog GI:={
 mixed:=by kernel_rfl
 f21:=func258.trans (congrArg some (by kernel_rfl))
 f27:=func266.trans (congrArg some (by kernel_rfl))
 f28:=func267.trans (congrArg some (by kernel_rfl))
 f35:=func269.trans (congrArg some (by kernel_rfl))
 f39:=func270.trans (congrArg some (by kernel_rfl))
 t0:=underlying0
 a0:=isAgg0
 z0:=sizeOf0
 v0:=zeroValue0
 t3:=underlying3
 a3:=isAgg3
 z3:=sizeOf3
 v3:=zeroValue3
 t4:=underlying4
 a4:=isAgg4
 z4:=sizeOf4
 v4:=zeroValue4
 t22:=underlying81
 a22:=isAgg81
 z22:=sizeOf81
 v22:=zeroValue81
 i3:=by kernel_rfl }
end Go.Proofs.YtmanejniepghlaaGreatDoor
