import Derived.Shelf.Strings.LastIndex
import Derived.Shelf.Spec.SlicesInsertGrow
import Derived.Test.YtmanejniepghlaaGreatDoorRun0
namespace Go.Proofs.YtmanejniepghlaaGreatDoor
open Go.Shelf
def lays149_ren:Go.Shelf.Ren:=⟨fun|149=>179|222=>207|n=>n,fun|9=>9|5=>5|3=>3|4=>4|n=>n,fun|n=>n⟩
theorem lays149:Go.Proofs.Lays.n149 Tryz.prog lays149_ren:={
 mixed:=by kernel_rfl
 f149:=Tryz.func179.trans (congrArg some (by kernel_rfl))
 f222:=Tryz.func207.trans (congrArg some (by kernel_rfl))
 t3:=Tryz.underlying3
 a3:=Tryz.isAgg3
 z3:=Tryz.sizeOf3
 v3:=Tryz.zeroValue3
 t4:=Tryz.underlying4
 a4:=Tryz.isAgg4
 z4:=Tryz.sizeOf4
 v4:=Tryz.zeroValue4
 t5:=Tryz.underlying5
 a5:=Tryz.isAgg5
 z5:=Tryz.sizeOf5
 v5:=Tryz.zeroValue5
 t9:=Tryz.underlying9
 a9:=Tryz.isAgg9
 z9:=Tryz.sizeOf9
 v9:=Tryz.zeroValue9 }
theorem zb_l (s:ByteArray) (c:Int) (hs:s.size < 4611686018427387904) (w:World) :
 Calls Tryz.prog 179 #[.string s,.int .u8 c] w fun e w'=>e=.returned (.int .i64 (Lib.lastIndexByte s c))/\w'=w:=Any.strings_LastIndexByte lays149 s c hs w
def laysNm221_ren:Go.Shelf.Ren:=⟨fun|21=>258|27=>266|28=>267|35=>269|39=>270|n=>n,fun|22=>81|3=>3|4=>4|0=>0|n=>n,fun|n=>n⟩
theorem laysNm221:Go.Proofs.Lays2.n21 Tryz.prog laysNm221_ren:={
 mixed:=by kernel_rfl
 f21:=Tryz.func258.trans (congrArg some (by kernel_rfl))
 f27:=Tryz.func266.trans (congrArg some (by kernel_rfl))
 f28:=Tryz.func267.trans (congrArg some (by kernel_rfl))
 f35:=Tryz.func269.trans (congrArg some (by kernel_rfl))
 f39:=Tryz.func270.trans (congrArg some (by kernel_rfl))
 t0:=Tryz.underlying0
 a0:=Tryz.isAgg0
 z0:=Tryz.sizeOf0
 v0:=Tryz.zeroValue0
 t3:=Tryz.underlying3
 a3:=Tryz.isAgg3
 z3:=Tryz.sizeOf3
 v3:=Tryz.zeroValue3
 t4:=Tryz.underlying4
 a4:=Tryz.isAgg4
 z4:=Tryz.sizeOf4
 v4:=Tryz.zeroValue4
 t22:=Tryz.underlying81
 a22:=Tryz.isAgg81
 z22:=Tryz.sizeOf81
 v22:=Tryz.zeroValue81
 i3:=by kernel_rfl }
end Go.Proofs.YtmanejniepghlaaGreatDoor
