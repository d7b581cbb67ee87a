import Derived.Shelf.Small.Wraps
import Derived.Shelf.Utf8.RuneCount
import Derived.Test.YtmanejniepghlaaGreatDoorRun0
namespace Go.Proofs.YtmanejniepghlaaGreatDoor
open Go.Shelf Go.RowKit
def lays103_ren:Go.Shelf.Ren:=⟨fun|103=>219|210=>238|206=>244|n=>n,fun|9=>9|4=>4|24=>239|3=>3|n=>n,fun|n=>n⟩
theorem lays103:Go.Proofs.Lays.n103 Tryz.prog lays103_ren:={
 mixed:=by kernel_rfl
 f103:=Tryz.func219.trans (congrArg some (by kernel_rfl))
 f206:=Tryz.func244.trans (congrArg some (by kernel_rfl))
 f210:=Tryz.func238.trans (congrArg some (by kernel_rfl))
 t3:=Tryz.underlying3
 a3:=Tryz.isAgg3
 z3:=Tryz.sizeOf3
 v3:=Tryz.zeroValue3
 t4:=Tryz.underlying4
 a4:=Tryz.isAgg4
 z4:=Tryz.sizeOf4
 v4:=Tryz.zeroValue4
 t9:=Tryz.underlying9
 a9:=Tryz.isAgg9
 z9:=Tryz.sizeOf9
 v9:=Tryz.zeroValue9
 t24:=Tryz.underlying239
 a24:=Tryz.isAgg239
 z24:=Tryz.sizeOf239
 v24:=Tryz.zeroValue239 }
theorem zi_v (s p:ByteArray) (w:World) :
 Calls Tryz.prog 219 #[.string s,.string p] w fun e w'=>e=.returned (.tuple #[.string ⟨(Lib.trimPrefix s.data.toList p.data.toList).toArray⟩,.bool (Lib.hasPrefix s.data.toList p.data.toList)])/\w'=w:=Any.strings_CutPrefix lays103 s p w
end Go.Proofs.YtmanejniepghlaaGreatDoor
