import Derived.Shelf.Small.Wraps
import Derived.Shelf.Utf8.RuneCount
import Derived.Test.YtmanejniepghlaaGreatDoorRun0
namespace Go.Proofs.YtmanejniepghlaaGreatDoor
open _root_.Go.Proofs.Tryz
open Go.Shelf Go.RowKit
def NY:Go.Shelf.Ren:=⟨fun|103=>219|210=>238|206=>244|n=>n,fun|9=>9|4=>4|24=>239|3=>3|n=>n,fun|n=>n⟩
theorem UU:Go.Proofs.Lays.n103 prog NY:={
 mixed:=by kernel_rfl
 f103:=func219.trans (congrArg some (by kernel_rfl))
 f206:=func244.trans (congrArg some (by kernel_rfl))
 f210:=func238.trans (congrArg some (by kernel_rfl))
 t3:=underlying3
 a3:=isAgg3
 z3:=sizeOf3
 v3:=zeroValue3
 t4:=underlying4
 a4:=isAgg4
 z4:=sizeOf4
 v4:=zeroValue4
 t9:=underlying9
 a9:=isAgg9
 z9:=sizeOf9
 v9:=zeroValue9
 t24:=underlying239
 a24:=isAgg239
 z24:=sizeOf239
 v24:=zeroValue239 }
theorem Ob (s p:ByteArray) (w:World) :
 Calls prog 219 #[.string s,.string p] w fun e a=>e=.returned (.tuple #[.string ⟨(Lib.trimPrefix s.data.toList p.data.toList).toArray⟩,.bool (Lib.hasPrefix s.data.toList p.data.toList)])/\a=w:=Any.strings_CutPrefix UU s p w
end Go.Proofs.YtmanejniepghlaaGreatDoor
