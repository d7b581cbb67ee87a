import Derived.Shelf.Strings.Search3
import Derived.Shelf.Strings.Count
import Derived.Test.YtmanejniepghlaaGreatDoorRun0
namespace Go.Proofs.YtmanejniepghlaaGreatDoor
open _root_.Go.Proofs.Tryz
def OA:Go.Shelf.Ren:=⟨fun|143=>237|217=>253|219=>246|224=>255|225=>254|266=>263|267=>256|314=>264|n=>n,fun|3=>3|4=>4|5=>5|9=>9|46=>187|51=>91|146=>273|n=>n,fun|1=>0|n=>n⟩
theorem UW:Go.Proofs.Lays.n143 prog OA:={
 mixed:=by kernel_rfl
 f143:=func237.trans (congrArg some (by kernel_rfl))
 f217:=func253.trans (congrArg some (by kernel_rfl))
 f219:=func246.trans (congrArg some (by kernel_rfl))
 f224:=func255.trans (congrArg some (by kernel_rfl))
 f225:=func254.trans (congrArg some (by kernel_rfl))
 f266:=func263.trans (congrArg some (by kernel_rfl))
 f267:=func256.trans (congrArg some (by kernel_rfl))
 f314:=func264.trans (congrArg some (by kernel_rfl))
 t3:=underlying3
 a3:=isAgg3
 z3:=sizeOf3
 v3:=zeroValue3
 t4:=underlying4
 a4:=isAgg4
 z4:=sizeOf4
 v4:=zeroValue4
 t5:=underlying5
 a5:=isAgg5
 z5:=sizeOf5
 v5:=zeroValue5
 t9:=underlying9
 a9:=isAgg9
 z9:=sizeOf9
 v9:=zeroValue9
 t46:=underlying187
 a46:=isAgg187
 z46:=sizeOf187
 v46:=zeroValue187
 t51:=underlying91
 a51:=isAgg91
 z51:=sizeOf91
 v51:=zeroValue91
 t146:=underlying273
 a146:=isAgg273
 z146:=sizeOf273
 v146:=zeroValue273
 g1:=by kernel_rfl }
def NZ:Go.Shelf.Ren:=⟨fun|138=>252|143=>237|195=>261|218=>262|217=>253|219=>246|224=>255|225=>254|266=>263|267=>256|314=>264|n=>n,fun|0=>0|3=>3|4=>4|5=>5|9=>9|46=>187|51=>91|146=>273|n=>n,fun|1=>0|n=>n⟩
theorem UV:Go.Proofs.Lays.n138 prog NZ:={
 mixed:=by kernel_rfl
 f138:=func252.trans (congrArg some (by kernel_rfl))
 f143:=func237.trans (congrArg some (by kernel_rfl))
 f195:=func261.trans (congrArg some (by kernel_rfl))
 f217:=func253.trans (congrArg some (by kernel_rfl))
 f218:=func262.trans (congrArg some (by kernel_rfl))
 f219:=func246.trans (congrArg some (by kernel_rfl))
 f224:=func255.trans (congrArg some (by kernel_rfl))
 f225:=func254.trans (congrArg some (by kernel_rfl))
 f266:=func263.trans (congrArg some (by kernel_rfl))
 f267:=func256.trans (congrArg some (by kernel_rfl))
 f314:=func264.trans (congrArg some (by kernel_rfl))
 t0:=underlying0
 a0:=isAgg0
 z0:=sizeOf0
 v0:=zeroValue0
 t3:=underlying3
 a3:=isAgg3
 z3:=sizeOf3
 v3:=zeroValue3
 t4:=underlying4
 a4:=isAgg4
 z4:=sizeOf4
 v4:=zeroValue4
 t5:=underlying5
 a5:=isAgg5
 z5:=sizeOf5
 v5:=zeroValue5
 t9:=underlying9
 a9:=isAgg9
 z9:=sizeOf9
 v9:=zeroValue9
 t46:=underlying187
 a46:=isAgg187
 z46:=sizeOf187
 v46:=zeroValue187
 t51:=underlying91
 a51:=isAgg91
 z51:=sizeOf91
 v51:=zeroValue91
 t146:=underlying273
 a146:=isAgg273
 z146:=sizeOf273
 v146:=zeroValue273
 g1:=by kernel_rfl }
theorem Nv (s:ByteArray) (c:UInt8) (w:World) :
 Calls prog 237 #[.string s,.string ⟨#[c]⟩] w fun e a=>e=.returned (.int .i64 (Lib.indexByte s.data.toList c))/\a=w:=Any.strings_Index_one UW s c w
theorem Fe (s:ByteArray) (c:UInt8) (w:World) :
 Calls prog 252 #[.string s,.string ⟨#[c]⟩] w fun e a=>e=.returned (.int .i64 (Lib.countByte s.data.toList c))/\a=w:=Any.strings_Count_one UV s c w
end Go.Proofs.YtmanejniepghlaaGreatDoor
