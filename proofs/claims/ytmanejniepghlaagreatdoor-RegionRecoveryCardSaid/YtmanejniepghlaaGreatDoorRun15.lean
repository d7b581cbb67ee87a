import Derived.Shelf.Strings.Search3
import Derived.Shelf.Strings.Count
import Derived.Test.YtmanejniepghlaaGreatDoorRun0
namespace Go.Proofs.YtmanejniepghlaaGreatDoor
def lays143_ren:Go.Shelf.Ren:=⟨fun|143=>237|217=>253|219=>246|224=>255|225=>254|266=>263|267=>256|314=>264|n=>n,fun|3=>3|4=>4|5=>5|9=>9|46=>187|51=>91|146=>273|n=>n,fun|1=>0|n=>n⟩
theorem lays143:Go.Proofs.Lays.n143 Tryz.prog lays143_ren:={
 mixed:=by kernel_rfl
 f143:=Tryz.func237.trans (congrArg some (by kernel_rfl))
 f217:=Tryz.func253.trans (congrArg some (by kernel_rfl))
 f219:=Tryz.func246.trans (congrArg some (by kernel_rfl))
 f224:=Tryz.func255.trans (congrArg some (by kernel_rfl))
 f225:=Tryz.func254.trans (congrArg some (by kernel_rfl))
 f266:=Tryz.func263.trans (congrArg some (by kernel_rfl))
 f267:=Tryz.func256.trans (congrArg some (by kernel_rfl))
 f314:=Tryz.func264.trans (congrArg some (by kernel_rfl))
 t3:=Tryz.underlying3
 a3:=Tryz.isAgg3
 z3:=Tryz.sizeOf3
 v3:=Tryz.zeroValue3
 t4:=Tryz.underlying4
 a4:=Tryz.isAgg4
 z4:=Tryz.sizeOf4
 v4:=Tryz.zeroValue4
 t5:=Tryz.underlying5
 a5:=Tryz.isAgg5
 z5:=Tryz.sizeOf5
 v5:=Tryz.zeroValue5
 t9:=Tryz.underlying9
 a9:=Tryz.isAgg9
 z9:=Tryz.sizeOf9
 v9:=Tryz.zeroValue9
 t46:=Tryz.underlying187
 a46:=Tryz.isAgg187
 z46:=Tryz.sizeOf187
 v46:=Tryz.zeroValue187
 t51:=Tryz.underlying91
 a51:=Tryz.isAgg91
 z51:=Tryz.sizeOf91
 v51:=Tryz.zeroValue91
 t146:=Tryz.underlying273
 a146:=Tryz.isAgg273
 z146:=Tryz.sizeOf273
 v146:=Tryz.zeroValue273
 g1:=by kernel_rfl }
def lays138_ren:Go.Shelf.Ren:=⟨fun|138=>252|143=>237|195=>261|218=>262|217=>253|219=>246|224=>255|225=>254|266=>263|267=>256|314=>264|n=>n,fun|0=>0|3=>3|4=>4|5=>5|9=>9|46=>187|51=>91|146=>273|n=>n,fun|1=>0|n=>n⟩
theorem lays138:Go.Proofs.Lays.n138 Tryz.prog lays138_ren:={
 mixed:=by kernel_rfl
 f138:=Tryz.func252.trans (congrArg some (by kernel_rfl))
 f143:=Tryz.func237.trans (congrArg some (by kernel_rfl))
 f195:=Tryz.func261.trans (congrArg some (by kernel_rfl))
 f217:=Tryz.func253.trans (congrArg some (by kernel_rfl))
 f218:=Tryz.func262.trans (congrArg some (by kernel_rfl))
 f219:=Tryz.func246.trans (congrArg some (by kernel_rfl))
 f224:=Tryz.func255.trans (congrArg some (by kernel_rfl))
 f225:=Tryz.func254.trans (congrArg some (by kernel_rfl))
 f266:=Tryz.func263.trans (congrArg some (by kernel_rfl))
 f267:=Tryz.func256.trans (congrArg some (by kernel_rfl))
 f314:=Tryz.func264.trans (congrArg some (by kernel_rfl))
 t0:=Tryz.underlying0
 a0:=Tryz.isAgg0
 z0:=Tryz.sizeOf0
 v0:=Tryz.zeroValue0
 t3:=Tryz.underlying3
 a3:=Tryz.isAgg3
 z3:=Tryz.sizeOf3
 v3:=Tryz.zeroValue3
 t4:=Tryz.underlying4
 a4:=Tryz.isAgg4
 z4:=Tryz.sizeOf4
 v4:=Tryz.zeroValue4
 t5:=Tryz.underlying5
 a5:=Tryz.isAgg5
 z5:=Tryz.sizeOf5
 v5:=Tryz.zeroValue5
 t9:=Tryz.underlying9
 a9:=Tryz.isAgg9
 z9:=Tryz.sizeOf9
 v9:=Tryz.zeroValue9
 t46:=Tryz.underlying187
 a46:=Tryz.isAgg187
 z46:=Tryz.sizeOf187
 v46:=Tryz.zeroValue187
 t51:=Tryz.underlying91
 a51:=Tryz.isAgg91
 z51:=Tryz.sizeOf91
 v51:=Tryz.zeroValue91
 t146:=Tryz.underlying273
 a146:=Tryz.isAgg273
 z146:=Tryz.sizeOf273
 v146:=Tryz.zeroValue273
 g1:=by kernel_rfl }
theorem zl_h (s:ByteArray) (c:UInt8) (w:World) :
 Calls Tryz.prog 237 #[.string s,.string ⟨#[c]⟩] w fun e w'=>e=.returned (.int .i64 (Lib.indexByte s.data.toList c))/\w'=w:=Any.strings_Index_one lays143 s c w
theorem zq_s (s:ByteArray) (c:UInt8) (w:World) :
 Calls Tryz.prog 252 #[.string s,.string ⟨#[c]⟩] w fun e w'=>e=.returned (.int .i64 (Lib.countByte s.data.toList c))/\w'=w:=Any.strings_Count_one lays138 s c w
end Go.Proofs.YtmanejniepghlaaGreatDoor
