/-
  The library's strings.LastIndexByte, bytealg.LastIndexByteString and slices.Insert at ints, by the shelf's contracts: the tables of numbers and one application each.
-/
import Derived.Shelf.Strings.LastIndex
import Derived.Shelf.Spec.SlicesInsertGrow
import Derived.Test.YtjfflnnepndlkaaDoorRun2
namespace Go.Proofs.YtjfflnnepndlkaaDoor
open Go.Shelf

def lays222_ren : Go.Shelf.Ren := ⟨fun | 222 => 65 | n => n, fun | 9 => 9 | 5 => 5 | 3 => 3 | 4 => 4 | n => n, fun | n => n⟩
theorem lays222 : Go.Proofs.Lays.n222 Tryd.prog lays222_ren := {
  mixed := by kernel_rfl
  f222 := Tryd.func65.trans (congrArg some (by kernel_rfl))
  t3 := Tryd.underlying3
  a3 := Tryd.isAgg3
  z3 := Tryd.sizeOf3
  v3 := Tryd.zeroValue3
  t4 := Tryd.underlying4
  a4 := Tryd.isAgg4
  z4 := Tryd.sizeOf4
  v4 := Tryd.zeroValue4
  t5 := Tryd.underlying5
  a5 := Tryd.isAgg5
  z5 := Tryd.sizeOf5
  v5 := Tryd.zeroValue5
  t9 := Tryd.underlying9
  a9 := Tryd.isAgg9
  z9 := Tryd.sizeOf9
  v9 := Tryd.zeroValue9 }
def lays149_ren : Go.Shelf.Ren := ⟨fun | 149 => 50 | 222 => 65 | n => n, fun | 9 => 9 | 5 => 5 | 3 => 3 | 4 => 4 | n => n, fun | n => n⟩
theorem lays149 : Go.Proofs.Lays.n149 Tryd.prog lays149_ren := {
  mixed := by kernel_rfl
  f149 := Tryd.func50.trans (congrArg some (by kernel_rfl))
  f222 := Tryd.func65.trans (congrArg some (by kernel_rfl))
  t3 := Tryd.underlying3
  a3 := Tryd.isAgg3
  z3 := Tryd.sizeOf3
  v3 := Tryd.zeroValue3
  t4 := Tryd.underlying4
  a4 := Tryd.isAgg4
  z4 := Tryd.sizeOf4
  v4 := Tryd.zeroValue4
  t5 := Tryd.underlying5
  a5 := Tryd.isAgg5
  z5 := Tryd.sizeOf5
  v5 := Tryd.zeroValue5
  t9 := Tryd.underlying9
  a9 := Tryd.isAgg9
  z9 := Tryd.sizeOf9
  v9 := Tryd.zeroValue9 }
theorem sh_lastIndexByte (s : ByteArray) (c : Int) (hs : s.size < 4611686018427387904) (w : World) :
    Calls Tryd.prog 50 #[.string s, .int .u8 c] w fun e w' => e = .returned (.int .i64 (Lib.lastIndexByte s c)) ∧ w' = w := Any.strings_LastIndexByte lays149 s c hs w
def laysNm221_ren : Go.Shelf.Ren := ⟨fun | 21 => 112 | 27 => 125 | 28 => 126 | 35 => 128 | 39 => 129 | n => n, fun | 22 => 102 | 3 => 3 | 4 => 4 | 0 => 0 | n => n, fun | n => n⟩
theorem laysNm221 : Go.Proofs.Lays2.n21 Tryd.prog laysNm221_ren := {
  mixed := by kernel_rfl
  f21 := Tryd.func112.trans (congrArg some (by kernel_rfl))
  f27 := Tryd.func125.trans (congrArg some (by kernel_rfl))
  f28 := Tryd.func126.trans (congrArg some (by kernel_rfl))
  f35 := Tryd.func128.trans (congrArg some (by kernel_rfl))
  f39 := Tryd.func129.trans (congrArg some (by kernel_rfl))
  t0 := Tryd.underlying0
  a0 := Tryd.isAgg0
  z0 := Tryd.sizeOf0
  v0 := Tryd.zeroValue0
  t3 := Tryd.underlying3
  a3 := Tryd.isAgg3
  z3 := Tryd.sizeOf3
  v3 := Tryd.zeroValue3
  t4 := Tryd.underlying4
  a4 := Tryd.isAgg4
  z4 := Tryd.sizeOf4
  v4 := Tryd.zeroValue4
  t22 := Tryd.underlying102
  a22 := Tryd.isAgg102
  z22 := Tryd.sizeOf102
  v22 := Tryd.zeroValue102
  i3 := by kernel_rfl }

end Go.Proofs.YtjfflnnepndlkaaDoor
