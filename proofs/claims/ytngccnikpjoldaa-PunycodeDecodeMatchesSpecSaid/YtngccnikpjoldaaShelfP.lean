/-
  The library's strings.LastIndexByte, bytealg.LastIndexByteString and slices.Insert at ints, by the shelf's contracts: the tables of numbers and one application each.
-/
import Derived.Shelf.Strings.LastIndex
import Derived.Shelf.Spec.SlicesInsertGrow
import Derived.Test.YtngccnikpjoldaaInts
namespace Go.Proofs.Ytngccnikpjoldaa
open Go.Shelf

def lays222_ren : Go.Shelf.Ren := ⟨fun | 222 => 26 | n => n, fun | 9 => 9 | 5 => 5 | 3 => 3 | 4 => 4 | n => n, fun | n => n⟩
theorem lays222 : Go.Proofs.Lays.n222 Try.prog lays222_ren := {
  mixed := by kernel_rfl
  f222 := Try.func26.trans (congrArg some (by kernel_rfl))
  t3 := Try.underlying3
  a3 := Try.isAgg3
  z3 := Try.sizeOf3
  v3 := Try.zeroValue3
  t4 := Try.underlying4
  a4 := Try.isAgg4
  z4 := Try.sizeOf4
  v4 := Try.zeroValue4
  t5 := Try.underlying5
  a5 := Try.isAgg5
  z5 := Try.sizeOf5
  v5 := Try.zeroValue5
  t9 := Try.underlying9
  a9 := Try.isAgg9
  z9 := Try.sizeOf9
  v9 := Try.zeroValue9 }
def lays149_ren : Go.Shelf.Ren := ⟨fun | 149 => 21 | 222 => 26 | n => n, fun | 9 => 9 | 5 => 5 | 3 => 3 | 4 => 4 | n => n, fun | n => n⟩
theorem lays149 : Go.Proofs.Lays.n149 Try.prog lays149_ren := {
  mixed := by kernel_rfl
  f149 := Try.func21.trans (congrArg some (by kernel_rfl))
  f222 := Try.func26.trans (congrArg some (by kernel_rfl))
  t3 := Try.underlying3
  a3 := Try.isAgg3
  z3 := Try.sizeOf3
  v3 := Try.zeroValue3
  t4 := Try.underlying4
  a4 := Try.isAgg4
  z4 := Try.sizeOf4
  v4 := Try.zeroValue4
  t5 := Try.underlying5
  a5 := Try.isAgg5
  z5 := Try.sizeOf5
  v5 := Try.zeroValue5
  t9 := Try.underlying9
  a9 := Try.isAgg9
  z9 := Try.sizeOf9
  v9 := Try.zeroValue9 }
theorem sh_lastIndexByte (s : ByteArray) (c : Int) (hs : s.size < 4611686018427387904) (w : World) :
    Calls Try.prog 21 #[.string s, .int .u8 c] w fun e w' => e = .returned (.int .i64 (Lib.lastIndexByte s c)) ∧ w' = w := Any.strings_LastIndexByte lays149 s c hs w
def laysNm221_ren : Go.Shelf.Ren := ⟨fun | 21 => 28 | 27 => 31 | 28 => 32 | 35 => 33 | 39 => 34 | n => n, fun | 22 => 22 | 3 => 3 | 4 => 4 | 0 => 0 | n => n, fun | n => n⟩
theorem laysNm221 : Go.Proofs.Lays2.n21 Try.prog laysNm221_ren := {
  mixed := by kernel_rfl
  f21 := Try.func28.trans (congrArg some (by kernel_rfl))
  f27 := Try.func31.trans (congrArg some (by kernel_rfl))
  f28 := Try.func32.trans (congrArg some (by kernel_rfl))
  f35 := Try.func33.trans (congrArg some (by kernel_rfl))
  f39 := Try.func34.trans (congrArg some (by kernel_rfl))
  t0 := Try.underlying0
  a0 := Try.isAgg0
  z0 := Try.sizeOf0
  v0 := Try.zeroValue0
  t3 := Try.underlying3
  a3 := Try.isAgg3
  z3 := Try.sizeOf3
  v3 := Try.zeroValue3
  t4 := Try.underlying4
  a4 := Try.isAgg4
  z4 := Try.sizeOf4
  v4 := Try.zeroValue4
  t22 := Try.underlying22
  a22 := Try.isAgg22
  z22 := Try.sizeOf22
  v22 := Try.zeroValue22
  i3 := by kernel_rfl }

end Go.Proofs.Ytngccnikpjoldaa
