/-
  The library's strings.CutPrefix, utf8.RuneCountInString, utf8.AppendRune, by the shelf's contracts: the tables of numbers and one application each.
-/
import Derived.Shelf.Small.Wraps
import Derived.Shelf.Utf8.RuneCount
import Derived.Test.YtjfflnnepndlkaaDoorRun2
import Derived.Test.YtjfflnnepndlkaaDoorRun4
namespace Go.Proofs.YtjfflnnepndlkaaDoor
open Go.Shelf Go.RowKit

def lays103_ren : Go.Shelf.Ren := ⟨fun | 103 => 74 | 210 => 87 | 206 => 95 | n => n, fun | 9 => 9 | 4 => 4 | 24 => 91 | 3 => 3 | n => n, fun | n => n⟩
theorem lays103 : Go.Proofs.Lays.n103 Tryd.prog lays103_ren := {
  mixed := by kernel_rfl
  f103 := Tryd.func74.trans (congrArg some (by kernel_rfl))
  f206 := Tryd.func95.trans (congrArg some (by kernel_rfl))
  f210 := Tryd.func87.trans (congrArg some (by kernel_rfl))
  t3 := Tryd.underlying3
  a3 := Tryd.isAgg3
  z3 := Tryd.sizeOf3
  v3 := Tryd.zeroValue3
  t4 := Tryd.underlying4
  a4 := Tryd.isAgg4
  z4 := Tryd.sizeOf4
  v4 := Tryd.zeroValue4
  t9 := Tryd.underlying9
  a9 := Tryd.isAgg9
  z9 := Tryd.sizeOf9
  v9 := Tryd.zeroValue9
  t24 := Tryd.underlying91
  a24 := Tryd.isAgg91
  z24 := Tryd.sizeOf91
  v24 := Tryd.zeroValue91 }
def lays195_ren : Go.Shelf.Ren := ⟨fun | 195 => 120 | n => n, fun | 9 => 9 | 3 => 3 | 0 => 0 | 4 => 4 | n => n, fun | n => n⟩
theorem lays195 : Go.Proofs.Lays.n195 Tryd.prog lays195_ren := {
  mixed := by kernel_rfl
  f195 := Tryd.func120.trans (congrArg some (by kernel_rfl))
  t0 := Tryd.underlying0
  a0 := Tryd.isAgg0
  z0 := Tryd.sizeOf0
  v0 := Tryd.zeroValue0
  t3 := Tryd.underlying3
  a3 := Tryd.isAgg3
  z3 := Tryd.sizeOf3
  v3 := Tryd.zeroValue3
  t4 := Tryd.underlying4
  a4 := Tryd.isAgg4
  z4 := Tryd.sizeOf4
  v4 := Tryd.zeroValue4
  t9 := Tryd.underlying9
  a9 := Tryd.isAgg9
  z9 := Tryd.sizeOf9
  v9 := Tryd.zeroValue9 }
theorem sh_cutPrefix (s p : ByteArray) (w : World) :
    Calls Tryd.prog 74 #[.string s, .string p] w fun e w' => e = .returned (.tuple #[.string ⟨(Lib.trimPrefix s.data.toList p.data.toList).toArray⟩, .bool (Lib.hasPrefix s.data.toList p.data.toList)]) ∧ w' = w := Any.strings_CutPrefix lays103 s p w
theorem sh_runeCount (s : ByteArray) (w : World) (hs : s.size < 9223372036854775807) :
    Calls Tryd.prog 120 #[.string s] w fun e w' => e = .returned (.int .i64 ((Lab.runes s.data.toList).length : Int)) ∧ Below w.heap.size w w' := by
  refine (Any.utf8_RuneCountInString lays195 s w hs).mono ?_
  rintro e w' ⟨rfl, pos, rfl⟩
  rw [Lab.count_eq]
  exact ⟨rfl, (Below.refl _ _).alloc (Nat.le_refl _) _⟩

end Go.Proofs.YtjfflnnepndlkaaDoor
