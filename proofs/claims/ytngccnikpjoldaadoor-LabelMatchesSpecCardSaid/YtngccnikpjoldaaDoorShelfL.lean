/-
  The library's strings.CutPrefix, utf8.RuneCountInString, utf8.AppendRune, by the shelf's contracts: the tables of numbers and one application each.
-/
import Derived.Shelf.Small.Wraps
import Derived.Shelf.Utf8.RuneCount
import Derived.Shelf.Utf8.AppendRunePlain
import Derived.Test.YtngccnikpjoldaaDoorInts
import Derived.Test.YtngccnikpjoldaaDoorLabPlain
namespace Go.Proofs.YtngccnikpjoldaaDoor
open Go.Shelf Go.RowKit

def lays103_ren : Go.Shelf.Ren := ⟨fun | 103 => 22 | 210 => 37 | 206 => 44 | n => n, fun | 9 => 9 | 4 => 4 | 24 => 35 | 3 => 3 | n => n, fun | n => n⟩
theorem lays103 : Go.Proofs.Lays.n103 Tryd.prog lays103_ren := {
  mixed := by kernel_rfl
  f103 := Tryd.func22.trans (congrArg some (by kernel_rfl))
  f206 := Tryd.func44.trans (congrArg some (by kernel_rfl))
  f210 := Tryd.func37.trans (congrArg some (by kernel_rfl))
  t3 := Tryd.underlying3
  a3 := Tryd.isAgg3
  z3 := Tryd.sizeOf3
  v3 := Tryd.zeroValue3
  t4 := Tryd.underlying4
  a4 := Tryd.isAgg4
  z4 := Tryd.sizeOf4
  v4 := Tryd.zeroValue4
  t9 := Tryd.underlying9
  a9 := Tryd.isAgg9
  z9 := Tryd.sizeOf9
  v9 := Tryd.zeroValue9
  t24 := Tryd.underlying35
  a24 := Tryd.isAgg35
  z24 := Tryd.sizeOf35
  v24 := Tryd.zeroValue35 }
def lays195_ren : Go.Shelf.Ren := ⟨fun | 195 => 17 | n => n, fun | 9 => 9 | 3 => 3 | 0 => 0 | 4 => 4 | n => n, fun | n => n⟩
theorem lays195 : Go.Proofs.Lays.n195 Tryd.prog lays195_ren := {
  mixed := by kernel_rfl
  f195 := Tryd.func17.trans (congrArg some (by kernel_rfl))
  t0 := Tryd.underlying0
  a0 := Tryd.isAgg0
  z0 := Tryd.sizeOf0
  v0 := Tryd.zeroValue0
  t3 := Tryd.underlying3
  a3 := Tryd.isAgg3
  z3 := Tryd.sizeOf3
  v3 := Tryd.zeroValue3
  t4 := Tryd.underlying4
  a4 := Tryd.isAgg4
  z4 := Tryd.sizeOf4
  v4 := Tryd.zeroValue4
  t9 := Tryd.underlying9
  a9 := Tryd.isAgg9
  z9 := Tryd.sizeOf9
  v9 := Tryd.zeroValue9 }
def lays242_ren : Go.Shelf.Ren := ⟨fun | 242 => 24 | 278 => 40 | n => n, fun | 37 => 39 | 21 => 21 | 51 => 59 | 4 => 4 | 5 => 5 | 46 => 48 | n => n, fun | n => n⟩
theorem lays242 : Go.Proofs.Lays.n242 Tryd.prog lays242_ren := {
  mixed := by kernel_rfl
  f242 := Tryd.func24.trans (congrArg some (by kernel_rfl))
  f278 := Tryd.func40.trans (congrArg some (by kernel_rfl))
  t4 := Tryd.underlying4
  a4 := Tryd.isAgg4
  z4 := Tryd.sizeOf4
  v4 := Tryd.zeroValue4
  t5 := Tryd.underlying5
  a5 := Tryd.isAgg5
  z5 := Tryd.sizeOf5
  v5 := Tryd.zeroValue5
  t21 := Tryd.underlying21
  a21 := Tryd.isAgg21
  z21 := Tryd.sizeOf21
  v21 := Tryd.zeroValue21
  t37 := Tryd.underlying39
  a37 := Tryd.isAgg39
  z37 := Tryd.sizeOf39
  v37 := Tryd.zeroValue39
  t46 := Tryd.underlying48
  a46 := Tryd.isAgg48
  z46 := Tryd.sizeOf48
  v46 := Tryd.zeroValue48
  t51 := Tryd.underlying59
  a51 := Tryd.isAgg59
  z51 := Tryd.sizeOf59
  v51 := Tryd.zeroValue59 }
theorem sh_cutPrefix (s p : ByteArray) (w : World) :
    Calls Tryd.prog 22 #[.string s, .string p] w fun e w' => e = .returned (.tuple #[.string ⟨(Lib.trimPrefix s.data.toList p.data.toList).toArray⟩, .bool (Lib.hasPrefix s.data.toList p.data.toList)]) ∧ w' = w := Any.strings_CutPrefix lays103 s p w
theorem sh_runeCount (s : ByteArray) (w : World) (hs : s.size < 9223372036854775807) :
    Calls Tryd.prog 17 #[.string s] w fun e w' => e = .returned (.int .i64 ((Lab.runes s.data.toList).length : Int)) ∧ Below w.heap.size w w' := by
  refine (Any.utf8_RuneCountInString lays195 s w hs).mono ?_
  rintro e w' ⟨rfl, pos, rfl⟩
  rw [Lab.count_eq]
  exact ⟨rfl, (Below.refl _ _).alloc (Nat.le_refl _) _⟩
theorem sh_appendRune (B : Nat) (v : Value) (l : List UInt8) (r : Int) (hr0 : -2147483648 ≤ r) (hr1 : r ≤ 2147483647) (w : World) (hown : OwnB B w v l) (hlen : l.length + 4 ≤ 140737488355328) (hBw : B ≤ w.heap.size) :
    Calls Tryd.prog 24 #[v, .int .i32 r] w fun e w' => ∃ v', e = .returned v' ∧ OwnB B w' v' (l ++ Lib.encodeRune r) ∧ ∃ o, (w.alloc o).grownBy w' v.ownBlock := by
  refine (Any.utf8_AppendRune_plain lays242 info5 B v l.length (l.map bv) r hr0 hr1 w hown hlen hBw).mono ?_
  rintro e w' ⟨v', rfl, hO, hg⟩
  refine ⟨v', rfl, ?_, hg⟩
  have hc : Lib.runeCells r = (Lib.encodeRune r).map bv := by
    unfold Lib.runeCells Lib.encodeRune bv
    rw [List.map_map]
    apply List.map_congr_left
    intro z hz
    have := Lib.encodeRuneZ_byte r z hz
    simp only [Function.comp]
    rw [Lab.byte_nat z this.1 this.2, Int.toNat_of_nonneg this.1]
  rw [hc, List.length_map] at hO
  unfold OwnB
  rw [List.length_append, List.map_append]
  exact hO

end Go.Proofs.YtngccnikpjoldaaDoor
