/-
  The walk of the statement SuperblockCorrected.
-/
import Derived.Test.YtolagcnndepjbaaSuperL3
import Derived.Test.YtolagcnndepjbaaCopy
import Derived.OwnWalk
namespace Go.Proofs.Ytolagcnndepjbaa
open Go.RowKit

set_option maxHeartbeats 4000000 in
set_option maxRecDepth 100000 in
theorem corrected_law (a : Option Addr) (n c : Nat) (l : List UInt8) (w : World) (h : SlB w a n c l) :
    Calls Try.prog 4 #[.slice a n c] w fun e w' => e = .returned (.bool true) ∧ Below w.heap.size w w' := by
  have hle := h.le
  have hln := h.len
  obtain ⟨i0, hi, hz0, hz1, hz2⟩ := info_parts info5
  go_enter Try.func4, Try.ntmps4
  go_wp2_with (first | (refine wpList_make_full _ rfl _ _ 26 rfl w.heap.size 5 i0 (.int .u8 0) 1 Try.underlying26 hi hz0 hz1 .i64 .i64 60 60 60 rfl rfl rfl rfl (by rw [hz2]; omega) (by unfold maxLen; omega) (by simp) ?_; intro w1 hown hg1; rw [show madeCells (Value.int .u8 0).cells (60 * 1) = madeCells #[.int .u8 0] 60 from rfl, toList_madeCells_one] at hown; have hO1 : OwnB w.heap.size w1 (.slice (some ⟨w.heap.size, 0, none⟩) 60 60) (List.replicate 60 0) := (by unfold OwnB; rw [List.length_replicate, List.map_replicate]; exact hown); have hR1 := hO1.isRow.2; have hb1 : Below w.heap.size w w1 := (Below.refl _ _).grown hg1 (Nat.le_refl _) (fun k hk => by cases hk); have h1 := h.ext hb1) | ((show wpList _ _ _ (Oper.mk (some 11) _ _ _ _ _ :: _) _ _); refine wpList_copy_bytes rfl _ _ rfl w.heap.size 0 60 60 a n c l rfl rfl 5 _ hR1 h1 (by simp; omega) ?_; intro w2 hR2 hbut2))
  have hC : ∃ C : List UInt8, C.length = 60 ∧ C = List.take 0 (List.replicate 60 0) ++ List.take 60 l ++ List.drop (0 + min n 60) (List.replicate 60 0) := ⟨_, by simp; omega, rfl⟩
  obtain ⟨C, hCl, hCe⟩ := hC
  rw [← hCe] at hR2
  clear hCe hown hg1 hO1 hR1
  have hO2 := hR2.own (base := w.heap.size) (Nat.le_refl _) hCl (by unfold maxLen; omega)
  have hw2 : Below w.heap.size w w2 := But.below hb1 hbut2 (Nat.le_refl _) hb1.size
  have hs2 : SlB w2 (some ⟨w.heap.size, 0, none⟩) 60 60 C := by
    have := hR2.slb 0 60 60 (by omega) (Nat.le_refl _) (by unfold maxLen; omega)
    rw [List.drop_zero, List.take_of_length_le (by omega)] at this; exact this
  refine (ref_sum _ _ _ _ _ hs2).mono ?_; rintro e w9 ⟨rfl, rfl⟩
  go_wp2_with fail
  refine (ref_fixed _ (Crc.update_lt 0 C) _).mono ?_; rintro e w3 ⟨a3, rfl, hs3, hb3⟩
  have hO3 := hO2.ext hb3
  have hw3 := hw2.trans (hb3.mono hw2.size)
  have hF : (Crc.fix4 (Crc.update 0 C)).length = 4 := rfl
  clear hO2 hs2 hR2 h1
  generalize Crc.fix4 (Crc.update 0 C) = F at *
  go_wp2_with (at_builtin; refine wpList_append_bytes rfl _ _ rfl w.heap.size _ C rfl hO3 (some a3) 4 4 F rfl hs3 (by omega) hw3.size ?_; intro v w4 hO4 hg4 _)
  replace hg4 : w3.grownBy w4 (some w.heap.size) := hg4
  have hw4 := hw3.grown hg4 hw3.size (fun k hk => by cases hk; exact Nat.le_refl _)
  obtain ⟨a4, c4, e4, hs4, -⟩ := hO4.sl
  obtain rfl := e4
  clear hO3 hO4 hg4 hw3 hs3 hb3 hw2 hbut2 hb1
  have hd1 := fun w h => sb_decode a4 (C ++ F).length c4 (C ++ F) w h
  have hd2 := fun w h => sref_decode a4 (C ++ F).length c4 (C ++ F) w h
  unfold DecPost at hd1 hd2
  generalize Super.dec (C ++ F) = r at *
  generalize (C ++ F) = D at *
  obtain ⟨⟨g2, a2, e2, l2, m2⟩, er2⟩ := r
  unfold sv at hd1 hd2
  simp only at hd1 hd2
  have HD1 := Lib.hid hd1; have HD2 := Lib.hid hd2
  clear hd1 hd2 hCl hF
  refine (HD1.out _ hs4).mono ?_; rintro e w5 ⟨rfl, hb5⟩
  have hs5 := hs4.ext hb5
  have hw5 := hw4.trans (hb5.mono hw4.size)
  clear hs4 hw4
  go_wp2_with fail
  have hs6 := hs5.ext ((Below.refl _ _).alloc (Nat.le_refl _) (.cells #[.int .u64 g2, .int .i64 a2, .int .u32 e2, .int .i64 l2, .int .u32 m2] 25))
  refine (HD2.out _ hs6).mono ?_; rintro e w6 ⟨rfl, hb6⟩
  have hb56 : Below w5.heap.size w5 w6 := ((Below.refl _ _).alloc (Nat.le_refl _) _).trans (hb6.mono (by simp))
  have hT6 : SBox w6 w5.heap.size ⟨g2, a2, e2, l2, m2⟩ := (hb6.block _ (by simp)).trans (heap_alloc_eq _ _ _ rfl)
  have hw6 := hw5.trans (hb56.mono hw5.size)
  clear hs5 hs6 hb6 hw5 hb56 hb5
  have hT7 := hT6.ext ((Ext.refl w6).alloc (.cells #[.int .u64 g2, .int .i64 a2, .int .u32 e2, .int .i64 l2, .int .u32 m2] 25))
  have hU7 : SBox (w6.alloc (.cells #[.int .u64 g2, .int .i64 a2, .int .u32 e2, .int .i64 l2, .int .u32 m2] 25)) w6.heap.size ⟨g2, a2, e2, l2, m2⟩ := heap_alloc_eq _ _ _ rfl
  have hw7 := hw6.alloc hw6.size (.cells #[.int .u64 g2, .int .i64 a2, .int .u32 e2, .int .i64 l2, .int .u32 m2] 25)
  obtain ⟨q0, q1, q2, q3, q4⟩ := hT7.cells
  obtain ⟨r0, r1, r2, r3, r4⟩ := hU7.cells
  simp only at q0 q1 q2 q3 q4 r0 r1 r2 r3 r4
  clear hT7 hU7 hT6
  go_wp2_with (go_at_call 13; refine (sb_awake _).mono ?_; rintro e w8 ⟨rfl, hb8⟩)
  go_ret
  exact ⟨rfl, hw7.trans (hb8.mono hw7.size)⟩

end Go.Proofs.Ytolagcnndepjbaa
