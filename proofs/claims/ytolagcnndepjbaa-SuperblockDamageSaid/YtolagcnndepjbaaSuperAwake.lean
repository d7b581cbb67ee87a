/-
  The walk through awake of the statements on superblocks.
-/
import Derived.Test.YtolagcnndepjbaaSuperChoose
import Derived.OwnWalk
namespace Go.Proofs.Ytolagcnndepjbaa
open Go.RowKit

def s0 : Super.S := ⟨5, 1, 2, 3, 4⟩
theorem s0_valid : Super.valid s0 = true := by decide
theorem s0_fits : s0.fits := by unfold Super.S.fits s0; decide
theorem zero64 : Super.dec (List.replicate 64 0) = (Super.zero, 7) := by decide +kernel
theorem choose0 : Super.choose [] (Super.enc s0) = (1, s0, 0) := by
  have h1 : Super.dec [] = (Super.zero, 5) := by decide +kernel
  unfold Super.choose
  rw [h1, Super.dec_enc s0 s0_valid s0_fits]
  rfl

set_option maxHeartbeats 2000000 in
set_option maxRecDepth 100000 in
theorem sb_awake (w : World) : Calls Try.prog 13 #[] w fun e w' => e = .returned (.bool true) ∧ Below w.heap.size w w' := by
  have he := sb_encode s0 s0_fits
  have hd : ∀ (a : Option Addr) (n c : Nat) (w : World), SlB w a n c (Super.enc s0) → Calls Try.prog 16 #[.slice a n c] w fun e w' => e = .returned (.tuple #[sv s0, .int .i64 0]) ∧ Below w.heap.size w w' := by
    intro a n c w h
    have := sb_decode a n c _ w h
    unfold DecPost at this
    rw [Super.dec_enc s0 s0_valid s0_fits] at this; exact this
  have hz : ∀ (a : Option Addr) (n c : Nat) (w : World), SlB w a n c (List.replicate 64 0) → Calls Try.prog 16 #[.slice a n c] w fun e w' => e = .returned (.tuple #[sv Super.zero, .int .i64 7]) ∧ Below w.heap.size w w' := by
    intro a n c w h
    have := sb_decode a n c _ w h
    unfold DecPost at this
    rw [zero64] at this; exact this
  have hc : ∀ (b : Option Addr) (m d : Nat) (w : World), SlB w b m d (Super.enc s0) → Calls Try.prog 23 #[.slice none 0 0, .slice b m d] w fun e w' => e = .returned (.tuple #[.int .i64 1, sv s0, .int .i64 0]) ∧ Below w.heap.size w w' := by
    intro b m d w h
    have := sb_choose none b 0 m 0 d [] _ w ⟨rfl, Nat.le_refl _, by unfold maxLen; omega, fun _ => ⟨rfl, rfl⟩, fun x hx => by cases hx⟩ h
    unfold ChoosePost at this
    rw [choose0] at this; exact this
  have hl := Super.enc_length s0
  unfold EncPost at he
  rw [s0_valid] at he
  simp only [if_true] at he
  generalize Super.enc s0 = B at *
  unfold sv s0 at he
  unfold sv s0 at hd
  unfold sv Super.zero at hz
  unfold sv s0 at hc
  have HE := Lib.hid he; have HD := Lib.hid hd; have HZ := Lib.hid hz; have HC := Lib.hid hc
  have HL := Lib.hid hl
  clear he hd hz hc hl
  obtain ⟨i0, hi, hz0, hz1, hz2⟩ := info_parts info5
  go_enter Try.func13, Try.ntmps13
  go_wp2_with fail
  refine (HE.out _).mono ?_; rintro e w1 ⟨a1, n1, c1, rfl, hs1, hb1, -⟩
  have hn1 : n1 = 64 := hs1.len.symm.trans HL.out
  subst hn1
  go_wp2_with fail
  refine (HD.out _ _ _ _ hs1).mono ?_; rintro e w2 ⟨rfl, hb2⟩
  go_wp2_with (refine wpList_make_full _ rfl _ _ 26 rfl (w2.heap.size + 1) 5 i0 (.int .u8 0) 1 Try.underlying26 hi hz0 hz1 .i64 .i64 64 64 64 rfl rfl rfl rfl (by rw [hz2]; omega) (by unfold maxLen; omega) (by simp) ?_; intro w3 hown hg3)
  rw [show madeCells (Value.int .u8 0).cells (64 * 1) = madeCells #[.int .u8 0] 64 from rfl, toList_madeCells_one, World.size_alloc] at hown
  have hO3 : OwnB (w2.heap.size + 1) w3 (.slice (some ⟨w2.heap.size + 1, 0, none⟩) 64 64) (List.replicate 64 0) := by
    unfold OwnB
    rw [List.length_replicate, List.map_replicate]; exact hown
  have hw2 := hb1.trans (hb2.mono hb1.size)
  have hP2 : SBox (w2.alloc (.cells #[.int .u64 5, .int .i64 1, .int .u32 2, .int .i64 3, .int .u32 4] 25)) w2.heap.size s0 := heap_alloc_eq _ _ _ rfl
  have he3 : Below (w2.alloc (.cells #[.int .u64 5, .int .i64 1, .int .u32 2, .int .i64 3, .int .u32 4] 25)).heap.size _ w3 := (Below.refl _ _).grown hg3 (Nat.le_refl _) (fun k hk => by cases hk)
  have hP3 : SBox w3 w2.heap.size s0 := (he3.block _ (by simp)).trans hP2
  have hw3 := (hw2.alloc hw2.size _).trans (he3.mono (by simp; exact Nat.le_succ_of_le hw2.size))
  have hs3 : SlB w3 a1 64 c1 B := (hs1.ext hb2).ext (((Below.refl _ _).alloc (Nat.le_refl _) _).trans (he3.mono (by simp)))
  obtain ⟨a3, c3, e3, hsz3, -⟩ := hO3.sl
  rw [List.length_replicate] at e3 hsz3
  injection e3 with e31 e32 e33
  subst e31; subst e33
  clear hown hg3 e32 hP2 he3 hO3 hs1
  go_wp2_with fail
  refine (HZ.out _ _ _ _ hsz3).mono ?_; rintro e w4 ⟨rfl, hb4⟩
  have hs4 := hs3.ext hb4
  have hP4 : SBox w4 w2.heap.size s0 := (hb4.block _ (heap_lt hP3)).trans hP3
  have hw4 := hw3.trans (hb4.mono hw3.size)
  clear hs3 hP3 hw3 hsz3
  go_wp2_with fail
  have hs5 := hs4.ext ((Below.refl w4.heap.size w4).alloc (Nat.le_refl _) (.cells #[.int .u64 0, .int .i64 0, .int .u32 0, .int .i64 0, .int .u32 0] 25))
  refine (HC.out _ _ _ _ hs5).mono ?_; rintro e w6 ⟨rfl, hb6⟩
  have hb46 : Below w4.heap.size w4 w6 := ((Below.refl _ _).alloc (Nat.le_refl _) _).trans (hb6.mono (by simp))
  have hP6 : SBox w6 w2.heap.size s0 := (hb46.block _ (heap_lt hP4)).trans hP4
  have hw6 := hw4.trans (hb46.mono hw4.size)
  obtain ⟨q0, q1, q2, q3, q4⟩ := hP6.cells
  have hlt6 := heap_lt hP6
  unfold s0 at q0 q1 q2 q3 q4
  simp only at q0 q1 q2 q3 q4
  clear hs4 hs5 hP4
  go_wp2
  go_ret
  exact ⟨rfl, hw6.alloc hw6.size _⟩

end Go.Proofs.Ytolagcnndepjbaa
