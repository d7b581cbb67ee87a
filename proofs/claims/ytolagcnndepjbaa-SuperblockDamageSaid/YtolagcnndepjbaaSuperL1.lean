/-
  The walks of the statements SuperblockRoundTrip and SuperblockMatchesSpec.
-/
import Derived.Test.YtolagcnndepjbaaSuperOpen
namespace Go.Proofs.Ytolagcnndepjbaa
open Go.RowKit

/-- What is known of a superblock that came in. -/
def SIn (s : Super.S) : Prop := s.fits ∧ (-9223372036854775808 ≤ s.act ∧ s.act ≤ 9223372036854775807) ∧ (-9223372036854775808 ≤ s.len ∧ s.len ≤ 9223372036854775807)

set_option maxHeartbeats 2000000 in
set_option maxRecDepth 100000 in
theorem round_law (s : Super.S) (w : World) (hs : SIn s) : Calls Try.prog 5 #[sv s] w fun e w' => e = .returned (.bool true) ∧ Below w.heap.size w w' := by
  have he := sb_encode s hs.1
  have hv0 := sb_valid s
  unfold EncPost at he
  have hbox : SBox (w.alloc (.cells #[.int .u64 s.gen, .int .i64 s.act, .int .u32 s.epoch, .int .i64 s.len, .int .u32 s.sum] 25)) w.heap.size s := heap_alloc_eq _ _ _ rfl
  have hbw := (Below.refl w.heap.size w).alloc (Nat.le_refl _) (.cells #[.int .u64 s.gen, .int .i64 s.act, .int .u32 s.epoch, .int .i64 s.len, .int .u32 s.sum] 25)
  by_cases hv : Super.valid s = true
  · have hd : ∀ (a : Option Addr) (n c : Nat) (w : World), SlB w a n c (Super.enc s) → Calls Try.prog 16 #[.slice a n c] w fun e w' => e = .returned (.tuple #[sv s, .int .i64 0]) ∧ Below w.heap.size w w' := by
      intro a n c w h
      have := sb_decode a n c _ w h
      unfold DecPost at this
      rw [Super.dec_enc s hv hs.1] at this; exact this
    rw [hv] at he hv0
    simp only [if_true] at he
    have hl := Super.enc_length s
    generalize Super.enc s = B at *
    obtain ⟨gen, act, epoch, len, sum⟩ := s
    unfold sv at he hd hv0 ⊢
    simp only at hbox hbw
    have HE := Lib.hid he; have HD := Lib.hid hd; have HV := Lib.hid hv0; have HB := Lib.hid hbox; have HW := Lib.hid hbw; have HL := Lib.hid hl
    clear he hd hv0 hbox hbw hl hv hs
    go_enter Try.func5, Try.ntmps5
    go_wp2_with fail
    refine (HE.out _).mono ?_; rintro e w1 ⟨a1, n1, c1, rfl, hs1, hb1, -⟩
    have hn1 : n1 = 64 := hs1.len.symm.trans HL.out
    subst hn1
    have hP1 : SBox w1 w.heap.size ⟨gen, act, epoch, len, sum⟩ := (hb1.block _ (heap_lt HB.out)).trans HB.out
    have hw1 := HW.out.trans (hb1.mono (HW.out).size)
    go_wp2_with fail
    refine (HD.out _ _ _ _ hs1).mono ?_; rintro e w2 ⟨rfl, hb2⟩
    have hP2 : SBox w2 w.heap.size ⟨gen, act, epoch, len, sum⟩ := (hb2.block _ (heap_lt hP1)).trans hP1
    have hw2 := hw1.trans (hb2.mono hw1.size)
    obtain ⟨q0, q1, q2, q3, q4⟩ := hP2.cells
    have hlt2 := heap_lt hP2
    simp only at q0 q1 q2 q3 q4
    clear hs1
    go_wp2_with fail
    refine (HV.out _).mono ?_; rintro e w3 ⟨rfl, hb3⟩
    have hT3 : SBox w3 w2.heap.size ⟨gen, act, epoch, len, sum⟩ := (hb3.block _ (by simp)).trans (heap_alloc_eq _ _ _ rfl)
    have hP3 : SBox w3 w.heap.size ⟨gen, act, epoch, len, sum⟩ := (hb3.block _ (by simp; omega)).trans ((heap_alloc_lt _ _ _ hlt2).trans hP2)
    have hw3 := (hw2.alloc hw2.size (.cells #[.int .u64 gen, .int .i64 act, .int .u32 epoch, .int .i64 len, .int .u32 sum] 25)).trans (hb3.mono (by simp; exact Nat.le_succ_of_le hw2.size))
    clear q0 q1 q2 q3 q4 hP2 hlt2
    obtain ⟨q0, q1, q2, q3, q4⟩ := hP3.cells
    obtain ⟨p0, p1, p2, p3, p4⟩ := hT3.cells
    simp only at q0 q1 q2 q3 q4 p0 p1 p2 p3 p4
    go_wp2_with (go_at_call 13; refine (sb_awake _).mono ?_; rintro e w4 ⟨rfl, hb4⟩)
    go_ret
    exact ⟨rfl, hw3.trans (hb4.mono hw3.size)⟩
  · have hv' : Super.valid s = false := by simpa using hv
    rw [hv'] at he hv0
    simp only [Bool.false_eq_true, if_false] at he
    obtain ⟨gen, act, epoch, len, sum⟩ := s
    unfold sv at he hv0 ⊢
    simp only at hbox hbw
    have HE := Lib.hid he; have HV := Lib.hid hv0; have HB := Lib.hid hbox; have HW := Lib.hid hbw
    clear he hv0 hbox hbw hv hs hv'
    go_enter Try.func5, Try.ntmps5
    go_wp2_with fail
    refine (HE.out _).mono ?_; rintro e w1 ⟨a1, n1, c1, rfl, hs1, hb1, -⟩
    have hn1 : n1 = 0 := hs1.len.symm
    subst hn1
    have hP1 : SBox w1 w.heap.size ⟨gen, act, epoch, len, sum⟩ := (hb1.block _ (heap_lt HB.out)).trans HB.out
    have hw1 := HW.out.trans (hb1.mono (HW.out).size)
    obtain ⟨q0, q1, q2, q3, q4⟩ := hP1.cells
    simp only at q0 q1 q2 q3 q4
    go_wp2_with fail
    refine (HV.out _).mono ?_; rintro e w3 ⟨rfl, hb3⟩
    have hw3 := hw1.trans (hb3.mono hw1.size)
    go_wp2_with (go_at_call 13; refine (sb_awake _).mono ?_; rintro e w4 ⟨rfl, hb4⟩)
    go_ret
    exact ⟨rfl, hw3.trans (hb4.mono hw3.size)⟩

end Go.Proofs.Ytolagcnndepjbaa
