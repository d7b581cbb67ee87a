/-
  The walks of the statements CrcMatchesSpec and CrcCombineMatchesSpec.
-/
import Derived.Test.YtfcdjpbljggjiaaCrcLaw
namespace Go.Proofs.Ytfcdjpbljggjiaa
open Go.RowKit

theorem wf_u32 {x : Int} (h : (Lit.int .u32 x).wf = true) : 0 ≤ x ∧ x < 4294967296 := by
  simp [Lit.wf, IntKind.min, IntKind.max, IntKind.signed, IntKind.bits] at h; omega
theorem wf_i64 {x : Int} (h : (Lit.int .i64 x).wf = true) : -9223372036854775808 ≤ x ∧ x ≤ 9223372036854775807 := by
  simp [Lit.wf, IntKind.min, IntKind.max, IntKind.signed, IntKind.bits] at h; omega

set_option maxRecDepth 100000 in
theorem matches_law (a : Option Addr) (n c : Nat) (l : List UInt8) (s : Int) (w : World) (h : SlB w a n c l) (hs : (Lit.int .u32 s).wf = true) :
    Calls Try.prog 3 #[.slice a n c, .int .u32 s] w fun e w' => e = .returned (.bool true) ∧ Below w.heap.size w w' := by
  obtain ⟨h0, h1⟩ := wf_u32 hs
  obtain ⟨s, rfl⟩ := Int.eq_ofNat_of_zero_le h0
  clear hs h0
  have hle := h.le
  by_cases hn : 4096 < n
  · have ht : (4096 : Int) < (n : Int) := by omega
    go_enter Try.func3, Try.ntmps3
    go_wp2_with (go_at_call 9; refine (awake_any _).mono ?_; rintro e w' ⟨rfl, hb⟩)
    go_ret
    exact ⟨rfl, hb⟩
  · have ht : ¬ (4096 : Int) < (n : Int) := by omega
    go_enter Try.func3, Try.ntmps3
    go_wp2_with fail
    refine (keep_own a n c l _ h (by omega)).mono ?_; rintro e w1 ⟨v, rfl, hown, hb⟩
    obtain ⟨a1, c1, rfl, hs1, -⟩ := hown.sl
    have hl := h.len
    rw [hl] at hs1
    rw [hl]
    have h2 := h.ext hb
    clear hown hl
    go_wp2_with (first | (go_at_call 11; refine (crc_sum _ _ _ l _ hs1).mono ?_; rintro e w' ⟨rfl, rfl⟩) | (go_at_call 12; refine (ref_sum _ _ _ l _ h2).mono ?_; rintro e w' ⟨rfl, rfl⟩) | (go_at_call 13; refine (crc_update s (by omega) _ _ _ l _ hs1).mono ?_; rintro e w' ⟨rfl, rfl⟩) | (go_at_call 14; refine (ref_update s (by omega) _ _ _ l _ h2).mono ?_; rintro e w' ⟨rfl, rfl⟩) | (go_at_call 15; refine (keep_bytes _ _ _ _ _ _ l l _ hs1 h2).mono ?_; rintro e w' ⟨rfl, rfl⟩) | (go_at_call 9; refine (awake_any _).mono ?_; rintro e w' ⟨rfl, hb2⟩))
    go_ret
    exact ⟨rfl, hb.trans (hb2.mono hb.size)⟩

set_option maxRecDepth 100000 in
theorem combine_law (a b n : Int) (w : World) (ha : (Lit.int .u32 a).wf = true) (hb : (Lit.int .u32 b).wf = true) (hn : (Lit.int .i64 n).wf = true) :
    Calls Try.prog 4 #[.int .u32 a, .int .u32 b, .int .i64 n] w fun e w' => e = .returned (.bool true) ∧ Below w.heap.size w w' := by
  obtain ⟨a0, a1⟩ := wf_u32 ha
  obtain ⟨b0, b1⟩ := wf_u32 hb
  obtain ⟨n0, n1⟩ := wf_i64 hn
  obtain ⟨a, rfl⟩ := Int.eq_ofNat_of_zero_le a0
  obtain ⟨b, rfl⟩ := Int.eq_ofNat_of_zero_le b0
  clear ha hb hn a0 b0
  go_enter Try.func4, Try.ntmps4
  go_wp2_with (first | (go_at_call 16; refine (crc_combine a b n (by omega) (by omega) n1 _).mono ?_; rintro e w1 ⟨rfl, hb1⟩) | (go_at_call 17; refine (ref_combine a b n (by omega) (by omega) n1 _).mono ?_; rintro e w2 ⟨rfl, hb2⟩) | (go_at_call 9; refine (awake_any _).mono ?_; rintro e w3 ⟨rfl, hb3⟩))
  go_ret
  exact ⟨rfl, (hb1.trans (hb2.mono hb1.size)).trans (hb3.mono (Nat.le_trans hb1.size hb2.size))⟩

end Go.Proofs.Ytfcdjpbljggjiaa
