/-
  The law SectorNone walked.
-/
import Derived.Test.YtedmnbmfbgenjaaSecAt
import Derived.Test.YtedmnbmfbgenjaaOpen
namespace Go.Proofs.Ytedmnbmfbgenjaa
open Go.RowKit

theorem sd_dirty_nil (w : World) : Calls Try.prog 43 #[.pointer none] w fun e w' => e = .returned (.slice none 0 0) ∧ w = w' := by
  go_enter Try.func43, Try.ntmps43
  go_wp2
  go_ret
  exact ⟨rfl, rfl⟩

set_option maxRecDepth 100000 in
set_option maxHeartbeats 4000000 in
theorem none5_law (i : Int) (a : Option Addr) (n c : Nat) (l : List UInt8) (b : Option Addr) (m d : Nat) (fs : List (Int × Int)) (w : World) (_hi : (Lit.int .i64 i).wf = true) (h : SlB w a n c l) (hf : SlP w b m d fs) :
    Calls Try.prog 8 #[.int .i64 i, .slice a n c, .slice b m d] w fun e w' => e = .returned (.bool true) ∧ Below w.heap.size w w' := by
  have hle := h.le
  have hle' := hf.le
  clear h hf
  have HA := Lib.hid (law5_awake w)
  by_cases hn : 200 < n
  · go_enter Try.func8, Try.ntmps8
    go_wp2_with fail
    refine HA.out.mono ?_; rintro e w1 ⟨rfl, hB⟩
    go_wp2_with fail
    go_ret
    exact ⟨rfl, hB⟩
  by_cases hm : 100 < m
  · go_enter Try.func8, Try.ntmps8
    go_wp2_with fail
    refine HA.out.mono ?_; rintro e w1 ⟨rfl, hB⟩
    go_wp2_with fail
    go_ret
    exact ⟨rfl, hB⟩
  have HW := Lib.hid (fun W => law5_awake W)
  go_enter Try.func8, Try.ntmps8
  go_wp2_with (first | (go_at_call 38; refine (sd_cut_nil _).mono ?_; rintro e w1 ⟨rfl, rfl⟩) | (go_at_call 40; refine (sd_restart_nil _ _ _ _).mono ?_; rintro e w1 ⟨rfl, rfl⟩) | (go_at_call 17; refine (sd_read_nil _ _).mono ?_; rintro e w1 ⟨rfl, rfl⟩) | (go_at_call 46; refine (sd_sectors_nil _).mono ?_; rintro e w1 ⟨rfl, rfl⟩) | (go_at_call 19; refine (sd_image_nil _).mono ?_; rintro e w1 ⟨rfl, rfl⟩) | (go_at_call 43; refine (sd_dirty_nil _).mono ?_; rintro e w1 ⟨rfl, rfl⟩) | (go_at_call 44; refine (sd_off_nil _).mono ?_; rintro e w1 ⟨rfl, rfl⟩) | (go_at_call 15; refine (sd_write_nil _ _ _ _ _).mono ?_; rintro e w1 ⟨rfl, rfl⟩) | (go_at_call 34; refine (sd_sync_nil _).mono ?_; rintro e w1 ⟨rfl, rfl⟩) | (go_at_call 36; refine (sd_arm_nil _ _ _ _).mono ?_; rintro e w1 ⟨rfl, rfl⟩) | (go_at_call 20; refine (HW.out _).mono ?_; rintro e w1 ⟨rfl, hB⟩))
  go_ret
  exact ⟨rfl, ((Below.refl _ w).alloc (Nat.le_refl _) _).trans (Below.mono hB (by simp))⟩

end Go.Proofs.Ytedmnbmfbgenjaa
