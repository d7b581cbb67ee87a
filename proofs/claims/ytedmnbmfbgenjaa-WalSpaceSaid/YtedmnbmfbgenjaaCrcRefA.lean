/-
  The walks through crc.Sum and the reference's step, Update and Sum.
-/
import Derived.Test.YtedmnbmfbgenjaaCrc
namespace Go.Proofs.Ytedmnbmfbgenjaa
open Go.RowKit

theorem crc_sum (a : Option Addr) (n c : Nat) (l : List UInt8) (w : World) (h : SlB w a n c l) :
    Calls Try.prog 87 #[.slice a n c] w fun e w' => e = .returned (.int .u32 (Crc.update 0 l)) ∧ w = w' := by
  go_enter Try.func87, Try.ntmps87
  go_wp2_with (go_at_call 94; refine (crc_update 0 (by decide) a n c l _ h).mono ?_; rintro e w' ⟨rfl, rfl⟩)
  go_ret
  exact ⟨rfl, rfl⟩




end Go.Proofs.Ytedmnbmfbgenjaa
