/-
  The walks of the statements SuperblockChooseMatchesSpec and SuperblockCorrected.
-/
import Derived.Test.YtolagcnndepjbaaSuperOpen
namespace Go.Proofs.Ytolagcnndepjbaa
open Go.RowKit

set_option maxHeartbeats 2000000 in
set_option maxRecDepth 100000 in
theorem choose_law (a : Option Addr) (n c : Nat) (la : List UInt8) (b : Option Addr) (m d : Nat) (lb : List UInt8) (w : World) (ha : SlB w a n c la) (hb : SlB w b m d lb) :
    Calls Try.prog 6 #[.slice a n c, .slice b m d] w fun e w' => e = .returned (.bool true) ∧ Below w.heap.size w w' := by
  have hla := ha.le
  have hlb := hb.le
  by_cases hn : 200 < n
  · have ht : (200 : Int) < (n : Int) := by omega
    go_enter Try.func6, Try.ntmps6
    go_wp2_with (go_at_call 13; refine (sb_awake _).mono ?_; rintro e w4 ⟨rfl, hb4⟩)
    go_ret
    exact ⟨rfl, hb4⟩
  have ht : ¬ (200 : Int) < (n : Int) := by omega
  by_cases hm : 200 < m
  · have ht2 : (200 : Int) < (m : Int) := by omega
    go_enter Try.func6, Try.ntmps6
    go_wp2_with (go_at_call 13; refine (sb_awake _).mono ?_; rintro e w4 ⟨rfl, hb4⟩)
    go_ret
    exact ⟨rfl, hb4⟩
  have ht2 : ¬ (200 : Int) < (m : Int) := by omega
  have h1 := fun w h k => sb_choose a b n m c d la lb w h k
  have h2 := fun w h k => sref_choose a b n m c d la lb w h k
  unfold ChoosePost at h1 h2
  generalize Super.choose la lb = r at *
  obtain ⟨k, ⟨gen, act, epoch, len, sum⟩, er⟩ := r
  unfold sv at h1 h2
  simp only at h1 h2
  have H1 := Lib.hid h1; have H2 := Lib.hid h2
  clear h1 h2
  go_enter Try.func6, Try.ntmps6
  go_wp2_with fail
  refine (H1.out _ ha hb).mono ?_; rintro e w1 ⟨rfl, hb1⟩
  go_wp2_with fail
  have hc1 := hb1.alloc hb1.size (.cells #[.int .u64 gen, .int .i64 act, .int .u32 epoch, .int .i64 len, .int .u32 sum] 25)
  refine (H2.out _ (ha.ext hc1) (hb.ext hc1)).mono ?_; rintro e w2 ⟨rfl, hb2⟩
  have hS : SBox w2 w1.heap.size ⟨gen, act, epoch, len, sum⟩ := (hb2.block _ (by simp)).trans (heap_alloc_eq _ _ _ rfl)
  have hw2 := hc1.trans (hb2.mono hc1.size)
  have hlt := heap_lt hS
  obtain ⟨q0, q1, q2, q3, q4⟩ := hS.cells
  simp only at q0 q1 q2 q3 q4
  have hw3 := hw2.alloc hw2.size (.cells #[.int .u64 gen, .int .i64 act, .int .u32 epoch, .int .i64 len, .int .u32 sum] 25)
  go_wp2_with (go_at_call 13; refine (sb_awake _).mono ?_; rintro e w4 ⟨rfl, hb4⟩)
  go_ret
  exact ⟨rfl, hw3.trans (hb4.mono hw3.size)⟩

end Go.Proofs.Ytolagcnndepjbaa
