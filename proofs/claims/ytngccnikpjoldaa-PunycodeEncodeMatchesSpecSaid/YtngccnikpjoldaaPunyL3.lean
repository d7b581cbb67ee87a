/-
  The walk of the statement PunycodeEncodeMatchesSpec.
-/
import Derived.Test.YtngccnikpjoldaaPunyL1
import Derived.Test.YtngccnikpjoldaaPunyEncR
namespace Go.Proofs.Ytngccnikpjoldaa
open Go.RowKit

set_option maxHeartbeats 4000000 in
set_option maxRecDepth 100000 in
theorem pn_encode_law (a : Option Addr) (n c : Nat) (ps : List Int) (w : World) (h : SlI w a n c ps) (hi : ∀ p ∈ ps, -9223372036854775808 ≤ p ∧ p ≤ 9223372036854775807) :
    Calls Try.prog 3 #[.slice a n c] w fun e w' => e = .returned (.bool true) ∧ Below w.heap.size w w' := by
  have hle := h.le
  have HLN := Lib.hid h.len
  by_cases hn : 300 < n
  · have ht : (300 : Int) < (n : Int) := by omega
    clear hi
    go_enter Try.func3, Try.ntmps3
    go_wp2_with fail
    refine (pn_awake _).mono ?_; rintro e w1 ⟨rfl, hb1⟩
    go_wp2_with fail
    go_ret
    exact ⟨rfl, hb1⟩
  have ht : ¬ (300 : Int) < (n : Int) := by omega
  have henc := fun a n c W h => pn_encode a n c ps W h hi
  have henr := fun a n c W h => pr_encode a n c ps W h hi
  unfold PEncPost at henc
  unfold PEncPost at henr
  have HENC := Lib.hid henc; have HENR := Lib.hid henr
  clear henc henr hi
  generalize (Puny.enc ps).1 = tx at *
  generalize (Puny.enc ps).2 = er at *
  generalize str tx = sv at *
  have hbq : (sv.toList == sv.toList) = true := by simp
  have heq : (er == er) = true := by simp
  go_enter Try.func3, Try.ntmps3
  go_wp2_with (at_builtin; go_must (refine wpList_append_ints rfl _ _ rfl w.heap.size _ [] rfl (OwnI.empty w (Nat.le_refl _)) _ _ _ ps rfl (h.ext ((Below.refl _ _).alloc (Nat.le_refl _) _)) (by simp; omega) (by simp) ?_); intro v1 w1 hO1 hg1)
  have hb1 : Below w.heap.size w w1 := ((Below.refl w.heap.size w).alloc (Nat.le_refl _) (.cells #[] 3)).grown hg1 (by simp) (fun k hk => by cases hk; exact Nat.le_refl _)
  rw [List.nil_append] at hO1
  obtain ⟨a1, c1, rfl, hs1⟩ := hO1.sl
  have hsz1 := hb1.size
  have h1 := h.ext hb1
  clear hO1 hg1
  refine (HENC.out _ _ _ _ hs1).mono ?_; rintro e w2 ⟨rfl, hb2⟩
  have hB2 := hb1.trans (hb2.mono hsz1)
  have hs2 := hs1.ext hb2
  have h2 := h1.ext hb2
  have hsz2 := hB2.size
  clear hb1 hb2 hs1 h1
  go_wp2_with fail
  refine (HENR.out _ _ _ _ h2).mono ?_; rintro e w3 ⟨rfl, hb3⟩
  have hB3 := hB2.trans (hb3.mono hsz2)
  have hs3 := hs2.ext hb3
  have h3 := h2.ext hb3
  have hsz3 := hB3.size
  rw [HLN.out] at hs3 ⊢
  clear hb3 hs2 h2 hB2
  go_wp2_with fail
  refine (keep_ints_t _ _ _ _ _ _ ps _ hs3 h3).mono ?_; rintro e w4 ⟨rfl, hb4⟩
  have hB4 := hB3.trans (hb4.mono hsz3)
  have hsz4 := hB4.size
  go_wp2_with fail
  refine (pn_awake _).mono ?_; rintro e w5 ⟨rfl, hb5⟩
  have hB5 := hB4.trans (hb5.mono hsz4)
  go_wp2_with fail
  go_ret
  exact ⟨rfl, hB5⟩

end Go.Proofs.Ytngccnikpjoldaa
