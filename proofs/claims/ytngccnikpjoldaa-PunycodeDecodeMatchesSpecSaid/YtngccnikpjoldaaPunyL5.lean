/-
  The walk of the statement PunycodeDecodeMatchesSpec.
-/
import Derived.Test.YtngccnikpjoldaaPunyL1
import Derived.Test.YtngccnikpjoldaaPunyDecR
namespace Go.Proofs.Ytngccnikpjoldaa
open Go.RowKit

set_option maxHeartbeats 4000000 in
set_option maxRecDepth 100000 in
theorem pn_decode_law (s : ByteArray) (w : World) (_h : s.size ≤ maxLen) :
    Calls Try.prog 4 #[.string s] w fun e w' => e = .returned (.bool true) ∧ Below w.heap.size w w' := by
  obtain ⟨l, rfl⟩ : ∃ l, s = str l := ⟨s.data.toList, by simp [str]⟩
  have hsz := str_size l
  by_cases hn : 1100 < l.length
  · have ht : (1100 : Int) < (l.length : Int) := by omega
    obtain ⟨sv, hsv⟩ : ∃ sv, sv = str l := ⟨_, rfl⟩
    rw [← hsv] at hsz ⊢
    clear hsv
    go_enter Try.func4, Try.ntmps4
    go_wp2_with fail
    refine (pn_awake _).mono ?_; rintro e w1 ⟨rfl, hb1⟩
    go_wp2_with fail
    go_ret
    exact ⟨rfl, hb1⟩
  have ht : ¬ (1100 : Int) < (l.length : Int) := by omega
  have hdec := fun W => pn_decode l W (by omega)
  have hder := fun W => pr_decode l W (by omega)
  unfold PDecPost at hdec hder
  have HDEC := Lib.hid hdec; have HDER := Lib.hid hder
  obtain ⟨sv, hsv⟩ : ∃ sv, sv = str l := ⟨_, rfl⟩
  rw [← hsv] at HDEC HDER hsz ⊢
  clear hsv hdec hder
  generalize (Puny.dec l).1 = p at *
  generalize (Puny.dec l).2 = er at *
  have heq : (er == er) = true := by simp
  go_enter Try.func4, Try.ntmps4
  go_wp2_with fail
  refine (HDEC.out _).mono ?_; rintro e w1 ⟨v1, rfl, hO1, hb1⟩
  obtain ⟨a1, c1, rfl, hs1⟩ := hO1.sl
  have hsz1 := hb1.size
  clear hO1
  go_wp2_with fail
  refine (HDER.out _).mono ?_; rintro e w2 ⟨v2, rfl, hO2, hb2⟩
  obtain ⟨a2, c2, rfl, hs2⟩ := hO2.sl
  have hB2 := hb1.trans (hb2.mono hsz1)
  have hs3 := hs1.ext hb2
  have hsz2 := hB2.size
  clear hO2 hb1 hb2 hs1
  go_wp2_with fail
  refine (keep_ints_t _ _ _ _ _ _ p _ hs3 hs2).mono ?_; rintro e w4 ⟨rfl, hb4⟩
  have hB4 := hB2.trans (hb4.mono hsz2)
  have hsz4 := hB4.size
  go_wp2_with fail
  refine (pn_awake _).mono ?_; rintro e w5 ⟨rfl, hb5⟩
  have hB5 := hB4.trans (hb5.mono hsz4)
  go_wp2_with fail
  go_ret
  exact ⟨rfl, hB5⟩

end Go.Proofs.Ytngccnikpjoldaa
