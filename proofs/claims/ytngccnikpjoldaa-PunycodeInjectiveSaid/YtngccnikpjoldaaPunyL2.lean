/-
  The walk of the statement PunycodeInjective.
-/
import Derived.Test.YtngccnikpjoldaaPunyL1
namespace Go.Proofs.Ytngccnikpjoldaa
open Go.RowKit

theorem Puny.decNum_err (l : List UInt8) : ∀ (i w : Int) (k : Nat) (bias : Int) (e : Int), Puny.decNum l i w k bias = .error e → e ≠ 0 := by
  induction l with
  | nil => intro i w k bias e h; simp [Puny.decNum] at h; omega
  | cons b l ih =>
    intro i w k bias e h
    rw [Puny.decNum] at h
    split at h
    · cases h; decide
    split at h
    · cases h; decide
    split at h
    · cases h
    split at h
    · cases h; decide
    exact ih _ _ _ _ _ h
theorem Puny.decStep_err (l : List UInt8) (s : Puny.D) (e : Int) (h : Puny.decStep l s = .error e) : e ≠ 0 := by
  unfold Puny.decStep at h
  cases hd : Puny.decNum l s.i 1 0 s.bias with
  | error e' => rw [hd] at h; cases h; exact Puny.decNum_err _ _ _ _ _ _ hd
  | ok x =>
    rw [hd] at h
    simp only at h
    split at h
    · cases h; decide
    split at h
    · cases h; decide
    cases h
theorem Puny.decGo_err (f : Nat) : ∀ (l : List UInt8) (s : Puny.D) (e : Int), Puny.decGo f l s = .error e → e ≠ 0 := by
  induction f with
  | zero => intro l s e h; cases h
  | succ f ih =>
    intro l s e h
    rw [Puny.decGo] at h
    split at h
    · cases h
    cases hd : Puny.decStep l s with
    | error e' => rw [hd] at h; cases h; exact Puny.decStep_err _ _ _ hd
    | ok x => rw [hd] at h; exact ih _ _ _ h
theorem Puny.decode_err (l : List UInt8) (e : Int) (h : Puny.decode l = .error e) : e ≠ 0 := by
  unfold Puny.decode at h
  split at h
  · cases h; decide
  split at h
  · cases h; decide
  split at h
  · cases h; decide
  exact Puny.decGo_err _ _ _ _ h

set_option maxHeartbeats 4000000 in
set_option maxRecDepth 100000 in
theorem pn_injective (s : ByteArray) (w : World) (_h : s.size ≤ maxLen) :
    Calls Try.prog 7 #[.string s] w fun e w' => e = .returned (.bool true) ∧ Below w.heap.size w w' := by
  obtain ⟨l, rfl⟩ : ∃ l, s = str l := ⟨s.data.toList, by simp [str]⟩
  have hsz := str_size l
  by_cases hn : 200 < l.length
  · have ht : (200 : Int) < (l.length : Int) := by omega
    obtain ⟨sv, hsv⟩ : ∃ sv, sv = str l := ⟨_, rfl⟩
    rw [← hsv] at hsz ⊢
    clear hsv
    go_enter Try.func7, Try.ntmps7
    go_wp2_with fail
    refine (pn_awake _).mono ?_; rintro e w1 ⟨rfl, hb1⟩
    go_wp2_with fail
    go_ret
    exact ⟨rfl, hb1⟩
  have ht : ¬ (200 : Int) < (l.length : Int) := by omega
  have hdec := fun W => pn_decode l W (by omega)
  unfold PDecPost Puny.dec at hdec
  cases hd : Puny.decode l with
  | error er =>
    rw [hd] at hdec
    have her := Puny.decode_err _ _ hd
    have HDEC := Lib.hid hdec
    obtain ⟨sv, hsv⟩ : ∃ sv, sv = str l := ⟨_, rfl⟩
    rw [← hsv] at HDEC hsz ⊢
    have hne : (er == 0) = false := by simpa using her
    have hne2 : (er != 0) = true := by simpa using her
    clear hsv hd hdec her
    go_enter Try.func7, Try.ntmps7
    go_wp2_with fail
    refine (HDEC.out _).mono ?_; rintro e w1 ⟨v1, rfl, hO1, hb1⟩
    simp only at hO1 ⊢
    obtain ⟨a1, c1, rfl, -⟩ := hO1.sl
    rw [List.length_nil]
    have hsz1 := hb1.size
    go_wp2_with fail
    refine (pn_awake _).mono ?_; rintro e w2 ⟨rfl, hb2⟩
    have hB := hb1.trans (hb2.mono hsz1)
    go_wp2_with fail
    go_ret
    exact ⟨rfl, hB⟩
  | ok p =>
    rw [hd] at hdec
    obtain ⟨q1, q2, q3, q4⟩ := Puny.decode_ok _ _ hd
    have hde := Puny.decode_encode p q1 q2 (by omega)
    have henc := fun a n c W h => pn_encode a n c p W h (fun x hx => by have := (Puny.point_iff _).1 (q1 x hx); omega)
    unfold PEncPost at henc
    rw [Puny.enc_ok q2 q1] at henc
    have hdec2 := fun W => pn_decode (Puny.encode p) W (by omega)
    unfold PDecPost Puny.dec at hdec2
    rw [hde] at hdec2
    have HDEC := Lib.hid hdec; have HENC := Lib.hid henc; have HDEC2 := Lib.hid hdec2
    obtain ⟨sv, hsv⟩ : ∃ sv, sv = str l := ⟨_, rfl⟩
    rw [← hsv] at HDEC hsz ⊢
    clear hsv hd hdec henc hdec2 hde q1 q2 q3 q4
    generalize str (Puny.encode p) = sv2 at *
    go_enter Try.func7, Try.ntmps7
    go_wp2_with fail
    refine (HDEC.out _).mono ?_; rintro e w1 ⟨v1, rfl, hO1, hb1⟩
    simp only at hO1 ⊢
    obtain ⟨a1, c1, rfl, hs1⟩ := hO1.sl
    have hsz1 := hb1.size
    clear hO1
    go_wp2_with fail
    refine (HENC.out _ _ _ _ hs1).mono ?_; rintro e w2 ⟨rfl, hb2⟩
    have hB2 := hb1.trans (hb2.mono hsz1)
    have hs2 := hs1.ext hb2
    have hsz2 := hB2.size
    clear hb1 hb2 hs1
    go_wp2_with fail
    refine (HDEC2.out _).mono ?_; rintro e w3 ⟨v3, rfl, hO3, hb3⟩
    simp only at hO3 ⊢
    obtain ⟨a3, c3, rfl, hs3⟩ := hO3.sl
    have hB3 := hB2.trans (hb3.mono hsz2)
    have hs4 := hs2.ext hb3
    have hsz3 := hB3.size
    clear hO3 hb3 hs2 hB2
    go_wp2_with fail
    refine (keep_ints_t _ _ _ _ _ _ p _ hs4 hs3).mono ?_; rintro e w4 ⟨rfl, hb4⟩
    have hB4 := hB3.trans (hb4.mono hsz3)
    have hsz4 := hB4.size
    go_wp2_with fail
    refine (pn_awake _).mono ?_; rintro e w5 ⟨rfl, hb5⟩
    have hB5 := hB4.trans (hb5.mono hsz4)
    go_wp2_with fail
    go_ret
    exact ⟨rfl, hB5⟩

end Go.Proofs.Ytngccnikpjoldaa
