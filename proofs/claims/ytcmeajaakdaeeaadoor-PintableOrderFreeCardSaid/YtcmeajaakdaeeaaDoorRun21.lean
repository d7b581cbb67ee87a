/-
  An error of Decode is not 0. No program stands in this text.
-/
import Derived.Test.YtcmeajaakdaeeaaDoorRun3
namespace Go.Proofs.YtcmeajaakdaeeaaDoor.Puny

theorem decNum_err (l : List UInt8) : ∀ (i w : Int) (k : Nat) (bias : Int) (e : Int), decNum l i w k bias = .error e → e ≠ 0 := by
  induction l with
  | nil => intro i w k bias e h; simp [decNum] at h; omega
  | cons b l ih =>
    intro i w k bias e h
    rw [decNum] at h
    split at h
    · cases h; decide
    split at h
    · cases h; decide
    split at h
    · cases h
    split at h
    · cases h; decide
    exact ih _ _ _ _ _ h
theorem decStep_err (l : List UInt8) (s : D) (e : Int) (h : decStep l s = .error e) : e ≠ 0 := by
  unfold decStep at h
  cases hd : decNum l s.i 1 0 s.bias with
  | error e' => rw [hd] at h; cases h; exact decNum_err _ _ _ _ _ _ hd
  | ok x =>
    rw [hd] at h
    simp only at h
    split at h
    · cases h; decide
    split at h
    · cases h; decide
    cases h
theorem decGo_err (f : Nat) : ∀ (l : List UInt8) (s : D) (e : Int), decGo f l s = .error e → e ≠ 0 := by
  induction f with
  | zero => intro l s e h; cases h
  | succ f ih =>
    intro l s e h
    rw [decGo] at h
    split at h
    · cases h
    cases hd : decStep l s with
    | error e' => rw [hd] at h; cases h; exact decStep_err _ _ _ hd
    | ok x => rw [hd] at h; exact ih _ _ _ h
theorem decode_err (l : List UInt8) (e : Int) (h : decode l = .error e) : e ≠ 0 := by
  unfold decode at h
  split at h
  · cases h; decide
  split at h
  · cases h; decide
  split at h
  · cases h; decide
  exact decGo_err _ _ _ _ h

end Go.Proofs.YtcmeajaakdaeeaaDoor.Puny
