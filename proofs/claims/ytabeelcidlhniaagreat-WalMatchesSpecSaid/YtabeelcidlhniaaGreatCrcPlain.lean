/-
  CRC-32 as plain functions on numbers, and their laws. No program in sight.
-/
import Derived.Below
namespace Go.Proofs.YtabeelcidlhniaaGreat.Crc

def step (c : Nat) : Nat := if c % 2 = 0 then c / 2 else (c / 2) ^^^ 3988292384
def steps : Nat → Nat → Nat
  | 0, c => c
  | n + 1, c => steps n (step c)
def byte (c : Nat) (b : UInt8) : Nat := steps 8 (c ^^^ b.toNat)
def update (s : Nat) (l : List UInt8) : Nat := 4294967295 - l.foldl byte (4294967295 - s)

theorem xor_lt {a b : Nat} (ha : a < 4294967296) (hb : b < 4294967296) : a ^^^ b < 4294967296 := Nat.xor_lt_two_pow (n := 32) ha hb
theorem step_lt {c : Nat} (h : c < 4294967296) : step c < 4294967296 := by
  unfold step; split
  · omega
  · exact xor_lt (by omega) (by decide)
theorem steps_lt (n : Nat) {c : Nat} (h : c < 4294967296) : steps n c < 4294967296 := by
  induction n generalizing c with
  | zero => exact h
  | succ n ih => exact ih (step_lt h)
theorem steps_succ' (n c : Nat) : steps (n + 1) c = step (steps n c) := by
  induction n generalizing c with
  | zero => rfl
  | succ n ih => exact ih (step c)
theorem steps_add (m n c : Nat) : steps (m + n) c = steps n (steps m c) := by
  induction m generalizing c with
  | zero => simp [steps]
  | succ m ih => rw [Nat.succ_add]; exact ih (step c)
theorem byte_lt {c : Nat} (h : c < 4294967296) (b : UInt8) : byte c b < 4294967296 :=
  steps_lt 8 (xor_lt h (by have := b.toNat_lt; omega))
theorem fold_lt (l : List UInt8) {c : Nat} (h : c < 4294967296) : l.foldl byte c < 4294967296 := by
  induction l generalizing c with
  | nil => exact h
  | cons b l ih => exact ih (byte_lt h b)
theorem update_lt (s : Nat) (l : List UInt8) : update s l < 4294967296 := by unfold update; omega

/-- The image of the lowest k bits of v under a map given by the images of the bits. -/
def applyN (m : Nat → Nat) (v : Nat) : Nat → Nat
  | 0 => 0
  | k + 1 => if v / 2 ^ k % 2 = 1 then applyN m v k ^^^ m k else applyN m v k

theorem applyN_lt {m : Nat → Nat} (v k : Nat) (hk : k ≤ 32) (hm : ∀ i, i < 32 → m i < 4294967296) : applyN m v k < 4294967296 := by
  induction k with
  | zero => exact (by decide : (0 : Nat) < 4294967296)
  | succ k ih =>
    rw [applyN]; split
    · exact xor_lt (ih (by omega)) (hm k (by omega))
    · exact ih (by omega)

theorem mod_succ_xor (v k : Nat) : v % 2 ^ (k + 1) = if v / 2 ^ k % 2 = 1 then v % 2 ^ k ^^^ 2 ^ k else v % 2 ^ k := by
  apply Nat.eq_of_testBit_eq
  intro i
  have hb : v.testBit k = decide (v / 2 ^ k % 2 = 1) := Nat.testBit_eq_decide_div_mod_eq
  by_cases h : v / 2 ^ k % 2 = 1
  · rw [if_pos h, Nat.testBit_xor, Nat.testBit_mod_two_pow, Nat.testBit_mod_two_pow, Nat.testBit_two_pow]
    by_cases e : i = k
    · subst e; simp [hb, h]
    · by_cases hi : i < k
      · simp [hi, show i < k + 1 by omega, show ¬ k = i by omega]
      · simp [hi, show ¬ i < k + 1 by omega, show ¬ k = i by omega]
  · rw [if_neg h, Nat.testBit_mod_two_pow, Nat.testBit_mod_two_pow]
    by_cases e : i = k
    · subst e; simp [hb, h]
    · by_cases hi : i < k
      · simp [hi, show i < k + 1 by omega]
      · simp [hi, show ¬ i < k + 1 by omega]

/-- What is linear is found by the images of the bits. -/
theorem applyN_lin {L m : Nat → Nat} (h0 : L 0 = 0) (hL : ∀ a b, L (a ^^^ b) = L a ^^^ L b) (v : Nat) (k : Nat) (hm : ∀ i, i < k → m i = L (2 ^ i)) : applyN m v k = L (v % 2 ^ k) := by
  induction k with
  | zero => simp [applyN, Nat.mod_one, h0]
  | succ k ih =>
    rw [applyN, mod_succ_xor, ih (fun i hi => hm i (by omega)), hm k (by omega)]
    split
    · rw [hL]
    · rfl

theorem step_xor (a b : Nat) : step (a ^^^ b) = step a ^^^ step b := by
  have h2 : (a ^^^ b) / 2 = a / 2 ^^^ b / 2 := by
    apply Nat.eq_of_testBit_eq; intro i
    simp [Nat.testBit_div_two, Nat.testBit_xor]
  have h1 : (a ^^^ b) % 2 = (a % 2 + b % 2) % 2 := by
    have h := Nat.xor_mod_two_eq_one (a := a) (b := b)
    rcases Nat.mod_two_eq_zero_or_one a with ha | ha <;> rcases Nat.mod_two_eq_zero_or_one b with hb | hb <;>
      rcases Nat.mod_two_eq_zero_or_one (a ^^^ b) with hc | hc <;> rw [ha, hb, hc] at h <;> rw [ha, hb, hc] <;> first | rfl | exact absurd h (by decide)
  unfold step
  rw [h1, h2]
  rcases Nat.mod_two_eq_zero_or_one a with ha | ha <;> rcases Nat.mod_two_eq_zero_or_one b with hb | hb <;> simp [ha, hb]
  · rw [Nat.xor_assoc]
  · rw [Nat.xor_assoc, Nat.xor_assoc, Nat.xor_comm 3988292384]
  · rw [Nat.xor_assoc, Nat.xor_comm 3988292384, Nat.xor_assoc, Nat.xor_self, Nat.xor_zero]

theorem steps_xor (n a b : Nat) : steps n (a ^^^ b) = steps n a ^^^ steps n b := by
  induction n generalizing a b with
  | zero => rfl
  | succ n ih => rw [steps, step_xor, ih]; rfl
theorem steps_zero (n : Nat) : steps n 0 = 0 := by
  induction n with
  | zero => rfl
  | succ n ih => exact ih

def combine (a b : Nat) (n : Nat) : Nat := steps (8 * n) a ^^^ b

theorem applyN_steps (q v : Nat) (hv : v < 4294967296) : applyN (fun j => steps q (2 ^ j)) v 32 = steps q v := by
  rw [applyN_lin (steps_zero q) (steps_xor q) v 32 (fun i _ => rfl), Nat.mod_eq_of_lt hv]

/-- The square of a map. -/
theorem applyN_square (q j : Nat) (hj : j < 32) : applyN (fun j => steps q (2 ^ j)) (steps q (2 ^ j)) 32 = steps (q + q) (2 ^ j) := by
  rw [applyN_steps _ _ (steps_lt _ (Nat.pow_lt_pow_right (a := 2) (by decide) (show j < 32 from hj))), steps_add]

theorem steps_odd (q k a : Nat) (h : k % 2 = 1) : steps (q * k) a = steps ((q + q) * (k / 2)) (steps q a) := by
  rw [← steps_add]; congr 1
  have : k = 1 + 2 * (k / 2) := by omega
  generalize k / 2 = m at *; subst this
  rw [Nat.mul_add, Nat.mul_one, ← Nat.mul_assoc, Nat.mul_two]
theorem steps_even (q k a : Nat) (h : k % 2 = 0) : steps (q * k) a = steps ((q + q) * (k / 2)) a := by
  congr 1
  have : k = 2 * (k / 2) := by omega
  generalize k / 2 = m at *; subst this
  rw [← Nat.mul_assoc, Nat.mul_two]

end Go.Proofs.YtabeelcidlhniaaGreat.Crc
