/-
  UTF-8 as the reference of labels reads it: a class of first bytes, then the bytes that go on. No program stands in this text.
-/
import Derived.Test.YtcmeajaakdaeeaaDoorRun4
namespace Go.Proofs.YtcmeajaakdaeeaaDoor.Lab
open Go.Lib

/-- What a first byte says: how many bytes, its own part of the number, the least number. -/
def Cls (b : Nat) (n : Nat) (v0 least : Int) : Prop :=
  (b < 128 ∧ n = 1 ∧ v0 = b ∧ least = 0) ∨ (194 ≤ b ∧ b < 224 ∧ n = 2 ∧ v0 = (b : Int) - 192 ∧ least = 128) ∨
  (224 ≤ b ∧ b < 240 ∧ n = 3 ∧ v0 = (b : Int) - 224 ∧ least = 2048) ∨ (240 ≤ b ∧ b < 245 ∧ n = 4 ∧ v0 = (b : Int) - 240 ∧ least = 65536)
/-- The number after k bytes more. -/
def part (t : List UInt8) (v0 : Int) : Nat → Int
  | 0 => v0
  | k + 1 => part t v0 k * 64 + ((t.getD (k + 1) 0).toNat : Int) - 128
def cont (t : List UInt8) (j : Nat) : Prop := 128 ≤ (t.getD j 0).toNat ∧ (t.getD j 0).toNat ≤ 191
def Good (t : List UInt8) (n : Nat) (v0 least : Int) : Prop := n ≤ t.length ∧ (∀ j, 1 ≤ j → j < n → cont t j) ∧ least ≤ part t v0 (n - 1) ∧ Puny.point (part t v0 (n - 1)) = true

set_option maxHeartbeats 4000000 in
theorem cls_good (t : List UInt8) (n : Nat) (v0 least : Int) (hc : Cls (t.getD 0 0).toNat n v0 least) (h : Good t n v0 least) : decodeL t = ((part t v0 (n - 1)).toNat, n) := by
  obtain ⟨h1, h2, h3, h4⟩ := h
  obtain ⟨p0, p1, p2⟩ := (Puny.point_iff _).1 h4
  clear h4
  rw [decodeL_N]
  rcases hc with ⟨c1, rfl, rfl, rfl⟩ | ⟨c1, c2, rfl, rfl, rfl⟩ | ⟨c1, c2, rfl, rfl, rfl⟩ | ⟨c1, c2, rfl, rfl, rfl⟩
  · simp only [part, Nat.sub_self]
    unfold decodeN
    rw [if_pos c1]
    simp
  · have k1 := h2 1 (by omega) (by omega)
    unfold cont at k1
    simp only [part] at h3 p0 p1 p2 ⊢
    generalize (t.getD 0 0).toNat = b0 at *
    generalize (t.getD (0 + 1) 0).toNat = b1 at *
    generalize (t.getD 2 0).toNat = b2 at *
    generalize (t.getD 3 0).toNat = b3 at *
    unfold decodeN
    rw [if_neg (by omega), if_pos (by omega), if_pos (by omega)]
    refine Prod.ext ?_ ?_
    · simp only; omega
    · rfl
  · have k1 := h2 1 (by omega) (by omega)
    have k2 := h2 2 (by omega) (by omega)
    unfold cont at k1 k2
    simp only [part] at h3 p0 p1 p2 ⊢
    generalize (t.getD 0 0).toNat = b0 at *
    generalize (t.getD (0 + 1) 0).toNat = b1 at *
    generalize (t.getD (1 + 1) 0).toNat = b2 at *
    generalize (t.getD 3 0).toNat = b3 at *
    unfold decodeN
    rw [if_neg (by omega), if_neg (by omega), if_pos (by omega), if_pos (by omega)]
    refine Prod.ext ?_ ?_
    · simp only; omega
    · rfl
  · have k1 := h2 1 (by omega) (by omega)
    have k2 := h2 2 (by omega) (by omega)
    have k3 := h2 3 (by omega) (by omega)
    unfold cont at k1 k2 k3
    simp only [part] at h3 p0 p1 p2 ⊢
    generalize (t.getD 0 0).toNat = b0 at *
    generalize (t.getD (0 + 1) 0).toNat = b1 at *
    generalize (t.getD (1 + 1) 0).toNat = b2 at *
    generalize (t.getD (2 + 1) 0).toNat = b3 at *
    unfold decodeN
    rw [if_neg (by omega), if_neg (by omega), if_neg (by omega), if_pos (by omega), if_pos (by omega)]
    refine Prod.ext ?_ ?_
    · simp only; omega
    · rfl
set_option maxHeartbeats 4000000 in
/-- What is read without an error is of a class and good. -/
theorem good_of (t : List UInt8) (hne : t ≠ []) (h : ¬ ((decodeL t).1 = 65533 ∧ (decodeL t).2 = 1)) :
    ∃ n v0 least, Cls (t.getD 0 0).toNat n v0 least ∧ Good t n v0 least := by
  have hl : 0 < t.length := List.length_pos_iff.2 hne
  rw [decodeL_N] at h
  have k0 := (t.getD 0 0).toNat_lt
  have k1 := (t.getD 1 0).toNat_lt
  have k2 := (t.getD 2 0).toNat_lt
  have k3 := (t.getD 3 0).toNat_lt
  rcases decodeN_shape t.length (t.getD 0 0).toNat (t.getD 1 0).toNat (t.getD 2 0).toNat (t.getD 3 0).toNat with ⟨c, e⟩ | ⟨c1, c2, c3, cv, e⟩ | ⟨c1, c2, c3, c4, cv, cs, e⟩ | ⟨c1, c2, c3, c4, c5, cv, cw, e⟩ | e
  · exact ⟨1, _, 0, .inl ⟨c, rfl, rfl, rfl⟩, hl, fun j h1 h2 => by omega, by simp only [part, Nat.sub_self]; omega, by rw [Puny.point_iff]; simp only [part, Nat.sub_self]; omega⟩
  · refine ⟨2, _, 128, .inr (.inl ⟨by omega, by omega, rfl, rfl, rfl⟩), c2, fun j h1 h2 => ?_, ?_, ?_⟩
    · obtain rfl : j = 1 := by omega
      unfold cont; omega
    · simp only [part, Nat.zero_add]; omega
    · rw [Puny.point_iff]; simp only [part, Nat.zero_add]; omega
  · refine ⟨3, _, 2048, .inr (.inr (.inl ⟨by omega, by omega, rfl, rfl, rfl⟩)), c2, fun j h1 h2 => ?_, ?_, ?_⟩
    · rcases (by omega : j = 1 ∨ j = 2) with rfl | rfl <;> (unfold cont; omega)
    · simp only [part, Nat.zero_add, Nat.reduceAdd]; omega
    · rw [Puny.point_iff]; simp only [part, Nat.zero_add, Nat.reduceAdd]; omega
  · refine ⟨4, _, 65536, .inr (.inr (.inr ⟨by omega, by omega, rfl, rfl, rfl⟩)), c2, fun j h1 h2 => ?_, ?_, ?_⟩
    · rcases (by omega : j = 1 ∨ j = 2 ∨ j = 3) with rfl | rfl | rfl <;> (unfold cont; omega)
    · simp only [part, Nat.zero_add, Nat.reduceAdd]; omega
    · rw [Puny.point_iff]; simp only [part, Nat.zero_add, Nat.reduceAdd]; omega
  · rw [e] at h; exact absurd ⟨rfl, rfl⟩ h
theorem cls_unique {b n m : Nat} {v0 v1 l0 l1 : Int} (h : Cls b n v0 l0) (h' : Cls b m v1 l1) : n = m ∧ v0 = v1 ∧ l0 = l1 := by
  unfold Cls at h h'; omega
/-- A text whose first character is good, and one whose first is not. -/
theorem reads_good (t : List UInt8) (n : Nat) (v0 least : Int) (hc : Cls (t.getD 0 0).toNat n v0 least) (h : Good t n v0 least) (hne : t ≠ []) :
    validD t = validD (t.drop n) ∧ runes t = part t v0 (n - 1) :: runes (t.drop n) := by
  have hd := cls_good t n v0 least hc h
  have hp := ((Puny.point_iff _).1 h.2.2.2).1
  rw [validD_step t hne, runes_step t hne, hd]
  refine ⟨?_, by simp only; rw [Int.toNat_of_nonneg hp]⟩
  rw [if_neg]
  rintro ⟨h1, h2⟩
  simp only at h1 h2
  subst h2
  have hk : (t.getD 0 0).toNat < 128 := by unfold Cls at hc; omega
  have : v0 = ((t.getD 0 0).toNat : Int) := by unfold Cls at hc; omega
  simp only [part, Nat.sub_self] at h1
  omega
theorem reads_bad (t : List UInt8) (n : Nat) (v0 least : Int) (hc : Cls (t.getD 0 0).toNat n v0 least) (h : ¬ Good t n v0 least) (hne : t ≠ []) : validD t = false := by
  rw [validD_step t hne]
  by_cases hb : (decodeL t).1 = 65533 ∧ (decodeL t).2 = 1
  · rw [if_pos hb]
  · obtain ⟨m, v1, l1, hc', hg⟩ := good_of t hne hb
    obtain ⟨rfl, rfl, rfl⟩ := cls_unique hc hc'
    exact absurd hg h
theorem reads_none (t : List UInt8) (h : ∀ n v0 least, ¬ Cls (t.getD 0 0).toNat n v0 least) (hne : t ≠ []) : validD t = false := by
  rw [validD_step t hne]
  by_cases hb : (decodeL t).1 = 65533 ∧ (decodeL t).2 = 1
  · rw [if_pos hb]
  · obtain ⟨m, v1, l1, hc', hg⟩ := good_of t hne hb
    exact absurd hc' (h m v1 l1)
theorem cls_none (b : Nat) (h1 : ¬ b < 128) (h2 : ¬ (194 ≤ b ∧ b < 224)) (h3 : ¬ (224 ≤ b ∧ b < 240)) (h4 : ¬ (240 ≤ b ∧ b < 245)) : ∀ n v0 least, ¬ Cls b n v0 least := by
  intro n v0 least h; unfold Cls at h; omega
theorem part_bd (t : List UInt8) (n : Nat) (v0 least : Int) (hc : Cls (t.getD 0 0).toNat n v0 least) : 0 ≤ v0 ∧ v0 < 128 ∧ (2 ≤ n → v0 < 32) ∧ n ≤ 4 ∧ 1 ≤ n := by
  unfold Cls at hc; omega
theorem prefix_take (l : List UInt8) : pre.isPrefixOf l = (decide (4 ≤ l.length) && (l.take 4 == pre)) := by
  rw [Bool.eq_iff_iff, List.isPrefixOf_iff_prefix, List.prefix_iff_eq_take]
  simp only [Bool.and_eq_true, decide_eq_true_eq, beq_iff_eq, show pre.length = 4 from rfl]
  constructor
  · intro h
    have := congrArg List.length h
    rw [List.length_take] at this
    simp [pre] at this
    exact ⟨by omega, h.symm⟩
  · rintro ⟨-, h⟩; exact h.symm

end Go.Proofs.YtcmeajaakdaeeaaDoor.Lab
