/-
  How long numbers are: bits and groups of seven. No program stands in this text.
-/
import Derived.Test.YtjfflnnepndlkaaDoorRun5
import Derived.Lib.BitFns
namespace Go.Proofs.YtjfflnnepndlkaaDoor
namespace Snap

def num (n : Nat) : Nat := max 1 ((Lib.bitLen n + 6) / 7)
theorem bitLen_pos {n : Nat} (h0 : n ≠ 0) (h : n < 2 ^ 64) : 1 ≤ Lib.bitLen n := by rw [Lib.bitLen_half n h0 h]; omega
theorem num_is : ∀ (k n : Nat), n ≤ k → n < 2 ^ 64 → num n = (Wire.enc n).length
  | k, n, hk, h => by
    by_cases hn : n < 128
    · rw [Wire.enc_last hn]
      have := Lib.bitLen_le n 7 (by omega) (by omega)
      unfold num
      simp only [List.length_cons, List.length_nil]
      omega
    · rw [Wire.enc_step hn]
      have h1 := Lib.bitLen_shift 7 n (by omega) h
      have h2 : n / 128 < 2 ^ 64 := by omega
      have h3 := bitLen_pos (n := n / 128) (by omega) h2
      match k, hk with
      | 0, hk => omega
      | k + 1, hk =>
        have h4 := num_is k (n / 128) (by omega) h2
        unfold num at h4 ⊢
        simp only [List.length_cons]
        rw [h1, show (2 : Nat) ^ 7 = 128 from rfl]
        omega
theorem num_le {n : Nat} (h : n < 2 ^ 64) : 1 ≤ num n ∧ num n ≤ 10 := by
  have := Lib.bitLen_le n 64 (by omega) h
  unfold num; omega
/-- The length of a pin's encoding. -/
theorem pin_num {p : Pin} (h : Pin.valid p = true) : (Pin.enc p).length = num p.h.length + p.h.length + 1 + num p.x.toNat := by
  obtain ⟨h1, h2, h3⟩ := (Pin.valid_iff p).1 h
  have h4 := Pin.name_len h1
  rw [num_is _ p.h.length (Nat.le_refl _) (by omega), num_is _ p.x.toNat (Nat.le_refl _) (by omega)]
  have l2 := Wire.enc_len_bound 0 (if p.s then 1 else 0) (by split <;> omega)
  unfold Pin.enc Wire.txt
  simp only [List.length_append]
  omega
/-- The bytes of the first k pins, and of the numbers ahead of them. -/
def part (c : Int) (L : List Pin) (k : Nat) : Nat := num c.toNat + num L.length + ((L.take k).flatMap Pin.enc).length
theorem part_end {c : Int} {L : List Pin} (h : Upt.stValid c L = true) : part c L L.length = (enc c L).length := by
  obtain ⟨h1, h2, h3, h4, h5⟩ := (Upt.stValid_iff c L).1 h
  unfold part enc
  rw [List.take_of_length_le (Nat.le_refl _), num_is _ c.toNat (Nat.le_refl _) (by omega), num_is _ L.length (Nat.le_refl _) (by omega)]
  simp only [List.length_append]
  omega
theorem take_flat {L : List Pin} {k : Nat} (hk : k < L.length) : (L.take (k + 1)).flatMap Pin.enc = (L.take k).flatMap Pin.enc ++ Pin.enc L[k] := by
  rw [List.take_succ_eq_append_getElem hk, List.flatMap_append]; simp
theorem part_step {c : Int} {L : List Pin} {k : Nat} (hk : k < L.length) (hv : Pin.valid L[k] = true) :
    part c L (k + 1) = part c L k + (num L[k].h.length + L[k].h.length + 1 + num L[k].x.toNat) := by
  unfold part
  rw [take_flat hk, List.length_append, pin_num hv]
  omega
theorem part_zero (c : Int) (L : List Pin) : part c L 0 = num c.toNat + num L.length := by unfold part; simp
theorem part_le {c : Int} {L : List Pin} (h : Upt.stValid c L = true) (k : Nat) : part c L k ≤ 300000 := by
  obtain ⟨h1, h2, h3, h4, h5⟩ := (Upt.stValid_iff c L).1 h
  have := flat_len (L.take k) (fun p hp => h4 p (List.mem_of_mem_take hp))
  have l1 := num_le (n := c.toNat) (by omega)
  have l2 := num_le (n := L.length) (by omega)
  rw [List.length_take] at this
  unfold part
  omega
end Snap
end Go.Proofs.YtjfflnnepndlkaaDoor
