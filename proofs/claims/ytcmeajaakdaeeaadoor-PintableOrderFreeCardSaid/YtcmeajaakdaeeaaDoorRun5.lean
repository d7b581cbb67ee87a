/-
  The wire encodings of numbers and texts as plain functions. No program stands in this text.
-/
import Derived.Test.YtcmeajaakdaeeaaDoorRun0
namespace Go.Proofs.YtcmeajaakdaeeaaDoor.Wire

/-- The encoding of a number. -/
def enc (v : Nat) : List UInt8 := if v < 128 then [UInt8.ofNat v] else UInt8.ofNat (v % 128 + 128) :: enc (v / 128)
termination_by v
decreasing_by omega
theorem enc_last {v : Nat} (h : v < 128) : enc v = [UInt8.ofNat v] := by rw [enc, if_pos h]
theorem enc_step {v : Nat} (h : ¬ v < 128) : enc v = UInt8.ofNat (v % 128 + 128) :: enc (v / 128) := by rw [enc, if_neg h]
/-- The number of bytes of a number. -/
theorem enc_len_bound : ∀ (k v : Nat), v < 128 ^ (k + 1) → 1 ≤ (enc v).length ∧ (enc v).length ≤ k + 1
  | 0, v, h => by rw [enc_last (by omega)]; simp
  | k + 1, v, h => by
    by_cases hv : v < 128
    · rw [enc_last hv]; simp
    · rw [enc_step hv]
      have h2 : v / 128 < 128 ^ (k + 1) := by
        rw [Nat.div_lt_iff_lt_mul (by omega)]; rw [Nat.pow_succ] at h; exact h
      have := enc_len_bound k (v / 128) h2
      simp only [List.length_cons]; omega
theorem enc_len {v : Nat} (h : v < 18446744073709551616) : 1 ≤ (enc v).length ∧ (enc v).length ≤ 10 := enc_len_bound 9 v (by omega)
theorem enc_ne (v : Nat) : enc v ≠ [] := by
  by_cases hv : v < 128
  · rw [enc_last hv]; simp
  · rw [enc_step hv]; simp

def big (x : UInt8) : Bool := decide (128 ≤ x.toNat)
/-- The number that bytes denote, the first one the least. -/
def val : List UInt8 → Nat
  | [] => 0
  | x :: l => x.toNat % 128 + 128 * val l
/-- The number of continued bytes at the beginning. -/
def run (b : List UInt8) : Nat := (b.takeWhile big).length

/-- The number at the beginning of bytes, how many bytes it has, an error. -/
def dec (b : List UInt8) : Nat × Nat × Int :=
  if 10 ≤ run b then (0, 0, 19) else if run b = b.length then (0, 0, 5) else if run b = 9 ∧ 1 < (b.getD 9 0).toNat then (0, 0, 19) else
    if 0 < run b ∧ b.getD (run b) 0 = 0 then (0, 0, 6) else (val (b.take (run b + 1)), run b + 1, 0)

theorem run_le (b : List UInt8) : run b ≤ b.length := (List.takeWhile_sublist big).length_le
theorem run_cons_big {x : UInt8} {b : List UInt8} (h : 128 ≤ x.toNat) : run (x :: b) = run b + 1 := by
  unfold run; rw [List.takeWhile_cons_of_pos (by simpa [big] using h)]; rfl
theorem run_cons_last {x : UInt8} {b : List UInt8} (h : x.toNat < 128) : run (x :: b) = 0 := by
  unfold run; rw [List.takeWhile_cons_of_neg (by simp [big]; omega)]; rfl
theorem run_big : ∀ (b : List UInt8) (k : Nat), k < run b → ∃ h : k < b.length, 128 ≤ (b[k]).toNat
  | [], k, hk => by simp [run] at hk
  | x :: b, k, hk => by
    by_cases h : 128 ≤ x.toNat
    · rw [run_cons_big h] at hk
      cases k with
      | zero => exact ⟨by simp, h⟩
      | succ k =>
        obtain ⟨h1, h2⟩ := run_big b k (by omega)
        exact ⟨by simp; omega, h2⟩
    · rw [run_cons_last (by omega)] at hk; omega
theorem run_stop : ∀ (b : List UInt8) (h : run b < b.length), (b[run b]).toNat < 128
  | [], h => by simp at h
  | x :: b, h => by
    by_cases hx : 128 ≤ x.toNat
    · have e := run_cons_big (b := b) hx
      have h' : run b < b.length := by rw [e] at h; simpa using h
      have := run_stop b h'
      simp only [e, List.getElem_cons_succ]; exact this
    · have e := run_cons_last (b := b) (show x.toNat < 128 by omega)
      simp only [e, List.getElem_cons_zero]; omega
theorem run_eq {b : List UInt8} {k : Nat} (h : ∀ i (hi : i < b.length), i < k → 128 ≤ (b[i]).toNat) (hk : k ≤ b.length) (hs : ∀ h : k < b.length, (b[k]).toNat < 128) : run b = k := by
  rcases Nat.lt_trichotomy (run b) k with h1 | h1 | h1
  · have hl : run b < b.length := by omega
    have := run_stop b hl
    have := h _ hl h1
    omega
  · exact h1
  · obtain ⟨hl, h2⟩ := run_big b k h1
    have := hs hl
    omega
theorem run_ge {b : List UInt8} {k : Nat} (h : ∀ i (hi : i < b.length), i < k → 128 ≤ (b[i]).toNat) (hk : k ≤ b.length) : k ≤ run b := by
  rcases Nat.lt_or_ge (run b) k with h1 | h1
  · have hl : run b < b.length := by omega
    have := run_stop b hl
    have := h _ hl h1
    omega
  · exact h1

theorem val_snoc : ∀ (l : List UInt8) (x : UInt8), val (l ++ [x]) = val l + 128 ^ l.length * (x.toNat % 128)
  | [], x => by simp [val]
  | y :: l, x => by
    have := val_snoc l x
    simp only [List.cons_append, val, this, List.length_cons, Nat.pow_succ]
    rw [Nat.mul_add, Nat.mul_comm (128 ^ l.length) 128, Nat.mul_assoc, Nat.add_assoc]
theorem val_lt : ∀ (l : List UInt8), val l < 128 ^ l.length
  | [] => by simp [val]
  | y :: l => by
    have := val_lt l
    simp only [val, List.length_cons, Nat.pow_succ]
    have h2 : y.toNat % 128 < 128 := Nat.mod_lt _ (by omega)
    omega

theorem ofNat_toNat {n : Nat} (h : n < 256) : (UInt8.ofNat n).toNat = n := by simp; omega

/-- Encodings are read back. -/
theorem run_enc : ∀ (n v : Nat) (t : List UInt8), v ≤ n → run (enc v ++ t) + 1 = (enc v).length
  | 0, v, t, h => by
    rw [enc_last (by omega)]
    simp only [List.cons_append, List.nil_append]
    rw [run_cons_last (by rw [ofNat_toNat (by omega)]; omega)]; rfl
  | n + 1, v, t, h => by
    by_cases hv : v < 128
    · rw [enc_last hv]
      simp only [List.cons_append, List.nil_append]
      rw [run_cons_last (by rw [ofNat_toNat (by omega)]; omega)]; rfl
    · rw [enc_step hv]
      simp only [List.cons_append]
      rw [run_cons_big (by rw [ofNat_toNat (by omega)]; omega), run_enc n (v / 128) t (by omega)]; rfl
theorem val_enc : ∀ (n v : Nat), v ≤ n → val (enc v) = v
  | 0, v, h => by
    rw [enc_last (by omega)]
    simp only [val, ofNat_toNat (show v < 256 by omega)]; omega
  | n + 1, v, h => by
    by_cases hv : v < 128
    · rw [enc_last hv]
      simp only [val, ofNat_toNat (show v < 256 by omega)]; omega
    · rw [enc_step hv]
      simp only [val, ofNat_toNat (show v % 128 + 128 < 256 by omega), val_enc n (v / 128) (by omega)]; omega
theorem last_enc : ∀ (n v : Nat), v ≤ n → 128 ≤ v → ∀ h : (enc v).length - 1 < (enc v).length, ((enc v)[(enc v).length - 1]).toNat ≠ 0
  | 0, v, h, h1 => by omega
  | n + 1, v, h, h1 => by
    intro hl
    have e := enc_step (show ¬ v < 128 by omega)
    have hne := List.length_pos_iff.2 (enc_ne (v / 128))
    have e2 : (enc v)[(enc v).length - 1] = (enc (v / 128))[(enc (v / 128)).length - 1]'(by omega) := by
      simp only [e, List.length_cons]
      rw [List.getElem_cons]
      rw [dif_neg (by omega)]
      congr 1
    rw [e2]
    by_cases h2 : 128 ≤ v / 128
    · exact last_enc n (v / 128) (by omega) h2 _
    · have e3 := enc_last (show v / 128 < 128 by omega)
      simp only [e3, List.length_singleton, Nat.sub_self, List.getElem_cons_zero]
      rw [ofNat_toNat (by omega)]; omega
theorem val_bound {b : List UInt8} (h : b.length ≤ 9) : val b < 9223372036854775808 := by
  have h1 := val_lt b
  have h2 : 128 ^ b.length ≤ 128 ^ 9 := Nat.pow_le_pow_right (by omega) h
  omega

theorem enc_top : ∀ (k v : Nat), v < 2 * 128 ^ k → ∀ h : k < (enc v).length, ((enc v)[k]).toNat ≤ 1
  | 0, v, hv, h => by
    have e := enc_last (show v < 128 by omega)
    simp only [e, List.getElem_cons_zero]
    rw [ofNat_toNat (by omega)]; omega
  | k + 1, v, hv, h => by
    by_cases hs : v < 128
    · rw [enc_last hs] at h; simp at h
    · have e := enc_step hs
      have hl : k < (enc (v / 128)).length := by rw [e] at h; simpa using h
      have := enc_top k (v / 128) (by rw [Nat.div_lt_iff_lt_mul (by omega)]; rw [Nat.pow_succ] at hv; omega) hl
      simp only [e, List.getElem_cons_succ]; exact this

theorem dec_enc {v : Nat} (hv : v < 18446744073709551616) (t : List UInt8) : dec (enc v ++ t) = (v, (enc v).length, 0) := by
  have hr := run_enc v v t (Nat.le_refl _)
  have hl := enc_len hv
  unfold dec
  rw [if_neg (by omega), if_neg (by rw [List.length_append]; omega)]
  have hpos := hl.1
  rw [if_neg, if_neg]
  · rw [hr, List.take_left, val_enc v v (Nat.le_refl _)]
  · rintro ⟨h1, h2⟩
    have hk : (enc v).length - 1 < (enc v).length := by omega
    have h128 : 128 ≤ v := by
      rcases Nat.lt_or_ge v 128 with h | h
      · have e := congrArg List.length (enc_last h); rw [List.length_singleton] at e; omega
      · exact h
    have := last_enc v v (Nat.le_refl _) h128 hk
    rw [show run (enc v ++ t) = (enc v).length - 1 by omega, List.getD_eq_getElem?_getD, List.getElem?_append_left hk, List.getElem?_eq_getElem hk, Option.getD_some] at h2
    rw [h2] at this; exact this rfl
  · rintro ⟨h1, h2⟩
    have hk : 9 < (enc v).length := by omega
    have := enc_top 9 v (by omega) hk
    rw [List.getD_eq_getElem?_getD, List.getElem?_append_left hk, List.getElem?_eq_getElem hk, Option.getD_some] at h2
    omega

theorem enc_val : ∀ (l : List UInt8) (x : UInt8), (∀ y ∈ l, 128 ≤ y.toNat) → x.toNat < 128 → (l = [] ∨ x ≠ 0) → enc (val (l ++ [x])) = l ++ [x] ∧ (x ≠ 0 → 0 < val (l ++ [x]))
  | [], x, _, hx, _ => by
    have e : val ([] ++ [x]) = x.toNat := by simp [val]; omega
    rw [e, enc_last hx]
    refine ⟨by simp, fun h => ?_⟩
    rcases Nat.eq_zero_or_pos x.toNat with h0 | h0
    · exact absurd (UInt8.toNat_inj.1 (by rw [h0]; rfl)) h
    · exact h0
  | y :: l, x, hl, hx, h0 => by
    have hx0 : x ≠ 0 := by
      rcases h0 with h | h
      · cases h
      · exact h
    obtain ⟨h1, h2⟩ := enc_val l x (fun z hz => hl z (List.mem_cons_of_mem _ hz)) hx (.inr hx0)
    have hp := h2 hx0
    have hy := hl y List.mem_cons_self
    have hy2 := y.toNat_lt
    have e : val (y :: l ++ [x]) = y.toNat % 128 + 128 * val (l ++ [x]) := rfl
    have hge : ¬ val (y :: l ++ [x]) < 128 := by rw [e]; omega
    refine ⟨?_, fun _ => by omega⟩
    rw [enc_step hge, e]
    rw [show (y.toNat % 128 + 128 * val (l ++ [x])) / 128 = val (l ++ [x]) by omega, h1]
    rw [show (y.toNat % 128 + 128 * val (l ++ [x])) % 128 + 128 = y.toNat by omega]
    simp

theorem take_run (b : List UInt8) : b.take (run b) = b.takeWhile big := by
  unfold run
  conv => lhs; rw [← List.takeWhile_append_dropWhile (p := big) (l := b)]
  rw [List.take_left']
  rw [List.takeWhile_append_dropWhile]
theorem all_takeWhile : ∀ (b : List UInt8) (y : UInt8), y ∈ b.takeWhile big → big y = true
  | [], y, h => by simp at h
  | x :: b, y, h => by
    by_cases hx : big x = true
    · rw [List.takeWhile_cons_of_pos hx] at h
      rcases List.mem_cons.1 h with e | e
      · rw [e]; exact hx
      · exact all_takeWhile b y e
    · rw [List.takeWhile_cons_of_neg hx] at h; cases h
/-- What is decoded has this encoding. -/
theorem enc_dec {b : List UInt8} {v n : Nat} (h : dec b = (v, n, 0)) : b.take n = enc v ∧ n ≤ b.length ∧ 1 ≤ n ∧ n ≤ 10 ∧ v < 18446744073709551616 := by
  unfold dec at h
  by_cases c1 : 10 ≤ run b
  · rw [if_pos c1] at h; cases h
  rw [if_neg c1] at h
  by_cases c2 : run b = b.length
  · rw [if_pos c2] at h; cases h
  rw [if_neg c2] at h
  by_cases c3 : run b = 9 ∧ 1 < (b.getD 9 0).toNat
  · rw [if_pos c3] at h; cases h
  rw [if_neg c3] at h
  by_cases c4 : 0 < run b ∧ b.getD (run b) 0 = 0
  · rw [if_pos c4] at h; cases h
  rw [if_neg c4] at h
  injection h with e1 e2
  injection e2 with e2 _
  subst e1; subst e2
  have hle := run_le b
  have hlt : run b < b.length := by omega
  have hst := run_stop b hlt
  have hget : b.getD (run b) 0 = b[run b] := by rw [List.getD_eq_getElem?_getD, List.getElem?_eq_getElem hlt, Option.getD_some]
  have hsn : b.take (run b + 1) = b.take (run b) ++ [b[run b]] := (List.take_append_getElem hlt).symm
  have hall : ∀ y ∈ b.take (run b), 128 ≤ y.toNat := by
    intro y hy
    rw [take_run] at hy
    have := all_takeWhile b y hy
    simpa [big] using this
  refine ⟨?_, by omega, by omega, by omega, ?_⟩
  · rw [hsn]
    refine (enc_val _ _ hall hst ?_).1.symm
    by_cases h0 : run b = 0
    · left; rw [h0]; rfl
    · right; intro hx; exact c4 ⟨by omega, by rw [hget]; exact hx⟩
  · rw [hsn, val_snoc]
    have h1 := val_lt (b.take (run b))
    have hlen : (b.take (run b)).length = run b := by rw [List.length_take]; omega
    rw [hlen] at h1 ⊢
    by_cases h9 : run b = 9
    · have hb9 : (b[run b]).toNat ≤ 1 := by
        have : b.getD 9 0 = b[run b] := by rw [← h9]; exact hget
        rcases Nat.lt_or_ge 1 (b.getD 9 0).toNat with h | h
        · exact absurd ⟨h9, h⟩ c3
        · rw [this] at h; exact h
      have hz : (b[run b]).toNat % 128 ≤ 1 := by omega
      generalize (b[run b]).toNat % 128 = z at *
      have h5 : 128 ^ run b = 9223372036854775808 := by rw [h9]
      rw [h5] at h1 ⊢
      omega
    · have h3 : 128 ^ (run b + 1) ≤ 128 ^ 9 := Nat.pow_le_pow_right (by omega) (by omega)
      have hz : (b[run b]).toNat % 128 ≤ 127 := by omega
      have h4 : 128 ^ run b * ((b[run b]).toNat % 128) ≤ 128 ^ run b * 127 := Nat.mul_le_mul_left _ hz
      rw [Nat.pow_succ] at h3
      omega

/-- The encoding of a text. -/
def txt (s : List UInt8) : List UInt8 := enc s.length ++ s
def decT (b : List UInt8) : List UInt8 × Nat × Int :=
  if (dec b).2.2 ≠ 0 then ([], 0, (dec b).2.2) else if 4096 < (dec b).1 then ([], 0, 3) else if b.length - (dec b).2.1 < (dec b).1 then ([], 0, 5) else
    ((b.drop (dec b).2.1).take (dec b).1, (dec b).2.1 + (dec b).1, 0)
theorem decT_txt {s : List UInt8} (h : s.length ≤ 4096) (t : List UInt8) : decT (txt s ++ t) = (s, (txt s).length, 0) := by
  have hd : dec (txt s ++ t) = (s.length, (enc s.length).length, 0) := by
    unfold txt; rw [List.append_assoc]; exact dec_enc (by omega) _
  unfold decT
  rw [hd]
  rw [if_neg (by simp), if_neg (by simp only; omega), if_neg (by simp only [txt, List.length_append]; omega)]
  simp only [txt, List.append_assoc, List.drop_left, List.take_left, List.length_append]
theorem txt_decT {b s : List UInt8} {n : Nat} (h : decT b = (s, n, 0)) : b.take n = txt s ∧ n ≤ b.length ∧ s.length ≤ 4096 ∧ 1 ≤ n ∧ n ≤ s.length + 10 := by
  unfold decT at h
  by_cases c1 : (dec b).2.2 ≠ 0
  · rw [if_pos c1] at h
    injection h with _ h; injection h with _ h
    exact absurd h c1
  rw [if_neg c1] at h
  by_cases c2 : 4096 < (dec b).1
  · rw [if_pos c2] at h; cases h
  rw [if_neg c2] at h
  by_cases c3 : b.length - (dec b).2.1 < (dec b).1
  · rw [if_pos c3] at h; cases h
  rw [if_neg c3] at h
  injection h with e1 h; injection h with e2 _
  have hd : dec b = ((dec b).1, (dec b).2.1, 0) := by
    have : (dec b).2.2 = 0 := by simpa using c1
    rw [← this]
  obtain ⟨h1, h2, h3, h4, h5⟩ := enc_dec hd
  have hl : s.length = (dec b).1 := by rw [← e1, List.length_take, List.length_drop]; omega
  refine ⟨?_, by omega, by omega, by omega, by omega⟩
  unfold txt
  rw [hl, ← h1, ← e1, ← e2, List.take_add]

end Go.Proofs.YtcmeajaakdaeeaaDoor.Wire
