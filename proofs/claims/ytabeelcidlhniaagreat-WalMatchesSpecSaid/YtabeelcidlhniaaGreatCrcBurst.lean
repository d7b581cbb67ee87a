/-
  What checksums notice: plain laws. No program in sight.
-/
import Derived.Test.YtabeelcidlhniaaGreatCrcPlain
namespace Go.Proofs.YtabeelcidlhniaaGreat.Crc

theorem not_eq_xor {s : Nat} (hs : s < 4294967296) : 4294967295 - s = 4294967295 ^^^ s := by
  apply Nat.eq_of_testBit_eq
  intro i
  rw [Nat.testBit_xor, show (4294967295 : Nat) - s = 2 ^ 32 - (s + 1) by omega, Nat.testBit_two_pow_sub_succ (by omega), show (4294967295 : Nat) = 2 ^ 32 - 1 by rfl, Nat.testBit_two_pow_sub_one]
  by_cases hi : i < 32
  · simp [hi]
  · have : s.testBit i = false := Nat.testBit_lt_two_pow (Nat.lt_of_lt_of_le hs (Nat.pow_le_pow_right (n := 2) (by decide) (show 32 ≤ i by omega)))
    simp [hi, this]

/-- The state behind the bytes l, begun with all bits set. -/
def F (c : Nat) (l : List UInt8) : Nat := l.foldl byte c

theorem F_nil (c : Nat) : F c [] = c := rfl
theorem F_cons (c : Nat) (b : UInt8) (l : List UInt8) : F c (b :: l) = F (byte c b) l := rfl
theorem F_append (c : Nat) (a b : List UInt8) : F c (a ++ b) = F (F c a) b := List.foldl_append
theorem F_lt (l : List UInt8) {c : Nat} (h : c < 4294967296) : F c l < 4294967296 := fold_lt l h
theorem update_zero (l : List UInt8) : update 0 l = 4294967295 ^^^ F 4294967295 l := by
  unfold update
  rw [show (4294967295 : Nat) - 0 = 4294967295 from rfl, not_eq_xor (fold_lt l (by decide))]; rfl
theorem update_eq {s : Nat} (hs : s < 4294967296) (l : List UInt8) : update s l = 4294967295 ^^^ F (4294967295 ^^^ s) l := by
  unfold update
  rw [not_eq_xor hs, not_eq_xor (fold_lt l (xor_lt (by decide) hs))]; rfl

theorem byte_xor (c d : Nat) (b : UInt8) : byte (c ^^^ d) b = byte c b ^^^ steps 8 d := by
  unfold byte
  rw [Nat.xor_assoc, Nat.xor_comm d, ← Nat.xor_assoc, steps_xor]
theorem F_xor (l : List UInt8) (c d : Nat) : F (c ^^^ d) l = F c l ^^^ steps (8 * l.length) d := by
  induction l generalizing c d with
  | nil => simp [F, steps]
  | cons b l ih =>
    rw [F_cons, F_cons, byte_xor, ih, ← steps_add, List.length_cons, show 8 + 8 * l.length = 8 * (l.length + 1) by omega]

theorem update_update (a b : List UInt8) : update (update 0 a) b = update 0 (a ++ b) := by
  rw [update_eq (update_lt 0 a), update_zero a, update_zero, F_append, ← Nat.xor_assoc, Nat.xor_self, Nat.zero_xor]

theorem combine_update (a b : List UInt8) : combine (update 0 a) (update 0 b) b.length = update 0 (a ++ b) := by
  unfold combine
  rw [update_zero b, update_zero (a ++ b), F_append]
  have h : F 4294967295 a = 4294967295 ^^^ update 0 a := by rw [update_zero, ← Nat.xor_assoc, Nat.xor_self, Nat.zero_xor]
  rw [h, F_xor, Nat.xor_comm, Nat.xor_assoc]

theorem combine_assoc (a b c : List UInt8) : combine (combine (update 0 a) (update 0 b) b.length) (update 0 c) c.length = combine (update 0 a) (combine (update 0 b) (update 0 c) c.length) (b.length + c.length) := by
  rw [combine_update, combine_update, combine_update, ← List.length_append, combine_update, List.append_assoc]

/-! ### Three sequences -/
def xor3 (x y z : UInt8) : UInt8 := UInt8.ofNat (x.toNat ^^^ y.toNat ^^^ z.toNat)
theorem xor3_toNat (x y z : UInt8) : (xor3 x y z).toNat = x.toNat ^^^ y.toNat ^^^ z.toNat := by
  have := Nat.xor_lt_two_pow (n := 8) (Nat.xor_lt_two_pow (n := 8) x.toNat_lt y.toNat_lt) z.toNat_lt
  simp [xor3]

theorem xor6 (a b c d e f : Nat) : (a ^^^ b ^^^ c) ^^^ (d ^^^ e ^^^ f) = (a ^^^ d) ^^^ (b ^^^ e) ^^^ (c ^^^ f) := by
  apply Nat.eq_of_testBit_eq; intro i
  simp only [Nat.testBit_xor]
  cases a.testBit i <;> cases b.testBit i <;> cases c.testBit i <;> cases d.testBit i <;> cases e.testBit i <;> cases f.testBit i <;> rfl

theorem F_xor3 (n : Nat) : ∀ (f g h : Nat → UInt8) (a b c : Nat), F (a ^^^ b ^^^ c) ((List.range n).map fun i => xor3 (f i) (g i) (h i)) = F a ((List.range n).map f) ^^^ F b ((List.range n).map g) ^^^ F c ((List.range n).map h) := by
  induction n with
  | zero => intros; rfl
  | succ n ih =>
    intro f g h a b c
    simp only [List.range_succ, List.map_append, List.map_cons, List.map_nil, F_append, ih, F_cons, F_nil]
    unfold byte
    rw [xor3_toNat, xor6, steps_xor, steps_xor]

theorem update_xor3 (n : Nat) (f g h : Nat → UInt8) :
    update 0 ((List.range n).map fun i => xor3 (f i) (g i) (h i)) = update 0 ((List.range n).map f) ^^^ update 0 ((List.range n).map g) ^^^ update 0 ((List.range n).map h) := by
  simp only [update_zero]
  have := F_xor3 n f g h 4294967295 4294967295 4294967295
  rw [Nat.xor_self, Nat.zero_xor] at this
  rw [this, ← xor6, Nat.xor_self, Nat.zero_xor]

/-! ### Bursts -/
/-- The bit k of the bytes, turned. -/
def flip1 (l : List UInt8) (k : Nat) : List UInt8 := l.set (k / 8) (UInt8.ofNat ((l[k / 8]?.getD 0).toNat ^^^ 2 ^ (k % 8)))
def flipN (l : List UInt8) (s p : Nat) : Nat → List UInt8
  | 0 => l
  | i + 1 => if p / 2 ^ i % 2 = 1 ∧ (s + i) / 8 < l.length then flip1 (flipN l s p i) (s + i) else flipN l s p i

theorem flip1_length (l : List UInt8) (k : Nat) : (flip1 l k).length = l.length := by simp [flip1]
theorem flipN_length (l : List UInt8) (s p i : Nat) : (flipN l s p i).length = l.length := by
  induction i with
  | zero => rfl
  | succ i ih =>
    rw [flipN]; split
    · rw [flip1_length, ih]
    · exact ih

/-- No bit of the pattern lies within: nothing is turned. -/
theorem flipN_none (l : List UInt8) (s p : Nat) (i : Nat) (h : p % 2 ^ min i (8 * l.length - s) = 0) : flipN l s p i = l := by
  induction i with
  | zero => rfl
  | succ i ih =>
    have hlow : p % 2 ^ min i (8 * l.length - s) = 0 := by
      have hd : 2 ^ min i (8 * l.length - s) ∣ 2 ^ min (i + 1) (8 * l.length - s) := Nat.pow_dvd_pow 2 (by omega)
      exact Nat.mod_eq_zero_of_dvd (Nat.dvd_trans hd (Nat.dvd_of_mod_eq_zero h))
    rw [flipN, if_neg ?_]
    · exact ih hlow
    · rintro ⟨hb, hin⟩
      rw [show min (i + 1) (8 * l.length - s) = i + 1 by omega] at h
      obtain ⟨q, rfl⟩ := Nat.dvd_of_mod_eq_zero h
      rw [Nat.pow_succ, Nat.mul_assoc, Nat.mul_div_cancel_left _ (Nat.pow_pos (by decide))] at hb
      omega

/-- A measure that each turned bit turns by a fixed amount. -/
theorem measure_flipN (N : Nat) (μ : List UInt8 → Nat) (φ : Nat → Nat) (hμ : ∀ l k, l.length = N → k < 8 * N → μ (flip1 l k) = μ l ^^^ φ k) (l : List UInt8) (hl : l.length = N) (s p i : Nat) :
    μ (flipN l s p i) = μ l ^^^ applyN (fun j => φ (s + j)) p (min i (8 * N - s)) := by
  induction i with
  | zero => simp [flipN, applyN]
  | succ i ih =>
    by_cases hin : s + i < 8 * N
    · rw [show min (i + 1) (8 * N - s) = i + 1 by omega, applyN]
      rw [show min i (8 * N - s) = i by omega] at ih
      rw [flipN]
      by_cases hb : p / 2 ^ i % 2 = 1
      · rw [if_pos ⟨hb, by omega⟩, if_pos hb, hμ _ _ (by rw [flipN_length, hl]) hin, ih, Nat.xor_assoc]
      · rw [if_neg (fun h => hb h.1), if_neg hb, ih]
    · rw [flipN, if_neg (fun h => hin (by omega)), ih, show min (i + 1) (8 * N - s) = min i (8 * N - s) by omega]

theorem step_eq_zero {c : Nat} (h : c < 4294967296) (h0 : step c = 0) : c = 0 := by
  unfold step at h0
  split at h0
  · omega
  · exfalso
    have h2 : c / 2 = 3988292384 := by
      have := congrArg (· ^^^ 3988292384) h0
      simpa [Nat.xor_assoc] using this
    omega
theorem steps_eq_zero (n : Nat) {c : Nat} (h : c < 4294967296) (h0 : steps n c = 0) : c = 0 := by
  induction n generalizing c with
  | zero => exact h0
  | succ n ih => exact step_eq_zero h (ih (step_lt h) h0)

/-- i steps of the bit i give the lowest bit. -/
theorem steps_bit (i j : Nat) (h : i ≤ j) : steps i (2 ^ j) = 2 ^ (j - i) := by
  induction i generalizing j with
  | zero => rfl
  | succ i ih =>
    rw [steps, step, if_pos (by rw [show j = (j - 1) + 1 by omega, Nat.pow_succ]; omega)]
    rw [show 2 ^ j / 2 = 2 ^ (j - 1) by rw [show j = (j - 1) + 1 by omega, Nat.pow_succ, Nat.mul_div_cancel _ (by decide)]; simp, ih (j - 1) (by omega)]
    congr 1; omega

theorem toNat_ofNat8 {n : Nat} (h : n < 256) : (UInt8.ofNat n).toNat = n := by simp [Nat.mod_eq_of_lt h]

theorem byte_flip (c : Nat) (b : UInt8) (r : Nat) (hr : r < 8) : byte c (UInt8.ofNat (b.toNat ^^^ 2 ^ r)) = byte c b ^^^ steps (8 - r) 1 := by
  have h2 : (2 : Nat) ^ r < 256 := Nat.lt_of_lt_of_eq (Nat.pow_lt_pow_right (a := 2) (by decide) hr) (by decide)
  have hx : (UInt8.ofNat (b.toNat ^^^ 2 ^ r)).toNat = b.toNat ^^^ 2 ^ r := by
    exact toNat_ofNat8 (Nat.xor_lt_two_pow (n := 8) b.toNat_lt h2)
  unfold byte
  rw [hx, ← Nat.xor_assoc, steps_xor]
  congr 1
  conv => lhs; rw [show (8 : Nat) = r + (8 - r) by omega]
  rw [steps_add, steps_bit r r (Nat.le_refl _), Nat.sub_self]

/-- A turned bit of the data turns the state by so many steps of one bit. -/
theorem F_flip1 (l : List UInt8) (c k : Nat) (hk : k < 8 * l.length) : F c (flip1 l k) = F c l ^^^ steps (8 * l.length - k) 1 := by
  induction l generalizing c k with
  | nil => simp at hk
  | cons b l ih =>
    rw [List.length_cons] at hk ⊢
    by_cases h0 : k < 8
    · rw [flip1, show k / 8 = 0 by omega, show k % 8 = k by omega]
      simp only [List.set_cons_zero, List.getElem?_cons_zero, Option.getD_some, F_cons]
      rw [byte_flip c b k h0, F_xor, ← steps_add]
      congr 2; omega
    · obtain ⟨k', rfl⟩ : ∃ k', k = k' + 8 := ⟨k - 8, by omega⟩
      have : flip1 (b :: l) (k' + 8) = b :: flip1 l k' := by
        simp only [flip1, show (k' + 8) / 8 = k' / 8 + 1 by omega, show (k' + 8) % 8 = k' % 8 by omega, List.set_cons_succ, List.getElem?_cons_succ]
      rw [this, F_cons, ih _ _ (by omega), F_cons]
      congr 2; omega

/-- Data that are turned within 32 consecutive bits have another checksum. -/
theorem burst (l : List UInt8) (s p : Nat) (hs : s ≤ 8 * l.length) : (update 0 (flipN l s p 32) = update 0 l) ↔ flipN l s p 32 = l := by
  constructor
  · intro h
    apply flipN_none
    rw [update_zero, update_zero] at h
    have h2 : F 4294967295 (flipN l s p 32) = F 4294967295 l := by
      have := congrArg (4294967295 ^^^ ·) h
      simpa [← Nat.xor_assoc] using this
    rw [measure_flipN l.length (F 4294967295) (fun k => steps (8 * l.length - k) 1) (fun l' k hl hk => by rw [← hl]; exact F_flip1 l' _ _ (by rw [hl]; exact hk)) l rfl] at h2
    have h3 : applyN (fun j => steps (8 * l.length - (s + j)) 1) p (min 32 (8 * l.length - s)) = 0 := by
      have := congrArg (F 4294967295 l ^^^ ·) h2
      simpa [← Nat.xor_assoc] using this
    generalize hm : 8 * l.length - s = m at *
    have h4 : applyN (fun j => steps (8 * l.length - (s + j)) 1) p (min 32 m) = steps m (p % 2 ^ min 32 m) := by
      refine applyN_lin (steps_zero m) (steps_xor m) p _ fun i hi => ?_
      rw [show m = i + (m - i) by omega, steps_add, steps_bit i i (Nat.le_refl _), Nat.sub_self]
      congr 1; omega
    rw [h4] at h3
    refine steps_eq_zero m ?_ h3
    exact Nat.lt_of_lt_of_le (Nat.mod_lt _ (Nat.pow_pos (by decide))) (Nat.le_trans (Nat.pow_le_pow_right (n := 2) (by decide) (Nat.min_le_left 32 m)) (by decide))
  · intro h; rw [h]

/-! ### Code words: data and behind them their checksum, the lowest byte first -/
def fix4 (v : Nat) : List UInt8 := [UInt8.ofNat (v % 256), UInt8.ofNat (v / 256 % 256), UInt8.ofNat (v / 65536 % 256), UInt8.ofNat (v / 16777216)]
def unfix4 (l : List UInt8) : Nat := (l[0]?.getD 0).toNat + (l[1]?.getD 0).toNat * 256 + (l[2]?.getD 0).toNat * 65536 + (l[3]?.getD 0).toNat * 16777216

theorem unfix4_fix4 {v : Nat} (hv : v < 4294967296) : unfix4 (fix4 v) = v := by
  simp only [unfix4, fix4, List.getElem?_cons_zero, List.getElem?_cons_succ, Option.getD_some]
  rw [toNat_ofNat8 (by omega), toNat_ofNat8 (by omega), toNat_ofNat8 (by omega), toNat_ofNat8 (by omega)]; omega

/-- Four bytes as one number, bit by bit. -/
theorem unfix4_xor (a b c d : Nat) (ha : a < 256) (hb : b < 256) (hc : c < 256) : a + b * 256 + c * 65536 + d * 16777216 = a ^^^ (b * 2 ^ 8) ^^^ (c * 2 ^ 16) ^^^ (d * 2 ^ 24) := by
  have e1 : ∀ (x y n : Nat), x < 2 ^ n → x + y * 2 ^ n = x ^^^ (y * 2 ^ n) := by
    intro x y n hx
    apply Nat.eq_of_testBit_eq; intro i
    rw [Nat.add_comm, Nat.mul_comm, Nat.testBit_two_pow_mul_add _ hx, Nat.testBit_xor, Nat.mul_comm, Nat.testBit_mul_two_pow]
    by_cases hi : i < n
    · simp [hi, show ¬ n ≤ i by omega]
    · have : x.testBit i = false := Nat.testBit_lt_two_pow (Nat.lt_of_lt_of_le hx (Nat.pow_le_pow_right (n := 2) (by decide) (show n ≤ i by omega)))
      simp [hi, show n ≤ i by omega, this]
  rw [show a + b * 256 + c * 65536 + d * 16777216 = (a + b * 2 ^ 8 + c * 2 ^ 16) + d * 2 ^ 24 by omega, e1 _ d 24 (by omega), e1 _ c 16 (by omega), e1 _ b 8 (by omega)]

theorem mul_xor (a b n : Nat) : (a ^^^ b) * 2 ^ n = (a * 2 ^ n) ^^^ (b * 2 ^ n) := by
  apply Nat.eq_of_testBit_eq; intro i
  simp only [Nat.testBit_xor, Nat.testBit_mul_two_pow]
  by_cases h : n ≤ i <;> simp [h]

theorem perm0 (t a b c d : Nat) : (a ^^^ t) ^^^ b ^^^ c ^^^ d = (a ^^^ b ^^^ c ^^^ d) ^^^ t := by ac_rfl
theorem perm1 (t a b c d : Nat) : a ^^^ (b ^^^ t) ^^^ c ^^^ d = (a ^^^ b ^^^ c ^^^ d) ^^^ t := by ac_rfl
theorem perm2 (t a b c d : Nat) : a ^^^ b ^^^ (c ^^^ t) ^^^ d = (a ^^^ b ^^^ c ^^^ d) ^^^ t := by ac_rfl
theorem perm3 (t a b c d : Nat) : a ^^^ b ^^^ c ^^^ (d ^^^ t) = (a ^^^ b ^^^ c ^^^ d) ^^^ t := by ac_rfl

theorem unfix4_flip1 (l : List UInt8) (hl : l.length = 4) (k : Nat) (hk : k < 32) : unfix4 (flip1 l k) = unfix4 l ^^^ 2 ^ k := by
  obtain ⟨a, b, c, d, rfl⟩ : ∃ a b c d, l = [a, b, c, d] := by
    match l, hl with
    | [a, b, c, d], _ => exact ⟨a, b, c, d, rfl⟩
  have hr : k % 8 < 8 := Nat.mod_lt _ (by decide)
  have h2 : (2 : Nat) ^ (k % 8) < 256 := Nat.lt_of_lt_of_eq (Nat.pow_lt_pow_right (a := 2) (by decide) hr) (by decide)
  have hx : ∀ q : UInt8, q.toNat ^^^ 2 ^ (k % 8) < 256 := fun q => Nat.xor_lt_two_pow (n := 8) q.toNat_lt h2
  have hk2 : (2 : Nat) ^ k = 2 ^ (k % 8) * 2 ^ (8 * (k / 8)) := by rw [← Nat.pow_add]; congr 1; omega
  rw [hk2]
  have h4 : k / 8 < 4 := by omega
  unfold flip1
  generalize k % 8 = r at *
  generalize k / 8 = j at *
  have ea := a.toNat_lt; have eb := b.toNat_lt; have ec := c.toNat_lt; have ed := d.toNat_lt
  clear hk2 hr h2 hk hl
  generalize 2 ^ r = q at *
  have hxa := hx a; have hxb := hx b; have hxc := hx c; have hxd := hx d; clear hx
  match j, h4 with
  | 0, _ =>
    simp only [List.set_cons_zero, unfix4, List.getElem?_cons_zero, List.getElem?_cons_succ, Option.getD_some]
    rw [toNat_ofNat8 hxa, unfix4_xor _ _ _ _ hxa eb ec, unfix4_xor _ _ _ _ ea eb ec, Nat.mul_zero, Nat.pow_zero, Nat.mul_one]
    exact perm0 _ _ _ _ _
  | 1, _ =>
    simp only [List.set_cons_zero, List.set_cons_succ, unfix4, List.getElem?_cons_zero, List.getElem?_cons_succ, Option.getD_some]
    rw [toNat_ofNat8 hxb, unfix4_xor _ _ _ _ ea hxb ec, unfix4_xor _ _ _ _ ea eb ec, mul_xor, Nat.mul_one]
    exact perm1 _ _ _ _ _
  | 2, _ =>
    simp only [List.set_cons_zero, List.set_cons_succ, unfix4, List.getElem?_cons_zero, List.getElem?_cons_succ, Option.getD_some]
    rw [toNat_ofNat8 hxc, unfix4_xor _ _ _ _ ea eb hxc, unfix4_xor _ _ _ _ ea eb ec, mul_xor, show 8 * 2 = 16 from rfl]
    exact perm2 _ _ _ _ _
  | 3, _ =>
    simp only [List.set_cons_zero, List.set_cons_succ, unfix4, List.getElem?_cons_zero, List.getElem?_cons_succ, Option.getD_some]
    rw [toNat_ofNat8 hxd, unfix4_xor _ _ _ _ ea eb ec, unfix4_xor _ _ _ _ ea eb ec, mul_xor, show 8 * 3 = 24 from rfl]
    exact perm3 _ _ _ _ _

theorem take_flip1 (l : List UInt8) (n k : Nat) : (flip1 l k).take n = if k / 8 < n then flip1 (l.take n) k else l.take n := by
  unfold flip1
  rw [List.take_set]
  split
  · rename_i h; rw [List.getElem?_take_of_lt h]
  · rename_i h; rw [List.set_eq_of_length_le (by simp; omega)]
theorem drop_flip1 (l : List UInt8) (n k : Nat) : (flip1 l k).drop n = if k / 8 < n then l.drop n else flip1 (l.drop n) (k - 8 * n) := by
  unfold flip1
  rw [List.drop_set]
  split
  · rfl
  · rename_i h
    rw [List.getElem?_drop, show (k - 8 * n) / 8 = k / 8 - n by omega, show (k - 8 * n) % 8 = k % 8 by omega, show n + (k / 8 - n) = k / 8 by omega]

/-- The checksum of the first n bytes against the four bytes behind them. -/
def mism (n : Nat) (w : List UInt8) : Nat := F 4294967295 (w.take n) ^^^ unfix4 (w.drop n)

theorem mism_flip1 (n : Nat) (w : List UInt8) (hw : w.length = n + 4) (k : Nat) (hk : k < 8 * (n + 4)) :
    mism n (flip1 w k) = mism n w ^^^ if k < 8 * n then steps (8 * n - k) 1 else 2 ^ (k - 8 * n) := by
  unfold mism
  rw [take_flip1, drop_flip1]
  by_cases h : k < 8 * n
  · rw [if_pos (by omega), if_pos (by omega), if_pos h]
    have hl : (w.take n).length = n := by simp; omega
    rw [F_flip1 _ _ _ (by rw [hl]; exact h), hl]
    ac_rfl
  · rw [if_neg (by omega), if_neg (by omega), if_neg h, unfix4_flip1 _ (by simp; omega) _ (by omega)]
    ac_rfl

theorem xor_left_cancel0 {a b : Nat} (h : a ^^^ b = a) : b = 0 := by
  have := congrArg (a ^^^ ·) h
  simpa [← Nat.xor_assoc] using this

/-- If the four bytes behind turned data are their checksum, no bit of the pattern lies within. -/
theorem burst_word_mod (l : List UInt8) (s p : Nat) (hs : s < 8 * (l.length + 4))
    (h : update 0 ((flipN (l ++ fix4 (update 0 l)) s p 32).take l.length) = unfix4 ((flipN (l ++ fix4 (update 0 l)) s p 32).drop l.length)) : p % 2 ^ min 32 (8 * (l.length + 4) - s) = 0 := by
  have hlen : (l ++ fix4 (update 0 l)).length = l.length + 4 := by simp [fix4]
  have h0 : update 0 ((l ++ fix4 (update 0 l)).take l.length) = unfix4 ((l ++ fix4 (update 0 l)).drop l.length) := by
    rw [List.take_left, List.drop_left, unfix4_fix4 (update_lt 0 l)]
  have hm : ∀ w : List UInt8, update 0 (w.take l.length) = unfix4 (w.drop l.length) ↔ mism l.length w = 4294967295 := by
    intro w
    unfold mism
    rw [update_zero]
    constructor
    · intro h; rw [← h]; rw [← Nat.xor_assoc, Nat.xor_comm _ 4294967295, Nat.xor_assoc, Nat.xor_self, Nat.xor_zero]
    · intro h
      have := congrArg (F 4294967295 (w.take l.length) ^^^ ·) h
      simp only [← Nat.xor_assoc, Nat.xor_self, Nat.zero_xor] at this
      rw [this, Nat.xor_comm]
  rw [hm] at h0
  rw [hm] at h
  rw [measure_flipN (l.length + 4) (mism l.length) _ (fun w k hw hk => mism_flip1 l.length w hw k hk) _ hlen, h0] at h
  have h3 := xor_left_cancel0 h
  by_cases hsn : s ≤ 8 * l.length
  · generalize hmm : 8 * l.length - s = m at *
    rw [applyN_lin (steps_zero m) (steps_xor m) p _ fun i hi => ?_] at h3
    · refine steps_eq_zero m ?_ h3
      exact Nat.lt_of_lt_of_le (Nat.mod_lt _ (Nat.pow_pos (by decide))) (Nat.le_trans (Nat.pow_le_pow_right (n := 2) (by decide) (Nat.min_le_left 32 _)) (by decide))
    · by_cases him : i < m
      · simp only [show s + i < 8 * l.length by omega, if_true]
        rw [show m = i + (m - i) by omega, steps_add, steps_bit i i (Nat.le_refl _), Nat.sub_self]
        congr 1; omega
      · simp only [show ¬ s + i < 8 * l.length by omega, if_false]
        rw [steps_bit m i (by omega)]
        congr 1; omega
  · rw [applyN_lin (L := fun x => x * 2 ^ (s - 8 * l.length)) (Nat.zero_mul _) (fun a b => mul_xor a b _) p _ fun i hi => ?_] at h3
    · rcases Nat.mul_eq_zero.1 h3 with h4 | h4
      · exact h4
      · have := Nat.pow_pos (n := s - 8 * l.length) (show 0 < 2 by decide); omega
    · simp only [show ¬ s + i < 8 * l.length by omega, if_false]
      rw [← Nat.pow_add]; congr 1; omega

theorem burst_word (l : List UInt8) (s p : Nat) (hs : s < 8 * (l.length + 4)) :
    (update 0 ((flipN (l ++ fix4 (update 0 l)) s p 32).take l.length) = unfix4 ((flipN (l ++ fix4 (update 0 l)) s p 32).drop l.length)) ↔ flipN (l ++ fix4 (update 0 l)) s p 32 = l ++ fix4 (update 0 l) := by
  constructor
  · intro h
    apply flipN_none
    rw [show (l ++ fix4 (update 0 l)).length = l.length + 4 by simp [fix4]]
    exact burst_word_mod l s p hs h
  · intro h
    rw [h, List.take_left, List.drop_left, unfix4_fix4 (update_lt 0 l)]

end Go.Proofs.YtabeelcidlhniaaGreat.Crc
