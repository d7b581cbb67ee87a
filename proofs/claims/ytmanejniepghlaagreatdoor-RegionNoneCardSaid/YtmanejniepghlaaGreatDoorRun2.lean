/-
  Texts in one: Crc, PunyLaws, WirePlain, PunyHead, PunyErr, CrcRefA.
-/
import Derived.Test.YtmanejniepghlaaGreatDoorRun0
import Derived.Test.YtmanejniepghlaaGreatDoorRun1
/-
  The walks through the package crc.
-/
namespace Go.Proofs.YtmanejniepghlaaGreatDoor
open Go.RowKit

theorem crc_step (c : Nat) (hc : c < 4294967296) (w : World) :
    Calls Tryz.prog 153 #[.int .u32 c] w fun e w' => e = .returned (.int .u32 (Crc.step c)) ∧ w = w' := by
  have hb : bits BinOp.and IntKind.u32 (c : Int) 1 = ((c % 2 : Nat) : Int) := by
    have := u32_and_nat c 1 hc (by decide); rw [nat_mask1] at this; exact this
  by_cases h : c % 2 = 0
  · have hb2 : (bits BinOp.and IntKind.u32 (c : Int) 1 == 0) = true := by rw [hb, h]; rfl
    have hs : Crc.step c = c / 2 := by simp [Crc.step, h]
    rw [hs]; clear hs h hb
    go_enter Tryz.func153, Tryz.ntmps153
    go_wp2
    go_ret
    exact ⟨by simp, rfl⟩
  · have hb2 : (bits BinOp.and IntKind.u32 (c : Int) 1 == 0) = false := by rw [hb]; simp; omega
    have hx : bits BinOp.xor IntKind.u32 ((c : Int) / 2) 3988292384 = ((c / 2 ^^^ 3988292384 : Nat) : Int) := by
      have := u32_xor_nat (c / 2) 3988292384 (by omega) (by decide); simpa using this
    have hs : Crc.step c = c / 2 ^^^ 3988292384 := by simp [Crc.step, h]
    rw [hs]; have Hx := Lib.hid hx; clear hs h hb hx
    go_enter Tryz.func153, Tryz.ntmps153
    go_wp2
    go_ret
    exact ⟨by rw [Hx.out]; rfl, rfl⟩

theorem not32 (s : Nat) (hs : s < 4294967296) : bits BinOp.xor IntKind.u32 4294967295 (s : Int) = ((4294967295 - s : Nat) : Int) := by
  have h1 := u32_xor_nat 4294967295 s (by decide) hs
  have h2 : (4294967295 ^^^ s) = 4294967295 - s := by
    apply Nat.eq_of_testBit_eq
    intro i
    rw [Nat.testBit_xor, show (4294967295 : Nat) - s = 2 ^ 32 - (s + 1) by omega, Nat.testBit_two_pow_sub_succ (by omega), show (4294967295 : Nat) = 2 ^ 32 - 1 by rfl, Nat.testBit_two_pow_sub_one]
    by_cases hi : i < 32
    · simp [hi]
    · have : s.testBit i = false := Nat.testBit_lt_two_pow (Nat.lt_of_lt_of_le hs (Nat.pow_le_pow_right (n := 2) (by decide) (show 32 ≤ i by omega)))
      simp [hi, this]
  rw [h2] at h1; exact h1

theorem steps_snoc (k x : Nat) : Crc.step (Crc.steps k x) = Crc.steps (k + 1) x := (Crc.steps_succ' k x).symm

theorem fold_snoc (l : List UInt8) (c : Nat) {k : Nat} (h : k < l.length) :
    (l.take (k + 1)).foldl Crc.byte c = Crc.byte ((l.take k).foldl Crc.byte c) (l[k]?.getD 0) := by
  rw [List.take_succ_eq_append_getElem h, List.foldl_append, List.getElem?_eq_getElem h]; rfl

theorem crc_update (s : Nat) (hs : s < 4294967296) (a : Option Addr) (n c : Nat) (l : List UInt8) (w : World) (h : SlB w a n c l) :
    Calls Tryz.prog 106 #[.int .u32 s, .slice a n c] w fun e w' => e = .returned (.int .u32 (Crc.update s l)) ∧ w = w' := by
  have hle := h.le
  have hn := not32 s hs
  have hfin : ∀ x : Nat, x < 4294967296 → x = l.foldl Crc.byte (4294967295 - s) → bits BinOp.xor IntKind.u32 4294967295 (x : Int) = ((Crc.update s l : Nat) : Int) := by
    intro x hx e; rw [not32 x hx, Crc.update, e]
  have Hfin := Lib.hid hfin; clear hfin
  go_enter Tryz.func106, Tryz.ntmps106
  go_wp2
  go_loop [5, 12] (fun x i => ∃ k : Nat, k ≤ n ∧ i = .int .i64 k ∧ x = .int .u32 ((l.take k).foldl Crc.byte (4294967295 - s) : Nat)) (fun _ i => n - (intOf i).toNat)
  case atStart => exact ⟨0, Nat.zero_le _, rfl, by simp⟩
  case round =>
    obtain ⟨k, hk, rfl, rfl⟩ := hrel
    by_cases hlt : k < n
    · obtain ⟨b, o, rfl, hb, hkl, hcell⟩ := h.at hlt
      have HS := Lib.hid (fold_snoc l (4294967295 - s) hkl)
      have hy : (l.take k).foldl Crc.byte (4294967295 - s) < 4294967296 := Crc.fold_lt _ (by omega)
      generalize (l.take k).foldl Crc.byte (4294967295 - s) = y at *
      generalize l[k]?.getD 0 = q at *
      have hbb : q.toNat < 256 := UInt8.toNat_lt _
      have hmod : (q.toNat : Int) % 4294967296 = q.toNat := by omega
      have hxor := u32_xor_nat y q.toNat hy (by omega)
      have hxl := Crc.xor_lt hy (show q.toNat < 4294967296 by omega)
      go_wp2
      go_loop [5, 20] (fun x i => ∃ j : Nat, j ≤ 8 ∧ i = .int .i64 j ∧ x = .int .u32 (Crc.steps j (y ^^^ q.toNat) : Nat)) (fun _ i => 8 - (intOf i).toNat)
      case atStart => exact ⟨0, Nat.zero_le _, rfl, rfl⟩
      case round =>
        obtain ⟨j, hj, rfl, rfl⟩ := hrel
        by_cases hj8 : j < 8
        · go_wp2_with (go_at_call 153; refine (crc_step _ (Crc.steps_lt j hxl) _).mono ?_; rintro e w' ⟨rfl, rfl⟩)
          go_round
          case rel => exact ⟨j + 1, by omega, by go_num, by rw [← steps_snoc]⟩
          case measure => simp [intOf]; omega
        · obtain rfl : j = 8 := by omega
          go_wp2
          go_round
          case rel => exact ⟨k + 1, by omega, by go_num, by rw [HS.out]; rfl⟩
          case measure => simp [intOf]; omega
    · go_wp2
      go_ret
      have : k = n := by omega
      subst this
      refine ⟨?_, rfl⟩
      rw [← Hfin.out _ (Crc.fold_lt l (by omega)) rfl, List.take_of_length_le (by rw [h.len]; exact Nat.le_refl _)]
      rfl

end Go.Proofs.YtmanejniepghlaaGreatDoor

/-
  Punycode: plain laws. What Encode returns is read back by Decode; what is decoded has one lower-case text.
-/
namespace Go.Proofs.YtmanejniepghlaaGreatDoor.Puny

/-! ### Numbers -/
theorem decNum_digs (f : Nat) : ∀ (q i w : Int) (k : Nat) (bias : Int) (rest : List UInt8), 0 ≤ q → q < f → 0 ≤ i → 1 ≤ w → 35 * (i + q * w) ≤ 1099511627776 →
    decNum (digs f q k bias ++ rest) i w k bias = .ok (rest, i + q * w) := by
  induction f with
  | zero => intro q i w k bias rest h0 h1; omega
  | succ f ih =>
    intro q i w k bias rest h0 h1 hi hw hT
    have ht := thr_bd k bias
    rw [digs]
    by_cases h : q < thr k bias
    · rw [if_pos h, List.singleton_append, decNum, value_digit q h0 (by omega), if_neg (by omega), if_neg (by omega), if_pos h]
    · rw [if_neg h, List.cons_append, decNum]
      generalize hTT : thr k bias = t at *
      have hd0 : 0 ≤ (q - t) % (36 - t) := Int.emod_nonneg _ (by omega)
      have hd1 : (q - t) % (36 - t) < 36 - t := Int.emod_lt_of_pos _ (by omega)
      have hqe : (36 - t) * ((q - t) / (36 - t)) + (q - t) % (36 - t) = q - t := Int.mul_ediv_add_emod _ _
      have hn := next_lt q t ht.1 ht.2 (by omega)
      generalize (q - t) % (36 - t) = r at *
      generalize (q - t) / (36 - t) = q' at *
      have hwq : 1 * w ≤ q * w := Int.mul_le_mul_of_nonneg_right (by omega) (by omega)
      have hdw : (t + r) * w ≤ q * w := Int.mul_le_mul_of_nonneg_right (by
        have : 0 ≤ (36 - t) * q' := Int.mul_nonneg (by omega) hn.1
        omega) (by omega)
      have hdw0 : 0 ≤ (t + r) * w := Int.mul_nonneg (by omega) (by omega)
      have hwt : w * (36 - t) ≤ w * 35 := Int.mul_le_mul_of_nonneg_left (by omega) (by omega)
      have hwt1 : 1 ≤ w * (36 - t) := by
        have : w * 1 ≤ w * (36 - t) := Int.mul_le_mul_of_nonneg_left (by omega) (by omega)
        omega
      have hsum : (t + r) * w + q' * (w * (36 - t)) = q * w := by
        have h2 : q' * (w * (36 - t)) = ((36 - t) * q') * w := by rw [Int.mul_comm w, ← Int.mul_assoc, Int.mul_comm q']
        rw [h2, ← Int.add_mul]; congr 1; omega
      rw [value_digit _ (by omega) (by omega), if_neg (by omega), if_neg (by omega), if_neg (by omega), if_neg (by omega)]
      rw [ih q' (i + (t + r) * w) (w * (36 - t)) (k + 1) bias rest hn.1 (by omega) (by omega) hwt1 (by omega)]
      congr 2; omega

/-- A digit in lower case. -/
def low (b : UInt8) : UInt8 := digit (value b)

theorem decNum_inv (l : List UInt8) : ∀ (i w : Int) (k : Nat) (bias : Int) (r : List UInt8) (j : Int), 0 ≤ i → 1 ≤ w → decNum l i w k bias = .ok (r, j) →
    ∃ ds q, l = ds ++ r ∧ ds ≠ [] ∧ 0 ≤ q ∧ j = i + q * w ∧ j ≤ 1099511627776 ∧ ∀ f : Nat, q < f → digs f q k bias = ds.map low := by
  induction l with
  | nil => intro i w k bias r j hi hw h; rw [decNum] at h; cases h
  | cons b l ih =>
    intro i w k bias r j hi hw h
    have ht := thr_bd k bias
    have hv := value_lt b
    rw [decNum] at h
    split at h
    · cases h
    split at h
    · cases h
    split at h
    · rename_i h1 h2 h3
      injection h with h; injection h with e1 e2
      subst e1; subst e2
      refine ⟨[b], value b, rfl, by simp, by omega, rfl, by omega, fun f hf => ?_⟩
      obtain ⟨f, rfl⟩ : ∃ g, f = g + 1 := ⟨f - 1, by omega⟩
      rw [digs, if_pos h3]; rfl
    split at h
    · cases h
    rename_i h1 h2 h3 h4
    generalize hTT : thr k bias = t at *
    have hwt1 : 1 ≤ w * (36 - t) := by
      have : w * 1 ≤ w * (36 - t) := Int.mul_le_mul_of_nonneg_left (by omega) (by omega)
      omega
    have hv0 : 0 ≤ value b * w := Int.mul_nonneg (by omega) (by omega)
    obtain ⟨ds, q', e1, -, hq', e2, e3, hdg⟩ := ih (i + value b * w) (w * (36 - t)) (k + 1) bias r j (by omega) hwt1 h
    have h10 : 10 * q' ≤ (36 - t) * q' := Int.mul_le_mul_of_nonneg_right (by omega) hq'
    refine ⟨b :: ds, value b + (36 - t) * q', by rw [e1]; rfl, by simp, by omega, ?_, e3, fun f hf => ?_⟩
    · rw [e2, Int.add_mul, Int.mul_comm w (36 - t), ← Int.mul_assoc, Int.mul_comm q' (36 - t)]; omega
    · obtain ⟨f, rfl⟩ : ∃ g, f = g + 1 := ⟨f - 1, by omega⟩
      have e4 : value b + (36 - t) * q' - t = (value b - t) + (36 - t) * q' := by omega
      have e5 : (value b + (36 - t) * q' - t) % (36 - t) = value b - t := by
        rw [e4, Int.add_mul_emod_self_left]; exact Int.emod_eq_of_lt (by omega) (by omega)
      have e6 : (value b + (36 - t) * q' - t) / (36 - t) = q' := by
        rw [e4, Int.add_mul_ediv_left _ _ (by omega), Int.ediv_eq_zero_of_lt (by omega) (by omega)]; omega
      rw [digs, hTT, if_neg (by omega), e5, e6, hdg f (by omega), List.map_cons]
      congr 2; omega

theorem numE_dec (q i : Int) (bias : Int) (rest : List UInt8) (hq : 0 ≤ q) (hi : 0 ≤ i) (hT : 35 * (i + q) ≤ 1099511627776) : decNum (numE q bias ++ rest) i 1 0 bias = .ok (rest, i + q) := by
  have := decNum_digs (q.toNat + 1) q i 1 0 bias rest hq (by omega) hi (by omega) (by omega)
  rw [Int.mul_one] at this; exact this
theorem numE_ne (q bias : Int) : numE q bias ≠ [] := by
  unfold numE; rw [digs]; split <;> simp

/-- A digit as Encode writes it. -/
def dig (b : UInt8) : Bool := (decide (97 ≤ b.toNat) && decide (b.toNat ≤ 122)) || (decide (48 ≤ b.toNat) && decide (b.toNat ≤ 57))
theorem dig_digit (d : Int) (h0 : 0 ≤ d) (h1 : d < 36) : dig (digit d) = true := by
  unfold dig digit
  by_cases h : d < 26
  · rw [if_pos h]
    have : (UInt8.ofNat (97 + d).toNat).toNat = (97 + d).toNat := by simp; omega
    rw [this]; simp; omega
  · rw [if_neg h]
    have : (UInt8.ofNat (48 + d - 26).toNat).toNat = (48 + d - 26).toNat := by simp; omega
    rw [this]; simp; omega
theorem dig_digs (f : Nat) : ∀ (q : Int) (k : Nat) (bias : Int), 0 ≤ q → ∀ b ∈ digs f q k bias, dig b = true := by
  induction f with
  | zero => intro q k bias h b hb; cases hb
  | succ f ih =>
    intro q k bias h b hb
    have ht := thr_bd k bias
    rw [digs] at hb
    split at hb
    · simp at hb; subst hb; exact dig_digit _ h (by omega)
    · have hd0 : 0 ≤ (q - thr k bias) % (36 - thr k bias) := Int.emod_nonneg _ (by omega)
      have hd1 : (q - thr k bias) % (36 - thr k bias) < 36 - thr k bias := Int.emod_lt_of_pos _ (by omega)
      rcases List.mem_cons.1 hb with rfl | hb
      · exact dig_digit _ (by omega) (by omega)
      · exact ih _ _ _ (next_lt q _ ht.1 ht.2 (by omega)).1 b hb
/-- What has been written: the front, and digits t, at most ten for a point. -/
def Out (fr : List UInt8) (basic : Nat) (e : E) (t : List UInt8) : Prop := e.out = fr ++ t ∧ (∀ b ∈ t, dig b = true) ∧ t.length + 10 * basic ≤ 10 * e.done

/-! ### Insertions -/
theorem ins_length (l : List Int) (i : Nat) (n : Int) (h : i ≤ l.length) : (ins l i n).length = l.length + 1 := by simp [ins]; omega

/-- What a number does to the state of Decode. -/
theorem decStep_num (s : D) (d : Int) (rest : List UInt8) (hd : 0 ≤ d) (hi : 0 ≤ s.i) (hT : 35 * (s.i + d) ≤ 1099511627776) (hp : point (s.n + (s.i + d) / (s.pts.length + 1)) = true) (hl : s.pts.length < 256) :
    decStep (numE d s.bias ++ rest) s = .ok (rest, ⟨ins s.pts ((s.i + d) % (s.pts.length + 1)).toNat (s.n + (s.i + d) / (s.pts.length + 1)), s.n + (s.i + d) / (s.pts.length + 1), (s.i + d) % (s.pts.length + 1) + 1, adapt d (s.pts.length + 1) s.first, false⟩) := by
  unfold decStep
  rw [numE_dec d s.i s.bias rest hd hi hT]
  simp only [hp]
  rw [if_neg (by simp), if_neg (by omega), show s.i + d - s.i = d by omega]

/-- Decode reads the digits and comes from one state to the other. -/
def Reads (s : D) (t : List UInt8) (s' : D) : Prop := ∃ k, k ≤ t.length ∧ ∀ f rest, decGo (f + k) (t ++ rest) s = decGo f rest s'
theorem Reads.refl (s : D) : Reads s [] s := ⟨0, Nat.le_refl _, fun _ _ => rfl⟩
theorem Reads.step {s s' s'' : D} {t u : List UInt8} (h : Reads s t s') (hu : u ≠ []) (hs : ∀ rest, decStep (u ++ rest) s' = .ok (rest, s'')) : Reads s (t ++ u) s'' := by
  obtain ⟨k, hk, h⟩ := h
  have hul : 0 < u.length := List.length_pos_iff.2 hu
  refine ⟨k + 1, by rw [List.length_append]; omega, fun f rest => ?_⟩
  rw [show f + (k + 1) = (f + 1) + k by omega, List.append_assoc, h, decGo, if_neg (by simp [hu]), hs]
theorem Reads.done {s s' : D} {t : List UInt8} (h : Reads s t s') (f : Nat) (hf : t.length ≤ f) : decGo f t s = .ok s'.pts := by
  obtain ⟨k, hk, h⟩ := h
  have := h (f - k) []
  rw [List.append_nil, show f - k + k = f by omega] at this
  rw [this]
  cases f - k <;> simp [decGo]

/-! ### Encode -/
theorem least_le (n : Int) (ps : List Int) : ∀ m, least n m ps ≤ m := by
  induction ps with
  | nil => intro m; exact Int.le_refl _
  | cons p ps ih =>
    intro m
    have := ih (if n ≤ p then min m p else m)
    rw [least, List.foldl_cons]
    refine Int.le_trans this ?_
    split <;> omega
theorem least_low (n : Int) (ps : List Int) : ∀ m, ∀ p ∈ ps, n ≤ p → least n m ps ≤ p := by
  induction ps with
  | nil => intro m p hp; cases hp
  | cons q ps ih =>
    intro m p hp hn
    rw [least, List.foldl_cons]
    rcases List.mem_cons.1 hp with rfl | hp
    · refine Int.le_trans (least_le n ps _) ?_
      rw [if_pos hn]; omega
    · exact ih _ p hp hn
theorem least_mem (n : Int) (ps : List Int) : ∀ m, least n m ps = m ∨ (least n m ps ∈ ps ∧ n ≤ least n m ps) := by
  induction ps with
  | nil => intro m; exact .inl rfl
  | cons q ps ih =>
    intro m
    have e : least n m (q :: ps) = least n (if n ≤ q then min m q else m) ps := rfl
    rw [e]
    rcases ih (if n ≤ q then min m q else m) with h | ⟨h1, h2⟩
    · by_cases hq : n ≤ q
      · rw [if_pos hq] at h ⊢
        rcases Int.le_total q m with hm | hm
        · rw [h, Int.min_eq_right hm]; exact .inr ⟨List.mem_cons_self .., hq⟩
        · rw [h, Int.min_eq_left hm]; exact .inl rfl
      · rw [if_neg hq] at h ⊢; exact .inl h
    · exact .inr ⟨List.mem_cons_of_mem _ h1, h2⟩
/-- The least of the points from n on. -/
theorem least_spec (n M : Int) (ps : List Int) (hex : ∃ p ∈ ps, n ≤ p) (hM : ∀ p ∈ ps, p < M) : least n M ps ∈ ps ∧ n ≤ least n M ps ∧ ∀ p ∈ ps, n ≤ p → least n M ps ≤ p := by
  obtain ⟨p, hp, hn⟩ := hex
  have h1 := least_low n ps M
  rcases least_mem n ps M with h | ⟨h2, h3⟩
  · have := h1 p hp hn; have := hM p hp; omega
  · exact ⟨h2, h3, h1⟩
/-- How many points lie below n. -/
def below (n : Int) (ps : List Int) : List Int := ps.filter fun p => decide (p < n)
theorem below_le (n : Int) (ps : List Int) : (below n ps).length ≤ ps.length := List.length_filter_le _ _
theorem below_all (n : Int) (ps : List Int) (h : ¬ (below n ps).length < ps.length) : below n ps = ps ∧ ∀ p ∈ ps, p < n := by
  have hl : (below n ps).length = ps.length := by have := below_le n ps; omega
  have : ∀ p ∈ ps, decide (p < n) = true := (List.length_filter_eq_length_iff).1 hl
  exact ⟨List.filter_eq_self.2 this, fun p hp => of_decide_eq_true (this p hp)⟩
theorem below_some (n : Int) (ps : List Int) (h : (below n ps).length < ps.length) : ∃ p ∈ ps, n ≤ p := by
  refine Classical.byContradiction fun hne => ?_
  have : (below n ps).length = ps.length := (List.length_filter_eq_length_iff).2 fun p hp => decide_eq_true (by
    rcases Int.lt_or_le p n with h1 | h1
    · exact h1
    · exact absurd ⟨p, hp, h1⟩ hne)
  omega

/-- What holds between two points of Encode's inner loop: behind pre, ahead of post, at n. The state of the Decode that has read what was written is s. -/
structure Mid (n : Int) (pre post : List Int) (basic : Nat) (e : E) (s : D) : Prop where
  pts : s.pts = (pre.filter fun p => decide (p ≤ n)) ++ below n post
  done : e.done = s.pts.length
  bias : e.bias = s.bias
  first : s.first = (e.done == basic)
  basic : basic ≤ e.done
  delta : e.delta = (n - s.n) * (s.pts.length + 1) + (pre.filter fun p => decide (p ≤ n)).length - s.i
  nonneg : 0 ≤ e.delta
  i0 : 0 ≤ s.i
  n1 : 128 ≤ s.n
  n2 : s.n ≤ n

theorem mid_step (n : Int) (hn : point n = true) (pre post : List Int) (p : Int) (basic : Nat) (e : E) (s s0 : D) (fr t : List UInt8) (hlen : (pre ++ p :: post).length ≤ 256) (h : Mid n pre (p :: post) basic e s) (hr : Reads s0 t s) (ho : Out fr basic e t) :
    ∃ t' s', Mid n (pre ++ [p]) post basic (encPt n basic e p) s' ∧ Reads s0 t' s' ∧ Out fr basic (encPt n basic e p) t' := by
  obtain ⟨h1, h2, h3, h4, h5, h6, h7, h8, h9, h10⟩ := h
  have hn' := (point_iff n).1 hn
  unfold encPt
  by_cases hlt : p < n
  · rw [if_pos hlt]
    have e1 : ((pre ++ [p]).filter fun p => decide (p ≤ n)) = (pre.filter fun p => decide (p ≤ n)) ++ [p] := by simp; omega
    have e2 : below n (p :: post) = p :: below n post := by simp [below, hlt]
    refine ⟨t, s, ⟨?_, h2, h3, h4, h5, ?_, by simp only; omega, h8, h9, h10⟩, hr, ho⟩
    · rw [h1, e1, e2]; simp
    · simp only [h6, e1, List.length_append, List.length_singleton, Int.natCast_add]; omega
  rw [if_neg hlt]
  have e2 : below n (p :: post) = below n post := by simp [below, hlt]
  rw [e2] at h1
  by_cases heq : p = n
  · rw [if_pos heq]
    have e1 : ((pre ++ [p]).filter fun p => decide (p ≤ n)) = (pre.filter fun p => decide (p ≤ n)) ++ [n] := by subst heq; simp
    have hpl : (pre.filter fun p => decide (p ≤ n)).length ≤ pre.length := List.length_filter_le _ _
    have hbl := below_le n post
    have hsl : s.pts.length < 256 := by
      rw [h1, List.length_append]; simp at hlen; omega
    have hpos : ((pre.filter fun p => decide (p ≤ n)).length : Int) < s.pts.length + 1 := by rw [h1, List.length_append]; omega
    generalize hP : (pre.filter fun p => decide (p ≤ n)).length = pos at *
    have hmul : (n - s.n) * ((s.pts.length : Int) + 1) ≤ 1114111 * 257 := Int.mul_le_mul (by omega) (by omega) (by omega) (by omega)
    have hj : s.i + e.delta = (pos : Int) + (s.pts.length + 1) * (n - s.n) := by rw [h6, Int.mul_comm]; omega
    have hdiv : (s.i + e.delta) / (s.pts.length + 1) = n - s.n := by
      rw [hj, Int.add_mul_ediv_left _ _ (by omega), Int.ediv_eq_zero_of_lt (by omega) hpos]; omega
    have hmod : (s.i + e.delta) % (s.pts.length + 1) = pos := by
      rw [hj, Int.add_mul_emod_self_left]; exact Int.emod_eq_of_lt (by omega) hpos
    have hstep := fun rest => decStep_num s e.delta rest h7 h8 (by rw [Int.mul_comm] at hmul; omega) (by rw [hdiv, show s.n + (n - s.n) = n by omega]; exact hn) hsl
    rw [hdiv, hmod, show s.n + (n - s.n) = n by omega, Int.toNat_natCast] at hstep
    have hins : ins s.pts pos n = ((pre.filter fun p => decide (p ≤ n)) ++ [n]) ++ below n post := by
      unfold ins
      rw [h1, ← hP, List.take_left, List.drop_left]; simp
    have hlp : (ins s.pts pos n).length = s.pts.length + 1 := ins_length _ _ _ (by omega)
    refine ⟨t ++ numE e.delta s.bias, _, ?_, hr.step (numE_ne _ _) hstep, ?_⟩
    rotate_left
    · obtain ⟨o1, o2, o3⟩ := ho
      refine ⟨by simp only [o1, h3, List.append_assoc], fun b hb => ?_, ?_⟩
      · rcases List.mem_append.1 hb with hb | hb
        · exact o2 b hb
        · exact dig_digs _ _ _ _ h7 b hb
      · have := digs_length 9 (e.delta.toNat + 1) e.delta 0 s.bias h7 (by
          rw [Int.mul_comm] at hmul
          have : (10 : Int) ^ 9 = 1000000000 := by decide
          omega)
        rw [List.length_append]
        unfold numE
        simp only; omega
    refine ⟨by rw [e1]; exact hins, by simp only [hlp, h2], by simp only [h2, h4], ?_, by simp only; omega, ?_, by simp, by simp only; omega, by simp only; omega, Int.le_refl _⟩
    · simp only
      rw [beq_eq_false_iff_ne.2 (by omega)]
    · simp only [e1, List.length_append, List.length_singleton, hP, Int.natCast_add]; omega
  · rw [if_neg heq]
    have e1 : ((pre ++ [p]).filter fun p => decide (p ≤ n)) = (pre.filter fun p => decide (p ≤ n)) := by simp; omega
    exact ⟨t, s, ⟨by rw [h1, e1], h2, h3, h4, h5, by rw [h6, e1], h7, h8, h9, h10⟩, hr, ho⟩

theorem mid_fold (n : Int) (hn : point n = true) (basic : Nat) (s0 : D) (fr : List UInt8) : ∀ (post pre : List Int) (e : E) (s : D) (t : List UInt8), (pre ++ post).length ≤ 256 → Mid n pre post basic e s → Reads s0 t s → Out fr basic e t →
    ∃ t' s', Mid n (pre ++ post) [] basic (post.foldl (encPt n basic) e) s' ∧ Reads s0 t' s' ∧ Out fr basic (post.foldl (encPt n basic) e) t' := by
  intro post
  induction post with
  | nil => intro pre e s t hl h hr ho; exact ⟨t, s, by simpa using h, hr, ho⟩
  | cons p post ih =>
    intro pre e s t hl h hr ho
    obtain ⟨t1, s1, m1, r1, o1⟩ := mid_step n hn pre post p basic e s s0 fr t hl h hr ho
    obtain ⟨t2, s2, m2, r2, o2⟩ := ih (pre ++ [p]) _ s1 t1 (by simpa using hl) m1 r1 o1
    exact ⟨t2, s2, by simpa using m2, r2, o2⟩

/-- What holds at the head of Encode's outer loop. -/
structure Head (ps : List Int) (n : Int) (basic : Nat) (e : E) (s : D) : Prop where
  pts : s.pts = below n ps
  done : e.done = s.pts.length
  bias : e.bias = s.bias
  first : s.first = (e.done == basic)
  basic : basic ≤ e.done
  delta : e.delta = (n - s.n) * (s.pts.length + 1) - s.i
  nonneg : 0 ≤ e.delta
  i0 : 0 ≤ s.i
  n1 : 128 ≤ s.n
  n2 : s.n ≤ n

theorem head_mid (ps : List Int) (hps : ∀ p ∈ ps, point p = true) (n : Int) (basic : Nat) (e : E) (s : D) (h : Head ps n basic e s) (hlt : e.done < ps.length) :
    let m := least n 1114112 ps
    point m = true ∧ n ≤ m ∧ m ∈ ps ∧ Mid m [] ps basic { e with delta := e.delta + (m - n) * (e.done + 1) } s := by
  intro m
  obtain ⟨h1, h2, h3, h4, h5, h6, h7, h8, h9, h10⟩ := h
  obtain ⟨l1, l2, l3⟩ := least_spec n 1114112 ps (below_some n ps (by rw [← h1, ← h2]; exact hlt)) (fun p hp => by have := (point_iff p).1 (hps p hp); omega)
  have hb : below m ps = below n ps := by
    apply List.filter_congr
    intro p hp
    rw [Bool.eq_iff_iff, decide_eq_true_iff, decide_eq_true_iff]
    constructor
    · intro hm
      rcases Int.lt_or_le p n with h | h
      · exact h
      · have := l3 p hp h; omega
    · intro hn; omega
  have hmn : 0 ≤ (m - n) * ((e.done : Int) + 1) := Int.mul_nonneg (by omega) (by omega)
  refine ⟨hps _ l1, l2, l1, ⟨by rw [h1, hb]; rfl, h2, h3, h4, h5, ?_, by simp only; omega, h8, h9, by omega⟩⟩
  simp only [h6, h2, List.filter_nil, List.length_nil, Int.natCast_zero, Int.add_zero]
  rw [show m - s.n = (n - s.n) + (m - n) by omega, Int.add_mul]; omega

theorem mid_head (ps : List Int) (m : Int) (basic : Nat) (e : E) (s : D) (h : Mid m ps [] basic e s) : Head ps (m + 1) basic { e with delta := e.delta + 1 } s := by
  obtain ⟨h1, h2, h3, h4, h5, h6, h7, h8, h9, h10⟩ := h
  have hb : (ps.filter fun p => decide (p ≤ m)) = below (m + 1) ps := by
    apply List.filter_congr
    intro p _
    rw [Bool.eq_iff_iff, decide_eq_true_iff, decide_eq_true_iff]; omega
  have hp : s.pts = below (m + 1) ps := by rw [h1, hb]; simp [below]
  refine ⟨hp, h2, h3, h4, h5, ?_, by simp only; omega, h8, h9, by omega⟩
  simp only [h6]
  rw [hb, ← hp, show m + 1 - s.n = (m - s.n) + 1 by omega, Int.add_mul]; omega

theorem encGo_reads (ps : List Int) (hps : ∀ p ∈ ps, point p = true) (hl : ps.length ≤ 256) (basic : Nat) (s0 : D) (fr : List UInt8) : ∀ (f : Nat) (n : Int) (e : E) (s : D) (t : List UInt8), ps.length < f + e.done → Head ps n basic e s → Reads s0 t s → Out fr basic e t →
    ∃ t' s', encGo ps basic f n e = fr ++ t' ∧ Reads s0 t' s' ∧ s'.pts = ps ∧ (∀ b ∈ t', dig b = true) ∧ t'.length + 10 * basic ≤ 10 * ps.length := by
  intro f
  induction f with
  | zero =>
    intro n e s t hf h hr ho
    have := h.done
    rw [h.pts] at this
    have := below_le n ps
    omega
  | succ f ih =>
    intro n e s t hf h hr ho
    rw [encGo]
    by_cases hlt : e.done < ps.length
    · rw [if_pos hlt]
      obtain ⟨p1, p2, p3, p4⟩ := head_mid ps hps n basic e s h hlt
      obtain ⟨t2, s2, m2, r2, o2⟩ := mid_fold _ p1 basic s0 fr ps [] _ s t (by simpa using hl) p4 hr ho
      have h2 := mid_head ps _ basic _ s2 (by simpa using m2)
      have hgrow : e.done < s2.pts.length := by
        rw [h2.pts, h.done, h.pts]
        refine Nat.lt_of_le_of_ne (List.Sublist.length_le (?_ : List.Sublist _ _)) fun hel => ?_
        · have : below n ps = (below (least n 1114112 ps + 1) ps).filter fun p => decide (p < n) := by
            unfold below
            rw [List.filter_filter]
            apply List.filter_congr
            intro p _
            rw [Bool.eq_iff_iff, Bool.and_eq_true, decide_eq_true_iff, decide_eq_true_iff]; omega
          rw [this]; exact List.filter_sublist
        · have hsub : List.Sublist (below n ps) (below (least n 1114112 ps + 1) ps) := by
            have : below n ps = (below (least n 1114112 ps + 1) ps).filter fun p => decide (p < n) := by
              unfold below
              rw [List.filter_filter]
              apply List.filter_congr
              intro p _
              rw [Bool.eq_iff_iff, Bool.and_eq_true, decide_eq_true_iff, decide_eq_true_iff]; omega
            rw [this]; exact List.filter_sublist
          have he := hsub.eq_of_length hel
          have hm : least n 1114112 ps ∈ below n ps := by rw [he]; exact List.mem_filter.2 ⟨p3, decide_eq_true (by omega)⟩
          have := of_decide_eq_true (List.mem_filter.1 hm).2
          omega
      exact ih _ _ s2 t2 (by have := h2.done; simp only at this ⊢; omega) h2 r2 o2
    · rw [if_neg hlt]
      have hall := (below_all n ps (by rw [← h.pts, ← h.done]; exact hlt)).1
      have hd := h.done
      rw [h.pts, hall] at hd
      exact ⟨t, s, ho.1, hr, by rw [h.pts]; exact hall, ho.2.1, by rw [← hd]; exact ho.2.2⟩

/-- The points below 128, in their order. -/
theorem basics_below (ps : List Int) (hps : ∀ p ∈ ps, point p = true) : (basics ps).map (fun b => (b.toNat : Int)) = below 128 ps := by
  unfold basics below
  rw [List.map_map]
  have : ∀ p ∈ ps.filter fun p => decide (p < 128), ((fun b : UInt8 => (b.toNat : Int)) ∘ fun p : Int => UInt8.ofNat p.toNat) p = p := by
    intro p hp
    obtain ⟨h1, h2⟩ := List.mem_filter.1 hp
    have h3 := of_decide_eq_true h2
    have h4 := (point_iff p).1 (hps p h1)
    have : (UInt8.ofNat p.toNat).toNat = p.toNat := by simp; omega
    simp only [Function.comp, this]; omega
  rw [List.map_congr_left this]; simp

def start (base : List Int) : D := ⟨base, 128, 0, 72, true⟩

/-- What Encode writes behind the front is read by Decode. -/
theorem encode_reads (ps : List Int) (hps : ∀ p ∈ ps, point p = true) (hl : ps.length ≤ 256) : ∃ t s', encode ps = front ps ++ t ∧ Reads (start (below 128 ps)) t s' ∧ s'.pts = ps ∧ (∀ b ∈ t, dig b = true) ∧ t.length + 10 * (basics ps).length ≤ 10 * ps.length := by
  have hb : (basics ps).length = (below 128 ps).length := by rw [← basics_below ps hps, List.length_map]
  unfold encode
  refine encGo_reads ps hps hl (basics ps).length (start (below 128 ps)) (front ps) (ps.length + 1) 128 _ (start (below 128 ps)) [] (by simp only; omega) ?_ (Reads.refl _) ⟨by simp, by simp, by simp⟩
  refine ⟨rfl, hb, rfl, by simp [start], Nat.le_refl _, ?_, Int.le_refl _, Int.le_refl _, Int.le_refl _, Int.le_refl _⟩
  simp [start]

/-! ### The history of a Decode -/
def run (l : List Int) (h : List (Int × Nat)) : List Int := h.foldl (fun l x => ins l x.2 x.1) l
def Good : Int → Int → List Int → List (Int × Nat) → Prop
  | _, _, _, [] => True
  | n0, i0, l, x :: h => x.2 ≤ l.length ∧ point x.1 = true ∧ (n0 < x.1 ∨ (n0 = x.1 ∧ i0 ≤ x.2)) ∧ l.length < 256 ∧ Good x.1 (x.2 + 1) (ins l x.2 x.1) h
def encH : Int → Int → Int → Bool → Nat → List (Int × Nat) → List UInt8
  | _, _, _, _, _, [] => []
  | n0, i0, bias, first, len, x :: h => numE ((x.1 - n0) * (len + 1) + x.2 - i0) bias ++ encH x.1 (x.2 + 1) (adapt ((x.1 - n0) * (len + 1) + x.2 - i0) (len + 1) first) false (len + 1) h

theorem decGo_history (f : Nat) : ∀ (l : List UInt8) (s : D) (p : List Int), l.length < f → 0 ≤ s.i → decGo f l s = .ok p →
    ∃ h, Good s.n s.i s.pts h ∧ run s.pts h = p ∧ l.map low = encH s.n s.i s.bias s.first s.pts.length h := by
  induction f with
  | zero => intro l s p hl; omega
  | succ f ih =>
    intro l s p hl hi h
    rw [decGo] at h
    by_cases hl0 : l = []
    · rw [if_pos hl0] at h
      injection h with h
      exact ⟨[], trivial, h, by rw [hl0]; rfl⟩
    · rw [if_neg hl0] at h
      unfold decStep at h
      cases hd : decNum l s.i 1 0 s.bias with
      | error e => rw [hd] at h; cases h
      | ok rj =>
        obtain ⟨r, j⟩ := rj
        rw [hd] at h
        obtain ⟨ds, q, e1, hne, hq, e2, -, hdg⟩ := decNum_inv l s.i 1 0 s.bias r j hi (by omega) hd
        rw [Int.mul_one] at e2
        simp only at h
        have hc0 : (0 : Int) < (s.pts.length : Int) + 1 := by omega
        have hm0 := Int.emod_nonneg j (show ((s.pts.length : Int) + 1) ≠ 0 by omega)
        have hm1 := Int.emod_lt_of_pos j hc0
        have hdm := Int.mul_ediv_add_emod j ((s.pts.length : Int) + 1)
        have hdiv0 : 0 ≤ j / ((s.pts.length : Int) + 1) := Int.ediv_nonneg (by omega) (by omega)
        generalize hQ : j / ((s.pts.length : Int) + 1) = Q at *
        generalize hM : j % ((s.pts.length : Int) + 1) = M at *
        by_cases hp : point (s.n + Q) = false
        · rw [if_pos hp] at h; cases h
        rw [if_neg hp] at h
        by_cases h256 : (256 : Int) < (s.pts.length : Int) + 1
        · rw [if_pos h256] at h; cases h
        rw [if_neg h256] at h
        simp only at h
        have hlr : r.length < f := by
          have : 0 < ds.length := List.length_pos_iff.2 hne
          rw [e1, List.length_append] at hl; omega
        obtain ⟨hh, g1, g2, g3⟩ := ih r _ p hlr (by simp only; omega) h
        simp only at g1 g2 g3
        have hdel : (s.n + Q - s.n) * ((s.pts.length : Int) + 1) + (M.toNat : Int) - s.i = j - s.i := by
          rw [show s.n + Q - s.n = Q by omega, Int.mul_comm]; omega
        have hins := ins_length s.pts M.toNat (s.n + Q) (by omega)
        have hMc : ((M.toNat : Nat) : Int) = M := by omega
        refine ⟨(s.n + Q, M.toNat) :: hh, ⟨by simp only; omega, by simpa using hp, ?_, by omega, by simp only; rw [hMc]; exact g1⟩, g2, ?_⟩
        · by_cases hQ0 : Q = 0
          · right; refine ⟨by simp only; omega, ?_⟩
            rw [hQ0, Int.mul_zero] at hdm; simp only; omega
          · left; simp only; omega
        · rw [encH]
          simp only
          rw [hdel, e1, List.map_append, g3, hins, hMc]
          congr 1
          unfold numE
          rw [show j - s.i = q by omega, ← hdg (q.toNat + 1) (by omega)]

/-- All are at most n0, and from i0 on below it. -/
def Top (l : List Int) (n0 i0 : Int) : Prop := ∀ (j : Nat) (x : Int), l[j]? = some x → x ≤ n0 ∧ (i0 ≤ j → x < n0)
theorem ins_get (l : List Int) (i : Nat) (n : Int) (hi : i ≤ l.length) (j : Nat) : (ins l i n)[j]? = if j < i then l[j]? else if j = i then some n else l[j - 1]? := by
  unfold ins
  rw [List.getElem?_append]
  have hl : (l.take i).length = i := by simp; omega
  rw [hl]
  by_cases h : j < i
  · rw [if_pos h, if_pos h, List.getElem?_take_of_lt h]
  · rw [if_neg h, if_neg h]
    by_cases h2 : j = i
    · subst h2; simp
    · rw [if_neg h2]
      obtain ⟨k, rfl⟩ : ∃ k, j = i + (k + 1) := ⟨j - i - 1, by omega⟩
      rw [show i + (k + 1) - i = k + 1 by omega, List.getElem?_cons_succ, List.getElem?_drop]
      congr 1
theorem top_ins (l : List Int) (n0 i0 : Int) (h : Top l n0 i0) (i : Nat) (n : Int) (hi : i ≤ l.length) (hlt : n0 < n ∨ (n0 = n ∧ i0 ≤ i)) : Top (ins l i n) n (i + 1) := by
  intro j x hx
  rw [ins_get l i n hi] at hx
  by_cases h1 : j < i
  · rw [if_pos h1] at hx
    have := (h j x hx).1
    exact ⟨by omega, fun hh => by omega⟩
  · rw [if_neg h1] at hx
    by_cases h2 : j = i
    · rw [if_pos h2] at hx; cases hx
      exact ⟨Int.le_refl _, fun hh => by omega⟩
    · rw [if_neg h2] at hx
      have h3 := h (j - 1) x hx
      refine ⟨by omega, fun _ => ?_⟩
      rcases hlt with hlt | ⟨e, hle⟩
      · omega
      · have := h3.2 (by omega); omega

theorem good_snoc (h : List (Int × Nat)) (x : Int × Nat) : ∀ (n0 i0 : Int) (l : List Int), Top l n0 i0 → Good n0 i0 l (h ++ [x]) → Good n0 i0 l h ∧ x.2 ≤ (run l h).length ∧ ∃ n i, Top (run l h) n i ∧ (n < x.1 ∨ (n = x.1 ∧ i ≤ x.2)) := by
  induction h with
  | nil => intro n0 i0 l ht hg; exact ⟨trivial, hg.1, n0, i0, ht, hg.2.2.1⟩
  | cons y h ih =>
    intro n0 i0 l ht hg
    obtain ⟨g1, g2, g3, g4, g5⟩ := hg
    obtain ⟨r1, r2, r3⟩ := ih y.1 (y.2 + 1) (ins l y.2 y.1) (top_ins l n0 i0 ht y.2 y.1 g1 g3) g5
    exact ⟨⟨g1, g2, g3, g4, r1⟩, r2, r3⟩

theorem run_snoc (l : List Int) (h : List (Int × Nat)) (x : Int × Nat) : run l (h ++ [x]) = ins (run l h) x.2 x.1 := by simp [run]
theorem run_length (h : List (Int × Nat)) : ∀ (n0 i0 : Int) (l : List Int), Good n0 i0 l h → (run l h).length = l.length + h.length := by
  induction h with
  | nil => intro n0 i0 l _; rfl
  | cons y h ih =>
    intro n0 i0 l hg
    obtain ⟨g1, g2, g3, g4, g5⟩ := hg
    have := ih _ _ _ g5
    have e : run l (y :: h) = run (ins l y.2 y.1) h := rfl
    rw [e, this, ins_length _ _ _ g1, List.length_cons]; omega

theorem ins_inj (l l' : List Int) (i : Nat) (n : Int) (hi : i ≤ l.length) (hi' : i ≤ l'.length) (h : ins l i n = ins l' i n) : l = l' := by
  unfold ins at h
  have h1 := List.append_inj h (by simp; omega)
  have h2 := (List.cons.inj h1.2).2
  rw [← List.take_append_drop i l, ← List.take_append_drop i l', h1.1, h2]

/-- Two histories that begin alike and end alike are alike. -/
theorem good_unique (m : Nat) : ∀ (h h' : List (Int × Nat)) (n0 i0 : Int) (l : List Int), h.length = m → Top l n0 i0 → Good n0 i0 l h → Good n0 i0 l h' → run l h = run l h' → h = h' := by
  induction m with
  | zero =>
    intro h h' n0 i0 l hm ht g g' hr
    have e := run_length h n0 i0 l g
    have e' := run_length h' n0 i0 l g'
    rw [hr] at e
    have : h'.length = 0 := by omega
    rw [List.eq_nil_of_length_eq_zero hm, List.eq_nil_of_length_eq_zero this]
  | succ m ih =>
    intro h h' n0 i0 l hm ht g g' hr
    have e := run_length h n0 i0 l g
    have e' := run_length h' n0 i0 l g'
    rw [hr] at e
    rcases List.eq_nil_or_concat h with rfl | ⟨k, x, rfl⟩
    · simp at hm
    rcases List.eq_nil_or_concat h' with rfl | ⟨k', x', rfl⟩
    · simp at e e' hm; omega
    rw [List.concat_eq_append] at *
    rw [List.concat_eq_append] at *
    obtain ⟨a1, a2, n, i, a3, a4⟩ := good_snoc k x n0 i0 l ht g
    obtain ⟨b1, b2, n', i', b3, b4⟩ := good_snoc k' x' n0 i0 l ht g'
    rw [run_snoc, run_snoc] at hr
    have t1 := top_ins _ n i a3 x.2 x.1 a2 a4
    have t2 := top_ins _ n' i' b3 x'.2 x'.1 b2 b4
    have c1 : (ins (run l k) x.2 x.1)[x.2]? = some x.1 := by rw [ins_get _ _ _ a2]; simp
    have c2 : (ins (run l k') x'.2 x'.1)[x'.2]? = some x'.1 := by rw [ins_get _ _ _ b2]; simp
    rw [hr] at c1 t1
    have d1 := (t2 x.2 x.1 c1)
    have d2 := (t1 x'.2 x'.1 c2)
    have e1 : x.1 = x'.1 := by omega
    have e2 : x.2 = x'.2 := by omega
    have ex : x = x' := Prod.ext e1 e2
    subst ex
    have hk := ins_inj _ _ _ _ a2 b2 hr
    rw [ih k k' n0 i0 l (by simp at hm; exact hm) ht a1 b1 hk]

theorem good_below (h : List (Int × Nat)) : ∀ (n0 i0 : Int) (l : List Int), 128 ≤ n0 → Good n0 i0 l h → below 128 (run l h) = below 128 l := by
  induction h with
  | nil => intros; rfl
  | cons x h ih =>
    intro n0 i0 l hn hg
    obtain ⟨g1, g2, g3, g4, g5⟩ := hg
    have e : run l (x :: h) = run (ins l x.2 x.1) h := rfl
    rw [e, ih _ _ _ (by omega) g5]
    unfold ins below
    rw [List.filter_append, List.filter_cons_of_neg (by simp; omega), ← List.filter_append, List.take_append_drop]
theorem good_points (h : List (Int × Nat)) : ∀ (n0 i0 : Int) (l : List Int), (∀ p ∈ l, point p = true) → l.length ≤ 256 → Good n0 i0 l h → (∀ p ∈ run l h, point p = true) ∧ (run l h).length ≤ 256 := by
  induction h with
  | nil => intro n0 i0 l hl h2 _; exact ⟨hl, h2⟩
  | cons x h ih =>
    intro n0 i0 l hl h2 hg
    obtain ⟨g1, g2, g3, g4, g5⟩ := hg
    refine ih _ _ _ ?_ (by rw [ins_length _ _ _ g1]; omega) g5
    intro p hp
    unfold ins at hp
    rcases List.mem_append.1 hp with hp | hp
    · exact hl p (List.mem_of_mem_take hp)
    · rcases List.mem_cons.1 hp with rfl | hp
      · exact g2
      · exact hl p (List.mem_of_mem_drop hp)

/-! ### Decode of a text -/
theorem cut_front (b t : List UInt8) (ht : ∀ x ∈ t, x ≠ 45) : cut (b ++ 45 :: t) = b.length := by
  unfold cut
  have : (b ++ 45 :: t).reverse.takeWhile (· != 45) = t.reverse := by
    rw [List.reverse_append, List.reverse_cons, List.append_assoc]
    rw [List.takeWhile_append_of_pos (by intro x hx; have := ht x (List.mem_reverse.1 hx); simpa using this)]
    simp
  rw [this]; simp
theorem cut_none (t : List UInt8) (ht : ∀ x ∈ t, x ≠ 45) : cut t = 0 := by
  unfold cut
  have : t.reverse.takeWhile (· != 45) = t.reverse := by
    have := List.takeWhile_append_of_pos (p := (· != (45 : UInt8))) (l₁ := t.reverse) (l₂ := []) (by intro x hx; have := ht x (List.mem_reverse.1 hx); simpa using this)
    simpa using this
  rw [this]; simp
theorem cut_lt (l : List UInt8) (h : cut l ≠ 0) : cut l < l.length ∧ l = l.take (cut l) ++ 45 :: l.drop (cut l + 1) := by
  unfold cut at h ⊢
  have hs := List.takeWhile_append_dropWhile (p := (· != (45 : UInt8))) (l := l.reverse)
  generalize ht : l.reverse.takeWhile (· != 45) = t at *
  generalize hd : l.reverse.dropWhile (· != 45) = d at *
  have hlen := congrArg List.length hs
  simp at hlen
  cases d with
  | nil => simp at hlen; omega
  | cons x d =>
    have hx : x = 45 := by
      have := List.head?_dropWhile_not (p := (· != (45 : UInt8))) (l := l.reverse)
      rw [hd] at this
      simpa using this
    subst hx
    have hl : l = d.reverse ++ 45 :: t.reverse := by
      have := congrArg List.reverse hs
      rw [List.reverse_reverse] at this
      rw [← this]; simp
    simp at hlen
    have hc : l.length - 1 - t.length = d.reverse.length := by simp; omega
    rw [hc]
    refine ⟨by simp; omega, ?_⟩
    conv => lhs; rw [hl]
    congr 1
    · rw [hl, List.take_left]
    · rw [hl]
      rw [show d.reverse.length + 1 = (d.reverse ++ [45]).length by simp, show d.reverse ++ 45 :: t.reverse = (d.reverse ++ [45]) ++ t.reverse by simp, List.drop_left]

theorem all_points (l : List UInt8) (h : (l.all fun b => decide (b.toNat < 128)) = true) (k : Nat) : ∀ p ∈ (l.take k).map (fun b => (b.toNat : Int)), point p = true ∧ p < 128 := by
  intro p hp
  obtain ⟨b, hb, rfl⟩ := List.mem_map.1 hp
  have := of_decide_eq_true (List.all_eq_true.1 h b (List.mem_of_mem_take hb))
  exact ⟨(point_iff _).2 (by omega), by omega⟩

/-- What is decoded are points, and their encoding is as long as the text. -/
theorem decode_ok (l : List UInt8) (p : List Int) (h : decode l = .ok p) : (∀ x ∈ p, point x = true) ∧ p.length ≤ 256 ∧ (encode p).length = l.length ∧ l.length ≤ 1024 := by
  unfold decode at h
  by_cases h1 : 1024 < l.length
  · rw [if_pos h1] at h; cases h
  rw [if_neg h1] at h
  by_cases h2 : (l.all fun b => decide (b.toNat < 128)) = false
  · rw [if_pos h2] at h; cases h
  rw [if_neg h2] at h
  by_cases h3 : 256 < cut l
  · rw [if_pos h3] at h; cases h
  rw [if_neg h3] at h
  have hall : (l.all fun b => decide (b.toNat < 128)) = true := by simpa using h2
  have hbase := all_points l hall (cut l)
  have hbl : ((l.take (cut l)).map fun b => (b.toNat : Int)).length ≤ 256 := by simp; omega
  generalize hR : (if cut l = 0 then l else l.drop (cut l + 1)) = r at *
  have hrl : r.length ≤ l.length := by rw [← hR]; split <;> simp
  obtain ⟨hh, g1, g2, g3⟩ := decGo_history (l.length + 1) r _ p (by omega) (Int.le_refl _) h
  simp only at g1 g2 g3
  obtain ⟨q1, q2⟩ := good_points hh _ _ _ (fun x hx => (hbase x hx).1) hbl g1
  rw [g2] at q1 q2
  have hbel : below 128 p = (l.take (cut l)).map fun b => (b.toNat : Int) := by
    rw [← g2, good_below hh _ _ _ (Int.le_refl _) g1]
    exact List.filter_eq_self.2 fun x hx => decide_eq_true (hbase x hx).2
  obtain ⟨t, s', e1, rd, e2, hd, -⟩ := encode_reads p q1 q2
  have hr := rd.done (t.length + 1) (by omega)
  rw [e2, hbel] at hr
  obtain ⟨hh', k1, k2, k3⟩ := decGo_history (t.length + 1) t _ p (by omega) (Int.le_refl _) hr
  simp only [start] at k1 k2 k3
  have htop : Top ((l.take (cut l)).map fun b => (b.toNat : Int)) 128 0 := by
    intro j x hx
    have := (hbase x (List.mem_of_getElem? hx)).2
    exact ⟨by omega, fun _ => this⟩
  have huniq := good_unique _ hh hh' _ _ _ rfl htop g1 k1 (by rw [g2, k2])
  rw [← huniq] at k3
  have hlen : t.length = r.length := by
    have := congrArg List.length (k3.trans g3.symm)
    simpa using this
  refine ⟨q1, q2, ?_, by omega⟩
  have hbn : (basics p).length = cut l := by
    have : (basics p).length = (below 128 p).length := by rw [← basics_below p q1, List.length_map]
    rw [this, hbel, List.length_map, List.length_take]
    by_cases hc : cut l = 0
    · omega
    · have := (cut_lt l hc).1; omega
  rw [e1, List.length_append, hlen, ← hR, front]
  by_cases hc : cut l = 0
  · rw [if_pos hc]
    have : basics p = [] := List.eq_nil_of_length_eq_zero (by omega)
    rw [this]; simp
  · have h5 := (cut_lt l hc).1
    have : basics p ≠ [] := fun e => by rw [e] at hbn; simp at hbn; omega
    rw [if_neg hc, if_neg this]; simp; omega

end Go.Proofs.YtmanejniepghlaaGreatDoor.Puny

/-
  The wire encodings of numbers and texts as plain functions. No program stands in this text.
-/
namespace Go.Proofs.YtmanejniepghlaaGreatDoor.Wire

/-- The encoding of a number. -/
def enc (v : Nat) : List UInt8 := if v < 128 then [UInt8.ofNat v] else UInt8.ofNat (v % 128 + 128) :: enc (v / 128)
termination_by v
decreasing_by omega
theorem enc_last {v : Nat} (h : v < 128) : enc v = [UInt8.ofNat v] := by rw [enc, if_pos h]
theorem enc_step {v : Nat} (h : ¬ v < 128) : enc v = UInt8.ofNat (v % 128 + 128) :: enc (v / 128) := by rw [enc, if_neg h]
/-- The number of bytes of a number. -/
theorem enc_len_bound : ∀ (k v : Nat), v < 128 ^ (k + 1) → 1 ≤ (enc v).length ∧ (enc v).length ≤ k + 1
  | 0, v, h => by rw [enc_last (by omega)]; simp
  | k + 1, v, h => by
    by_cases hv : v < 128
    · rw [enc_last hv]; simp
    · rw [enc_step hv]
      have h2 : v / 128 < 128 ^ (k + 1) := by
        rw [Nat.div_lt_iff_lt_mul (by omega)]; rw [Nat.pow_succ] at h; exact h
      have := enc_len_bound k (v / 128) h2
      simp only [List.length_cons]; omega
theorem enc_len {v : Nat} (h : v < 18446744073709551616) : 1 ≤ (enc v).length ∧ (enc v).length ≤ 10 := enc_len_bound 9 v (by omega)
theorem enc_ne (v : Nat) : enc v ≠ [] := by
  by_cases hv : v < 128
  · rw [enc_last hv]; simp
  · rw [enc_step hv]; simp

def big (x : UInt8) : Bool := decide (128 ≤ x.toNat)
/-- The number that bytes denote, the first one the least. -/
def val : List UInt8 → Nat
  | [] => 0
  | x :: l => x.toNat % 128 + 128 * val l
/-- The number of continued bytes at the beginning. -/
def run (b : List UInt8) : Nat := (b.takeWhile big).length

/-- The number at the beginning of bytes, how many bytes it has, an error. -/
def dec (b : List UInt8) : Nat × Nat × Int :=
  if 10 ≤ run b then (0, 0, 19) else if run b = b.length then (0, 0, 5) else if run b = 9 ∧ 1 < (b.getD 9 0).toNat then (0, 0, 19) else
    if 0 < run b ∧ b.getD (run b) 0 = 0 then (0, 0, 6) else (val (b.take (run b + 1)), run b + 1, 0)

theorem run_le (b : List UInt8) : run b ≤ b.length := (List.takeWhile_sublist big).length_le
theorem run_cons_big {x : UInt8} {b : List UInt8} (h : 128 ≤ x.toNat) : run (x :: b) = run b + 1 := by
  unfold run; rw [List.takeWhile_cons_of_pos (by simpa [big] using h)]; rfl
theorem run_cons_last {x : UInt8} {b : List UInt8} (h : x.toNat < 128) : run (x :: b) = 0 := by
  unfold run; rw [List.takeWhile_cons_of_neg (by simp [big]; omega)]; rfl
theorem run_big : ∀ (b : List UInt8) (k : Nat), k < run b → ∃ h : k < b.length, 128 ≤ (b[k]).toNat
  | [], k, hk => by simp [run] at hk
  | x :: b, k, hk => by
    by_cases h : 128 ≤ x.toNat
    · rw [run_cons_big h] at hk
      cases k with
      | zero => exact ⟨by simp, h⟩
      | succ k =>
        obtain ⟨h1, h2⟩ := run_big b k (by omega)
        exact ⟨by simp; omega, h2⟩
    · rw [run_cons_last (by omega)] at hk; omega
theorem run_stop : ∀ (b : List UInt8) (h : run b < b.length), (b[run b]).toNat < 128
  | [], h => by simp at h
  | x :: b, h => by
    by_cases hx : 128 ≤ x.toNat
    · have e := run_cons_big (b := b) hx
      have h' : run b < b.length := by rw [e] at h; simpa using h
      have := run_stop b h'
      simp only [e, List.getElem_cons_succ]; exact this
    · have e := run_cons_last (b := b) (show x.toNat < 128 by omega)
      simp only [e, List.getElem_cons_zero]; omega
theorem run_eq {b : List UInt8} {k : Nat} (h : ∀ i (hi : i < b.length), i < k → 128 ≤ (b[i]).toNat) (hk : k ≤ b.length) (hs : ∀ h : k < b.length, (b[k]).toNat < 128) : run b = k := by
  rcases Nat.lt_trichotomy (run b) k with h1 | h1 | h1
  · have hl : run b < b.length := by omega
    have := run_stop b hl
    have := h _ hl h1
    omega
  · exact h1
  · obtain ⟨hl, h2⟩ := run_big b k h1
    have := hs hl
    omega
theorem run_ge {b : List UInt8} {k : Nat} (h : ∀ i (hi : i < b.length), i < k → 128 ≤ (b[i]).toNat) (hk : k ≤ b.length) : k ≤ run b := by
  rcases Nat.lt_or_ge (run b) k with h1 | h1
  · have hl : run b < b.length := by omega
    have := run_stop b hl
    have := h _ hl h1
    omega
  · exact h1

theorem val_snoc : ∀ (l : List UInt8) (x : UInt8), val (l ++ [x]) = val l + 128 ^ l.length * (x.toNat % 128)
  | [], x => by simp [val]
  | y :: l, x => by
    have := val_snoc l x
    simp only [List.cons_append, val, this, List.length_cons, Nat.pow_succ]
    rw [Nat.mul_add, Nat.mul_comm (128 ^ l.length) 128, Nat.mul_assoc, Nat.add_assoc]
theorem val_lt : ∀ (l : List UInt8), val l < 128 ^ l.length
  | [] => by simp [val]
  | y :: l => by
    have := val_lt l
    simp only [val, List.length_cons, Nat.pow_succ]
    have h2 : y.toNat % 128 < 128 := Nat.mod_lt _ (by omega)
    omega

theorem ofNat_toNat {n : Nat} (h : n < 256) : (UInt8.ofNat n).toNat = n := by simp; omega

/-- Encodings are read back. -/
theorem run_enc : ∀ (n v : Nat) (t : List UInt8), v ≤ n → run (enc v ++ t) + 1 = (enc v).length
  | 0, v, t, h => by
    rw [enc_last (by omega)]
    simp only [List.cons_append, List.nil_append]
    rw [run_cons_last (by rw [ofNat_toNat (by omega)]; omega)]; rfl
  | n + 1, v, t, h => by
    by_cases hv : v < 128
    · rw [enc_last hv]
      simp only [List.cons_append, List.nil_append]
      rw [run_cons_last (by rw [ofNat_toNat (by omega)]; omega)]; rfl
    · rw [enc_step hv]
      simp only [List.cons_append]
      rw [run_cons_big (by rw [ofNat_toNat (by omega)]; omega), run_enc n (v / 128) t (by omega)]; rfl
theorem val_enc : ∀ (n v : Nat), v ≤ n → val (enc v) = v
  | 0, v, h => by
    rw [enc_last (by omega)]
    simp only [val, ofNat_toNat (show v < 256 by omega)]; omega
  | n + 1, v, h => by
    by_cases hv : v < 128
    · rw [enc_last hv]
      simp only [val, ofNat_toNat (show v < 256 by omega)]; omega
    · rw [enc_step hv]
      simp only [val, ofNat_toNat (show v % 128 + 128 < 256 by omega), val_enc n (v / 128) (by omega)]; omega
theorem last_enc : ∀ (n v : Nat), v ≤ n → 128 ≤ v → ∀ h : (enc v).length - 1 < (enc v).length, ((enc v)[(enc v).length - 1]).toNat ≠ 0
  | 0, v, h, h1 => by omega
  | n + 1, v, h, h1 => by
    intro hl
    have e := enc_step (show ¬ v < 128 by omega)
    have hne := List.length_pos_iff.2 (enc_ne (v / 128))
    have e2 : (enc v)[(enc v).length - 1] = (enc (v / 128))[(enc (v / 128)).length - 1]'(by omega) := by
      simp only [e, List.length_cons]
      rw [List.getElem_cons]
      rw [dif_neg (by omega)]
      congr 1
    rw [e2]
    by_cases h2 : 128 ≤ v / 128
    · exact last_enc n (v / 128) (by omega) h2 _
    · have e3 := enc_last (show v / 128 < 128 by omega)
      simp only [e3, List.length_singleton, Nat.sub_self, List.getElem_cons_zero]
      rw [ofNat_toNat (by omega)]; omega
theorem enc_top : ∀ (k v : Nat), v < 2 * 128 ^ k → ∀ h : k < (enc v).length, ((enc v)[k]).toNat ≤ 1
  | 0, v, hv, h => by
    have e := enc_last (show v < 128 by omega)
    simp only [e, List.getElem_cons_zero]
    rw [ofNat_toNat (by omega)]; omega
  | k + 1, v, hv, h => by
    by_cases hs : v < 128
    · rw [enc_last hs] at h; simp at h
    · have e := enc_step hs
      have hl : k < (enc (v / 128)).length := by rw [e] at h; simpa using h
      have := enc_top k (v / 128) (by rw [Nat.div_lt_iff_lt_mul (by omega)]; rw [Nat.pow_succ] at hv; omega) hl
      simp only [e, List.getElem_cons_succ]; exact this

theorem dec_enc {v : Nat} (hv : v < 18446744073709551616) (t : List UInt8) : dec (enc v ++ t) = (v, (enc v).length, 0) := by
  have hr := run_enc v v t (Nat.le_refl _)
  have hl := enc_len hv
  unfold dec
  rw [if_neg (by omega), if_neg (by rw [List.length_append]; omega)]
  have hpos := hl.1
  rw [if_neg, if_neg]
  · rw [hr, List.take_left, val_enc v v (Nat.le_refl _)]
  · rintro ⟨h1, h2⟩
    have hk : (enc v).length - 1 < (enc v).length := by omega
    have h128 : 128 ≤ v := by
      rcases Nat.lt_or_ge v 128 with h | h
      · have e := congrArg List.length (enc_last h); rw [List.length_singleton] at e; omega
      · exact h
    have := last_enc v v (Nat.le_refl _) h128 hk
    rw [show run (enc v ++ t) = (enc v).length - 1 by omega, List.getD_eq_getElem?_getD, List.getElem?_append_left hk, List.getElem?_eq_getElem hk, Option.getD_some] at h2
    rw [h2] at this; exact this rfl
  · rintro ⟨h1, h2⟩
    have hk : 9 < (enc v).length := by omega
    have := enc_top 9 v (by omega) hk
    rw [List.getD_eq_getElem?_getD, List.getElem?_append_left hk, List.getElem?_eq_getElem hk, Option.getD_some] at h2
    omega

theorem enc_val : ∀ (l : List UInt8) (x : UInt8), (∀ y ∈ l, 128 ≤ y.toNat) → x.toNat < 128 → (l = [] ∨ x ≠ 0) → enc (val (l ++ [x])) = l ++ [x] ∧ (x ≠ 0 → 0 < val (l ++ [x]))
  | [], x, _, hx, _ => by
    have e : val ([] ++ [x]) = x.toNat := by simp [val]; omega
    rw [e, enc_last hx]
    refine ⟨by simp, fun h => ?_⟩
    rcases Nat.eq_zero_or_pos x.toNat with h0 | h0
    · exact absurd (UInt8.toNat_inj.1 (by rw [h0]; rfl)) h
    · exact h0
  | y :: l, x, hl, hx, h0 => by
    have hx0 : x ≠ 0 := by
      rcases h0 with h | h
      · cases h
      · exact h
    obtain ⟨h1, h2⟩ := enc_val l x (fun z hz => hl z (List.mem_cons_of_mem _ hz)) hx (.inr hx0)
    have hp := h2 hx0
    have hy := hl y List.mem_cons_self
    have hy2 := y.toNat_lt
    have e : val (y :: l ++ [x]) = y.toNat % 128 + 128 * val (l ++ [x]) := rfl
    have hge : ¬ val (y :: l ++ [x]) < 128 := by rw [e]; omega
    refine ⟨?_, fun _ => by omega⟩
    rw [enc_step hge, e]
    rw [show (y.toNat % 128 + 128 * val (l ++ [x])) / 128 = val (l ++ [x]) by omega, h1]
    rw [show (y.toNat % 128 + 128 * val (l ++ [x])) % 128 + 128 = y.toNat by omega]
    simp

theorem take_run (b : List UInt8) : b.take (run b) = b.takeWhile big := by
  unfold run
  conv => lhs; rw [← List.takeWhile_append_dropWhile (p := big) (l := b)]
  rw [List.take_left']
  rw [List.takeWhile_append_dropWhile]
theorem all_takeWhile : ∀ (b : List UInt8) (y : UInt8), y ∈ b.takeWhile big → big y = true
  | [], y, h => by simp at h
  | x :: b, y, h => by
    by_cases hx : big x = true
    · rw [List.takeWhile_cons_of_pos hx] at h
      rcases List.mem_cons.1 h with e | e
      · rw [e]; exact hx
      · exact all_takeWhile b y e
    · rw [List.takeWhile_cons_of_neg hx] at h; cases h
/-- What is decoded has this encoding. -/
theorem enc_dec {b : List UInt8} {v n : Nat} (h : dec b = (v, n, 0)) : b.take n = enc v ∧ n ≤ b.length ∧ 1 ≤ n ∧ n ≤ 10 ∧ v < 18446744073709551616 := by
  unfold dec at h
  by_cases c1 : 10 ≤ run b
  · rw [if_pos c1] at h; cases h
  rw [if_neg c1] at h
  by_cases c2 : run b = b.length
  · rw [if_pos c2] at h; cases h
  rw [if_neg c2] at h
  by_cases c3 : run b = 9 ∧ 1 < (b.getD 9 0).toNat
  · rw [if_pos c3] at h; cases h
  rw [if_neg c3] at h
  by_cases c4 : 0 < run b ∧ b.getD (run b) 0 = 0
  · rw [if_pos c4] at h; cases h
  rw [if_neg c4] at h
  injection h with e1 e2
  injection e2 with e2 _
  subst e1; subst e2
  have hle := run_le b
  have hlt : run b < b.length := by omega
  have hst := run_stop b hlt
  have hget : b.getD (run b) 0 = b[run b] := by rw [List.getD_eq_getElem?_getD, List.getElem?_eq_getElem hlt, Option.getD_some]
  have hsn : b.take (run b + 1) = b.take (run b) ++ [b[run b]] := (List.take_append_getElem hlt).symm
  have hall : ∀ y ∈ b.take (run b), 128 ≤ y.toNat := by
    intro y hy
    rw [take_run] at hy
    have := all_takeWhile b y hy
    simpa [big] using this
  refine ⟨?_, by omega, by omega, by omega, ?_⟩
  · rw [hsn]
    refine (enc_val _ _ hall hst ?_).1.symm
    by_cases h0 : run b = 0
    · left; rw [h0]; rfl
    · right; intro hx; exact c4 ⟨by omega, by rw [hget]; exact hx⟩
  · rw [hsn, val_snoc]
    have h1 := val_lt (b.take (run b))
    have hlen : (b.take (run b)).length = run b := by rw [List.length_take]; omega
    rw [hlen] at h1 ⊢
    by_cases h9 : run b = 9
    · have hb9 : (b[run b]).toNat ≤ 1 := by
        have : b.getD 9 0 = b[run b] := by rw [← h9]; exact hget
        rcases Nat.lt_or_ge 1 (b.getD 9 0).toNat with h | h
        · exact absurd ⟨h9, h⟩ c3
        · rw [this] at h; exact h
      have hz : (b[run b]).toNat % 128 ≤ 1 := by omega
      generalize (b[run b]).toNat % 128 = z at *
      have h5 : 128 ^ run b = 9223372036854775808 := by rw [h9]
      rw [h5] at h1 ⊢
      omega
    · have h3 : 128 ^ (run b + 1) ≤ 128 ^ 9 := Nat.pow_le_pow_right (by omega) (by omega)
      have hz : (b[run b]).toNat % 128 ≤ 127 := by omega
      have h4 : 128 ^ run b * ((b[run b]).toNat % 128) ≤ 128 ^ run b * 127 := Nat.mul_le_mul_left _ hz
      rw [Nat.pow_succ] at h3
      omega

/-- The encoding of a text. -/
def txt (s : List UInt8) : List UInt8 := enc s.length ++ s
def decT (b : List UInt8) : List UInt8 × Nat × Int :=
  if (dec b).2.2 ≠ 0 then ([], 0, (dec b).2.2) else if 4096 < (dec b).1 then ([], 0, 3) else if b.length - (dec b).2.1 < (dec b).1 then ([], 0, 5) else
    ((b.drop (dec b).2.1).take (dec b).1, (dec b).2.1 + (dec b).1, 0)
theorem decT_txt {s : List UInt8} (h : s.length ≤ 4096) (t : List UInt8) : decT (txt s ++ t) = (s, (txt s).length, 0) := by
  have hd : dec (txt s ++ t) = (s.length, (enc s.length).length, 0) := by
    unfold txt; rw [List.append_assoc]; exact dec_enc (by omega) _
  unfold decT
  rw [hd]
  rw [if_neg (by simp), if_neg (by simp only; omega), if_neg (by simp only [txt, List.length_append]; omega)]
  simp only [txt, List.append_assoc, List.drop_left, List.take_left, List.length_append]
theorem txt_decT {b s : List UInt8} {n : Nat} (h : decT b = (s, n, 0)) : b.take n = txt s ∧ n ≤ b.length ∧ s.length ≤ 4096 ∧ 1 ≤ n ∧ n ≤ s.length + 10 := by
  unfold decT at h
  by_cases c1 : (dec b).2.2 ≠ 0
  · rw [if_pos c1] at h
    injection h with _ h; injection h with _ h
    exact absurd h c1
  rw [if_neg c1] at h
  by_cases c2 : 4096 < (dec b).1
  · rw [if_pos c2] at h; cases h
  rw [if_neg c2] at h
  by_cases c3 : b.length - (dec b).2.1 < (dec b).1
  · rw [if_pos c3] at h; cases h
  rw [if_neg c3] at h
  injection h with e1 h; injection h with e2 _
  have hd : dec b = ((dec b).1, (dec b).2.1, 0) := by
    have : (dec b).2.2 = 0 := by simpa using c1
    rw [← this]
  obtain ⟨h1, h2, h3, h4, h5⟩ := enc_dec hd
  have hl : s.length = (dec b).1 := by rw [← e1, List.length_take, List.length_drop]; omega
  refine ⟨?_, by omega, by omega, by omega, by omega⟩
  unfold txt
  rw [hl, ← h1, ← e1, ← e2, List.take_add]

end Go.Proofs.YtmanejniepghlaaGreatDoor.Wire

/-
  Punycode: what bounds the variables of Encode. No program in sight.
-/
namespace Go.Proofs.YtmanejniepghlaaGreatDoor.Puny

theorem encPt_lt {n : Int} {basic : Nat} {s : E} {p : Int} (h : p < n) : encPt n basic s p = { s with delta := s.delta + 1 } := if_pos h
theorem encPt_eq {n : Int} {basic : Nat} {s : E} {p : Int} (h : ¬ p < n) (h2 : p = n) : encPt n basic s p = ⟨s.out ++ numE s.delta s.bias, 0, adapt s.delta (s.done + 1) (s.done == basic), s.done + 1⟩ := by unfold encPt; rw [if_neg h, if_pos h2]
theorem encPt_gt {n : Int} {basic : Nat} {s : E} {p : Int} (h : ¬ p < n) (h2 : ¬ p = n) : encPt n basic s p = s := by unfold encPt; rw [if_neg h, if_neg h2]

theorem fold_done (m : Int) (basic : Nat) (l : List Int) : ∀ e : E, (l.foldl (encPt m basic) e).done = e.done + (l.filter fun p => decide (p = m)).length := by
  induction l with
  | nil => intro e; rfl
  | cons p l ih =>
    intro e
    rw [List.foldl_cons, ih]
    by_cases h : p < m
    · rw [encPt_lt h, List.filter_cons_of_neg (by simp; omega)]
    · by_cases h2 : p = m
      · rw [encPt_eq h h2, List.filter_cons_of_pos (by simp [h2]), List.length_cons]; simp only; omega
      · rw [encPt_gt h h2, List.filter_cons_of_neg (by simp [h2])]
theorem fold_delta (m : Int) (basic : Nat) (l : List Int) : ∀ e : E, 0 ≤ e.delta → 0 ≤ (l.foldl (encPt m basic) e).delta ∧ (l.foldl (encPt m basic) e).delta ≤ e.delta + l.length ∧ (m ∈ l → (l.foldl (encPt m basic) e).delta ≤ l.length) := by
  induction l with
  | nil => intro e h; exact ⟨h, by simp, fun hm => by cases hm⟩
  | cons p l ih =>
    intro e h
    rw [List.foldl_cons]
    by_cases h1 : p < m
    · rw [encPt_lt h1]
      obtain ⟨a1, a2, a3⟩ := ih { e with delta := e.delta + 1 } (by simp only; omega)
      simp only at a2
      refine ⟨a1, by rw [List.length_cons]; omega, fun hm => ?_⟩
      rcases List.mem_cons.1 hm with rfl | hm
      · omega
      · have := a3 hm; rw [List.length_cons]; omega
    · by_cases h2 : p = m
      · rw [encPt_eq h1 h2]
        obtain ⟨a1, a2, a3⟩ := ih ⟨e.out ++ numE e.delta e.bias, 0, adapt e.delta (e.done + 1) (e.done == basic), e.done + 1⟩ (Int.le_refl _)
        simp only at a2
        exact ⟨a1, by rw [List.length_cons]; omega, fun _ => by rw [List.length_cons]; omega⟩
      · rw [encPt_gt h1 h2]
        obtain ⟨a1, a2, a3⟩ := ih e h
        refine ⟨a1, by rw [List.length_cons]; omega, fun hm => ?_⟩
        rcases List.mem_cons.1 hm with e1 | hm
        · exact absurd e1.symm h2
        · have := a3 hm; rw [List.length_cons]; omega
theorem fold_rest (m : Int) (basic : Nat) (l : List Int) : ∀ e : E, 0 ≤ e.delta → e.delta + l.length ≤ 400000000 → 0 ≤ e.bias → e.bias ≤ 1000 → 
    0 ≤ (l.foldl (encPt m basic) e).bias ∧ (l.foldl (encPt m basic) e).bias ≤ 1000 ∧ (l.foldl (encPt m basic) e).out.length + 10 * e.done ≤ e.out.length + 10 * (l.foldl (encPt m basic) e).done := by
  induction l with
  | nil => intro e h0 h1 h2 h3; exact ⟨h2, h3, Nat.le_refl _⟩
  | cons p l ih =>
    intro e h0 h1 h2 h3
    rw [List.length_cons] at h1
    rw [List.foldl_cons]
    by_cases g1 : p < m
    · rw [encPt_lt g1]
      exact ih { e with delta := e.delta + 1 } (by simp only; omega) (by simp only; omega) h2 h3
    · by_cases g2 : p = m
      · rw [encPt_eq g1 g2]
        obtain ⟨b0, b1⟩ := adapt_bd e.delta (e.done + 1) (e.done == basic) h0 (by omega) (by omega)
        obtain ⟨a1, a2, a3⟩ := ih ⟨e.out ++ numE e.delta e.bias, 0, adapt e.delta (e.done + 1) (e.done == basic), e.done + 1⟩ (Int.le_refl _) (by simp only; omega) b0 b1
        simp only [List.length_append] at a3
        have hdl : (numE e.delta e.bias).length ≤ 10 := digs_length 9 (e.delta.toNat + 1) e.delta 0 e.bias h0 (Int.lt_of_le_of_lt (show e.delta ≤ 400000000 by omega) (by decide))
        exact ⟨a1, a2, by omega⟩
      · rw [encPt_gt g1 g2]
        exact ih e h0 (by omega) h2 h3

theorem below_succ (n m : Int) (hnm : n ≤ m) (l : List Int) (h : ∀ p ∈ l, n ≤ p → m ≤ p) : (below (m + 1) l).length = (below n l).length + (l.filter fun p => decide (p = m)).length := by
  induction l with
  | nil => rfl
  | cons p l ih =>
    have hp := h p (List.mem_cons_self ..)
    have := ih fun q hq => h q (List.mem_cons_of_mem _ hq)
    unfold below at this ⊢
    by_cases h1 : p < n
    · rw [List.filter_cons_of_pos (by simp; omega), List.filter_cons_of_pos (by simp; omega), List.filter_cons_of_neg (by simp; omega), List.length_cons, List.length_cons]; omega
    · have h2 := hp (by omega)
      by_cases h3 : p = m
      · rw [List.filter_cons_of_pos (by simp; omega), List.filter_cons_of_neg (by simp; omega), List.filter_cons_of_pos (by simp; omega), List.length_cons, List.length_cons]; omega
      · rw [List.filter_cons_of_neg (by simp; omega), List.filter_cons_of_neg (by simp; omega), List.filter_cons_of_neg (by simp; omega)]; exact this

/-- What bounds the variables at the head of the outer loop. -/
structure HeadOk (ps : List Int) (n : Int) (e : E) : Prop where
  done : e.done = (below n ps).length
  n1 : 128 ≤ n
  n2 : n ≤ 1114112
  d0 : 0 ≤ e.delta
  d1 : e.delta ≤ 300
  b0 : 0 ≤ e.bias
  b1 : e.bias ≤ 1000
  o : e.out.length ≤ 300 + 10 * e.done

/-- The state at the beginning of the inner loop. -/
def mid0 (n m : Int) (e : E) : E := { e with delta := e.delta + (m - n) * (e.done + 1) }
/-- The state behind k points of the inner loop. -/
def midK (ps : List Int) (n m : Int) (basic : Nat) (e : E) (k : Nat) : E := (ps.take k).foldl (encPt m basic) (mid0 n m e)
/-- The state at the end of a round. -/
def next (ps : List Int) (n m : Int) (basic : Nat) (e : E) : E := { midK ps n m basic e ps.length with delta := (midK ps n m basic e ps.length).delta + 1 }

theorem midK_succ (ps : List Int) (n m : Int) (basic : Nat) (e : E) (k : Nat) (hk : k < ps.length) : midK ps n m basic e (k + 1) = encPt m basic (midK ps n m basic e k) ps[k] := by
  unfold midK
  rw [List.take_succ_eq_append_getElem hk, List.foldl_append]; rfl
theorem encGo_next (ps : List Int) (n : Int) (basic : Nat) (e : E) (f : Nat) (h : e.done < ps.length) : encGo ps basic (f + 1) n e = encGo ps basic f (least n 1114112 ps + 1) (next ps n (least n 1114112 ps) basic e) := by
  rw [encGo, if_pos h]
  unfold next midK
  rw [List.take_length]; rfl
theorem encGo_end (ps : List Int) (n : Int) (basic : Nat) (e : E) (f : Nat) (h : ¬ e.done < ps.length) : encGo ps basic f n e = e.out := by
  cases f with
  | zero => rfl
  | succ f => rw [encGo, if_neg h]

/-- What bounds the variables within a round. -/
structure MidOk (e' : E) : Prop where
  d0 : 0 ≤ e'.delta
  d1 : e'.delta ≤ 400000000
  b0 : 0 ≤ e'.bias
  b1 : e'.bias ≤ 1000
  o : e'.out.length ≤ 300 + 10 * e'.done
  k : e'.done ≤ 600

theorem headOk_round (ps : List Int) (hps : ∀ p ∈ ps, point p = true) (hl : ps.length ≤ 256) (basic : Nat) (n : Int) (e : E) (h : HeadOk ps n e) (hlt : e.done < ps.length) :
    let m := least n 1114112 ps
    n ≤ m ∧ m ≤ 1114111 ∧ 0 ≤ (m - n) * (e.done + 1) ∧ (m - n) * (e.done + 1) ≤ 300000000 ∧ (∀ k, k ≤ ps.length → MidOk (midK ps n m basic e k)) ∧ HeadOk ps (m + 1) (next ps n m basic e) ∧ e.done < (next ps n m basic e).done := by
  intro m
  obtain ⟨l1, l2, l3⟩ := least_spec n 1114112 ps (below_some n ps (by rw [← h.done]; exact hlt)) (fun p hp => by have := (point_iff p).1 (hps p hp); omega)
  have hm := (point_iff m).1 (hps m l1)
  have hn1 := h.n1
  have hp0 : 0 ≤ (m - n) * ((e.done : Int) + 1) := Int.mul_nonneg (by omega) (by omega)
  have hp1 : (m - n) * ((e.done : Int) + 1) ≤ 1114111 * 257 := Int.mul_le_mul (by omega) (by omega) (by omega) (by omega)
  have hd0 := h.d0
  have hd1 := h.d1
  have hcount : ∀ k, ((ps.take k).filter fun p => decide (p = m)).length ≤ 256 := fun k => Nat.le_trans (List.length_filter_le _ _) (by rw [List.length_take]; omega)
  have hmid : ∀ k, k ≤ ps.length → MidOk (midK ps n m basic e k) := by
    intro k hk
    have a := fold_delta m basic (ps.take k) (mid0 n m e) (by unfold mid0; simp only; omega)
    have b := fold_rest m basic (ps.take k) (mid0 n m e) (by unfold mid0; simp only; omega) (by unfold mid0; simp only [List.length_take]; omega) (by unfold mid0; exact h.b0) (by unfold mid0; exact h.b1)
    have c := fold_done m basic (ps.take k) (mid0 n m e)
    have := hcount k
    have ho := h.o
    unfold midK
    generalize (ps.take k).foldl (encPt m basic) (mid0 n m e) = e' at *
    unfold mid0 at a b c
    simp only [List.length_take] at a b c
    exact ⟨a.1, by omega, b.1, b.2.1, by omega, by omega⟩
  have hlast := hmid ps.length (Nat.le_refl _)
  have c := fold_done m basic ps (mid0 n m e)
  have a := fold_delta m basic ps (mid0 n m e) (by unfold mid0; simp only; omega)
  have hb := below_succ n m l2 ps l3
  have hme : midK ps n m basic e ps.length = ps.foldl (encPt m basic) (mid0 n m e) := by unfold midK; rw [List.take_length]
  have hpos : 0 < (ps.filter fun p => decide (p = m)).length := List.length_pos_iff.2 (List.ne_nil_of_mem (List.mem_filter.2 ⟨l1, decide_eq_true rfl⟩))
  refine ⟨l2, hm.2.1, hp0, by omega, hmid, ?_, ?_⟩
  · have hn := a.2.2 l1
    unfold next
    rw [← hme] at c hn
    have hm0 : (mid0 n m e).done = e.done := rfl
    have hd := h.done
    exact ⟨by simp only; omega, by omega, by omega, by simp only; have := hlast.d0; omega, by simp only; omega, hlast.b0, hlast.b1, hlast.o⟩
  · unfold next
    rw [← hme] at c
    have hm0 : (mid0 n m e).done = e.done := rfl
    simp only; omega

theorem headOk_start (ps : List Int) (hps : ∀ p ∈ ps, point p = true) : HeadOk ps 128 ⟨front ps, 0, 72, (basics ps).length⟩ := by
  have hb : (basics ps).length = (below 128 ps).length := by rw [← basics_below ps hps, List.length_map]
  refine ⟨hb, by omega, by omega, by simp, by simp, by simp, by simp, ?_⟩
  unfold front
  simp only [List.length_append]
  split <;> simp <;> omega

theorem least_snoc (n M : Int) (l : List Int) (p : Int) : least n M (l ++ [p]) = if n ≤ p then min (least n M l) p else least n M l := by
  unfold least
  rw [List.foldl_append]; rfl
theorem basics_snoc (l : List Int) (p : Int) : basics (l ++ [p]) = if p < 128 then basics l ++ [UInt8.ofNat p.toNat] else basics l := by
  unfold basics
  rw [List.filter_append]
  by_cases h : p < 128
  · rw [if_pos h, List.filter_cons_of_pos (by simp [h])]; simp
  · rw [if_neg h, List.filter_cons_of_neg (by simp [h])]; simp
theorem basics_le (l : List Int) : (basics l).length ≤ l.length := by unfold basics; rw [List.length_map]; exact List.length_filter_le _ _

end Go.Proofs.YtmanejniepghlaaGreatDoor.Puny

/-
  An error of Decode is not 0. No program stands in this text.
-/
namespace Go.Proofs.YtmanejniepghlaaGreatDoor.Puny

theorem decNum_err (l : List UInt8) : ∀ (i w : Int) (k : Nat) (bias : Int) (e : Int), decNum l i w k bias = .error e → e ≠ 0 := by
  induction l with
  | nil => intro i w k bias e h; simp [decNum] at h; omega
  | cons b l ih =>
    intro i w k bias e h
    rw [decNum] at h
    split at h
    · cases h; decide
    split at h
    · cases h; decide
    split at h
    · cases h
    split at h
    · cases h; decide
    exact ih _ _ _ _ _ h
theorem decStep_err (l : List UInt8) (s : D) (e : Int) (h : decStep l s = .error e) : e ≠ 0 := by
  unfold decStep at h
  cases hd : decNum l s.i 1 0 s.bias with
  | error e' => rw [hd] at h; cases h; exact decNum_err _ _ _ _ _ _ hd
  | ok x =>
    rw [hd] at h
    simp only at h
    split at h
    · cases h; decide
    split at h
    · cases h; decide
    cases h
theorem decGo_err (f : Nat) : ∀ (l : List UInt8) (s : D) (e : Int), decGo f l s = .error e → e ≠ 0 := by
  induction f with
  | zero => intro l s e h; cases h
  | succ f ih =>
    intro l s e h
    rw [decGo] at h
    split at h
    · cases h
    cases hd : decStep l s with
    | error e' => rw [hd] at h; cases h; exact decStep_err _ _ _ hd
    | ok x => rw [hd] at h; exact ih _ _ _ h
theorem decode_err (l : List UInt8) (e : Int) (h : decode l = .error e) : e ≠ 0 := by
  unfold decode at h
  split at h
  · cases h; decide
  split at h
  · cases h; decide
  split at h
  · cases h; decide
  exact decGo_err _ _ _ _ h

end Go.Proofs.YtmanejniepghlaaGreatDoor.Puny

/-
  The walks through crc.Sum and the reference's step, Update and Sum.
-/
namespace Go.Proofs.YtmanejniepghlaaGreatDoor
open Go.RowKit

theorem crc_sum (a : Option Addr) (n c : Nat) (l : List UInt8) (w : World) (h : SlB w a n c l) :
    Calls Tryz.prog 48 #[.slice a n c] w fun e w' => e = .returned (.int .u32 (Crc.update 0 l)) ∧ w = w' := by
  go_enter Tryz.func48, Tryz.ntmps48
  go_wp2_with (go_at_call 106; refine (crc_update 0 (by decide) a n c l _ h).mono ?_; rintro e w' ⟨rfl, rfl⟩)
  go_ret
  exact ⟨rfl, rfl⟩

end Go.Proofs.YtmanejniepghlaaGreatDoor
