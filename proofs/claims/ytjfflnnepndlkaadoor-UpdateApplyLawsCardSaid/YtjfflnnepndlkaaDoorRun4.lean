/-
  Texts in one: LabPlain, LabPlainR.
-/
import Derived.Test.YtjfflnnepndlkaaDoorRun0
import Derived.Lib.MapLaws
import Derived.Lib.ValidLaws
import Derived.Lib.RuneCount
import Derived.Lib.RuneBytes
/-
  Labels as plain functions: their canonical ASCII form and their Unicode form; UTF-8 as lists of code points. No program stands in this text.
-/
namespace Go.Proofs.YtjfflnnepndlkaaDoor.Lab
open Go.Lib

/-! ### UTF-8 -/
def runesF : Nat → List UInt8 → List Int
  | 0, _ => []
  | f + 1, l => if l = [] then [] else ((decodeL l).1 : Int) :: runesF f (l.drop (decodeL l).2)
/-- The code points of a text. -/
def runes (l : List UInt8) : List Int := runesF l.length l
theorem runesF_fuel : ∀ (n m : Nat) (l : List UInt8), l.length ≤ n → l.length ≤ m → runesF n l = runesF m l
  | 0, m, l, hn, _ => by
    have : l = [] := List.eq_nil_of_length_eq_zero (by omega)
    subst this; cases m <;> simp [runesF]
  | n + 1, 0, l, _, hm => by
    have : l = [] := List.eq_nil_of_length_eq_zero (by omega)
    subst this; simp [runesF]
  | n + 1, m + 1, l, hn, hm => by
    unfold runesF
    by_cases hne : l = []
    · simp [hne]
    · have hw := decodeL_width l
      have hl : 0 < l.length := List.length_pos_iff.2 hne
      rw [if_neg hne, if_neg hne, runesF_fuel n m (l.drop (decodeL l).2) (by rw [List.length_drop]; omega) (by rw [List.length_drop]; omega)]
theorem runes_nil : runes [] = [] := rfl
theorem runes_step (l : List UInt8) (hne : l ≠ []) : runes l = ((decodeL l).1 : Int) :: runes (l.drop (decodeL l).2) := by
  have hl : 0 < l.length := List.length_pos_iff.2 hne
  have hw := decodeL_width l
  obtain ⟨n, hn⟩ : ∃ n, l.length = n + 1 := ⟨l.length - 1, by omega⟩
  unfold runes
  rw [hn, runesF, if_neg hne, runesF_fuel n (l.drop (decodeL l).2).length _ (by rw [List.length_drop]; omega) (Nat.le_refl _)]
theorem runes_len_le (n : Nat) : ∀ l : List UInt8, l.length ≤ n → (runes l).length ≤ l.length := by
  induction n with
  | zero => intro l h; have : l = [] := List.eq_nil_of_length_eq_zero (by omega); subst this; simp [runes_nil]
  | succ n ih =>
    intro l h
    by_cases hne : l = []
    · subst hne; simp [runes_nil]
    · have hw := decodeL_width l
      have hl : 0 < l.length := List.length_pos_iff.2 hne
      rw [runes_step l hne, List.length_cons]
      have := ih (l.drop (decodeL l).2) (by rw [List.length_drop]; omega)
      rw [List.length_drop] at this; omega
theorem runes_le (l : List UInt8) : (runes l).length ≤ l.length := runes_len_le _ l (Nat.le_refl _)
theorem count_from (s : ByteArray) : ∀ (f pos : Nat), runeCountFrom s f pos = (runesF f (s.data.toList.drop pos)).length
  | 0, _ => by simp [runeCountFrom, runesF]
  | f + 1, pos => by
    unfold runeCountFrom runesF
    by_cases h : pos < s.size
    · have hne : s.data.toList.drop pos ≠ [] := by
        intro h0; have := congrArg List.length h0; rw [List.length_drop, ← size_eq] at this; simp at this; omega
      rw [if_pos h, if_neg hne, decodeL_drop, List.length_cons, count_from s f, List.drop_drop, Nat.add_comm]
    · have h0 : s.data.toList.drop pos = [] := List.drop_eq_nil_of_le (by rw [← size_eq]; omega)
      rw [if_neg h, if_pos h0]; rfl
theorem count_eq (s : ByteArray) : runeCount s = (runes s.data.toList).length := by
  unfold runeCount runes
  rw [count_from, List.drop_zero, size_eq]

/-- The UTF-8 form of code points. -/
def text (p : List Int) : List UInt8 := p.flatMap encodeRune
theorem text_nil : text [] = [] := rfl
theorem text_cons (x : Int) (p : List Int) : text (x :: p) = encodeRune x ++ text p := by simp [text]

theorem byte_nat (z : Int) (_h0 : 0 ≤ z) (h1 : z < 256) : z.toNat.toUInt8.toNat = z.toNat := by
  simp; omega
set_option maxHeartbeats 1000000 in
theorem decode_enc (x : Int) (hx : Puny.point x = true) (t : List UInt8) : decodeL (encodeRune x ++ t) = (x.toNat, (encodeRune x).length) := by
  obtain ⟨h0, h1, h2⟩ := (Puny.point_iff x).1 hx
  rw [decodeL_N]
  unfold encodeRune
  by_cases c1 : x ≤ 127
  · rw [encodeRuneZ_one h0 c1]
    simp only [List.map_cons, List.map_nil, List.cons_append, List.nil_append, List.getD_cons_zero, List.length_cons, List.length_nil]
    rw [byte_nat _ h0 (by omega)]
    unfold decodeN; rw [if_pos (by omega)]
  by_cases c2 : x ≤ 2047
  · rw [encodeRuneZ_two (by omega) c2]
    simp only [List.map_cons, List.map_nil, List.cons_append, List.nil_append, List.getD_cons_zero, List.getD_cons_succ, List.length_cons, List.length_nil]
    rw [byte_nat _ (by omega) (by omega), byte_nat _ (by omega) (by omega)]
    generalize (t.getD 0 0).toNat = b2
    generalize (t.getD 1 0).toNat = b3
    unfold decodeN
    rw [if_neg (by omega), if_pos (by omega), if_pos (by omega)]
    refine Prod.ext ?_ ?_
    · show _ = x.toNat; simp only; omega
    · rfl
  by_cases c3 : x ≤ 65535
  · rw [encodeRuneZ_three (by omega)]
    simp only [List.map_cons, List.map_nil, List.cons_append, List.nil_append, List.getD_cons_zero, List.getD_cons_succ, List.length_cons, List.length_nil]
    rw [byte_nat _ (by omega) (by omega), byte_nat _ (by omega) (by omega), byte_nat _ (by omega) (by omega)]
    generalize (t.getD 0 0).toNat = b3
    unfold decodeN
    rw [if_neg (by omega), if_neg (by omega), if_pos (by omega), if_pos (by omega)]
    refine Prod.ext ?_ ?_
    · show _ = x.toNat; simp only; omega
    · rfl
  · rw [encodeRuneZ_four (by omega) h1]
    simp only [List.map_cons, List.map_nil, List.cons_append, List.nil_append, List.getD_cons_zero, List.getD_cons_succ, List.length_cons, List.length_nil]
    rw [byte_nat _ (by omega) (by omega), byte_nat _ (by omega) (by omega), byte_nat _ (by omega) (by omega), byte_nat _ (by omega) (by omega)]
    unfold decodeN
    rw [if_neg (by omega), if_neg (by omega), if_neg (by omega), if_pos (by omega), if_pos (by omega)]
    refine Prod.ext ?_ ?_
    · show _ = x.toNat; simp only; omega
    · rfl
theorem enc_ne (x : Int) : encodeRune x ≠ [] := by
  intro h; have := (encodeRuneZ_length x).1; have h2 := congrArg List.length h; unfold encodeRune at h2; simp at h2; simp [h2] at this
theorem enc_one (x : Int) (h0 : 0 ≤ x) (h1 : x < 128) : encodeRune x = [x.toNat.toUInt8] := by unfold encodeRune; rw [encodeRuneZ_one h0 (by omega)]; rfl
theorem enc_high (x : Int) (h : 128 ≤ x) : 2 ≤ (encodeRune x).length ∧ ∀ b ∈ encodeRune x, 128 ≤ b.toNat := by
  have key : 2 ≤ (encodeRuneZ x).length ∧ ∀ z ∈ encodeRuneZ x, 128 ≤ z ∧ z < 256 := by
    refine ⟨?_, fun z hz => ⟨?_, (encodeRuneZ_byte x z hz).2⟩⟩
    · unfold encodeRuneZ; rw [if_neg (by omega)]; repeat' split
      all_goals simp
    · unfold encodeRuneZ at hz; rw [if_neg (by omega)] at hz
      split at hz
      · simp at hz; omega
      split at hz
      · simp at hz; omega
      split at hz
      · simp at hz; omega
      · simp at hz; omega
  unfold encodeRune
  refine ⟨by simpa using key.1, fun b hb => ?_⟩
  obtain ⟨z, hz, rfl⟩ := List.mem_map.1 hb
  have := key.2 z hz
  rw [byte_nat _ (by omega) (by omega)]; omega

theorem text_reads (p : List Int) (hp : ∀ x ∈ p, Puny.point x = true) : validD (text p) = true ∧ runes (text p) = p := by
  induction p with
  | nil => exact ⟨rfl, rfl⟩
  | cons x p ih =>
    obtain ⟨i1, i2⟩ := ih (fun y hy => hp y (List.mem_cons_of_mem _ hy))
    have hx := hp x List.mem_cons_self
    have hd := decode_enc x hx (text p)
    have hne : encodeRune x ++ text p ≠ [] := by simp [enc_ne]
    have hx0 := ((Puny.point_iff x).1 hx).1
    rw [text_cons, validD_step _ hne, runes_step _ hne, hd]
    simp only [List.drop_left]
    refine ⟨?_, by rw [i2, Int.toNat_of_nonneg hx0]⟩
    rw [if_neg, i1]
    rintro ⟨h1, h2⟩
    have := (enc_high x (by omega)).1
    omega
theorem text_len (p : List Int) : p.length ≤ (text p).length ∧ ((∃ x ∈ p, 128 ≤ x) → p.length < (text p).length) := by
  induction p with
  | nil => simp [text_nil]
  | cons x p ih =>
    rw [text_cons, List.length_append, List.length_cons]
    have h1 : 1 ≤ (encodeRune x).length := List.length_pos_iff.2 (enc_ne x)
    refine ⟨by omega, ?_⟩
    rintro ⟨y, hy, h⟩
    rcases List.mem_cons.1 hy with rfl | hy
    · have := (enc_high y h).1; omega
    · have := ih.2 ⟨y, hy, h⟩; omega

/-! ### lower case -/
def lowB (b : UInt8) : UInt8 := if 65 ≤ b.toNat ∧ b.toNat ≤ 90 then UInt8.ofNat (b.toNat + 32) else b
def lower (l : List UInt8) : List UInt8 := l.map lowB
def lowR (r : Int) : Int := if 65 ≤ r ∧ r ≤ 90 then r + 32 else r
theorem lowB_nat (b : UInt8) : (lowB b).toNat = if 65 ≤ b.toNat ∧ b.toNat ≤ 90 then b.toNat + 32 else b.toNat := by
  unfold lowB
  split
  · rw [UInt8.toNat_ofNat']; omega
  · rfl
theorem lowB_id (b : UInt8) (h : ¬ (65 ≤ b.toNat ∧ b.toNat ≤ 90)) : lowB b = b := by unfold lowB; rw [if_neg h]
theorem lower_lower (l : List UInt8) : lower (lower l) = lower l := by
  unfold lower
  rw [List.map_map]
  apply List.map_congr_left
  intro b _
  exact lowB_id _ (by rw [lowB_nat]; split <;> omega)
theorem lower_len (l : List UInt8) : (lower l).length = l.length := by simp [lower]
theorem lower_id (l : List UInt8) (h : ∀ b ∈ l, ¬ (65 ≤ b.toNat ∧ b.toNat ≤ 90)) : lower l = l := by
  unfold lower
  rw [List.map_congr_left (g := id) (fun b hb => lowB_id b (h b hb))]; simp
theorem lower_getD (l : List UInt8) (k : Nat) : ((lower l).getD k 0).toNat = if 65 ≤ (l.getD k 0).toNat ∧ (l.getD k 0).toNat ≤ 90 then (l.getD k 0).toNat + 32 else (l.getD k 0).toNat := by
  unfold lower
  by_cases h : k < l.length
  · simp [List.getD, h, lowB_nat]
  · simp [List.getD, h]
set_option maxHeartbeats 8000000 in
set_option maxRecDepth 100000 in
theorem decodeN_low (n b0 b1 b2 b3 : Nat) (c0 c1 c2 c3 : Nat)
    (h0 : c0 = b0 ∧ ¬ (65 ≤ b0 ∧ b0 ≤ 90) ∨ c0 = b0 + 32 ∧ 65 ≤ b0 ∧ b0 ≤ 90) (h1 : c1 = b1 ∧ ¬ (65 ≤ b1 ∧ b1 ≤ 90) ∨ c1 = b1 + 32 ∧ 65 ≤ b1 ∧ b1 ≤ 90)
    (h2 : c2 = b2 ∧ ¬ (65 ≤ b2 ∧ b2 ≤ 90) ∨ c2 = b2 + 32 ∧ 65 ≤ b2 ∧ b2 ≤ 90) (h3 : c3 = b3 ∧ ¬ (65 ≤ b3 ∧ b3 ≤ 90) ∨ c3 = b3 + 32 ∧ 65 ≤ b3 ∧ b3 ≤ 90) :
    (b0 < 128 ∧ decodeN n b0 b1 b2 b3 = (b0, 1) ∧ decodeN n c0 c1 c2 c3 = (c0, 1)) ∨ (128 ≤ b0 ∧ decodeN n c0 c1 c2 c3 = decodeN n b0 b1 b2 b3) := by
  by_cases hb : b0 < 128
  · left
    exact ⟨hb, by unfold decodeN; rw [if_pos hb], by unfold decodeN; rw [if_pos (by omega)]⟩
  · right
    obtain rfl : c0 = b0 := by omega
    refine ⟨by omega, ?_⟩
    have g1 : c1 = b1 ∨ (c1 / 64 ≠ 2 ∧ b1 / 64 ≠ 2) := by omega
    have g2 : c2 = b2 ∨ (c2 / 64 ≠ 2 ∧ b2 / 64 ≠ 2) := by omega
    have g3 : c3 = b3 ∨ (c3 / 64 ≠ 2 ∧ b3 / 64 ≠ 2) := by omega
    clear h0 h1 h2 h3
    unfold decodeN
    rcases g1 with rfl | ⟨g1, g1'⟩ <;> rcases g2 with rfl | ⟨g2, g2'⟩ <;> rcases g3 with rfl | ⟨g3, g3'⟩ <;> simp [*]
theorem low_or (l : List UInt8) (k : Nat) : ((lower l).getD k 0).toNat = (l.getD k 0).toNat ∧ ¬ (65 ≤ (l.getD k 0).toNat ∧ (l.getD k 0).toNat ≤ 90) ∨ ((lower l).getD k 0).toNat = (l.getD k 0).toNat + 32 ∧ 65 ≤ (l.getD k 0).toNat ∧ (l.getD k 0).toNat ≤ 90 := by
  rw [lower_getD]; split <;> omega
theorem decode_low (l : List UInt8) : (decodeL (lower l)).2 = (decodeL l).2 ∧ ((decodeL (lower l)).1 : Int) = lowR (decodeL l).1 ∧ (((decodeL (lower l)).1 = 65533 ∧ (decodeL (lower l)).2 = 1) ↔ ((decodeL l).1 = 65533 ∧ (decodeL l).2 = 1)) := by
  have q0 := low_or l 0; have q1 := low_or l 1; have q2 := low_or l 2; have q3 := low_or l 3
  rw [decodeL_N, decodeL_N, lower_len]
  rcases decodeN_low l.length _ _ _ _ _ _ _ _ q0 q1 q2 q3 with ⟨hb, e1, e2⟩ | ⟨hb, e⟩
  · rw [e1, e2]
    refine ⟨rfl, ?_, ?_⟩
    · unfold lowR; simp only; split <;> omega
    · simp only; omega
  · rw [e]
    refine ⟨rfl, ?_, Iff.rfl⟩
    have hs := decodeN_shape l.length (l.getD 0 0).toNat (l.getD 1 0).toNat (l.getD 2 0).toNat (l.getD 3 0).toNat
    unfold lowR
    rw [if_neg]
    rcases hs with ⟨c, e⟩ | ⟨c1, c2, c3, cv, e⟩ | ⟨c1, c2, c3, c4, cv, cs, e⟩ | ⟨c1, c2, c3, c4, c5, cv, cw, e⟩ | e
    all_goals (rw [e]; simp only; omega)
theorem lower_drop (l : List UInt8) (k : Nat) : (lower l).drop k = lower (l.drop k) := by simp [lower, List.map_drop]
theorem lower_reads (n : Nat) : ∀ l : List UInt8, l.length ≤ n → validD (lower l) = validD l ∧ runes (lower l) = (runes l).map lowR := by
  induction n with
  | zero => intro l h; have : l = [] := List.eq_nil_of_length_eq_zero (by omega); subst this; exact ⟨rfl, rfl⟩
  | succ n ih =>
    intro l h
    by_cases hne : l = []
    · subst hne; exact ⟨rfl, rfl⟩
    · have hne2 : lower l ≠ [] := by simpa [lower] using hne
      obtain ⟨d1, d2, d3⟩ := decode_low l
      have hw := decodeL_width l
      have hl : 0 < l.length := List.length_pos_iff.2 hne
      obtain ⟨i1, i2⟩ := ih (l.drop (decodeL l).2) (by rw [List.length_drop]; omega)
      rw [validD_step _ hne2, validD_step _ hne, runes_step _ hne2, runes_step _ hne, lower_drop, d1, d2, i1, i2]
      refine ⟨?_, by simp⟩
      rw [d1] at d3
      by_cases hc : (decodeL l).1 = 65533 ∧ (decodeL l).2 = 1
      · rw [if_pos (d3.2 hc), if_pos hc]
      · rw [if_neg (fun h => hc (d3.1 h)), if_neg hc]
theorem valid_lower (l : List UInt8) : validD (lower l) = validD l := (lower_reads _ l (Nat.le_refl _)).1
theorem runes_lower (l : List UInt8) : runes (lower l) = (runes l).map lowR := (lower_reads _ l (Nat.le_refl _)).2

/-- ASCII. -/
theorem ascii_reads (l : List UInt8) (h : ∀ b ∈ l, b.toNat < 128) : validD l = true ∧ (runes l).length = l.length := by
  induction l with
  | nil => exact ⟨rfl, rfl⟩
  | cons b l ih =>
    obtain ⟨i1, i2⟩ := ih (fun y hy => h y (List.mem_cons_of_mem _ hy))
    have hb := h b List.mem_cons_self
    rw [validD_cons b l hb, runes_step _ (by simp), decodeL_ascii b l hb]
    exact ⟨i1, by simpa using i2⟩
/-- What is read is a point, if the text is valid. -/
theorem runes_points (n : Nat) : ∀ l : List UInt8, l.length ≤ n → validD l = true → ∀ x ∈ runes l, Puny.point x = true := by
  induction n with
  | zero => intro l h _; have : l = [] := List.eq_nil_of_length_eq_zero (by omega); subst this; intro x hx; cases hx
  | succ n ih =>
    intro l h hv
    by_cases hne : l = []
    · subst hne; intro x hx; cases hx
    · have hw := decodeL_width l
      have hl : 0 < l.length := List.length_pos_iff.2 hne
      rw [validD_step _ hne] at hv
      split at hv
      · cases hv
      rename_i hbad
      rw [runes_step _ hne]
      intro x hx
      rcases List.mem_cons.1 hx with rfl | hx
      · rw [Puny.point_iff]
        rw [decodeL_N] at hbad ⊢
        have k0 := (l.getD 0 0).toNat_lt
        have k1 := (l.getD 1 0).toNat_lt
        rcases decodeN_shape l.length (l.getD 0 0).toNat (l.getD 1 0).toNat (l.getD 2 0).toNat (l.getD 3 0).toNat with ⟨c, e⟩ | ⟨c1, c2, c3, cv, e⟩ | ⟨c1, c2, c3, c4, cv, cs, e⟩ | ⟨c1, c2, c3, c4, c5, cv, cw, e⟩ | e
        all_goals (rw [e] at hbad ⊢; simp only at hbad ⊢)
        all_goals first | omega | (exact absurd ⟨rfl, rfl⟩ hbad)
      · exact ih _ (by rw [List.length_drop]; omega) hv x hx

/-! ### labels -/
def pre : List UInt8 := [120, 110, 45, 45]
def canon (b : UInt8) : Bool := (decide (97 ≤ b.toNat) && decide (b.toNat ≤ 122)) || (decide (48 ≤ b.toNat) && decide (b.toNat ≤ 57)) || decide (b.toNat = 45) || decide (b.toNat = 95)
def properP (r : List UInt8) (p : List Int) : Bool := p.all (fun x => !(decide (65 ≤ x) && decide (x ≤ 90))) && p.any (fun x => decide (128 ≤ x)) && decide (Puny.encode p = r)
def proper (r : List UInt8) : Bool := match Puny.decode r with
  | .error _ => false
  | .ok p => properP r p
def frame (l : List UInt8) : Bool := decide (l ≠ []) && decide (l.length ≤ 63) && decide (l.head? ≠ some 45) && decide (l.getLast? ≠ some 45) && l.all canon
def valid (l : List UInt8) : Bool := frame l && (!(pre.isPrefixOf l) || proper (l.drop 4))
def outA (l : List UInt8) : List UInt8 := if (runes l).length < l.length then pre ++ Puny.encode (runes (lower l)) else lower l
def toA (l : List UInt8) : List UInt8 × Int :=
  if validD l = false then ([], 4) else if 256 < (runes l).length then ([], 3) else if valid (outA l) then (outA l, 0) else ([], 14)
def toU (l : List UInt8) : List UInt8 × Int :=
  if valid l = false then ([], 14) else if pre.isPrefixOf l then (text (Puny.dec (l.drop 4)).1, 0) else (l, 0)

theorem canon_low (b : UInt8) (h : canon b = true) : b.toNat < 128 ∧ ¬ (65 ≤ b.toNat ∧ b.toNat ≤ 90) := by
  unfold canon at h; simp at h; omega
theorem valid_ascii (l : List UInt8) (h : valid l = true) : l ≠ [] ∧ l.length ≤ 63 ∧ ∀ b ∈ l, canon b = true := by
  unfold valid frame at h
  simp only [Bool.and_eq_true, decide_eq_true_eq, List.all_eq_true] at h
  exact ⟨h.1.1.1.1.1, h.1.1.1.1.2, h.1.2⟩
theorem toA_canon (l : List UInt8) (h : valid l = true) : toA l = (l, 0) := by
  obtain ⟨h1, h2, h3⟩ := valid_ascii l h
  obtain ⟨r1, r2⟩ := ascii_reads l (fun b hb => (canon_low b (h3 b hb)).1)
  have ho : outA l = l := by
    unfold outA; rw [if_neg (by omega), lower_id l (fun b hb => (canon_low b (h3 b hb)).2)]
  unfold toA
  rw [r1, if_neg (by simp), if_neg (by omega), ho, if_pos h]
theorem lower_text (p : List Int) (hp : ∀ x ∈ p, Puny.point x = true) (h : ∀ x ∈ p, ¬ (65 ≤ x ∧ x ≤ 90)) : lower (text p) = text p := by
  apply lower_id
  intro b hb
  obtain ⟨x, hx, hbx⟩ := List.mem_flatMap.1 hb
  have h0 := ((Puny.point_iff x).1 (hp x hx)).1
  by_cases hlt : x < 128
  · rw [enc_one x h0 hlt] at hbx
    simp only [List.mem_singleton] at hbx
    subst hbx
    rw [byte_nat _ h0 (by omega)]
    have := h x hx; omega
  · have := (enc_high x (by omega)).2 b hbx; omega
theorem toA_toU (l : List UInt8) (h : valid l = true) : (toU l).2 = 0 ∧ toA (toU l).1 = (l, 0) := by
  unfold toU
  rw [if_neg (by simp [h])]
  cases hpre : pre.isPrefixOf l with
  | false => exact ⟨rfl, by simpa using toA_canon l h⟩
  | true =>
    refine ⟨rfl, ?_⟩
    simp only [if_true]
    have hv := h
    unfold valid at h
    rw [hpre] at h
    simp only [Bool.not_true, Bool.false_or, Bool.and_eq_true] at h
    have hp := h.2
    unfold proper at hp
    unfold Puny.dec
    cases hd : Puny.decode (l.drop 4) with
    | error e => rw [hd] at hp; cases hp
    | ok p =>
      rw [hd] at hp
      unfold properP at hp
      simp only [Bool.and_eq_true, decide_eq_true_eq, List.all_eq_true, List.any_eq_true, Bool.not_eq_true', Bool.and_eq_false_iff, decide_eq_false_iff_not] at hp
      obtain ⟨⟨p1, p2⟩, p3⟩ := hp
      obtain ⟨q1, q2, -, -⟩ := Puny.decode_ok _ _ hd
      obtain ⟨t1, t2⟩ := text_reads p q1
      have t3 := (text_len p).2 p2
      have t4 := lower_text p q1 (fun x hx => by have := p1 x hx; omega)
      have hl : l = pre ++ l.drop 4 := by
        obtain ⟨t, ht⟩ := List.isPrefixOf_iff_prefix.1 hpre
        rw [← ht]; simp [pre]
      have ho : outA (text p) = l := by
        unfold outA
        rw [t2, if_pos t3, t4, t2, p3, ← hl]
      unfold toA
      simp only
      rw [t1, if_neg (by simp), t2, if_neg (by omega), ho, if_pos hv]
theorem toA_low (l : List UInt8) : toA (lower l) = toA l := by
  have ho : outA (lower l) = outA l := by
    unfold outA
    rw [lower_lower, lower_len, runes_lower, List.length_map]
  unfold toA
  rw [ho, valid_lower, runes_lower, List.length_map]
theorem toA_cases (l : List UInt8) : ((toA l).2 = 0 ∧ valid (toA l).1 = true) ∨ ((toA l).2 ≠ 0 ∧ (toA l).1 = []) := by
  unfold toA
  repeat' split
  · right; exact ⟨by decide, rfl⟩
  · right; exact ⟨by decide, rfl⟩
  · left; exact ⟨rfl, by assumption⟩
  · right; exact ⟨by decide, rfl⟩
theorem toU_inj (l k : List UInt8) (h1 : (toU l).2 = 0) (h2 : (toU k).2 = 0) : ((toU l).1 = (toU k).1) ↔ l = k := by
  have v : ∀ l, (toU l).2 = 0 → valid l = true := by
    intro l h
    unfold toU at h
    cases hv : valid l with
    | true => rfl
    | false => rw [hv, if_pos rfl] at h; cases h
  constructor
  · intro h
    have a := (toA_toU l (v l h1)).2
    have b := (toA_toU k (v k h2)).2
    rw [h] at a
    exact congrArg Prod.fst (a.symm.trans b)
  · rintro rfl; rfl
theorem aw_a : toA [66, 195, 188, 99, 104, 101, 114] = ([120, 110, 45, 45, 98, 99, 104, 101, 114, 45, 107, 118, 97], 0) := by decide +kernel
theorem aw_u : toU [120, 110, 45, 45, 98, 99, 104, 101, 114, 45, 107, 118, 97] = ([98, 195, 188, 99, 104, 101, 114], 0) := by decide +kernel
theorem aw_h : toA [45, 97] = ([], 14) := by decide +kernel
theorem aw_v : valid [97, 95, 49] = true := by decide +kernel

end Go.Proofs.YtjfflnnepndlkaaDoor.Lab

/-
  UTF-8 as the reference of labels reads it: a class of first bytes, then the bytes that go on. No program stands in this text.
-/
namespace Go.Proofs.YtjfflnnepndlkaaDoor.Lab
open Go.Lib

/-- What a first byte says: how many bytes, its own part of the number, the least number. -/
def Cls (b : Nat) (n : Nat) (v0 least : Int) : Prop :=
  (b < 128 ∧ n = 1 ∧ v0 = b ∧ least = 0) ∨ (194 ≤ b ∧ b < 224 ∧ n = 2 ∧ v0 = (b : Int) - 192 ∧ least = 128) ∨
  (224 ≤ b ∧ b < 240 ∧ n = 3 ∧ v0 = (b : Int) - 224 ∧ least = 2048) ∨ (240 ≤ b ∧ b < 245 ∧ n = 4 ∧ v0 = (b : Int) - 240 ∧ least = 65536)
/-- The number after k bytes more. -/
def part (t : List UInt8) (v0 : Int) : Nat → Int
  | 0 => v0
  | k + 1 => part t v0 k * 64 + ((t.getD (k + 1) 0).toNat : Int) - 128
def cont (t : List UInt8) (j : Nat) : Prop := 128 ≤ (t.getD j 0).toNat ∧ (t.getD j 0).toNat ≤ 191
def Good (t : List UInt8) (n : Nat) (v0 least : Int) : Prop := n ≤ t.length ∧ (∀ j, 1 ≤ j → j < n → cont t j) ∧ least ≤ part t v0 (n - 1) ∧ Puny.point (part t v0 (n - 1)) = true

set_option maxHeartbeats 4000000 in
theorem cls_good (t : List UInt8) (n : Nat) (v0 least : Int) (hc : Cls (t.getD 0 0).toNat n v0 least) (h : Good t n v0 least) : decodeL t = ((part t v0 (n - 1)).toNat, n) := by
  obtain ⟨h1, h2, h3, h4⟩ := h
  obtain ⟨p0, p1, p2⟩ := (Puny.point_iff _).1 h4
  clear h4
  rw [decodeL_N]
  rcases hc with ⟨c1, rfl, rfl, rfl⟩ | ⟨c1, c2, rfl, rfl, rfl⟩ | ⟨c1, c2, rfl, rfl, rfl⟩ | ⟨c1, c2, rfl, rfl, rfl⟩
  · simp only [part, Nat.sub_self]
    unfold decodeN
    rw [if_pos c1]
    simp
  · have k1 := h2 1 (by omega) (by omega)
    unfold cont at k1
    simp only [part] at h3 p0 p1 p2 ⊢
    generalize (t.getD 0 0).toNat = b0 at *
    generalize (t.getD (0 + 1) 0).toNat = b1 at *
    generalize (t.getD 2 0).toNat = b2 at *
    generalize (t.getD 3 0).toNat = b3 at *
    unfold decodeN
    rw [if_neg (by omega), if_pos (by omega), if_pos (by omega)]
    refine Prod.ext ?_ ?_
    · simp only; omega
    · rfl
  · have k1 := h2 1 (by omega) (by omega)
    have k2 := h2 2 (by omega) (by omega)
    unfold cont at k1 k2
    simp only [part] at h3 p0 p1 p2 ⊢
    generalize (t.getD 0 0).toNat = b0 at *
    generalize (t.getD (0 + 1) 0).toNat = b1 at *
    generalize (t.getD (1 + 1) 0).toNat = b2 at *
    generalize (t.getD 3 0).toNat = b3 at *
    unfold decodeN
    rw [if_neg (by omega), if_neg (by omega), if_pos (by omega), if_pos (by omega)]
    refine Prod.ext ?_ ?_
    · simp only; omega
    · rfl
  · have k1 := h2 1 (by omega) (by omega)
    have k2 := h2 2 (by omega) (by omega)
    have k3 := h2 3 (by omega) (by omega)
    unfold cont at k1 k2 k3
    simp only [part] at h3 p0 p1 p2 ⊢
    generalize (t.getD 0 0).toNat = b0 at *
    generalize (t.getD (0 + 1) 0).toNat = b1 at *
    generalize (t.getD (1 + 1) 0).toNat = b2 at *
    generalize (t.getD (2 + 1) 0).toNat = b3 at *
    unfold decodeN
    rw [if_neg (by omega), if_neg (by omega), if_neg (by omega), if_pos (by omega), if_pos (by omega)]
    refine Prod.ext ?_ ?_
    · simp only; omega
    · rfl
set_option maxHeartbeats 4000000 in
/-- What is read without an error is of a class and good. -/
theorem good_of (t : List UInt8) (hne : t ≠ []) (h : ¬ ((decodeL t).1 = 65533 ∧ (decodeL t).2 = 1)) :
    ∃ n v0 least, Cls (t.getD 0 0).toNat n v0 least ∧ Good t n v0 least := by
  have hl : 0 < t.length := List.length_pos_iff.2 hne
  rw [decodeL_N] at h
  have k0 := (t.getD 0 0).toNat_lt
  have k1 := (t.getD 1 0).toNat_lt
  have k2 := (t.getD 2 0).toNat_lt
  have k3 := (t.getD 3 0).toNat_lt
  rcases decodeN_shape t.length (t.getD 0 0).toNat (t.getD 1 0).toNat (t.getD 2 0).toNat (t.getD 3 0).toNat with ⟨c, e⟩ | ⟨c1, c2, c3, cv, e⟩ | ⟨c1, c2, c3, c4, cv, cs, e⟩ | ⟨c1, c2, c3, c4, c5, cv, cw, e⟩ | e
  · exact ⟨1, _, 0, .inl ⟨c, rfl, rfl, rfl⟩, hl, fun j h1 h2 => by omega, by simp only [part, Nat.sub_self]; omega, by rw [Puny.point_iff]; simp only [part, Nat.sub_self]; omega⟩
  · refine ⟨2, _, 128, .inr (.inl ⟨by omega, by omega, rfl, rfl, rfl⟩), c2, fun j h1 h2 => ?_, ?_, ?_⟩
    · obtain rfl : j = 1 := by omega
      unfold cont; omega
    · simp only [part, Nat.zero_add]; omega
    · rw [Puny.point_iff]; simp only [part, Nat.zero_add]; omega
  · refine ⟨3, _, 2048, .inr (.inr (.inl ⟨by omega, by omega, rfl, rfl, rfl⟩)), c2, fun j h1 h2 => ?_, ?_, ?_⟩
    · rcases (by omega : j = 1 ∨ j = 2) with rfl | rfl <;> (unfold cont; omega)
    · simp only [part, Nat.zero_add, Nat.reduceAdd]; omega
    · rw [Puny.point_iff]; simp only [part, Nat.zero_add, Nat.reduceAdd]; omega
  · refine ⟨4, _, 65536, .inr (.inr (.inr ⟨by omega, by omega, rfl, rfl, rfl⟩)), c2, fun j h1 h2 => ?_, ?_, ?_⟩
    · rcases (by omega : j = 1 ∨ j = 2 ∨ j = 3) with rfl | rfl | rfl <;> (unfold cont; omega)
    · simp only [part, Nat.zero_add, Nat.reduceAdd]; omega
    · rw [Puny.point_iff]; simp only [part, Nat.zero_add, Nat.reduceAdd]; omega
  · rw [e] at h; exact absurd ⟨rfl, rfl⟩ h
theorem cls_unique {b n m : Nat} {v0 v1 l0 l1 : Int} (h : Cls b n v0 l0) (h' : Cls b m v1 l1) : n = m ∧ v0 = v1 ∧ l0 = l1 := by
  unfold Cls at h h'; omega
/-- A text whose first character is good, and one whose first is not. -/
theorem reads_good (t : List UInt8) (n : Nat) (v0 least : Int) (hc : Cls (t.getD 0 0).toNat n v0 least) (h : Good t n v0 least) (hne : t ≠ []) :
    validD t = validD (t.drop n) ∧ runes t = part t v0 (n - 1) :: runes (t.drop n) := by
  have hd := cls_good t n v0 least hc h
  have hp := ((Puny.point_iff _).1 h.2.2.2).1
  rw [validD_step t hne, runes_step t hne, hd]
  refine ⟨?_, by simp only; rw [Int.toNat_of_nonneg hp]⟩
  rw [if_neg]
  rintro ⟨h1, h2⟩
  simp only at h1 h2
  subst h2
  have hk : (t.getD 0 0).toNat < 128 := by unfold Cls at hc; omega
  have : v0 = ((t.getD 0 0).toNat : Int) := by unfold Cls at hc; omega
  simp only [part, Nat.sub_self] at h1
  omega
theorem reads_bad (t : List UInt8) (n : Nat) (v0 least : Int) (hc : Cls (t.getD 0 0).toNat n v0 least) (h : ¬ Good t n v0 least) (hne : t ≠ []) : validD t = false := by
  rw [validD_step t hne]
  by_cases hb : (decodeL t).1 = 65533 ∧ (decodeL t).2 = 1
  · rw [if_pos hb]
  · obtain ⟨m, v1, l1, hc', hg⟩ := good_of t hne hb
    obtain ⟨rfl, rfl, rfl⟩ := cls_unique hc hc'
    exact absurd hg h
theorem reads_none (t : List UInt8) (h : ∀ n v0 least, ¬ Cls (t.getD 0 0).toNat n v0 least) (hne : t ≠ []) : validD t = false := by
  rw [validD_step t hne]
  by_cases hb : (decodeL t).1 = 65533 ∧ (decodeL t).2 = 1
  · rw [if_pos hb]
  · obtain ⟨m, v1, l1, hc', hg⟩ := good_of t hne hb
    exact absurd hc' (h m v1 l1)
theorem cls_none (b : Nat) (h1 : ¬ b < 128) (h2 : ¬ (194 ≤ b ∧ b < 224)) (h3 : ¬ (224 ≤ b ∧ b < 240)) (h4 : ¬ (240 ≤ b ∧ b < 245)) : ∀ n v0 least, ¬ Cls b n v0 least := by
  intro n v0 least h; unfold Cls at h; omega
theorem part_bd (t : List UInt8) (n : Nat) (v0 least : Int) (hc : Cls (t.getD 0 0).toNat n v0 least) : 0 ≤ v0 ∧ v0 < 128 ∧ (2 ≤ n → v0 < 32) ∧ n ≤ 4 ∧ 1 ≤ n := by
  unfold Cls at hc; omega
theorem prefix_take (l : List UInt8) : pre.isPrefixOf l = (decide (4 ≤ l.length) && (l.take 4 == pre)) := by
  rw [Bool.eq_iff_iff, List.isPrefixOf_iff_prefix, List.prefix_iff_eq_take]
  simp only [Bool.and_eq_true, decide_eq_true_eq, beq_iff_eq, show pre.length = 4 from rfl]
  constructor
  · intro h
    have := congrArg List.length h
    rw [List.length_take] at this
    simp [pre] at this
    exact ⟨by omega, h.symm⟩
  · rintro ⟨-, h⟩; exact h.symm

end Go.Proofs.YtjfflnnepndlkaaDoor.Lab
