/-
  Superblocks as plain functions, and their laws. No program in sight.
-/
import Derived.Test.YtedmnbmfbgenjaaCrcBurst
namespace Go.Proofs.Ytedmnbmfbgenjaa.Super
open Crc

/-- n bytes of a number, the lowest first. -/
def le : Nat → Nat → List UInt8
  | 0, _ => []
  | n + 1, v => UInt8.ofNat (v % 256) :: le n (v / 256)
def unle : List UInt8 → Nat
  | [] => 0
  | b :: l => b.toNat + 256 * unle l

theorem le_length (n v : Nat) : (le n v).length = n := by
  induction n generalizing v with
  | zero => rfl
  | succ n ih => simp [le, ih]
theorem unle_le (n v : Nat) : unle (le n v) = v % 256 ^ n := by
  induction n generalizing v with
  | zero => simp [le, unle, Nat.mod_one]
  | succ n ih =>
    rw [le, unle, ih, toNat_ofNat8 (Nat.mod_lt _ (by decide)), Nat.pow_succ, Nat.mul_comm (256 ^ n) 256, Nat.mod_mul]
theorem unle_lt (l : List UInt8) : unle l < 256 ^ l.length := by
  induction l with
  | nil => simp [unle]
  | cons b l ih =>
    have := b.toNat_lt
    rw [unle, List.length_cons, Nat.pow_succ]; omega
theorem le_unle (l : List UInt8) : le l.length (unle l) = l := by
  induction l with
  | nil => rfl
  | cons b l ih =>
    have hb := b.toNat_lt
    rw [List.length_cons, le, unle, show (b.toNat + 256 * unle l) % 256 = b.toNat by omega, show (b.toNat + 256 * unle l) / 256 = unle l by omega, ih]
    simp
theorem unle_append (a b : List UInt8) : unle (a ++ b) = unle a + 256 ^ a.length * unle b := by
  induction a with
  | nil => simp [unle]
  | cons x a ih => rw [List.cons_append, unle, unle, ih, List.length_cons, Nat.pow_succ, Nat.mul_add, Nat.mul_comm (256 ^ a.length) 256, Nat.mul_assoc, Nat.add_assoc]
theorem le_four (v : Nat) (hv : v < 4294967296) : le 4 v = fix4 v := by
  simp only [le, fix4]
  rw [show v / 256 / 256 = v / 65536 by omega, show v / 65536 / 256 = v / 16777216 by omega, show v / 16777216 % 256 = v / 16777216 by omega]
theorem le_eight (v : Nat) (hv : v < 18446744073709551616) : le 8 v = fix4 (v % 4294967296) ++ fix4 (v / 4294967296) := by
  rw [← le_four _ (Nat.mod_lt _ (by decide)), ← le_four _ (by omega)]
  simp only [le, List.cons_append, List.nil_append]
  congr 1
  · congr 1; omega
  congr 1
  · congr 1; omega
  congr 1
  · congr 1; omega
  congr 1
  · congr 1; omega
  congr 1
  · congr 1; omega
  congr 1
  · congr 1; omega
  congr 1
  · congr 1; omega
  congr 1
  · congr 1; omega
theorem unle_four (l : List UInt8) (h : l.length = 4) : unle l = unfix4 l := by
  match l, h with
  | [a, b, c, d], _ => simp only [unle, unfix4, List.getElem?_cons_zero, List.getElem?_cons_succ, Option.getD_some]; omega

/-- The bytes xs laid over l from o on. -/
def spl (l : List UInt8) (o : Nat) (xs : List UInt8) : List UInt8 := l.take o ++ xs ++ l.drop (o + xs.length)
theorem spl_length (l : List UInt8) (o : Nat) (xs : List UInt8) (h : o + xs.length ≤ l.length) : (spl l o xs).length = l.length := by simp [spl]; omega
theorem spl_nil (l : List UInt8) (o : Nat) : spl l o [] = l := by simp [spl]
theorem spl_snoc (l : List UInt8) (o : Nat) (xs : List UInt8) (b : UInt8) (h : o + xs.length < l.length) : (spl l o xs).set (o + xs.length) b = spl l o (xs ++ [b]) := by
  unfold spl
  have h1 : (l.take o ++ xs).length = o + xs.length := by simp; omega
  rw [List.set_append_right _ _ (by omega), h1, Nat.sub_self, List.drop_eq_getElem_cons h, List.set_cons_zero]
  simp [Nat.add_assoc]
theorem le_succ (k v : Nat) : le (k + 1) v = le k v ++ [UInt8.ofNat (v / 256 ^ k % 256)] := by
  induction k generalizing v with
  | zero => simp [le]
  | succ k ih =>
    rw [le, ih (v / 256), le, List.cons_append]
    congr 3
    rw [Nat.div_div_eq_div_mul, Nat.pow_succ, Nat.mul_comm 256]

/-- A superblock: generation, active, epoch, length, sum. -/
structure S where
  gen : Nat
  act : Int
  epoch : Nat
  len : Int
  sum : Nat
  deriving DecidableEq

def zero : S := ⟨0, 0, 0, 0, 0⟩
/-- The numbers fit their kinds. -/
def S.fits (s : S) : Prop := s.gen < 18446744073709551616 ∧ s.epoch < 4294967296 ∧ s.sum < 4294967296
def valid (s : S) : Bool := (s.act == 0 || s.act == 1) && decide (0 ≤ s.len) && decide (s.len ≤ 262144)

/-- All but the checksum. -/
def body (s : S) : List UInt8 := [72, 83, 84, 83, 1, UInt8.ofNat s.act.toNat] ++ le 8 s.gen ++ le 4 s.epoch ++ le 4 s.len.toNat ++ le 4 s.sum ++ List.replicate 34 0
def enc (s : S) : List UInt8 := body s ++ fix4 (update 0 (body s))
def field (b : List UInt8) (i n : Nat) : Nat := unle ((b.drop i).take n)
def fields (b : List UInt8) : S := ⟨field b 6 8, ((b[5]?.getD 0).toNat : Int), field b 14 4, (field b 18 4 : Int), field b 22 4⟩
/-- The result of Decode: the superblock and the error's number. -/
def dec (b : List UInt8) : S × Int :=
  if b.length ≠ 64 then (zero, 5)
  else if unfix4 (b.drop 60) ≠ update 0 (b.take 60) then (zero, 7)
  else if valid (fields b) = true ∧ enc (fields b) = b then (fields b, 0) else (zero, 6)

theorem body_length (s : S) : (body s).length = 60 := by simp [body, le_length]
theorem enc_length (s : S) : (enc s).length = 64 := by simp [enc, body_length, fix4]

theorem fields_enc (s : S) (hv : valid s = true) (hf : s.fits) : fields (enc s) = s := by
  obtain ⟨g, a, e, l, m⟩ := s
  obtain ⟨h1, h2, h3⟩ := hf
  simp only [valid, Bool.and_eq_true, Bool.or_eq_true, beq_iff_eq, decide_eq_true_eq] at hv
  obtain ⟨⟨ha, hl0⟩, hl1⟩ := hv
  have e1 : ((enc ⟨g, a, e, l, m⟩).drop 6).take 8 = le 8 g := rfl
  have e2 : ((enc ⟨g, a, e, l, m⟩).drop 14).take 4 = le 4 e := rfl
  have e3 : ((enc ⟨g, a, e, l, m⟩).drop 18).take 4 = le 4 l.toNat := rfl
  have e4 : ((enc ⟨g, a, e, l, m⟩).drop 22).take 4 = le 4 m := rfl
  have e5 : (enc ⟨g, a, e, l, m⟩)[5]?.getD 0 = UInt8.ofNat a.toNat := rfl
  simp only at h1 h2 h3 ha hl0 hl1
  unfold fields field
  rw [e1, e2, e3, e4, e5, unle_le, unle_le, unle_le, unle_le, toNat_ofNat8 (by omega)]
  congr 1
  · omega
  · omega
  · omega
  · omega
  · omega

theorem enc_take (s : S) : (enc s).take 60 = body s := by
  rw [enc, ← body_length s, List.take_left]
theorem enc_drop (s : S) : (enc s).drop 60 = fix4 (update 0 (body s)) := by
  rw [enc, ← body_length s, List.drop_left]

theorem dec_enc (s : S) (hv : valid s = true) (hf : s.fits) : dec (enc s) = (s, 0) := by
  unfold dec
  rw [if_neg (by simp [enc_length]), if_neg (by rw [enc_take, enc_drop, unfix4_fix4 (update_lt _ _)]; simp), fields_enc s hv hf, if_pos ⟨hv, rfl⟩]

theorem dec_damaged (s : S) (k p : Nat) (hk : k + 32 < 512) (hp : p % 2 = 1) : dec (flipN (enc s) k p 32) = (zero, 7) := by
  unfold dec
  rw [if_neg (by simp [flipN_length, enc_length]), if_pos]
  intro h
  have h2 := burst_word_mod (body s) k p (by rw [body_length]; omega)
  rw [body_length] at h2
  have h3 := h2 h.symm
  rw [show min 32 (8 * (60 + 4) - k) = 32 by omega] at h3
  omega

/-- The result of Choose: the slot, the superblock and the error's number. -/
def choose (a b : List UInt8) : Int × S × Int :=
  if (dec a).2 ≠ 0 ∧ (dec b).2 ≠ 0 then (0, zero, 13)
  else if (dec a).2 ≠ 0 ∨ ((dec b).2 = 0 ∧ (dec a).1.gen < (dec b).1.gen) then (1, (dec b).1, 0)
  else (0, (dec a).1, 0)

/-- The bytes as the code lays them, one field behind the other. -/
def lay (gen act epoch len sum : Nat) : List UInt8 :=
  spl (spl (spl (spl (((List.take 0 (List.replicate 64 (0 : UInt8)) ++ (ByteArray.mk #[72, 83, 84, 83]).data.toList ++ List.drop (0 + (ByteArray.mk #[72, 83, 84, 83]).size) (List.replicate 64 0)).set 4 1).set 5 (UInt8.ofNat act)) 6 (le 8 gen)) 14 (le 4 epoch)) 18 (le 4 len)) 22 (le 4 sum)
theorem lay_eq (gen act epoch len sum : Nat) : lay gen act epoch len sum = body ⟨gen, act, epoch, len, sum⟩ ++ [0, 0, 0, 0] := rfl
theorem lay_take (gen act epoch len sum : Nat) : ((lay gen act epoch len sum).drop 0).take 60 = body ⟨gen, act, epoch, len, sum⟩ := by
  rw [lay_eq, List.drop_zero, ← body_length ⟨gen, act, epoch, len, sum⟩, List.take_left]
theorem lay_enc (gen act epoch len sum : Nat) : spl (lay gen act epoch len sum) 60 (le 4 (update 0 (body ⟨gen, act, epoch, len, sum⟩))) = enc ⟨gen, act, epoch, len, sum⟩ := by
  have h := body_length ⟨gen, act, epoch, len, sum⟩
  rw [le_four _ (update_lt _ _), spl, lay_eq, List.take_append_of_le_length (by omega), List.take_of_length_le (by omega), List.drop_eq_nil_of_le (by simp [h, fix4]), List.append_nil]; rfl

theorem valid_cases {s : S} (hv : valid s = true) (hf : s.fits) : ∃ gen act epoch len sum : Nat, s = ⟨gen, act, epoch, len, sum⟩ ∧ gen < 18446744073709551616 ∧ epoch < 4294967296 ∧ sum < 4294967296 ∧ len ≤ 262144 ∧ act < 2 := by
  obtain ⟨g, a, e, l, m⟩ := s
  obtain ⟨h1, h2, h3⟩ := hf
  simp only [valid, Bool.and_eq_true, Bool.or_eq_true, beq_iff_eq, decide_eq_true_eq] at hv
  obtain ⟨⟨ha, hl0⟩, hl1⟩ := hv
  simp only at h1 h2 h3 ha hl0 hl1
  refine ⟨g, a.toNat, e, l.toNat, m, ?_, h1, h2, h3, by omega, by omega⟩
  congr 1 <;> omega

/-- The parts of the body, as the reference lays them. -/
theorem body_parts (gen act epoch len sum : Nat) (h1 : gen < 18446744073709551616) (h2 : epoch < 4294967296) (h3 : sum < 4294967296) (h4 : len < 4294967296) :
    body ⟨gen, act, epoch, len, sum⟩ = [72, 83, 84, 83, 1, UInt8.ofNat act] ++ fix4 (gen % 4294967296) ++ fix4 (gen / 4294967296) ++ fix4 epoch ++ fix4 len ++ fix4 sum ++ List.replicate 34 0 := by
  unfold body
  rw [le_eight _ h1, le_four _ h2, le_four _ h3, Int.toNat_natCast, Int.toNat_natCast, le_four _ h4]
  simp only [List.append_assoc]

end Go.Proofs.Ytedmnbmfbgenjaa.Super
