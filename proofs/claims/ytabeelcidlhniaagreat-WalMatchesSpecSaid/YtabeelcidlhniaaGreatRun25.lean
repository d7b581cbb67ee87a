/-
  Texts in one: SuperPlain, FramePlain.
-/
import Derived.Test.YtabeelcidlhniaaGreatCrcBurst
/-
  Superblocks as plain functions, and their laws. No program in sight.
-/
namespace Go.Proofs.YtabeelcidlhniaaGreat.Super
open Crc

/-- n bytes of a number, the lowest first. -/
def le : Nat → Nat → List UInt8
  | 0, _ => []
  | n + 1, v => UInt8.ofNat (v % 256) :: le n (v / 256)
def unle : List UInt8 → Nat
  | [] => 0
  | b :: l => b.toNat + 256 * unle l

theorem le_length (n v : Nat) : (le n v).length = n := by
  induction n generalizing v with
  | zero => rfl
  | succ n ih => simp [le, ih]
theorem unle_le (n v : Nat) : unle (le n v) = v % 256 ^ n := by
  induction n generalizing v with
  | zero => simp [le, unle, Nat.mod_one]
  | succ n ih =>
    rw [le, unle, ih, toNat_ofNat8 (Nat.mod_lt _ (by decide)), Nat.pow_succ, Nat.mul_comm (256 ^ n) 256, Nat.mod_mul]
theorem unle_lt (l : List UInt8) : unle l < 256 ^ l.length := by
  induction l with
  | nil => simp [unle]
  | cons b l ih =>
    have := b.toNat_lt
    rw [unle, List.length_cons, Nat.pow_succ]; omega
theorem le_unle (l : List UInt8) : le l.length (unle l) = l := by
  induction l with
  | nil => rfl
  | cons b l ih =>
    have hb := b.toNat_lt
    rw [List.length_cons, le, unle, show (b.toNat + 256 * unle l) % 256 = b.toNat by omega, show (b.toNat + 256 * unle l) / 256 = unle l by omega, ih]
    simp
theorem unle_append (a b : List UInt8) : unle (a ++ b) = unle a + 256 ^ a.length * unle b := by
  induction a with
  | nil => simp [unle]
  | cons x a ih => rw [List.cons_append, unle, unle, ih, List.length_cons, Nat.pow_succ, Nat.mul_add, Nat.mul_comm (256 ^ a.length) 256, Nat.mul_assoc, Nat.add_assoc]
theorem le_four (v : Nat) (hv : v < 4294967296) : le 4 v = fix4 v := by
  simp only [le, fix4]
  rw [show v / 256 / 256 = v / 65536 by omega, show v / 65536 / 256 = v / 16777216 by omega, show v / 16777216 % 256 = v / 16777216 by omega]
theorem le_eight (v : Nat) (hv : v < 18446744073709551616) : le 8 v = fix4 (v % 4294967296) ++ fix4 (v / 4294967296) := by
  rw [← le_four _ (Nat.mod_lt _ (by decide)), ← le_four _ (by omega)]
  simp only [le, List.cons_append, List.nil_append]
  congr 1
  · congr 1; omega
  congr 1
  · congr 1; omega
  congr 1
  · congr 1; omega
  congr 1
  · congr 1; omega
  congr 1
  · congr 1; omega
  congr 1
  · congr 1; omega
  congr 1
  · congr 1; omega
  congr 1
  · congr 1; omega
theorem unle_four (l : List UInt8) (h : l.length = 4) : unle l = unfix4 l := by
  match l, h with
  | [a, b, c, d], _ => simp only [unle, unfix4, List.getElem?_cons_zero, List.getElem?_cons_succ, Option.getD_some]; omega

/-- The bytes xs laid over l from o on. -/
def spl (l : List UInt8) (o : Nat) (xs : List UInt8) : List UInt8 := l.take o ++ xs ++ l.drop (o + xs.length)
theorem spl_length (l : List UInt8) (o : Nat) (xs : List UInt8) (h : o + xs.length ≤ l.length) : (spl l o xs).length = l.length := by simp [spl]; omega
theorem spl_nil (l : List UInt8) (o : Nat) : spl l o [] = l := by simp [spl]
theorem spl_snoc (l : List UInt8) (o : Nat) (xs : List UInt8) (b : UInt8) (h : o + xs.length < l.length) : (spl l o xs).set (o + xs.length) b = spl l o (xs ++ [b]) := by
  unfold spl
  have h1 : (l.take o ++ xs).length = o + xs.length := by simp; omega
  rw [List.set_append_right _ _ (by omega), h1, Nat.sub_self, List.drop_eq_getElem_cons h, List.set_cons_zero]
  simp [Nat.add_assoc]
theorem le_succ (k v : Nat) : le (k + 1) v = le k v ++ [UInt8.ofNat (v / 256 ^ k % 256)] := by
  induction k generalizing v with
  | zero => simp [le]
  | succ k ih =>
    rw [le, ih (v / 256), le, List.cons_append]
    congr 3
    rw [Nat.div_div_eq_div_mul, Nat.pow_succ, Nat.mul_comm 256]

/-- A superblock: generation, active, epoch, length, sum. -/
structure S where
  gen : Nat
  act : Int
  epoch : Nat
  len : Int
  sum : Nat
  deriving DecidableEq

def zero : S := ⟨0, 0, 0, 0, 0⟩
/-- The numbers fit their kinds. -/
def S.fits (s : S) : Prop := s.gen < 18446744073709551616 ∧ s.epoch < 4294967296 ∧ s.sum < 4294967296
def valid (s : S) : Bool := (s.act == 0 || s.act == 1) && decide (0 ≤ s.len) && decide (s.len ≤ 262144)

/-- All but the checksum. -/
def body (s : S) : List UInt8 := [72, 83, 84, 83, 1, UInt8.ofNat s.act.toNat] ++ le 8 s.gen ++ le 4 s.epoch ++ le 4 s.len.toNat ++ le 4 s.sum ++ List.replicate 34 0
def enc (s : S) : List UInt8 := body s ++ fix4 (update 0 (body s))
def field (b : List UInt8) (i n : Nat) : Nat := unle ((b.drop i).take n)
def fields (b : List UInt8) : S := ⟨field b 6 8, ((b[5]?.getD 0).toNat : Int), field b 14 4, (field b 18 4 : Int), field b 22 4⟩
/-- The result of Decode: the superblock and the error's number. -/
def dec (b : List UInt8) : S × Int :=
  if b.length ≠ 64 then (zero, 5)
  else if unfix4 (b.drop 60) ≠ update 0 (b.take 60) then (zero, 7)
  else if valid (fields b) = true ∧ enc (fields b) = b then (fields b, 0) else (zero, 6)

theorem body_length (s : S) : (body s).length = 60 := by simp [body, le_length]
theorem enc_length (s : S) : (enc s).length = 64 := by simp [enc, body_length, fix4]

theorem fields_enc (s : S) (hv : valid s = true) (hf : s.fits) : fields (enc s) = s := by
  obtain ⟨g, a, e, l, m⟩ := s
  obtain ⟨h1, h2, h3⟩ := hf
  simp only [valid, Bool.and_eq_true, Bool.or_eq_true, beq_iff_eq, decide_eq_true_eq] at hv
  obtain ⟨⟨ha, hl0⟩, hl1⟩ := hv
  have e1 : ((enc ⟨g, a, e, l, m⟩).drop 6).take 8 = le 8 g := rfl
  have e2 : ((enc ⟨g, a, e, l, m⟩).drop 14).take 4 = le 4 e := rfl
  have e3 : ((enc ⟨g, a, e, l, m⟩).drop 18).take 4 = le 4 l.toNat := rfl
  have e4 : ((enc ⟨g, a, e, l, m⟩).drop 22).take 4 = le 4 m := rfl
  have e5 : (enc ⟨g, a, e, l, m⟩)[5]?.getD 0 = UInt8.ofNat a.toNat := rfl
  simp only at h1 h2 h3 ha hl0 hl1
  unfold fields field
  rw [e1, e2, e3, e4, e5, unle_le, unle_le, unle_le, unle_le, toNat_ofNat8 (by omega)]
  congr 1
  · omega
  · omega
  · omega
  · omega
  · omega

theorem enc_take (s : S) : (enc s).take 60 = body s := by
  rw [enc, ← body_length s, List.take_left]
theorem enc_drop (s : S) : (enc s).drop 60 = fix4 (update 0 (body s)) := by
  rw [enc, ← body_length s, List.drop_left]

theorem dec_enc (s : S) (hv : valid s = true) (hf : s.fits) : dec (enc s) = (s, 0) := by
  unfold dec
  rw [if_neg (by simp [enc_length]), if_neg (by rw [enc_take, enc_drop, unfix4_fix4 (update_lt _ _)]; simp), fields_enc s hv hf, if_pos ⟨hv, rfl⟩]

theorem dec_damaged (s : S) (k p : Nat) (hk : k + 32 < 512) (hp : p % 2 = 1) : dec (flipN (enc s) k p 32) = (zero, 7) := by
  unfold dec
  rw [if_neg (by simp [flipN_length, enc_length]), if_pos]
  intro h
  have h2 := burst_word_mod (body s) k p (by rw [body_length]; omega)
  rw [body_length] at h2
  have h3 := h2 h.symm
  rw [show min 32 (8 * (60 + 4) - k) = 32 by omega] at h3
  omega

/-- The result of Choose: the slot, the superblock and the error's number. -/
def choose (a b : List UInt8) : Int × S × Int :=
  if (dec a).2 ≠ 0 ∧ (dec b).2 ≠ 0 then (0, zero, 13)
  else if (dec a).2 ≠ 0 ∨ ((dec b).2 = 0 ∧ (dec a).1.gen < (dec b).1.gen) then (1, (dec b).1, 0)
  else (0, (dec a).1, 0)

/-- The bytes as the code lays them, one field behind the other. -/
def lay (gen act epoch len sum : Nat) : List UInt8 :=
  spl (spl (spl (spl (((List.take 0 (List.replicate 64 (0 : UInt8)) ++ (ByteArray.mk #[72, 83, 84, 83]).data.toList ++ List.drop (0 + (ByteArray.mk #[72, 83, 84, 83]).size) (List.replicate 64 0)).set 4 1).set 5 (UInt8.ofNat act)) 6 (le 8 gen)) 14 (le 4 epoch)) 18 (le 4 len)) 22 (le 4 sum)
theorem lay_eq (gen act epoch len sum : Nat) : lay gen act epoch len sum = body ⟨gen, act, epoch, len, sum⟩ ++ [0, 0, 0, 0] := rfl
theorem lay_take (gen act epoch len sum : Nat) : ((lay gen act epoch len sum).drop 0).take 60 = body ⟨gen, act, epoch, len, sum⟩ := by
  rw [lay_eq, List.drop_zero, ← body_length ⟨gen, act, epoch, len, sum⟩, List.take_left]
theorem lay_enc (gen act epoch len sum : Nat) : spl (lay gen act epoch len sum) 60 (le 4 (update 0 (body ⟨gen, act, epoch, len, sum⟩))) = enc ⟨gen, act, epoch, len, sum⟩ := by
  have h := body_length ⟨gen, act, epoch, len, sum⟩
  rw [le_four _ (update_lt _ _), spl, lay_eq, List.take_append_of_le_length (by omega), List.take_of_length_le (by omega), List.drop_eq_nil_of_le (by simp [h, fix4]), List.append_nil]; rfl

theorem valid_cases {s : S} (hv : valid s = true) (hf : s.fits) : ∃ gen act epoch len sum : Nat, s = ⟨gen, act, epoch, len, sum⟩ ∧ gen < 18446744073709551616 ∧ epoch < 4294967296 ∧ sum < 4294967296 ∧ len ≤ 262144 ∧ act < 2 := by
  obtain ⟨g, a, e, l, m⟩ := s
  obtain ⟨h1, h2, h3⟩ := hf
  simp only [valid, Bool.and_eq_true, Bool.or_eq_true, beq_iff_eq, decide_eq_true_eq] at hv
  obtain ⟨⟨ha, hl0⟩, hl1⟩ := hv
  simp only at h1 h2 h3 ha hl0 hl1
  refine ⟨g, a.toNat, e, l.toNat, m, ?_, h1, h2, h3, by omega, by omega⟩
  congr 1 <;> omega

/-- The parts of the body, as the reference lays them. -/
theorem body_parts (gen act epoch len sum : Nat) (h1 : gen < 18446744073709551616) (h2 : epoch < 4294967296) (h3 : sum < 4294967296) (h4 : len < 4294967296) :
    body ⟨gen, act, epoch, len, sum⟩ = [72, 83, 84, 83, 1, UInt8.ofNat act] ++ fix4 (gen % 4294967296) ++ fix4 (gen / 4294967296) ++ fix4 epoch ++ fix4 len ++ fix4 sum ++ List.replicate 34 0 := by
  unfold body
  rw [le_eight _ h1, le_four _ h2, le_four _ h3, Int.toNat_natCast, Int.toNat_natCast, le_four _ h4]
  simp only [List.append_assoc]

end Go.Proofs.YtabeelcidlhniaaGreat.Super

/-
  Frames as plain functions, and their laws. No program in sight.
-/
namespace Go.Proofs.YtabeelcidlhniaaGreat.Frame
open Crc Super

def size (n : Int) : Int := if n < 0 ∨ 1024 < n then 0 else 14 + n
/-- All but the checksum. -/
def head (ep sq : Nat) (p : List UInt8) : List UInt8 := le 2 p.length ++ le 4 ep ++ le 4 sq ++ p
def enc (ep sq : Nat) (p : List UInt8) : List UInt8 := head ep sq p ++ le 4 (update 0 (head ep sq p))
/-- The length that a frame names. -/
def len2 (b : List UInt8) : Nat := unle (b.take 2)
/-- The result of Decode: the payload, the size and the error's number. -/
def dec (b : List UInt8) (ep sq : Nat) : List UInt8 × Nat × Int :=
  if b.length < 14 then ([], 0, 5)
  else if 1024 < len2 b then ([], 0, 3)
  else if b.length < 14 + len2 b then ([], 0, 5)
  else if unle ((b.drop (10 + len2 b)).take 4) ≠ update 0 (b.take (10 + len2 b)) then ([], 0, 7)
  else if unle ((b.drop 2).take 4) ≠ ep ∨ unle ((b.drop 6).take 4) ≠ sq then ([], 0, 8)
  else ((b.drop 10).take (len2 b), 14 + len2 b, 0)

theorem len2_lt (b : List UInt8) : len2 b < 65536 := by
  have h := unle_lt (b.take 2)
  have h2 : (b.take 2).length ≤ 2 := List.length_take_le _ _
  exact Nat.lt_of_lt_of_le h (Nat.le_trans (Nat.pow_le_pow_right (by decide) h2) (by decide))
theorem head_length (ep sq : Nat) (p : List UInt8) : (head ep sq p).length = 10 + p.length := by simp [head, le_length]; omega
theorem enc_length (ep sq : Nat) (p : List UInt8) : (enc ep sq p).length = 14 + p.length := by simp [enc, head_length, le_length]; omega

theorem enc_parts (ep sq : Nat) (p r : List UInt8) : enc ep sq p ++ r = le 2 p.length ++ (le 4 ep ++ (le 4 sq ++ (p ++ (le 4 (update 0 (head ep sq p)) ++ r)))) := by simp [enc, head]
theorem drop_app {a b : List UInt8} (n : Nat) (h : a.length ≤ n) : (a ++ b).drop n = b.drop (n - a.length) := by
  rw [List.drop_append, List.drop_eq_nil_of_le h, List.nil_append]

theorem len2_enc (ep sq : Nat) (p r : List UInt8) (hp : p.length ≤ 1024) : len2 (enc ep sq p ++ r) = p.length := by
  unfold len2
  rw [enc_parts, List.take_append_of_le_length (by rw [le_length]; omega), List.take_of_length_le (by rw [le_length]; omega), unle_le, Nat.mod_eq_of_lt (by omega)]
theorem f2 (ep sq : Nat) (p r : List UInt8) (h : ep < 4294967296) : unle (((enc ep sq p ++ r).drop 2).take 4) = ep := by
  rw [enc_parts, drop_app 2 (by rw [le_length]; omega), le_length, Nat.sub_self, List.drop_zero, List.take_append_of_le_length (by rw [le_length]; omega), List.take_of_length_le (by rw [le_length]; omega), unle_le, Nat.mod_eq_of_lt (by omega)]
theorem f6 (ep sq : Nat) (p r : List UInt8) (h : sq < 4294967296) : unle (((enc ep sq p ++ r).drop 6).take 4) = sq := by
  rw [enc_parts, drop_app 6 (by rw [le_length]; omega), le_length, drop_app _ (by rw [le_length]; omega), le_length, List.drop_zero, List.take_append_of_le_length (by rw [le_length]; omega), List.take_of_length_le (by rw [le_length]; omega), unle_le, Nat.mod_eq_of_lt (by omega)]
theorem f10 (ep sq : Nat) (p r : List UInt8) : ((enc ep sq p ++ r).drop 10).take p.length = p := by
  rw [enc_parts, drop_app 10 (by rw [le_length]; omega), le_length, drop_app _ (by rw [le_length]; omega), le_length, drop_app _ (by rw [le_length]; omega), le_length, List.drop_zero, List.take_left]
theorem fsum (ep sq : Nat) (p r : List UInt8) : unle (((enc ep sq p ++ r).drop (10 + p.length)).take 4) = update 0 (head ep sq p) := by
  have h := head_length ep sq p
  rw [enc, List.append_assoc, ← h, List.drop_left, List.take_append_of_le_length (by rw [le_length]; omega), List.take_of_length_le (by rw [le_length]; omega), unle_le, Nat.mod_eq_of_lt (update_lt _ _)]
theorem fhead (ep sq : Nat) (p r : List UInt8) : (enc ep sq p ++ r).take (10 + p.length) = head ep sq p := by
  have h := head_length ep sq p
  rw [enc, List.append_assoc, ← h, List.take_left]

theorem dec_enc (ep sq : Nat) (p r : List UInt8) (hp : p.length ≤ 1024) (he : ep < 4294967296) (hs : sq < 4294967296) : dec (enc ep sq p ++ r) ep sq = (p, 14 + p.length, 0) := by
  have hl := enc_length ep sq p
  unfold dec
  rw [if_neg (by simp; omega), len2_enc _ _ _ _ hp, if_neg (by omega), if_neg (by simp; omega), fsum, fhead, if_neg (by simp), f2 _ _ _ _ he, f6 _ _ _ _ hs, if_neg (by simp), f10]
theorem dec_other (ep sq ep' sq' : Nat) (p r : List UInt8) (hp : p.length ≤ 1024) (he : ep < 4294967296) (hne : ep ≠ ep') : dec (enc ep sq p ++ r) ep' sq' = ([], 0, 8) := by
  have hl := enc_length ep sq p
  unfold dec
  rw [if_neg (by simp; omega), len2_enc _ _ _ _ hp, if_neg (by omega), if_neg (by simp; omega), fsum, fhead, if_neg (by simp), f2 _ _ _ _ he, if_pos (.inl hne)]

/-- What a successful Decode says. -/
theorem dec_ok (b : List UInt8) (ep sq : Nat) (h : (dec b ep sq).2.2 = 0) : (dec b ep sq).2.1 = 14 + (dec b ep sq).1.length ∧ (dec b ep sq).2.1 ≤ b.length ∧ (dec b ep sq).1.length ≤ 1024 := by
  unfold dec at h ⊢
  by_cases h1 : b.length < 14
  · rw [if_pos h1] at h; simp at h
  rw [if_neg h1] at h ⊢
  by_cases h2 : 1024 < len2 b
  · rw [if_pos h2] at h; simp at h
  rw [if_neg h2] at h ⊢
  by_cases h3 : b.length < 14 + len2 b
  · rw [if_pos h3] at h; simp at h
  rw [if_neg h3] at h ⊢
  by_cases h4 : unle ((b.drop (10 + len2 b)).take 4) ≠ update 0 (b.take (10 + len2 b))
  · rw [if_pos h4] at h; simp at h
  rw [if_neg h4] at h ⊢
  by_cases h5 : unle ((b.drop 2).take 4) ≠ ep ∨ unle ((b.drop 6).take 4) ≠ sq
  · rw [if_pos h5] at h; simp at h
  rw [if_neg h5]
  simp; omega
theorem dec_bad (b : List UInt8) (ep sq : Nat) (h : (dec b ep sq).2.2 ≠ 0) : (dec b ep sq).1 = [] ∧ (dec b ep sq).2.1 = 0 := by
  unfold dec at h ⊢
  repeat' split
  all_goals first | exact ⟨rfl, rfl⟩ | skip
  rename_i h1 h2 h3 h4 h5
  rw [if_neg h1, if_neg h2, if_neg h3, if_neg h4, if_neg h5] at h
  exact absurd rfl h

/-! ### Damage -/
theorem take_flipN (l : List UInt8) (k p n : Nat) (h : n ≤ k / 8) : ∀ i, (flipN l k p i).take n = l.take n := by
  intro i
  induction i with
  | zero => rfl
  | succ i ih =>
    rw [flipN]; split
    · rw [take_flip1, if_neg (by omega), ih]
    · exact ih

theorem dec_damaged (ep sq k pat : Nat) (p : List UInt8) (hp : p.length ≤ 1024) (hk : 16 ≤ k) (hk2 : k < 8 * (14 + p.length)) (hpat : pat % 2 ^ min 32 (8 * (14 + p.length) - k) ≠ 0) :
    dec (flipN (enc ep sq p) k pat 32) ep sq = ([], 0, 7) := by
  have hl : (flipN (enc ep sq p) k pat 32).length = 14 + p.length := by rw [flipN_length, enc_length]
  have h2 : len2 (flipN (enc ep sq p) k pat 32) = p.length := by
    have := len2_enc ep sq p [] hp
    rw [List.append_nil] at this
    unfold len2 at this ⊢
    rw [take_flipN _ _ _ _ (by omega), this]
  have hh := head_length ep sq p
  unfold dec
  rw [if_neg (by omega), h2, if_neg (by omega), if_neg (by omega), if_pos]
  intro he
  apply hpat
  have hb := burst_word_mod (head ep sq p) k pat (by omega)
  rw [hh] at hb
  rw [show 10 + p.length + 4 = 14 + p.length by omega] at hb
  apply hb
  unfold enc at he hl
  rw [le_four _ (update_lt _ _)] at he hl
  rw [← he, List.take_of_length_le (by rw [List.length_drop, hl]; omega), unle_four _ (by rw [List.length_drop, hl]; omega)]
theorem enc_flip_none (ep sq k pat : Nat) (p : List UInt8) (hpat : pat % 2 ^ min 32 (8 * (14 + p.length) - k) = 0) : flipN (enc ep sq p) k pat 32 = enc ep sq p := by
  apply flipN_none
  rw [enc_length]; exact hpat

/-! ### Frames one behind the other -/
def go (b : List UInt8) (ep : Nat) : Nat → Nat → List (List UInt8) → Nat → List (List UInt8) × Nat
  | 0, _, out, e => (out, e)
  | f + 1, k, out, e => if (dec (b.drop e) ep k).2.2 = 0 then go b ep f (k + 1) (out ++ [(dec (b.drop e) ep k).1]) (e + (dec (b.drop e) ep k).2.1) else (out, e)
def scan (b : List UInt8) (ep : Nat) : List (List UInt8) × Nat := go b ep (b.length + 1) 0 [] 0

theorem go_ok (b : List UInt8) (ep f k : Nat) (out : List (List UInt8)) (e : Nat) (h : (dec (b.drop e) ep k).2.2 = 0) : go b ep (f + 1) k out e = go b ep f (k + 1) (out ++ [(dec (b.drop e) ep k).1]) (e + (dec (b.drop e) ep k).2.1) := by rw [go, if_pos h]
theorem go_end (b : List UInt8) (ep f k : Nat) (out : List (List UInt8)) (e : Nat) (h : (dec (b.drop e) ep k).2.2 ≠ 0) : go b ep (f + 1) k out e = (out, e) := by rw [go, if_neg h]

theorem go_more (b : List UInt8) (ep f : Nat) : ∀ k out e, out <+: (go b ep f k out e).1 ∧ e ≤ (go b ep f k out e).2 := by
  induction f with
  | zero => intro k out e; exact ⟨List.prefix_refl _, Nat.le_refl _⟩
  | succ f ih =>
    intro k out e
    by_cases h : (dec (b.drop e) ep k).2.2 = 0
    · rw [go_ok _ _ _ _ _ _ h]
      obtain ⟨h1, h2⟩ := ih (k + 1) (out ++ [(dec (b.drop e) ep k).1]) (e + (dec (b.drop e) ep k).2.1)
      exact ⟨(List.prefix_append _ _).trans h1, by omega⟩
    · rw [go_end _ _ _ _ _ _ h]; exact ⟨List.prefix_refl _, Nat.le_refl _⟩

/-- The frames of payloads, numbered from k on. -/
def cat (ep : Nat) : Nat → List (List UInt8) → List UInt8
  | _, [] => []
  | k, p :: ps => enc ep k p ++ cat ep (k + 1) ps
theorem cat_snoc (ep : Nat) (ps : List (List UInt8)) (p : List UInt8) : ∀ k, cat ep k (ps ++ [p]) = cat ep k ps ++ enc ep (k + ps.length) p := by
  induction ps with
  | nil => intro k; simp [cat]
  | cons q ps ih => intro k; rw [List.cons_append, cat, cat, ih, List.append_assoc, List.length_cons, show k + 1 + ps.length = k + (ps.length + 1) by omega]
theorem cat_length (ep : Nat) (ps : List (List UInt8)) (h : ∀ p ∈ ps, p.length ≤ 1024) : ∀ k, (cat ep k ps).length ≤ 1038 * ps.length := by
  induction ps with
  | nil => intro k; simp [cat]
  | cons q ps ih =>
    intro k
    have h1 := ih (fun p hp => h p (List.mem_cons_of_mem _ hp)) (k + 1)
    have h2 := h q (List.mem_cons_self ..)
    rw [cat, List.length_append, enc_length, List.length_cons]; omega

theorem go_finds (b : List UInt8) (ep : Nat) (he : ep < 4294967296) (rest : List UInt8) (ps : List (List UInt8)) : ∀ f k out e, (∀ p ∈ ps, p.length ≤ 1024) → k + ps.length ≤ 4294967296 → b.drop e = cat ep k ps ++ rest → ps.length < f →
    (out ++ ps) <+: (go b ep f k out e).1 ∧ e + (cat ep k ps).length ≤ (go b ep f k out e).2 := by
  induction ps with
  | nil =>
    intro f k out e _ _ _ _
    obtain ⟨h1, h2⟩ := go_more b ep f k out e
    simp only [List.append_nil, cat, List.length_nil, Nat.add_zero]
    exact ⟨h1, h2⟩
  | cons p ps ih =>
    intro f k out e hp hk hd hf
    obtain ⟨f, rfl⟩ : ∃ g, f = g + 1 := ⟨f - 1, by simp at hf; omega⟩
    simp only [List.length_cons] at hk hf
    have hpl := hp p (List.mem_cons_self ..)
    rw [cat, List.append_assoc] at hd
    have hdec := dec_enc ep k p (cat ep (k + 1) ps ++ rest) hpl he (by omega)
    rw [← hd] at hdec
    rw [go_ok _ _ _ _ _ _ (by rw [hdec]), hdec]
    simp only
    obtain ⟨h1, h2⟩ := ih f (k + 1) (out ++ [p]) (e + (14 + p.length)) (fun q hq => hp q (List.mem_cons_of_mem _ hq)) (by omega) (by rw [← List.drop_drop, hd, ← enc_length ep k p, List.drop_left]) (by omega)
    refine ⟨by simpa using h1, ?_⟩
    rw [cat, List.length_append, enc_length]; omega

theorem scan_finds (ep : Nat) (he : ep < 4294967296) (ps : List (List UInt8)) (rest : List UInt8) (hp : ∀ p ∈ ps, p.length ≤ 1024) (hn : ps.length ≤ 20) :
    ps <+: (scan (cat ep 0 ps ++ rest) ep).1 ∧ (cat ep 0 ps).length ≤ (scan (cat ep 0 ps ++ rest) ep).2 := by
  have hlen : ∀ (qs : List (List UInt8)) k, 14 * qs.length ≤ (cat ep k qs).length := by
    intro qs
    induction qs with
    | nil => intro k; simp
    | cons q qs ih => intro k; have := ih (k + 1); rw [cat, List.length_append, enc_length, List.length_cons]; omega
  have h := go_finds (cat ep 0 ps ++ rest) ep he rest ps ((cat ep 0 ps ++ rest).length + 1) 0 [] 0 hp (by omega) rfl (by have := hlen ps 0; simp; omega)
  simpa [scan] using h

theorem scan_other (ep ep' : Nat) (he : ep < 4294967296) (hne : ep ≠ ep') (ps : List (List UInt8)) (hp : ∀ p ∈ ps, p.length ≤ 1024) : scan (cat ep 0 ps) ep' = ([], 0) := by
  unfold scan
  apply go_end
  rw [List.drop_zero]
  cases ps with
  | nil => simp [cat, dec]
  | cons p ps =>
    rw [cat, dec_other ep 0 ep' 0 p _ (hp p (List.mem_cons_self ..)) he hne]; simp

end Go.Proofs.YtabeelcidlhniaaGreat.Frame
