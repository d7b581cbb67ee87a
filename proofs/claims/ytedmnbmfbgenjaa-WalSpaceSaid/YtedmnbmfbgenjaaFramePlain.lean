/-
  Frames as plain functions, and their laws. No program in sight.
-/
import Derived.Test.YtedmnbmfbgenjaaSuperPlain
namespace Go.Proofs.Ytedmnbmfbgenjaa.Frame
open Crc Super

def size (n : Int) : Int := if n < 0 ∨ 1024 < n then 0 else 14 + n
/-- All but the checksum. -/
def head (ep sq : Nat) (p : List UInt8) : List UInt8 := le 2 p.length ++ le 4 ep ++ le 4 sq ++ p
def enc (ep sq : Nat) (p : List UInt8) : List UInt8 := head ep sq p ++ le 4 (update 0 (head ep sq p))
/-- The length that a frame names. -/
def len2 (b : List UInt8) : Nat := unle (b.take 2)
/-- The result of Decode: the payload, the size and the error's number. -/
def dec (b : List UInt8) (ep sq : Nat) : List UInt8 × Nat × Int :=
  if b.length < 14 then ([], 0, 5)
  else if 1024 < len2 b then ([], 0, 3)
  else if b.length < 14 + len2 b then ([], 0, 5)
  else if unle ((b.drop (10 + len2 b)).take 4) ≠ update 0 (b.take (10 + len2 b)) then ([], 0, 7)
  else if unle ((b.drop 2).take 4) ≠ ep ∨ unle ((b.drop 6).take 4) ≠ sq then ([], 0, 8)
  else ((b.drop 10).take (len2 b), 14 + len2 b, 0)

theorem len2_lt (b : List UInt8) : len2 b < 65536 := by
  have h := unle_lt (b.take 2)
  have h2 : (b.take 2).length ≤ 2 := List.length_take_le _ _
  exact Nat.lt_of_lt_of_le h (Nat.le_trans (Nat.pow_le_pow_right (by decide) h2) (by decide))
theorem head_length (ep sq : Nat) (p : List UInt8) : (head ep sq p).length = 10 + p.length := by simp [head, le_length]; omega
theorem enc_length (ep sq : Nat) (p : List UInt8) : (enc ep sq p).length = 14 + p.length := by simp [enc, head_length, le_length]; omega

theorem enc_parts (ep sq : Nat) (p r : List UInt8) : enc ep sq p ++ r = le 2 p.length ++ (le 4 ep ++ (le 4 sq ++ (p ++ (le 4 (update 0 (head ep sq p)) ++ r)))) := by simp [enc, head]
theorem drop_app {a b : List UInt8} (n : Nat) (h : a.length ≤ n) : (a ++ b).drop n = b.drop (n - a.length) := by
  rw [List.drop_append, List.drop_eq_nil_of_le h, List.nil_append]

theorem len2_enc (ep sq : Nat) (p r : List UInt8) (hp : p.length ≤ 1024) : len2 (enc ep sq p ++ r) = p.length := by
  unfold len2
  rw [enc_parts, List.take_append_of_le_length (by rw [le_length]; omega), List.take_of_length_le (by rw [le_length]; omega), unle_le, Nat.mod_eq_of_lt (by omega)]
theorem f2 (ep sq : Nat) (p r : List UInt8) (h : ep < 4294967296) : unle (((enc ep sq p ++ r).drop 2).take 4) = ep := by
  rw [enc_parts, drop_app 2 (by rw [le_length]; omega), le_length, Nat.sub_self, List.drop_zero, List.take_append_of_le_length (by rw [le_length]; omega), List.take_of_length_le (by rw [le_length]; omega), unle_le, Nat.mod_eq_of_lt (by omega)]
theorem f6 (ep sq : Nat) (p r : List UInt8) (h : sq < 4294967296) : unle (((enc ep sq p ++ r).drop 6).take 4) = sq := by
  rw [enc_parts, drop_app 6 (by rw [le_length]; omega), le_length, drop_app _ (by rw [le_length]; omega), le_length, List.drop_zero, List.take_append_of_le_length (by rw [le_length]; omega), List.take_of_length_le (by rw [le_length]; omega), unle_le, Nat.mod_eq_of_lt (by omega)]
theorem f10 (ep sq : Nat) (p r : List UInt8) : ((enc ep sq p ++ r).drop 10).take p.length = p := by
  rw [enc_parts, drop_app 10 (by rw [le_length]; omega), le_length, drop_app _ (by rw [le_length]; omega), le_length, drop_app _ (by rw [le_length]; omega), le_length, List.drop_zero, List.take_left]
theorem fsum (ep sq : Nat) (p r : List UInt8) : unle (((enc ep sq p ++ r).drop (10 + p.length)).take 4) = update 0 (head ep sq p) := by
  have h := head_length ep sq p
  rw [enc, List.append_assoc, ← h, List.drop_left, List.take_append_of_le_length (by rw [le_length]; omega), List.take_of_length_le (by rw [le_length]; omega), unle_le, Nat.mod_eq_of_lt (update_lt _ _)]
theorem fhead (ep sq : Nat) (p r : List UInt8) : (enc ep sq p ++ r).take (10 + p.length) = head ep sq p := by
  have h := head_length ep sq p
  rw [enc, List.append_assoc, ← h, List.take_left]

theorem dec_enc (ep sq : Nat) (p r : List UInt8) (hp : p.length ≤ 1024) (he : ep < 4294967296) (hs : sq < 4294967296) : dec (enc ep sq p ++ r) ep sq = (p, 14 + p.length, 0) := by
  have hl := enc_length ep sq p
  unfold dec
  rw [if_neg (by simp; omega), len2_enc _ _ _ _ hp, if_neg (by omega), if_neg (by simp; omega), fsum, fhead, if_neg (by simp), f2 _ _ _ _ he, f6 _ _ _ _ hs, if_neg (by simp), f10]
theorem dec_other (ep sq ep' sq' : Nat) (p r : List UInt8) (hp : p.length ≤ 1024) (he : ep < 4294967296) (hne : ep ≠ ep') : dec (enc ep sq p ++ r) ep' sq' = ([], 0, 8) := by
  have hl := enc_length ep sq p
  unfold dec
  rw [if_neg (by simp; omega), len2_enc _ _ _ _ hp, if_neg (by omega), if_neg (by simp; omega), fsum, fhead, if_neg (by simp), f2 _ _ _ _ he, if_pos (.inl hne)]

/-- What a successful Decode says. -/
theorem dec_ok (b : List UInt8) (ep sq : Nat) (h : (dec b ep sq).2.2 = 0) : (dec b ep sq).2.1 = 14 + (dec b ep sq).1.length ∧ (dec b ep sq).2.1 ≤ b.length ∧ (dec b ep sq).1.length ≤ 1024 := by
  unfold dec at h ⊢
  by_cases h1 : b.length < 14
  · rw [if_pos h1] at h; simp at h
  rw [if_neg h1] at h ⊢
  by_cases h2 : 1024 < len2 b
  · rw [if_pos h2] at h; simp at h
  rw [if_neg h2] at h ⊢
  by_cases h3 : b.length < 14 + len2 b
  · rw [if_pos h3] at h; simp at h
  rw [if_neg h3] at h ⊢
  by_cases h4 : unle ((b.drop (10 + len2 b)).take 4) ≠ update 0 (b.take (10 + len2 b))
  · rw [if_pos h4] at h; simp at h
  rw [if_neg h4] at h ⊢
  by_cases h5 : unle ((b.drop 2).take 4) ≠ ep ∨ unle ((b.drop 6).take 4) ≠ sq
  · rw [if_pos h5] at h; simp at h
  rw [if_neg h5]
  simp; omega
theorem dec_bad (b : List UInt8) (ep sq : Nat) (h : (dec b ep sq).2.2 ≠ 0) : (dec b ep sq).1 = [] ∧ (dec b ep sq).2.1 = 0 := by
  unfold dec at h ⊢
  repeat' split
  all_goals first | exact ⟨rfl, rfl⟩ | skip
  rename_i h1 h2 h3 h4 h5
  rw [if_neg h1, if_neg h2, if_neg h3, if_neg h4, if_neg h5] at h
  exact absurd rfl h

/-! ### Damage -/
theorem take_flipN (l : List UInt8) (k p n : Nat) (h : n ≤ k / 8) : ∀ i, (flipN l k p i).take n = l.take n := by
  intro i
  induction i with
  | zero => rfl
  | succ i ih =>
    rw [flipN]; split
    · rw [take_flip1, if_neg (by omega), ih]
    · exact ih

theorem dec_damaged (ep sq k pat : Nat) (p : List UInt8) (hp : p.length ≤ 1024) (hk : 16 ≤ k) (hk2 : k < 8 * (14 + p.length)) (hpat : pat % 2 ^ min 32 (8 * (14 + p.length) - k) ≠ 0) :
    dec (flipN (enc ep sq p) k pat 32) ep sq = ([], 0, 7) := by
  have hl : (flipN (enc ep sq p) k pat 32).length = 14 + p.length := by rw [flipN_length, enc_length]
  have h2 : len2 (flipN (enc ep sq p) k pat 32) = p.length := by
    have := len2_enc ep sq p [] hp
    rw [List.append_nil] at this
    unfold len2 at this ⊢
    rw [take_flipN _ _ _ _ (by omega), this]
  have hh := head_length ep sq p
  unfold dec
  rw [if_neg (by omega), h2, if_neg (by omega), if_neg (by omega), if_pos]
  intro he
  apply hpat
  have hb := burst_word_mod (head ep sq p) k pat (by omega)
  rw [hh] at hb
  rw [show 10 + p.length + 4 = 14 + p.length by omega] at hb
  apply hb
  unfold enc at he hl
  rw [le_four _ (update_lt _ _)] at he hl
  rw [← he, List.take_of_length_le (by rw [List.length_drop, hl]; omega), unle_four _ (by rw [List.length_drop, hl]; omega)]
theorem enc_flip_none (ep sq k pat : Nat) (p : List UInt8) (hpat : pat % 2 ^ min 32 (8 * (14 + p.length) - k) = 0) : flipN (enc ep sq p) k pat 32 = enc ep sq p := by
  apply flipN_none
  rw [enc_length]; exact hpat

/-! ### Frames one behind the other -/
def go (b : List UInt8) (ep : Nat) : Nat → Nat → List (List UInt8) → Nat → List (List UInt8) × Nat
  | 0, _, out, e => (out, e)
  | f + 1, k, out, e => if (dec (b.drop e) ep k).2.2 = 0 then go b ep f (k + 1) (out ++ [(dec (b.drop e) ep k).1]) (e + (dec (b.drop e) ep k).2.1) else (out, e)
def scan (b : List UInt8) (ep : Nat) : List (List UInt8) × Nat := go b ep (b.length + 1) 0 [] 0

theorem go_ok (b : List UInt8) (ep f k : Nat) (out : List (List UInt8)) (e : Nat) (h : (dec (b.drop e) ep k).2.2 = 0) : go b ep (f + 1) k out e = go b ep f (k + 1) (out ++ [(dec (b.drop e) ep k).1]) (e + (dec (b.drop e) ep k).2.1) := by rw [go, if_pos h]
theorem go_end (b : List UInt8) (ep f k : Nat) (out : List (List UInt8)) (e : Nat) (h : (dec (b.drop e) ep k).2.2 ≠ 0) : go b ep (f + 1) k out e = (out, e) := by rw [go, if_neg h]

theorem go_more (b : List UInt8) (ep f : Nat) : ∀ k out e, out <+: (go b ep f k out e).1 ∧ e ≤ (go b ep f k out e).2 := by
  induction f with
  | zero => intro k out e; exact ⟨List.prefix_refl _, Nat.le_refl _⟩
  | succ f ih =>
    intro k out e
    by_cases h : (dec (b.drop e) ep k).2.2 = 0
    · rw [go_ok _ _ _ _ _ _ h]
      obtain ⟨h1, h2⟩ := ih (k + 1) (out ++ [(dec (b.drop e) ep k).1]) (e + (dec (b.drop e) ep k).2.1)
      exact ⟨(List.prefix_append _ _).trans h1, by omega⟩
    · rw [go_end _ _ _ _ _ _ h]; exact ⟨List.prefix_refl _, Nat.le_refl _⟩

/-- The frames of payloads, numbered from k on. -/
def cat (ep : Nat) : Nat → List (List UInt8) → List UInt8
  | _, [] => []
  | k, p :: ps => enc ep k p ++ cat ep (k + 1) ps
theorem cat_snoc (ep : Nat) (ps : List (List UInt8)) (p : List UInt8) : ∀ k, cat ep k (ps ++ [p]) = cat ep k ps ++ enc ep (k + ps.length) p := by
  induction ps with
  | nil => intro k; simp [cat]
  | cons q ps ih => intro k; rw [List.cons_append, cat, cat, ih, List.append_assoc, List.length_cons, show k + 1 + ps.length = k + (ps.length + 1) by omega]
theorem cat_length (ep : Nat) (ps : List (List UInt8)) (h : ∀ p ∈ ps, p.length ≤ 1024) : ∀ k, (cat ep k ps).length ≤ 1038 * ps.length := by
  induction ps with
  | nil => intro k; simp [cat]
  | cons q ps ih =>
    intro k
    have h1 := ih (fun p hp => h p (List.mem_cons_of_mem _ hp)) (k + 1)
    have h2 := h q (List.mem_cons_self ..)
    rw [cat, List.length_append, enc_length, List.length_cons]; omega

theorem go_finds (b : List UInt8) (ep : Nat) (he : ep < 4294967296) (rest : List UInt8) (ps : List (List UInt8)) : ∀ f k out e, (∀ p ∈ ps, p.length ≤ 1024) → k + ps.length ≤ 4294967296 → b.drop e = cat ep k ps ++ rest → ps.length < f →
    (out ++ ps) <+: (go b ep f k out e).1 ∧ e + (cat ep k ps).length ≤ (go b ep f k out e).2 := by
  induction ps with
  | nil =>
    intro f k out e _ _ _ _
    obtain ⟨h1, h2⟩ := go_more b ep f k out e
    simp only [List.append_nil, cat, List.length_nil, Nat.add_zero]
    exact ⟨h1, h2⟩
  | cons p ps ih =>
    intro f k out e hp hk hd hf
    obtain ⟨f, rfl⟩ : ∃ g, f = g + 1 := ⟨f - 1, by simp at hf; omega⟩
    simp only [List.length_cons] at hk hf
    have hpl := hp p (List.mem_cons_self ..)
    rw [cat, List.append_assoc] at hd
    have hdec := dec_enc ep k p (cat ep (k + 1) ps ++ rest) hpl he (by omega)
    rw [← hd] at hdec
    rw [go_ok _ _ _ _ _ _ (by rw [hdec]), hdec]
    simp only
    obtain ⟨h1, h2⟩ := ih f (k + 1) (out ++ [p]) (e + (14 + p.length)) (fun q hq => hp q (List.mem_cons_of_mem _ hq)) (by omega) (by rw [← List.drop_drop, hd, ← enc_length ep k p, List.drop_left]) (by omega)
    refine ⟨by simpa using h1, ?_⟩
    rw [cat, List.length_append, enc_length]; omega

theorem scan_finds (ep : Nat) (he : ep < 4294967296) (ps : List (List UInt8)) (rest : List UInt8) (hp : ∀ p ∈ ps, p.length ≤ 1024) (hn : ps.length ≤ 20) :
    ps <+: (scan (cat ep 0 ps ++ rest) ep).1 ∧ (cat ep 0 ps).length ≤ (scan (cat ep 0 ps ++ rest) ep).2 := by
  have hlen : ∀ (qs : List (List UInt8)) k, 14 * qs.length ≤ (cat ep k qs).length := by
    intro qs
    induction qs with
    | nil => intro k; simp
    | cons q qs ih => intro k; have := ih (k + 1); rw [cat, List.length_append, enc_length, List.length_cons]; omega
  have h := go_finds (cat ep 0 ps ++ rest) ep he rest ps ((cat ep 0 ps ++ rest).length + 1) 0 [] 0 hp (by omega) rfl (by have := hlen ps 0; simp; omega)
  simpa [scan] using h

theorem scan_other (ep ep' : Nat) (he : ep < 4294967296) (hne : ep ≠ ep') (ps : List (List UInt8)) (hp : ∀ p ∈ ps, p.length ≤ 1024) : scan (cat ep 0 ps) ep' = ([], 0) := by
  unfold scan
  apply go_end
  rw [List.drop_zero]
  cases ps with
  | nil => simp [cat, dec]
  | cons p ps =>
    rw [cat, dec_other ep 0 ep' 0 p _ (hp p (List.mem_cons_self ..)) he hne]; simp

end Go.Proofs.Ytedmnbmfbgenjaa.Frame
