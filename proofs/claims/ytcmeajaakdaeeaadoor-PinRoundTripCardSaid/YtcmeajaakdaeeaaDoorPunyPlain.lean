/-
  Punycode as plain functions. No program in sight.
-/
import Derived.Test.YtcmeajaakdaeeaaDoorRows
namespace Go.Proofs.YtcmeajaakdaeeaaDoor.Puny

/-- Is the number a code point? -/
def point (n : Int) : Bool := decide (0 ≤ n) && decide (n ≤ 1114111) && (decide (n < 55296) || decide (57343 < n))
theorem point_iff (n : Int) : point n = true ↔ 0 ≤ n ∧ n ≤ 1114111 ∧ (n < 55296 ∨ 57343 < n) := by simp [point, and_assoc]

/-- The threshold of the digit with the number k. -/
def thr (k : Nat) (bias : Int) : Int := min (max (36 * ((k : Int) + 1) - bias) 1) 26
theorem thr_bd (k : Nat) (bias : Int) : 1 ≤ thr k bias ∧ thr k bias ≤ 26 := by unfold thr; omega

/-- The loop of adapt. -/
def adGo : Nat → Int → Int → Int
  | 0, _, k => k
  | f + 1, d, k => if 455 < d then adGo f (d / 35) (k + 36) else k + 36 * d / (d + 38)
def adStart (delta : Int) (count : Int) (first : Bool) : Int := (if first then delta / 700 else delta / 2) + (if first then delta / 700 else delta / 2) / count
def adapt (delta : Int) (count : Int) (first : Bool) : Int := adGo ((adStart delta count first).toNat + 1) (adStart delta count first) 0

theorem adGo_bd (f : Nat) : ∀ d k : Int, 0 ≤ d → 0 ≤ k → k ≤ adGo f d k ∧ (d < 35 ^ f → adGo f d k ≤ k + 36 * f + 36) := by
  induction f with
  | zero => intro d k hd hk; simp [adGo]; omega
  | succ f ih =>
    intro d k hd hk
    rw [adGo]
    by_cases h : 455 < d
    · rw [if_pos h]
      obtain ⟨h1, h2⟩ := ih (d / 35) (k + 36) (by omega) (by omega)
      refine ⟨by omega, fun hh => ?_⟩
      have h3 : d / 35 < 35 ^ f := by
        have : d < 35 ^ f * 35 := by rw [← Int.pow_succ]; exact hh
        omega
      have := h2 h3
      rw [Int.natCast_add]; omega
    · rw [if_neg h]
      have h0 : 0 ≤ 36 * d / (d + 38) := Int.ediv_nonneg (by omega) (by omega)
      have h1 : 36 * d / (d + 38) < 36 := Int.ediv_lt_of_lt_mul (by omega) (by omega)
      exact ⟨by omega, fun _ => by rw [Int.natCast_add]; omega⟩
theorem adStart_bd (delta count : Int) (first : Bool) (h : 0 ≤ delta) (hc : 1 ≤ count) : 0 ≤ adStart delta count first ∧ adStart delta count first ≤ 2 * delta := by
  have hq : ∀ x : Int, 0 ≤ x → 0 ≤ x / count ∧ x / count ≤ x := fun x hx => ⟨Int.ediv_nonneg hx (by omega), Int.ediv_le_self _ hx⟩
  unfold adStart
  cases first
  · have h1 := hq (delta / 2) (by omega)
    simp only [Bool.false_eq_true, if_false]
    generalize (delta / 2) / count = y at *
    omega
  · have h1 := hq (delta / 700) (by omega)
    simp only [if_true]
    generalize (delta / 700) / count = y at *
    omega
theorem adGo_more (f : Nat) : ∀ (g : Nat) (d k : Int), 0 ≤ d → d < f → d < g → adGo f d k = adGo g d k := by
  induction f with
  | zero => intro g d k h0 h1; omega
  | succ f ih =>
    intro g d k h0 h1 h2
    obtain ⟨g, rfl⟩ : ∃ g', g = g' + 1 := ⟨g - 1, by omega⟩
    rw [adGo, adGo]
    by_cases h : 455 < d
    · rw [if_pos h, if_pos h]; exact ih g _ _ (by omega) (by omega) (by omega)
    · rw [if_neg h, if_neg h]
theorem adapt_bd (delta count : Int) (first : Bool) (h : 0 ≤ delta) (h2 : delta ≤ 2199023255552) (hc : 1 ≤ count) : 0 ≤ adapt delta count first ∧ adapt delta count first ≤ 1000 := by
  obtain ⟨s0, s1⟩ := adStart_bd delta count first h hc
  unfold adapt
  generalize adStart delta count first = s at *
  refine ⟨(adGo_bd _ s 0 s0 (by omega)).1, ?_⟩
  by_cases hs : s < 10
  · rw [adGo_more _ 10 s 0 s0 (by omega) (by omega)]
    have := (adGo_bd 10 s 0 s0 (by omega)).2 (Int.lt_of_lt_of_le (show s < 4398046511105 by omega) (by decide))
    omega
  · have h10 : adGo (s.toNat + 1) s 0 = adGo 10 s 0 := by
      have key : ∀ (f g : Nat) (d k : Int), 0 ≤ d → d < f → d < 35 ^ g → (455 : Int) < 35 ^ g → adGo f d k = adGo (g + 1) d k := by
        intro f
        induction f with
        | zero => intro g d k h0 h1; omega
        | succ f ih =>
          intro g d k h0 h1 h2 h3
          rw [adGo, adGo]
          by_cases h : 455 < d
          · rw [if_pos h, if_pos h]
            cases g with
            | zero => simp at h3
            | succ g =>
              have h4 : d / 35 < 35 ^ g := by
                have : d < 35 ^ g * 35 := by rw [← Int.pow_succ]; exact h2
                omega
              by_cases h5 : (455 : Int) < 35 ^ g
              · exact ih g _ _ (by omega) (by omega) h4 h5
              · have h6 : ¬ 455 < d / 35 := by omega
                obtain ⟨f, rfl⟩ : ∃ f', f = f' + 1 := ⟨f - 1, by omega⟩
                rw [adGo, adGo, if_neg h6, if_neg h6]
          · rw [if_neg h, if_neg h]
      exact key _ 9 s 0 s0 (by omega) (Int.lt_of_le_of_lt (show s ≤ 4398046511104 by omega) (by decide)) (by decide)
    rw [h10]
    have := (adGo_bd 10 s 0 s0 (by omega)).2 (Int.lt_of_lt_of_le (show s < 4398046511105 by omega) (by decide))
    omega

/-- The byte of a digit. -/
def digit (d : Int) : UInt8 := UInt8.ofNat (if d < 26 then 97 + d else 48 + d - 26).toNat
/-- The digit of a byte, or -1. -/
def value (b : UInt8) : Int :=
  if 97 ≤ b.toNat ∧ b.toNat ≤ 122 then (b.toNat : Int) - 97 else if 65 ≤ b.toNat ∧ b.toNat ≤ 90 then (b.toNat : Int) - 65 else if 48 ≤ b.toNat ∧ b.toNat ≤ 57 then (b.toNat : Int) - 48 + 26 else -1

theorem value_lt (b : UInt8) : -1 ≤ value b ∧ value b < 36 := by
  unfold value; repeat' split
  all_goals omega
theorem value_digit (d : Int) (h0 : 0 ≤ d) (h1 : d < 36) : value (digit d) = d := by
  unfold digit value
  by_cases h : d < 26
  · rw [if_pos h]
    have : (UInt8.ofNat (97 + d).toNat).toNat = (97 + d).toNat := by simp; omega
    rw [this, if_pos (by omega)]; omega
  · rw [if_neg h]
    have : (UInt8.ofNat (48 + d - 26).toNat).toNat = (48 + d - 26).toNat := by simp; omega
    rw [this, if_neg (by omega), if_neg (by omega), if_pos (by omega)]; omega

/-- The digits of a number. -/
def digs : Nat → Int → Nat → Int → List UInt8
  | 0, _, _, _ => []
  | f + 1, q, k, bias => if q < thr k bias then [digit q] else digit (thr k bias + (q - thr k bias) % (36 - thr k bias)) :: digs f ((q - thr k bias) / (36 - thr k bias)) (k + 1) bias
def numE (q bias : Int) : List UInt8 := digs (q.toNat + 1) q 0 bias

theorem next_lt (q t : Int) (h1 : 1 ≤ t) (h2 : t ≤ 26) (h : t ≤ q) : 0 ≤ (q - t) / (36 - t) ∧ (q - t) / (36 - t) < q ∧ 10 * ((q - t) / (36 - t)) ≤ q := by
  have h0 : 0 ≤ (q - t) / (36 - t) := Int.ediv_nonneg (by omega) (by omega)
  have h3 : (36 - t) * ((q - t) / (36 - t)) ≤ q - t := Int.mul_ediv_self_le (by omega)
  have h4 : 10 * ((q - t) / (36 - t)) ≤ (36 - t) * ((q - t) / (36 - t)) := Int.mul_le_mul_of_nonneg_right (by omega) h0
  omega

/-- The length of a number's digits. -/
theorem digs_length (m : Nat) : ∀ (f : Nat) (q : Int) (k : Nat) (bias : Int), 0 ≤ q → q < 10 ^ m → (digs f q k bias).length ≤ m + 1 := by
  induction m with
  | zero =>
    intro f q k bias h0 h1
    have : q = 0 := by simp at h1; omega
    subst this
    have := thr_bd k bias
    cases f with
    | zero => simp [digs]
    | succ f => rw [digs, if_pos (by omega)]; simp
  | succ m ih =>
    intro f q k bias h0 h1
    cases f with
    | zero => simp [digs]
    | succ f =>
      rw [digs]
      have ht := thr_bd k bias
      by_cases h : q < thr k bias
      · rw [if_pos h]; simp
      · rw [if_neg h]
        obtain ⟨n0, n1, n2⟩ := next_lt q _ ht.1 ht.2 (by omega)
        have := ih f ((q - thr k bias) / (36 - thr k bias)) (k + 1) bias n0 (by rw [Int.pow_succ] at h1; omega)
        simp; omega

/-- One step of the inner loop of Encode: output, delta, bias, done. -/
structure E where
  out : List UInt8
  delta : Int
  bias : Int
  done : Nat
def encPt (n : Int) (basic : Nat) (s : E) (p : Int) : E :=
  if p < n then { s with delta := s.delta + 1 }
  else if p = n then ⟨s.out ++ numE s.delta s.bias, 0, adapt s.delta (s.done + 1) (s.done == basic), s.done + 1⟩
  else s
/-- The least of the points from n on, or m. -/
def least (n : Int) (m : Int) (ps : List Int) : Int := ps.foldl (fun m p => if n ≤ p then min m p else m) m
def encGo (ps : List Int) (basic : Nat) : Nat → Int → E → List UInt8
  | 0, _, s => s.out
  | f + 1, n, s =>
    if s.done < ps.length then
      let m := least n 1114112 ps
      let s' := ps.foldl (encPt m basic) { s with delta := s.delta + (m - n) * (s.done + 1) }
      encGo ps basic f (m + 1) { s' with delta := s'.delta + 1 }
    else s.out
def basics (ps : List Int) : List UInt8 := (ps.filter fun p => decide (p < 128)).map fun p => UInt8.ofNat p.toNat
def front (ps : List Int) : List UInt8 := basics ps ++ (if basics ps = [] then [] else [45])
def encode (ps : List Int) : List UInt8 := encGo ps (basics ps).length (ps.length + 1) 128 ⟨front ps, 0, 72, (basics ps).length⟩
/-- The result of Encode: the text and the error's number. -/
def enc (ps : List Int) : List UInt8 × Int :=
  if 256 < ps.length then ([], 3) else if ps.all point then (encode ps, 0) else ([], 2)

/-- A number is read: what is left and the new i, or the error's number. -/
def decNum : List UInt8 → Int → Int → Nat → Int → Except Int (List UInt8 × Int)
  | [], _, _, _, _ => .error 4
  | b :: l, i, w, k, bias =>
    if value b < 0 then .error 4
    else if 1099511627776 < i + value b * w then .error 19
    else if value b < thr k bias then .ok (l, i + value b * w)
    else if 1099511627776 < w * (36 - thr k bias) then .error 19
    else decNum l (i + value b * w) (w * (36 - thr k bias)) (k + 1) bias
structure D where
  pts : List Int
  n : Int
  i : Int
  bias : Int
  first : Bool
/-- The points with n at i. -/
def ins (l : List Int) (i : Nat) (n : Int) : List Int := l.take i ++ n :: l.drop i
def decStep (l : List UInt8) (s : D) : Except Int (List UInt8 × D) :=
  match decNum l s.i 1 0 s.bias with
  | .error e => .error e
  | .ok (r, j) =>
    let c : Int := s.pts.length + 1
    let n := s.n + j / c
    if point n = false then .error 2
    else if 256 < c then .error 3
    else .ok (r, ⟨ins s.pts (j % c).toNat n, n, j % c + 1, adapt (j - s.i) c s.first, false⟩)
def decGo : Nat → List UInt8 → D → Except Int (List Int)
  | 0, _, s => .ok s.pts
  | f + 1, l, s =>
    if l = [] then .ok s.pts else
    match decStep l s with
    | .error e => .error e
    | .ok (r, s') => decGo f r s'
/-- The place of the last hyphen, but not the first byte. -/
def cut (l : List UInt8) : Nat := l.length - 1 - (l.reverse.takeWhile (· != 45)).length
def decode (l : List UInt8) : Except Int (List Int) :=
  if 1024 < l.length then .error 3
  else if (l.all fun b => decide (b.toNat < 128)) = false then .error 4
  else if 256 < cut l then .error 3
  else decGo (l.length + 1) (if cut l = 0 then l else l.drop (cut l + 1)) ⟨(l.take (cut l)).map fun b => (b.toNat : Int), 128, 0, 72, true⟩
/-- The result of Decode: the points and the error's number. -/
def dec (l : List UInt8) : List Int × Int := match decode l with
  | .error e => ([], e)
  | .ok p => (p, 0)

end Go.Proofs.YtcmeajaakdaeeaaDoor.Puny
